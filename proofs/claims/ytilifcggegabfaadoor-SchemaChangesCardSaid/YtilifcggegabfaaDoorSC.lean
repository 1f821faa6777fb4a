/- What is readable; what is the same. -/
import Derived.Test.YtilifcggegabfaaDoorSB
import Derived.Test.YtilifcggegabfaaDoorProg
set_option maxRecDepth 100000
namespace Go.G.YtilifcggegabfaaDoor
open Go.RowKit
open Value (string slice int bool agg)
/-! ### what is readable; what is the same -/
structure SameM (a b : MsgM) : Prop where
  topic : a.topic = b.topic
  pay : a.pay = b.pay
  qos : a.qos = b.qos
  ret : a.ret = b.ret
  til : a.til = b.til
@[reducible] def MsgM.agg (m : MsgM) : Value := .agg #[.string m.topic, .slice m.pa m.pay.length m.pc, .int .i64 m.qos, .bool m.ret, .int .i64 m.til]
/-- Rows of messages. -/
def MsgsRd (w0 : World) (h : AH) (a : Option Addr) (l : List MsgM) : Prop := Rd w0 h a (l.flatMap MsgM.cells) ∧ ∀ m ∈ l, Rd w0 h m.pa (u8s m.pay)
structure SesRd (w0 : World) (h : AH) (m : SesM) : Prop where
  sl : m.subs.length ≤ 100000000
  subs : Rd w0 h m.sa (m.subs.flatMap WantM.cells)
  ql : m.queue.length ≤ 100000000
  queue : MsgsRd w0 h m.qa m.queue
  fll : m.fl.length ≤ 100000000
  flc : m.fl.length ≤ m.fc
  fl : Rd w0 h m.fa (m.fl.flatMap FlM.cells)
  flm : ∀ f ∈ m.fl, Rd w0 h f.msg.pa (u8s f.msg.pay)
  il : m.ids.length ≤ 100000000
  ids : Rd w0 h m.ia (m.ids.flatMap fun x => [.int .i64 x])
structure SameF (a b : FlM) : Prop where
  id : a.id = b.id
  step : a.step = b.step
  order : a.order = b.order
  msg : SameM a.msg b.msg
structure SameS (x y : SesM) : Prop where
  client : x.client = y.client
  subs : x.subs = y.subs
  ql : x.queue.length = y.queue.length
  queue : ∀ (i : Nat) a b, x.queue[i]? = some a → y.queue[i]? = some b → SameM a b
  fll : x.fl.length = y.fl.length
  fl : ∀ (i : Nat) a b, x.fl[i]? = some a → y.fl[i]? = some b → SameF a b
  ids : x.ids = y.ids
  next : x.next = y.next
  head : x.head = y.head
  sent : x.sent = y.sent
@[reducible] def SesM.agg (m : SesM) : Value := .agg #[.string m.client, .slice m.sa m.subs.length m.sc, .slice m.qa m.queue.length m.qc, .slice m.fa m.fl.length m.fc, .slice m.ia m.ids.length m.ic, .int .i64 m.next, .int .i64 m.head, .int .i64 m.sent]
structure StRd (w0 : World) (h : AH) (m : StM) : Prop where
  rl : m.ret.length ≤ 100000000
  ret : MsgsRd w0 h m.ra m.ret
  sl : m.ses.length ≤ 100000000
  ses : Rd w0 h m.sa (m.ses.flatMap SesM.cells)
  sesk : ∀ x ∈ m.ses, SesRd w0 h x
structure SameSt (x y : StM) : Prop where
  clock : x.clock = y.clock
  rl : x.ret.length = y.ret.length
  ret : ∀ (i : Nat) a b, x.ret[i]? = some a → y.ret[i]? = some b → SameM a b
  sl : x.ses.length = y.ses.length
  ses : ∀ (i : Nat) a b, x.ses[i]? = some a → y.ses[i]? = some b → SameS a b
end Go.G.YtilifcggegabfaaDoor
