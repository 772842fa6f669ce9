/- A machine of values: regions that draw their order, in the engine's form. No condition. -/
import Derived.Test.YtbmdncjnnlajnaaM33
namespace Go.Proofs.Ytbmdncjnnlajnaa.M
open Go
set_option linter.unusedSimpArgs false
set_option linter.unusedVariables false

def DrawOk (l : List Oper) (lg : Log) : Prop := drawB l.toArray 0 (l.zip lg.reverse) = true
theorem drawOk_of {l : List Oper} {lg : Log} (h : drawB l.toArray 0 (l.zip lg.reverse) = true) : DrawOk l lg := h
def drawQ (l : List Oper) (Q : X → St → Prop) (lg : Log) (s : St) : Prop := DrawOk l lg ∧ Q .normal s
section
variable {P : Program} {τ : Tab} {md : Nat → Bool} {n : Nat} {s : St} {lg : Log} {ops : Array Oper}
theorem act_dnil {K : Log → St → Prop} : act (DOps P τ md ops [] n s lg K) = act (K lg { s with nx := n }) := (rfl)
theorem act_dcons {o : Oper} {r : List Oper} {K : Log → St → Prop} : act (DOps P τ md ops (o :: r) n s lg K) =
    act (wK (wantA ops s o) (op P τ md o s n fun v u => DOps P τ md ops r (n + 16) ((s.upd u).set o.dst v) ((rdO s o, u.map (·.1)) :: lg) K) (DOps P τ md ops r (n + 16) (s.set o.dst (.c .undef)) (([], []) :: lg) K)) := (rfl)
theorem act_drawQ {l : List Oper} {Q : X → St → Prop} : act (drawQ l Q lg s) = (DrawOk l lg ∧ act (Q .normal s)) := (rfl)
theorem act_draw_of (hτ : TOk P τ) (hm : P.follows .mixedOrders = true) (md : Nat → Bool) {id : Nat} {l : List Oper} {Q : X → St → Prop} {x : Shut (Code.region id l.toArray true)} {y : Shut Q}
    (h : act (DOps P τ md l.toArray l s.nx s [] (drawQ l Q))) : WWE P (.region id l.toArray true) s Q x y := WW_draw hτ hm h
end
attribute [go_sem] act_dnil act_dcons act_drawQ rdO rdO.tmpV opers idV idA idC deepV deepC Option.toList_some Option.toList_none
end Go.Proofs.Ytbmdncjnnlajnaa.M
