/- Short words for walks: steps that are taken again and again, each with its side conditions found at the place of use. No condition. -/
import Derived.Test.YtjpfhldklbgdcaaProg
import Derived.Below
import Derived.Deep.Draws
import Derived.Deep.AppendLies
import Derived.Maps.AppendAt
import Derived.OwnWalk
import Derived.Laws.BytesArg
import Derived.Laws.MakeOwn
import Derived.Laws.OwnMore
import Derived.Deep.OwnRows
import Derived.Tactics
import Derived.Lib.ConvBytes
import Derived.Laws.Slices
import Derived.WalkKit
import Derived.KernelRfl
import Derived.RowKit3
import Derived.Deep.LoopGhost
import Derived.Deep.QuietTactic
import Derived.BigQuiet
import Derived.WideLaws
import Derived.Deep.DeepCutAuto
import Derived.Deep.CutBlock
import Derived.Deep.RegionHeld3
import Derived.Laws.Rows
import Derived.Lib.AppendStr
import Derived.ArgAppend
import Derived.Laws.IdiomCopy
import Derived.OrdersHeld
import Derived.Laws.BitsLemmas
import Derived.RowKit
import Derived.Test.YtjpfhldklbgdcaaVWords
import Derived.Test.YtjpfhldklbgdcaaVLast
import Derived.Test.YtjpfhldklbgdcaaVTab
import Derived.Test.YtjpfhldklbgdcaaVFour
import Derived.Test.YtjpfhldklbgdcaaVQPut
import Derived.Test.YtjpfhldklbgdcaaVApart
import Derived.Test.YtjpfhldklbgdcaaVArr
import Derived.Test.YtjpfhldklbgdcaaVZeros
import Derived.Test.YtjpfhldklbgdcaaVFoot
import Derived.Test.YtjpfhldklbgdcaaVKept
import Derived.Test.YtjpfhldklbgdcaaVShare
import Derived.Test.YtjpfhldklbgdcaaVN
import Derived.Test.YtjpfhldklbgdcaaVFootNe
import Derived.Test.YtjpfhldklbgdcaaVAt
import Derived.Test.YtjpfhldklbgdcaaVEqStruct
import Derived.Test.YtjpfhldklbgdcaaVRepsOne
import Derived.Test.YtjpfhldklbgdcaaVInv
import Derived.Test.YtjpfhldklbgdcaaVInvWords
import Derived.Test.YtjpfhldklbgdcaaVGuard
import Derived.Test.YtjpfhldklbgdcaaVNEv
import Derived.Test.YtjpfhldklbgdcaaVMore
namespace Go.Proofs.Ytjpfhldklbgdcaa.Sq
open Go.RowKit Go.Proofs.YtjpfhldklbgdcaaW.PrintWords Go.Proofs.YtjpfhldklbgdcaaW.PrintLast Go.Proofs.YtjpfhldklbgdcaaW.PrintMore
theorem bH {B:Nat} {w w':World} (h:Below B w w':=by repeat (first|(with_reducible first|exact HB.out|apply below_alloc|apply pw_below_drewN|apply below_drew1)|exact HB.out)):Below B w w':=h
theorem bG {B:Nat} {w w':World} (h:Below B w w':=by repeat (first|(with_reducible first|exact HB.out|apply below_alloc|apply pw_below_drewN|apply below_drew1|refine below_set ?_ (Aside0.out (by assumption)))|exact HB.out)):Below B w w':=h
theorem bk {A B:Prop} (a:Aside0 A) (h:A→B:=by intro h_;(with_reducible repeat (first|refine blk_drewN ?_ _|refine blk_drew ?_|refine blk_alloc ?_ _));exact h_):B:=h a.out
theorem bkF {A B:Prop} (a:Aside0 A) (h:A→B:=by intro h_;(with_reducible repeat (first|refine blk_drewN ?_ _|refine blk_drew ?_|refine blk_alloc ?_ _|refine blk_far ?_ (Aside0.out (by assumption)) _));exact h_):B:=h a.out
theorem bkb {w1 w w':World} {g:Nat} {o:Obj} (a:Aside0 (w1.heap[g]?=some o)) (hb:Below w.heap.size w w') (h:w1.heap[g]?=some o→w.heap[g]?=some o:=by intro h_;(with_reducible repeat (first|refine blk_drewN ?_ _|refine blk_drew ?_|refine blk_alloc ?_ _));exact h_):w'.heap[g]?=some o:=blk_below (h a.out) hb
theorem bfb {w1 w w':World} {g:Nat} {o:Obj} (a:Aside0 (w1.heap[g]?=some o)) (hb:Below w.heap.size w w') (h:w1.heap[g]?=some o→w.heap[g]?=some o:=by intro h_;(with_reducible repeat (first|refine blk_drewN ?_ _|refine blk_drew ?_|refine blk_alloc ?_ _|refine blk_far ?_ (Aside0.out (by assumption)) _));exact h_):w'.heap[g]?=some o:=blk_below (h a.out) hb
theorem gwH {w W:World} {g:Nat} (hg:g=W.heap.size) (h:Below w.heap.size w W:=by repeat (first|(with_reducible first|exact HB.out|apply below_alloc|apply pw_below_drewN|apply below_drew1)|exact HB.out)):Aside0 (w.heap.size≤g):=⟨by rw [hg];exact below_size h⟩
theorem gwG {w W:World} {g:Nat} (hg:g=W.heap.size) (h:Below w.heap.size w W:=by repeat (first|(with_reducible first|exact HB.out|apply below_alloc|apply pw_below_drewN|apply below_drew1|refine below_set ?_ (Aside0.out (by assumption)))|exact HB.out)):Aside0 (w.heap.size≤g):=⟨by rw [hg];exact below_size h⟩
theorem nbl {w1 W:World} {g g':Nat} {o:Obj} (a:Aside0 (w1.heap[g]?=some o)) (hg:g'=W.heap.size) (h:w1.heap[g]?=some o→W.heap[g]?=some o:=by intro h_;(with_reducible repeat (first|refine blk_drewN ?_ _|refine blk_drew ?_|refine blk_alloc ?_ _));exact h_):Aside0 (g≠g'):=⟨by rw [hg];exact Nat.ne_of_lt (blk_lt (h a.out))⟩
theorem nbg {w1 W:World} {g g':Nat} {o:Obj} (a:Aside0 (w1.heap[g]?=some o)) (hg:g'=W.heap.size) (h:w1.heap[g]?=some o→W.heap[g]?=some o:=by intro h_;(with_reducible repeat (first|refine blk_drewN ?_ _|refine blk_drew ?_|refine blk_alloc ?_ _));exact h_):Aside0 (g'≠g):=⟨by rw [hg];exact Nat.ne_of_gt (blk_lt (h a.out))⟩
theorem nblF {w1 W:World} {g g':Nat} {o:Obj} (a:Aside0 (w1.heap[g]?=some o)) (hg:g'=W.heap.size) (h:w1.heap[g]?=some o→W.heap[g]?=some o:=by intro h_;(with_reducible repeat (first|refine blk_drewN ?_ _|refine blk_drew ?_|refine blk_alloc ?_ _|refine blk_far ?_ (Aside0.out (by assumption)) _));exact h_):Aside0 (g≠g'):=⟨by rw [hg];exact Nat.ne_of_lt (blk_lt (h a.out))⟩
theorem nbgF {w1 W:World} {g g':Nat} {o:Obj} (a:Aside0 (w1.heap[g]?=some o)) (hg:g'=W.heap.size) (h:w1.heap[g]?=some o→W.heap[g]?=some o:=by intro h_;(with_reducible repeat (first|refine blk_drewN ?_ _|refine blk_drew ?_|refine blk_alloc ?_ _|refine blk_far ?_ (Aside0.out (by assumption)) _));exact h_):Aside0 (g'≠g):=⟨by rw [hg];exact Nat.ne_of_gt (blk_lt (h a.out))⟩
theorem cf {w:World} {g g' i j:Nat} {v u:Value} (n:Aside0 (g≠g')) (h:w.cell? ⟨g,i,none⟩=some v):(w.setCell ⟨g',j,none⟩ u).cell? ⟨g,i,none⟩=some v:=(cell_far (p:=⟨g',j,none⟩) n.out u).trans h
theorem rf {α:Type} {d:Kd α} {e:Nat} {w:World} {base:Nat} {ok:Nat→Prop} {v:Value} {xs:List α} {p:Addr} {u:Value} (h:d.R e w base (fun k=>ok k∧k≠p.block) v xs):d.R e (w.setCell p u) base (fun k=>ok k∧k≠p.block) v xs:=Kd.R_far h (fun _ hk=>hk.2) u
theorem rg {α:Type} {d:Kd α} {e:Nat} {w:World} {base:Nat} {ok ok':Nat→Prop} {v:Value} {xs:List α} {p:Addr} {u:Value} (h:d.R e w base (fun k=>(ok k∧k≠p.block)∧ok' k) v xs):d.R e (w.setCell p u) base (fun k=>(ok k∧k≠p.block)∧ok' k) v xs:=Kd.R_far h (fun _ hk=>hk.1.2) u
theorem cB {α:Type} {d:Kd α} {w0 w:World} {A:Option Addr} {n:Nat} {xs:List α} (a:Aside0 (Kd.C d w0 A n xs)) (h:Kd.C d w0 A n xs→Kd.C d w A n xs:=by intro h_;repeat (first|exact (Kd.C_below h_ HB.out)|(with_reducible refine Kd.C_alloc ?_ _)|(with_reducible refine Kd.C_drewN ?_ _)|(with_reducible refine Kd.C_drew ?_))):Kd.C d w A n xs:=h a.out
theorem cG {α:Type} {d:Kd α} {w0 w:World} {A:Option Addr} {n:Nat} {xs:List α} (a:Aside0 (Kd.C d w0 A n xs)) (h:Kd.C d w0 A n xs→Kd.C d w A n xs:=by intro h_;repeat (first|exact (Kd.C_below h_ bG)|(with_reducible refine Kd.C_alloc ?_ _)|(with_reducible refine Kd.C_drewN ?_ _)|(with_reducible refine Kd.C_drew ?_))):Kd.C d w A n xs:=h a.out
theorem rS {A B:Prop} (a:Aside0 A) (h:A→B:=by intro h_;(with_reducible repeat (first|apply Kd.R_alloc|apply Kd.R_drewN|apply Kd.R_drew));exact h_):B:=h a.out
theorem fE {P:Prop} (h:P:=by first|rfl|(simp <;> rfl)|(simp [*] <;> rfl)):P:=h
theorem fS {P:Prop} (h:P:=by first|rfl|(simp;done)|(simp [*];done)):P:=h
theorem oD {p:Prop} [Decidable p] (h:decide p=true:=by first|(with_reducible assumption)|assumption):p:=of_decide_eq_true h
theorem bP {w:World} {g:Nat} {t:TypeId} {cs cs':Array Value} {u:Value} {B:Prop} (h:w.heap[g]?=some (.cells cs t (0,0))) (i:Nat) (e:cs.setIfInBounds i u=cs') (hh:(w.setCell ⟨g,i,none⟩ u).heap[g]?=some (.cells cs' t (0,0))→B:=by intro h_;(with_reducible repeat (first|refine blk_drewN ?_ _|refine blk_drew ?_|refine blk_alloc ?_ _));exact h_):B:=hh (blk_put h i u e)
theorem bS {α β:Type} {o:Option α} {f:α→Option β} {r:β} (h:o.bind f=some r):∃ a,Aside0 (o=some a)∧f a=some r:=by
  obtain ⟨a,ha,hf⟩:=Option.bind_eq_some_iff.mp h
  exact ⟨a,⟨ha⟩,hf⟩
theorem bF {b:Bool} (h:¬ (b=true)):b=false:=Bool.eq_false_iff.mpr h
theorem nF:¬ (false=true):=by decide
theorem sI {α:Type} {a b:α} (h:some a=some b):a=b:=Option.some.inj h
theorem sA {α:Type} {l:List α} {i:Nat} {a:α}:l.toArray.setIfInBounds i a=(l.set i a).toArray:=by simp
theorem sZ {α:Type} {x:α} {xs:List α} {a:α}:(x :: xs).set 0 a=a :: xs:=rfl
theorem sC {α:Type} {x:α} {xs:List α} {n:Nat} {a:α}:(x :: xs).set (n+1) a=x :: xs.set n a:=rfl
section
variable {P:Program} {ops:Array Oper} {rest:List Oper} {o:Oper} {a:Act} {Q:Exit→Act→World→Prop}
theorem boxE {W:World} (N:Tmp) (cs:Array Value) (t:TypeId)
    (h:∀ g,g=W.heap.size→∀ w1,w1.heap[g]?=some (.cells cs t (0,0))→Below W.heap.size W w1→wpList P ops Q rest (a.put o.dst (.pointer (some ⟨g,0,none⟩))) w1)
    (hd:o.dst=some N:=by rfl) (hgd:o.guard=none:=by rfl)
    (hrun:(execOp a.eval o).run P W=.ok (.value (.pointer (some ⟨W.heap.size,0,none⟩))) (W.alloc (.cells cs t (0,0))):=by first|(go_simp;done)|(go_simp;rfl)):wpList P ops Q (o :: rest) a W:=box_event hgd hd hrun h
theorem gL {oi:Oper} {w:World} (N:Option Tmp) {f:FuncId} {fn:Func} {as_:Array Operand} {ts:Array TypeId} (hf:P.funcs[f]?=some fn) (args:Array Value)
    (h:Calls P f args w fun e w'=>∃ v,e=.returned v∧wpList P ops Q rest (a.put N v) w')
    (hop:oi.op=.call { callee:=.value (.func f),args:=as_,argTypes:=ts }:=by rfl)
    (hd:oi.dst=N:=by rfl) (hg:oi.guard=none:=by rfl) (hname:(fn.name == "runtime.NumGoroutine")=false:=by kernel_rfl) (hb:fn.body.isSome=true:=by rfl)
    (hargs:as_.map a.eval=args:=by (try simp only [List.map_toArray,List.map_cons,List.map_nil]);first|done|rfl|(simp only [List.length_drop,List.length_take];rfl)):wpList P ops Q (oi :: rest) a w:=goesL_ N hd hg hf hname hb args hop hargs h
end
theorem blk1f {w:World} {g:Nat} {t:TypeId} {v0:Value} (h:Aside0 (w.heap[g]?=some (.cells #[v0] t (0,0)))):w.cell? ⟨g,0,none⟩=some v0∧w.frozen? ⟨g,0,none⟩=false:=⟨(blk_cell h.out 0).trans rfl,blk_frozen h.out 0⟩
theorem blk2f {w:World} {g:Nat} {t:TypeId} {v0 v1:Value} (h:Aside0 (w.heap[g]?=some (.cells #[v0,v1] t (0,0)))):w.cell? ⟨g,0,none⟩=some v0∧w.cell? ⟨g,1,none⟩=some v1∧w.frozen? ⟨g,0,none⟩=false∧w.frozen? ⟨g,1,none⟩=false:=⟨(blk_cell h.out 0).trans rfl,(blk_cell h.out 1).trans rfl,blk_frozen h.out 0,blk_frozen h.out 1⟩
theorem blk3f {w:World} {g:Nat} {t:TypeId} {v0 v1 v2:Value} (h:Aside0 (w.heap[g]?=some (.cells #[v0,v1,v2] t (0,0)))):w.cell? ⟨g,0,none⟩=some v0∧w.cell? ⟨g,1,none⟩=some v1∧w.cell? ⟨g,2,none⟩=some v2∧w.frozen? ⟨g,0,none⟩=false∧w.frozen? ⟨g,1,none⟩=false∧w.frozen? ⟨g,2,none⟩=false:=⟨(blk_cell h.out 0).trans rfl,(blk_cell h.out 1).trans rfl,(blk_cell h.out 2).trans rfl,blk_frozen h.out 0,blk_frozen h.out 1,blk_frozen h.out 2⟩
theorem blk5 {w:World} {g:Nat} {t:TypeId} {v0 v1 v2 v3 v4:Value} (h:Aside0 (w.heap[g]?=some (.cells #[v0,v1,v2,v3,v4] t (0,0)))):w.cell? ⟨g,0,none⟩=some v0∧w.cell? ⟨g,1,none⟩=some v1∧w.cell? ⟨g,2,none⟩=some v2∧w.cell? ⟨g,3,none⟩=some v3∧w.cell? ⟨g,4,none⟩=some v4:=⟨(blk_cell h.out 0).trans rfl,(blk_cell h.out 1).trans rfl,(blk_cell h.out 2).trans rfl,(blk_cell h.out 3).trans rfl,(blk_cell h.out 4).trans rfl⟩
theorem blk5f {w:World} {g:Nat} {t:TypeId} {v0 v1 v2 v3 v4:Value} (h:Aside0 (w.heap[g]?=some (.cells #[v0,v1,v2,v3,v4] t (0,0)))):w.cell? ⟨g,0,none⟩=some v0∧w.cell? ⟨g,1,none⟩=some v1∧w.cell? ⟨g,2,none⟩=some v2∧w.cell? ⟨g,3,none⟩=some v3∧w.cell? ⟨g,4,none⟩=some v4∧w.frozen? ⟨g,0,none⟩=false∧w.frozen? ⟨g,1,none⟩=false∧w.frozen? ⟨g,2,none⟩=false∧w.frozen? ⟨g,3,none⟩=false∧w.frozen? ⟨g,4,none⟩=false:=⟨(blk_cell h.out 0).trans rfl,(blk_cell h.out 1).trans rfl,(blk_cell h.out 2).trans rfl,(blk_cell h.out 3).trans rfl,(blk_cell h.out 4).trans rfl,blk_frozen h.out 0,blk_frozen h.out 1,blk_frozen h.out 2,blk_frozen h.out 3,blk_frozen h.out 4⟩
theorem blk13 {w:World} {g:Nat} {t:TypeId} {v0 v1 v2 v3 v4 v5 v6 v7 v8 v9 v10 v11 v12:Value} (h:Aside0 (w.heap[g]?=some (.cells #[v0,v1,v2,v3,v4,v5,v6,v7,v8,v9,v10,v11,v12] t (0,0)))):w.cell? ⟨g,0,none⟩=some v0∧w.cell? ⟨g,1,none⟩=some v1∧w.cell? ⟨g,2,none⟩=some v2∧w.cell? ⟨g,3,none⟩=some v3∧w.cell? ⟨g,4,none⟩=some v4∧w.cell? ⟨g,5,none⟩=some v5∧w.cell? ⟨g,6,none⟩=some v6∧w.cell? ⟨g,7,none⟩=some v7∧w.cell? ⟨g,8,none⟩=some v8∧w.cell? ⟨g,9,none⟩=some v9∧w.cell? ⟨g,10,none⟩=some v10∧w.cell? ⟨g,11,none⟩=some v11∧w.cell? ⟨g,12,none⟩=some v12:=⟨(blk_cell h.out 0).trans rfl,(blk_cell h.out 1).trans rfl,(blk_cell h.out 2).trans rfl,(blk_cell h.out 3).trans rfl,(blk_cell h.out 4).trans rfl,(blk_cell h.out 5).trans rfl,(blk_cell h.out 6).trans rfl,(blk_cell h.out 7).trans rfl,(blk_cell h.out 8).trans rfl,(blk_cell h.out 9).trans rfl,(blk_cell h.out 10).trans rfl,(blk_cell h.out 11).trans rfl,(blk_cell h.out 12).trans rfl⟩
theorem blk13f {w:World} {g:Nat} {t:TypeId} {v0 v1 v2 v3 v4 v5 v6 v7 v8 v9 v10 v11 v12:Value} (h:Aside0 (w.heap[g]?=some (.cells #[v0,v1,v2,v3,v4,v5,v6,v7,v8,v9,v10,v11,v12] t (0,0)))):w.cell? ⟨g,0,none⟩=some v0∧w.cell? ⟨g,1,none⟩=some v1∧w.cell? ⟨g,2,none⟩=some v2∧w.cell? ⟨g,3,none⟩=some v3∧w.cell? ⟨g,4,none⟩=some v4∧w.cell? ⟨g,5,none⟩=some v5∧w.cell? ⟨g,6,none⟩=some v6∧w.cell? ⟨g,7,none⟩=some v7∧w.cell? ⟨g,8,none⟩=some v8∧w.cell? ⟨g,9,none⟩=some v9∧w.cell? ⟨g,10,none⟩=some v10∧w.cell? ⟨g,11,none⟩=some v11∧w.cell? ⟨g,12,none⟩=some v12∧w.frozen? ⟨g,0,none⟩=false∧w.frozen? ⟨g,1,none⟩=false∧w.frozen? ⟨g,2,none⟩=false∧w.frozen? ⟨g,3,none⟩=false∧w.frozen? ⟨g,4,none⟩=false∧w.frozen? ⟨g,5,none⟩=false∧w.frozen? ⟨g,6,none⟩=false∧w.frozen? ⟨g,7,none⟩=false∧w.frozen? ⟨g,8,none⟩=false∧w.frozen? ⟨g,9,none⟩=false∧w.frozen? ⟨g,10,none⟩=false∧w.frozen? ⟨g,11,none⟩=false∧w.frozen? ⟨g,12,none⟩=false:=⟨(blk_cell h.out 0).trans rfl,(blk_cell h.out 1).trans rfl,(blk_cell h.out 2).trans rfl,(blk_cell h.out 3).trans rfl,(blk_cell h.out 4).trans rfl,(blk_cell h.out 5).trans rfl,(blk_cell h.out 6).trans rfl,(blk_cell h.out 7).trans rfl,(blk_cell h.out 8).trans rfl,(blk_cell h.out 9).trans rfl,(blk_cell h.out 10).trans rfl,(blk_cell h.out 11).trans rfl,(blk_cell h.out 12).trans rfl,blk_frozen h.out 0,blk_frozen h.out 1,blk_frozen h.out 2,blk_frozen h.out 3,blk_frozen h.out 4,blk_frozen h.out 5,blk_frozen h.out 6,blk_frozen h.out 7,blk_frozen h.out 8,blk_frozen h.out 9,blk_frozen h.out 10,blk_frozen h.out 11,blk_frozen h.out 12⟩
theorem blk1 {w:World} {g:Nat} {t:TypeId} {v0:Value} (h:Aside0 (w.heap[g]?=some (.cells #[v0] t (0,0)))):w.cell? ⟨g,0,none⟩=some v0:=(blk_cell h.out 0).trans rfl
theorem blk2 {w:World} {g:Nat} {t:TypeId} {v0 v1:Value} (h:Aside0 (w.heap[g]?=some (.cells #[v0,v1] t (0,0)))):w.cell? ⟨g,0,none⟩=some v0∧w.cell? ⟨g,1,none⟩=some v1:=⟨(blk_cell h.out 0).trans rfl,(blk_cell h.out 1).trans rfl⟩
theorem blk3 {w:World} {g:Nat} {t:TypeId} {v0 v1 v2:Value} (h:Aside0 (w.heap[g]?=some (.cells #[v0,v1,v2] t (0,0)))):w.cell? ⟨g,0,none⟩=some v0∧w.cell? ⟨g,1,none⟩=some v1∧w.cell? ⟨g,2,none⟩=some v2:=⟨(blk_cell h.out 0).trans rfl,(blk_cell h.out 1).trans rfl,(blk_cell h.out 2).trans rfl⟩
end Go.Proofs.Ytjpfhldklbgdcaa.Sq
