/- A world is given a new letter at a statement's end or head, with what is told of it; a row of one's own stays where another block was turned. No condition. -/
import Derived.Test.YtjpfhldklbgdcaaSq
namespace Go.Proofs.Ytjpfhldklbgdcaa.Sq
open Go.RowKit Go.Proofs.YtjpfhldklbgdcaaW.PrintWords
theorem reletE {K:Act→World→Prop} {Q':Exit→Act→World→Prop} {a:Act} {w1:World} (Pr:World→Prop) (hp:Pr w1) (h:∀ w2,Pr w2→Exit.then K Q' Exit.normal a w2):Exit.then K Q' Exit.normal a w1:=h w1 hp
theorem reletC {P:Program} {s:Code} {Q:Exit→Act→World→Prop} {a:Act} {w1:World} (Pr:World→Prop) (hp:Pr w1) (h:∀ w2,Pr w2→s.wp P Q a w2):s.wp P Q a w1:=h w1 hp

/-- A row stays as it is where no block but g, of another type, was turned. -/
theorem rowStay {α:Type} {d:Kd α} {e:Nat} {w w2:World} {base:Nat} {ok:Nat→Prop} {v:Value} {xs:List α} {g t:Nat} {cells:Array Value} (h:Aside0 (d.R e w base ok v xs)) (hb:Aside0 (w.heap[g]?=some (.cells cells t (0,0)))) (ht:∀ q,q ∈ e :: d.E→q≠t) (hs:∀ k,k≠g→w2.heap[k]?=w.heap[k]?):Aside0 (d.R e w2 base ok v xs):=
  ⟨Kd.R_mono (Kd.R_move (Kd.R_types h.out hb.out ht) (fun k hk=>hs k hk.2)) (fun _ hk=>hk.1)⟩
theorem keptStay {w0 w w2:World} {S:Nat→Prop} {g:Nat} (h:Aside0 (Kept w0 w S)) (hg:Aside0 (w0.heap.size≤g)) (hz:w.heap.size≤w2.heap.size) (hs:∀ k,k≠g→w2.heap[k]?=w.heap[k]?):Aside0 (Kept w0 w2 S):=
  ⟨⟨Nat.le_trans h.out.1 hz,fun i hi hn=>(hs i (by have:=hg.out;omega)).trans (h.out.2 i hi hn)⟩⟩
theorem farS {w w':World} {g i:Nat} {u:Value} (h:∀ k,k≠g→w.heap[k]?=w'.heap[k]?):∀ k,k≠g→(w.setCell ⟨g,i,none⟩ u).heap[k]?=w'.heap[k]?:=fun k hk=>(Below.heap_setCell w ⟨g,i,none⟩ u k hk).trans (h k hk)
end Go.Proofs.Ytjpfhldklbgdcaa.Sq
