/- What every row of this seat needs: the arguments of a call that only makes memory read behind it as they did. Conditions: the program's types are laid out, and the call leaves all elder blocks alone. -/
import Derived.Test.YtbmibaopkfenbaaDoorRows
import Derived.ReadAgain
import Derived.WalkKit
import Derived.ProofKit
import Derived.OpenShut
import Derived.ShutString
import Derived.ChangeOld
import Derived.Below
import Derived.SizedLaws
import Derived.Test.YtbmibaopkfenbaaDoorKExactDocTextCard7
/- What every row of this seat needs: the arguments of a call that only makes memory read behind it as they did. Conditions: the program's types are laid out, and the call leaves all elder blocks alone. -/
namespace Go.Proofs.YtbmibaopkfenbaaDoor.Lift
open Go.ChangeShapes Go.WideShapes Go.ChangeAt Go.RowKit
theorem own : ownKnob Tryd.prog.godebug = none := by kernel_rfl
theorem kids : Kids Tryd.prog (· < Tryd.prog.types.size) := kids_rows (by kernel_rfl) (by kernel_rfl)
theorem full : ∀ t e, t < Tryd.prog.types.size → Tryd.prog.underlying t = some (.slice e) → 0 < Tryd.prog.cellsOf e := slices_full_of _ (by kernel_rfl)
section
variable {H : Type} {enc : TypeId × Value → H} {P : Program} {w w' : World} {base : Nat} {spare : Nat → Bool} {held : Bool}
theorem trodAll_carry : ∀ {ts : List TypeId} {vs : List Value} {ds : List (DataW H)} {ps : List MemPlace}, DataW.TrodAll enc P w base spare held ts vs ds ps → (∀ p ∈ ps, w.sameAt w' p) → DataW.TrodAll enc P w' base spare held ts vs ds ps
  | [], [], [], _, h, _ => h
  | _ :: _, _ :: _, _ :: _, _, ⟨p, q, ⟨n, h1⟩, h2, e⟩, hs => ⟨p, q, ⟨n, DataW.trod_carry n _ _ _ h1 (fun x hx => hs x (by rw [e]; exact List.mem_append_left _ hx))⟩, trodAll_carry h2 (fun x hx => hs x (by rw [e]; exact List.mem_append_right _ hx)), e⟩
theorem same_of_below (bel : Below w.heap.size w w') (p : MemPlace) (hp : p.block < w.heap.size) : w.sameAt w' p := by
  have h := bel.block p.block hp
  cases p with
  | cell b o => show w'.cell? ⟨b, o, none⟩ = w.cell? ⟨b, o, none⟩; exact bel.cell (p := ⟨b, o, none⟩) hp
  | map b => exact h
end
/-- The arguments read again. -/
theorem again {H : Type} {enc : TypeId × Value → H} {w w' : World} {ts : List TypeId} {vs : List Value} {ds : List (DataW H)} {ps : List MemPlace} (hts : ∀ t ∈ ts, t < Tryd.prog.types.size)
    (h : DataW.TrodAll enc Tryd.prog w 0 (fun _ => true) true ts vs ds ps) (hlt : ∀ p ∈ ps, p.block < w.heap.size) (bel : Below w.heap.size w w') :
    DataW.TrodAll enc Tryd.prog w' 0 (fun b => decide (b < w.heap.size)) true ts vs ds ps :=
  (trodAll_carry h (fun p hp => same_of_below bel p (hlt p hp))).respare kids full hts (fun p hp => decide_eq_true (hlt p hp))
/-- The end of a row: it answered true, and all elder memory stands. -/
theorem close {H : Type} {enc : TypeId × Value → H} {f : Func} {s : ChangeSpec} {W W' : World} {args : Array Value} {ds : List (DataW H)} {before p : List MemPlace} (hres : f.resultTypes = #[4]) (hvars : s.vars = []) (hts : ∀ t ∈ f.params.toList, t < Tryd.prog.types.size)
    (hW : DataW.Whole enc Tryd.prog f.params.toList s.vars false W args.toList ds [] before) (hA : DataW.TrodAll enc Tryd.prog W 0 (fun _ => true) true f.params.toList args.toList ds p)
    (hspec : s.fn H ds = { results := [.lit (.bool true)], args := ds }) (bel : Below W.heap.size W W') :
    s.post enc Tryd.prog f false true false false W args (.bool true) W' := by
  refine ⟨ds, [], before, [], p, [], hW, ?_, ?_, ?_, bel.frame _, fun h => by cases h⟩
  · rw [List.append_nil, hspec, hres]
    exact trodAll_mk1 (shut_bool Tryd.underlying4 _)
  · rw [List.append_nil, hspec]
    exact again hts hA hA.lt bel
  · rw [List.append_nil, hspec, hvars]
    rfl
end Go.Proofs.YtbmibaopkfenbaaDoor.Lift
