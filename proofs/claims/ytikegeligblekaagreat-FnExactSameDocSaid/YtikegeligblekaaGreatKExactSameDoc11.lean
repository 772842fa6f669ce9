/- FnExactSameDoc: for all two documents, right or not, the program's SameDoc and the reference's answer alike, and the arguments stay as they were. No condition. -/
import Derived.Test.YtikegeligblekaaGreatRows
import Derived.ReadAgain
import Derived.WalkKit
import Derived.ProofKit
import Derived.OpenShut
import Derived.ShutString
import Derived.ChangeOld
import Derived.Below
import Derived.SizedLaws
import Derived.ChangeArms
import Derived.Test.YtikegeligblekaaGreatKExactSameDoc10
/- What every row of this seat needs: the arguments of a call that only makes memory read behind it as they did. Conditions: the program's types are laid out, and the call leaves all elder blocks alone. -/
namespace Go.Proofs.YtikegeligblekaaGreat.Lift
open Go.ChangeShapes Go.WideShapes Go.ChangeAt Go.RowKit
theorem own : ownKnob Tryz.prog.godebug = none := by kernel_rfl
theorem kids : Kids Tryz.prog (· < Tryz.prog.types.size) := kids_rows (by kernel_rfl) (by kernel_rfl)
theorem full : ∀ t e, t < Tryz.prog.types.size → Tryz.prog.underlying t = some (.slice e) → 0 < Tryz.prog.cellsOf e := slices_full_of _ (by kernel_rfl)
section
variable {H : Type} {enc : TypeId × Value → H} {P : Program} {w w' : World} {base : Nat} {spare : Nat → Bool} {held : Bool}
theorem trodAll_carry : ∀ {ts : List TypeId} {vs : List Value} {ds : List (DataW H)} {ps : List MemPlace}, DataW.TrodAll enc P w base spare held ts vs ds ps → (∀ p ∈ ps, w.sameAt w' p) → DataW.TrodAll enc P w' base spare held ts vs ds ps
  | [], [], [], _, h, _ => h
  | _ :: _, _ :: _, _ :: _, _, ⟨p, q, ⟨n, h1⟩, h2, e⟩, hs => ⟨p, q, ⟨n, DataW.trod_carry n _ _ _ h1 (fun x hx => hs x (by rw [e]; exact List.mem_append_left _ hx))⟩, trodAll_carry h2 (fun x hx => hs x (by rw [e]; exact List.mem_append_right _ hx)), e⟩
theorem same_of_below (bel : Below w.heap.size w w') (p : MemPlace) (hp : p.block < w.heap.size) : w.sameAt w' p := by
  have h := bel.block p.block hp
  cases p with
  | cell b o => show w'.cell? ⟨b, o, none⟩ = w.cell? ⟨b, o, none⟩; exact bel.cell (p := ⟨b, o, none⟩) hp
  | map b => exact h
end
/-- The arguments read again. -/
theorem again {H : Type} {enc : TypeId × Value → H} {w w' : World} {ts : List TypeId} {vs : List Value} {ds : List (DataW H)} {ps : List MemPlace} (hts : ∀ t ∈ ts, t < Tryz.prog.types.size)
    (h : DataW.TrodAll enc Tryz.prog w 0 (fun _ => true) true ts vs ds ps) (hlt : ∀ p ∈ ps, p.block < w.heap.size) (bel : Below w.heap.size w w') :
    DataW.TrodAll enc Tryz.prog w' 0 (fun b => decide (b < w.heap.size)) true ts vs ds ps :=
  (trodAll_carry h (fun p hp => same_of_below bel p (hlt p hp))).respare kids full hts (fun p hp => decide_eq_true (hlt p hp))
/-- The end of a row: it answered true, and all elder memory stands. -/
theorem close {H : Type} {enc : TypeId × Value → H} {f : Func} {s : ChangeSpec} {W W' : World} {args : Array Value} {ds : List (DataW H)} {before p : List MemPlace} (hres : f.resultTypes = #[4]) (hvars : s.vars = []) (hts : ∀ t ∈ f.params.toList, t < Tryz.prog.types.size)
    (hW : DataW.Whole enc Tryz.prog f.params.toList s.vars false W args.toList ds [] before) (hA : DataW.TrodAll enc Tryz.prog W 0 (fun _ => true) true f.params.toList args.toList ds p)
    (hspec : s.fn H ds = { results := [.lit (.bool true)], args := ds }) (bel : Below W.heap.size W W') :
    s.post enc Tryz.prog f false true false false W args (.bool true) W' := by
  refine ⟨ds, [], before, [], p, [], hW, ?_, ?_, ?_, bel.frame _, fun h => by cases h⟩
  · rw [List.append_nil, hspec, hres]
    exact trodAll_mk1 (shut_bool Tryz.underlying4 _)
  · rw [List.append_nil, hspec]
    exact again hts hA hA.lt bel
  · rw [List.append_nil, hspec, hvars]
    rfl
end Go.Proofs.YtikegeligblekaaGreat.Lift

/- A machine of values: what an argument reads as is held by its cells: numbers, strings, lists, structs. No condition. -/
namespace Go.Proofs.YtikegeligblekaaGreat.M
open Go
set_option linter.unusedVariables false
section
variable {H : Type} {enc : TypeId × Value → H} {sp : Nat → Bool} {held : Bool} {W : World} {n : Nat} {t e : TypeId} {sz : Nat} {good : List T → Prop}
noncomputable abbrev All (W : World) : Addr → Option Value := inV (· < W.heap.size) W
/-- Cells that read as data of type t, with so much fuel, are held, and good. -/
def At (enc : TypeId × Value → H) (sp : Nat → Bool) (held : Bool) (W : World) (n : Nat) (t : TypeId) (good : List T → Prop) : Prop :=
  ∀ cs y, DataW.trod enc Tryz.prog W 0 sp held n t cs = some y → ∃ ts, HoldL (All W) ts cs ∧ good ts
theorem At.mono {good' : List T → Prop} (h : At enc sp held W n t good) (hg : ∀ x, good x → good' x) : At enc sp held W n t good' := fun cs y hy => by
  obtain ⟨x, hx, hgx⟩ := h cs y hy
  exact ⟨x, hx, hg x hgx⟩
theorem At.zero : At enc sp held W 0 t good := fun cs y h => by simp [DataW.trod] at h
theorem HoldL.one {S : Addr → Option Value} {x : T} {v : Value} (h : Hold S x v) (h1 : v.oneCell' = true) : HoldL S [x] [v] :=
  ⟨rfl, by simp [h1], fun j t u a b => by
    cases j with
    | zero => cases a; cases b; exact h
    | succ j => simp at a⟩
theorem HoldL.appO {S : Addr → Option Value} {x y : List T} {u v : List Value} (h : HoldL S x u) (k : HoldL S y v) : HoldL S (x ++ y) (u ++ v) := by
  refine ⟨by simp [h.1, k.1], fun w hw => ?_, fun j t w a b => ?_⟩
  · rcases List.mem_append.1 hw with hw | hw
    · exact h.2.1 w hw
    · exact k.2.1 w hw
  · by_cases hj : j < x.length
    · rw [List.getElem?_append_left hj] at a
      rw [List.getElem?_append_left (by rw [h.1]; exact hj)] at b
      exact h.2.2 j t w a b
    · rw [List.getElem?_append_right (by omega)] at a
      rw [List.getElem?_append_right (by rw [h.1]; omega), h.1] at b
      exact k.2.2 _ t w a b
theorem HoldL.nil {S : Addr → Option Value} : HoldL S [] [] := ⟨rfl, by simp, by simp⟩
theorem At.int {k : IntKind} (ht : Tryz.prog.underlying t = some (.int k)) : At enc sp held W n t (fun ts => ∃ x, ts = [.int k x] ∧ (Lit.int k x).wf = true) := fun cs y h => by
  obtain ⟨x, rfl, _, hx⟩ := DataW.trod_int ht h
  exact ⟨[.int k x], HoldL.one (.int k x) rfl, x, rfl, hx⟩
theorem At.bool (ht : Tryz.prog.underlying t = some .bool) : At enc sp held W n t (fun ts => ∃ x, ts = [.bool x]) := fun cs y h => by
  obtain ⟨x, rfl, _⟩ := DataW.trod_bool ht h
  exact ⟨[.bool x], HoldL.one (.bool x) rfl, x, rfl⟩
theorem At.string (ht : Tryz.prog.underlying t = some .string) : At enc sp held W n t (fun ts => ∃ x, ts = [.str x] ∧ x.size ≤ 9223372036854775807) := fun cs y h => by
  obtain ⟨x, rfl, _, hx⟩ := DataW.trod_string ht h
  exact ⟨[.str x], HoldL.one (.str x) rfl, x, rfl, hx⟩
theorem pick {α : Type} {P : Nat → α → Prop} (len : Nat) (h : ∀ i, i < len → ∃ x, P i x) : ∃ xs : List α, xs.length = len ∧ ∀ i x, xs[i]? = some x → P i x := by
  induction len with
  | zero => exact ⟨[], rfl, fun i x h => by simp at h⟩
  | succ len ih =>
    obtain ⟨xs, hl, hx⟩ := ih (fun i hi => h i (by omega))
    obtain ⟨y, hy⟩ := h len (by omega)
    refine ⟨xs ++ [y], by simp [hl], fun i x hi => ?_⟩
    rcases Nat.lt_or_ge i xs.length with hlt | hge
    · rw [List.getElem?_append_left hlt] at hi
      exact hx i x hi
    · have : i = len := by
        have := (List.getElem?_eq_some_iff.1 hi).1
        rw [List.length_append, List.length_singleton] at this
        omega
      subst this
      have hxy : x = y := by rw [← hl] at hi; simpa using hi.symm
      rw [hxy]
      exact hy
/-- Rows one behind the other. -/
theorem rows {S : Addr → Option Value} {a : Addr} {mk : List T → T} : ∀ (rs : List (List T × List Value)) (k : Nat), (∀ i r, rs[i]? = some r → HoldL S r.1 r.2 ∧ r.2.length = sz ∧ (mk r.1).cells = r.1 ∧ ∀ (j : Nat) v, r.2[j]? = some v → S (a.add ((k + i) * sz + j)) = some v) →
    HoldL S (flat (rs.map fun r => mk r.1)) (rs.flatMap (·.2)) ∧ ∀ (j : Nat) v, (rs.flatMap (·.2))[j]? = some v → S (a.add (k * sz + j)) = some v
  | [], k, _ => ⟨HoldL.nil, by simp⟩
  | r :: rs, k, h => by
    obtain ⟨h1, h2, h3, h4⟩ := h 0 r rfl
    obtain ⟨g1, g2⟩ := rows rs (k + 1) fun i r hr => by
      have := h (i + 1) r hr
      rwa [show k + (i + 1) = k + 1 + i by omega] at this
    simp only [List.map_cons, List.flatMap_cons, flat_cons, h3]
    refine ⟨h1.appO g1, fun j v hj => ?_⟩
    by_cases hjl : j < r.2.length
    · rw [List.getElem?_append_left hjl] at hj
      simpa using h4 j v hj
    · rw [List.getElem?_append_right (by omega)] at hj
      have := g2 _ v hj
      rwa [show (k + 1) * sz + (j - r.2.length) = k * sz + j by rw [Nat.add_mul]; omega] at this
theorem At.slice (mk : List T → T) (ht : Tryz.prog.underlying t = some (.slice e)) (hc : Tryz.prog.cellsOf e = sz) (h : At enc sp held W n e good) (hmk : ∀ ts, good ts → (mk ts).cells = ts ∧ ts.length = sz) :
    At enc sp held W (n + 1) t (fun ts => ∃ tss : List (List T), ts = [.list sz (tss.map mk)] ∧ tss.length ≤ 9223372036854775807 ∧ ∀ x ∈ tss, good x) := by
  intro cs y hy
  rcases DataW.trod_slice ht hy with ⟨rfl, _⟩ | ⟨a, len, cap, elems, rest, m, hm, rfl, _, _, hlc, hcm, hel, hels, _, _⟩
  · exact ⟨[.list sz []], HoldL.one (.nil sz) rfl, [], rfl, by simp, by simp⟩
  · obtain rfl : n = m := by omega
    have one : ∀ i, i < len → ∃ r : List T × List Value, W.cells? 0 (a.add (i * Tryz.prog.cellsOf e)) (Tryz.prog.cellsOf e) = some r.2 ∧ HoldL (All W) r.1 r.2 ∧ good r.1 := by
      intro i hi
      have h1 := hels i hi
      rw [List.getElem?_eq_getElem (by omega)] at h1
      obtain ⟨c, hc1, hc2⟩ := Option.bind_eq_some_iff.1 h1
      obtain ⟨x, hx, hg⟩ := h c _ hc2
      exact ⟨(x, c), hc1, hx, hg⟩
    obtain ⟨rs, hl, hr⟩ := pick len one
    have key := rows (S := All W) (sz := sz) (a := a) (mk := mk) rs 0 fun i r hi => by
      obtain ⟨h1, h2, h3⟩ := hr i r hi
      rw [hc] at h1
      obtain ⟨_, hcl, hcells⟩ := World.cells?_some h1
      refine ⟨h2, by rw [h2.1, (hmk _ h3).2], (hmk _ h3).1, fun j v hj => ?_⟩
      have hj' := (List.getElem?_eq_some_iff.1 hj).1
      have h4 := hcells j (by omega)
      rw [hj, Addr.add_add] at h4
      have hlt := World.block_lt_of_cell? _ _ h4
      rw [Nat.zero_add]
      unfold All inV
      rw [if_pos hlt]
      exact h4
    have hgood : ∀ r ∈ rs, good r.1 := fun r hrm => by
      obtain ⟨i, hi, rfl⟩ := List.getElem_of_mem hrm
      exact (hr i _ (List.getElem?_eq_getElem hi)).2.2
    have hmap : (rs.map (·.1)).map mk = rs.map fun r => mk r.1 := by rw [List.map_map]; rfl
    refine ⟨[.list sz ((rs.map (·.1)).map mk)], HoldL.one ?_ rfl, rs.map (·.1), rfl, by unfold maxLen at hcm; simp; omega, fun x hx => ?_⟩
    · rw [hmap]
      refine .list sz _ a len cap (rs.flatMap (·.2)) (by simp [hl]) hlc (fun x hx => ?_) key.1.1 (fun j v hj => by simpa using key.2 j v hj) key.1.2.1 key.1.2.2
      obtain ⟨r, hrm, rfl⟩ := List.mem_map.1 hx
      have := hmk _ (hgood r hrm)
      rw [this.1, this.2]
    · obtain ⟨r, hrm, rfl⟩ := List.mem_map.1 hx
      exact hgood r hrm
/-- A struct's fields, one behind the other. -/
def From (enc : TypeId × Value → H) (sp : Nat → Bool) (held : Bool) (W : World) (n : Nat) (fs : List Field) (off sz : Nat) (good : List T → Prop) : Prop :=
  ∀ cs : List Value, cs.length = off + sz → (∀ f ∈ fs, ∃ y, DataW.trod enc Tryz.prog W 0 sp held n f.type ((cs.drop f.offset).take (Tryz.prog.cellsOf f.type)) = some y) → ∃ ts, HoldL (All W) ts (cs.drop off) ∧ good ts
theorem From.last {f : Field} {off : Nat} (hoff : f.offset = off) (hsz : Tryz.prog.cellsOf f.type = sz) (h : At enc sp held W n f.type good) : From enc sp held W n [f] off sz good := by
  intro cs hl hf
  obtain ⟨y, hy⟩ := hf f (by simp)
  rw [hoff, hsz, List.take_of_length_le (by rw [List.length_drop]; omega)] at hy
  exact h _ _ hy
theorem From.more {f : Field} {fs : List Field} {off sz' : Nat} {good' : List T → Prop} (hoff : f.offset = off) (hsz : Tryz.prog.cellsOf f.type = sz) (h : At enc sp held W n f.type good) (hs : From enc sp held W n fs (off + sz) sz' good') :
    From enc sp held W n (f :: fs) off (sz + sz') (fun ts => ∃ t1 t2, ts = t1 ++ t2 ∧ good t1 ∧ good' t2) := by
  intro cs hl hf
  obtain ⟨y, hy⟩ := hf f (by simp)
  rw [hoff, hsz] at hy
  obtain ⟨x0, hx0, hg0⟩ := h _ _ hy
  obtain ⟨x1, hx1, hg1⟩ := hs cs (by omega) (fun g hg => hf g (by simp [hg]))
  refine ⟨x0 ++ x1, ?_, x0, x1, rfl, hg0, hg1⟩
  have := hx0.appO hx1
  rwa [← List.drop_drop, List.take_append_drop] at this
theorem At.struct {fs : Array Field} (ht : Tryz.prog.underlying t = some (.struct fs)) (hsz : Tryz.prog.cellsOf t = sz) (h : From enc sp held W n fs.toList 0 sz good) : At enc sp held W (n + 1) t good := by
  intro cs y hy
  obtain ⟨xs, m, hm, _, hl, hxl, hfs⟩ := DataW.trod_struct ht hy
  obtain rfl : n = m := by omega
  obtain ⟨x, hx, hg⟩ := h cs (by omega) (fun fd hfd => by
    obtain ⟨i, hi, rfl⟩ := List.getElem_of_mem hfd
    have hi' : i < fs.size := by simpa using hi
    have h1 := hfs i fs[i] (by simp [hi'])
    rw [List.getElem?_eq_getElem (by omega)] at h1
    exact ⟨_, by simpa using h1⟩)
  exact ⟨x, by simpa using hx, hg⟩
end
end Go.Proofs.YtikegeligblekaaGreat.M

/- A tree that comes in: what an argument of the laws' Obj reads as is a tree, held by its cells. No condition. -/
namespace Go.Proofs.YtikegeligblekaaGreat.M
open Go
theorem map_ex {α β γ : Type} {f : α → γ} {g : β → γ} {P : β → Prop} : ∀ (l : List α), (∀ x ∈ l, ∃ y, P y ∧ g y = f x) → ∃ ys : List β, ys.map g = l.map f ∧ ys.length = l.length ∧ ∀ y ∈ ys, P y
  | [], _ => ⟨[], rfl, rfl, by simp⟩
  | x :: r, h => by
    obtain ⟨y, h1, h2⟩ := h x (by simp)
    obtain ⟨ys, h3, h4, h5⟩ := map_ex r fun x hx => h x (by simp [hx])
    exact ⟨y :: ys, by simp [h2, h3], by simp [h4], fun z hz => by
      rcases List.mem_cons.1 hz with rfl | hz
      · exact h1
      · exact h5 z hz⟩
section
variable {H : Type} {enc : TypeId × Value → H} {sp : Nat → Bool} {hd : Bool} {W : World}
def scalOf (ts : List T) : T := ts.getD 0 (.bool false)
theorem at34 (n : Nat) : At enc sp hd W n 34 (fun ts => ∃ ks : List ByteArray, ts = [.list 1 (ks.map T.str)] ∧ ks.length ≤ 9223372036854775807 ∧ ∀ s ∈ ks, s.size ≤ 9223372036854775807) := by
  cases n with
  | zero => exact At.zero
  | succ n =>
    refine (At.slice (sz := 1) scalOf Tryz.underlying34 (by kernel_rfl) (At.string Tryz.underlying9) fun ts ⟨x, hx, _⟩ => by subst hx; exact ⟨rfl, rfl⟩).mono fun ts ⟨tss, h1, h2, h3⟩ => ?_
    obtain ⟨ks, g1, g2, g3⟩ := map_ex (f := scalOf) (g := T.str) (P := fun s => s.size ≤ 9223372036854775807) tss fun x hx => by
      obtain ⟨s, hs, hl⟩ := h3 x hx
      exact ⟨s, hl, by subst hs; rfl⟩
    exact ⟨ks, by rw [h1, g1], by omega, g3⟩
set_option maxRecDepth 100000 in
theorem at50 : ∀ n, At enc sp hd W n 50 (fun ts => ∃ o : Ob, Wd o ∧ o.t = .agg ts) := fun n => by
  induction n using Nat.strongRecOn with
  | _ n ih =>
    cases n with
    | zero => exact At.zero
    | succ n =>
      have h48 : At enc sp hd W n 48 (fun ts => ∃ kids : List Ob, ts = [.list 5 (kids.map Ob.t)] ∧ kids.length ≤ 9223372036854775807 ∧ ∀ o ∈ kids, Wd o) := by
        cases n with
        | zero => exact At.zero
        | succ n =>
          refine (At.slice (sz := 5) T.agg Tryz.underlying48 (by kernel_rfl) (ih n (by omega)) fun ts ⟨o, _, ho⟩ => ⟨rfl, by cases o with | mk => rw [Ob.t_mk] at ho; cases ho; rfl⟩).mono fun ts ⟨tss, h1, h2, h3⟩ => ?_
          obtain ⟨ks, g1, g2, g3⟩ := map_ex (f := T.agg) (g := Ob.t) (P := Wd) tss fun x hx => h3 x hx
          exact ⟨ks, by rw [h1, g1], by omega, g3⟩
      refine (At.struct (sz := 5) Tryz.underlying50 (by kernel_rfl) (From.more (sz := 1) rfl (by kernel_rfl) (At.int Tryz.underlying3) (From.more (sz := 1) rfl (by kernel_rfl) (At.int Tryz.underlying3) (From.more (sz := 1) rfl (by kernel_rfl) (At.string Tryz.underlying9) (From.more (sz := 1) rfl (by kernel_rfl) (at34 n) (From.last (sz := 1) rfl (by kernel_rfl) h48)))))).mono fun ts hts => ?_
      obtain ⟨_, _, rfl, ⟨k, rfl, _⟩, _, _, rfl, ⟨m, rfl, _⟩, _, _, rfl, ⟨s, rfl, hs⟩, _, _, rfl, ⟨ks, rfl, hk1, hk2⟩, kids, rfl, hl1, hl2⟩ := hts
      exact ⟨.mk k m s ks kids, .mk _ _ _ _ _ hs hk1 hk2 hl1 hl2, by rw [Ob.t_mk]; rfl⟩
set_option maxRecDepth 10000 in
/-- A tree that came in. -/
theorem open_obj {v : Value} {d : DataW H} {ps : List MemPlace} {r : Go.Reach} {b : Nat} (hv : Value.okWide Tryz.prog W r b 50 v) (h : DataW.Trod enc Tryz.prog W 0 sp hd 50 v d ps) : ∃ o : Ob, Wd o ∧ Hold (All W) o.t v := by
  obtain ⟨cs, rfl, hsz⟩ := WideShapes.okWide_struct Tryz.underlying50 hv
  obtain ⟨n, hn⟩ := h
  obtain ⟨ts, hH, o, ho, e⟩ := at50 n _ _ hn
  refine ⟨o, ho, ?_⟩
  rw [e]
  exact .agg ts cs.toList hH.1 hH.2.1 hH.2.2
end
end Go.Proofs.YtikegeligblekaaGreat.M

/- A document that comes in: what an argument of the laws' Doc reads as is a document, held by its cells. No condition. -/
namespace Go.Proofs.YtikegeligblekaaGreat.M
open Go
section
variable {H : Type} {enc : TypeId × Value → H} {sp : Nat → Bool} {hd : Bool} {W : World}
set_option maxRecDepth 100000 in
theorem at52 (n : Nat) : At enc sp hd W n 52 (fun ts => ∃ x : It, (Wd x.o ∧ x.data.size ≤ 9223372036854775807) ∧ x.t = .agg ts) := by
  cases n with
  | zero => exact At.zero
  | succ n =>
    refine (At.struct (sz := 8) Tryz.underlying52 (by kernel_rfl) (From.more (sz := 1) rfl (by kernel_rfl) (At.int Tryz.underlying3) (From.more (sz := 5) rfl (by kernel_rfl) (at50 n) (From.more (sz := 1) rfl (by kernel_rfl) (At.bool Tryz.underlying4) (From.last (sz := 1) rfl (by kernel_rfl) (At.string Tryz.underlying9)))))).mono fun ts hts => ?_
    obtain ⟨_, _, rfl, ⟨k, rfl, _⟩, _, _, rfl, ⟨o, ho, e⟩, _, _, rfl, ⟨b, rfl⟩, s, rfl, hs⟩ := hts
    obtain ⟨ok, on, os, oks, okids⟩ := o
    rw [Ob.t_mk] at e
    cases e
    exact ⟨⟨k, ok, on, os, oks, okids, b, s⟩, ⟨ho, hs⟩, rfl⟩
theorem at22 (n : Nat) : At enc sp hd W n 22 (fun ts => ∃ a : List It, ts = [.list 8 (a.map It.t)] ∧ a.length ≤ 9223372036854775807 ∧ ∀ x ∈ a, Wd x.o ∧ x.data.size ≤ 9223372036854775807) := by
  cases n with
  | zero => exact At.zero
  | succ n =>
    refine (At.slice (sz := 8) T.agg Tryz.underlying22 (by kernel_rfl) (at52 n) fun ts ⟨x, _, hx⟩ => ⟨rfl, by cases hx; rfl⟩).mono fun ts ⟨tss, h1, h2, h3⟩ => ?_
    obtain ⟨ks, g1, g2, g3⟩ := map_ex (f := T.agg) (g := It.t) (P := fun x => Wd x.o ∧ x.data.size ≤ 9223372036854775807) tss fun x hx => h3 x hx
    exact ⟨ks, by rw [h1, g1], by omega, g3⟩
set_option maxRecDepth 100000 in
/-- A document that came in. -/
theorem open_doc {v : Value} {d : DataW H} {ps : List MemPlace} {r : Go.Reach} {b : Nat} (hv : Value.okWide Tryz.prog W r b 24 v) (h : DataW.Trod enc Tryz.prog W 0 sp hd 24 v d ps) :
    ∃ (a : List It) (root : Int), a.length ≤ 9223372036854775807 ∧ (∀ x ∈ a, Wd x.o ∧ x.data.size ≤ 9223372036854775807) ∧ Hold (All W) (docT a root) v := by
  obtain ⟨cs, rfl, hsz⟩ := WideShapes.okWide_struct Tryz.underlying24 hv
  obtain ⟨n, hn⟩ := h
  cases n with
  | zero => simp [DataW.trod] at hn
  | succ n =>
    have key : At enc sp hd W (n + 1) 24 _ := At.struct (sz := 2) Tryz.underlying24 (by kernel_rfl) (From.more (sz := 1) rfl (by kernel_rfl) (at22 n) (From.last (sz := 1) rfl (by kernel_rfl) (At.int Tryz.underlying3)))
    obtain ⟨ts, hH, _, _, rfl, ⟨a, rfl, ha1, ha2⟩, root, rfl, _⟩ := key _ _ hn
    exact ⟨a, root, ha1, ha2, .agg _ cs.toList hH.1 hH.2.1 hH.2.2⟩
end
end Go.Proofs.YtikegeligblekaaGreat.M

/- FnExactSameDoc: for all two documents, right or not, the program's SameDoc and the reference's answer alike, and the arguments stay as they were. No condition. -/
namespace Go.Proofs.YtikegeligblekaaGreat.fnExactSameDoc
open Go.ChangeShapes Go.WideShapes Go.ChangeAt Go.RowKit
set_option linter.unusedVariables false
set_option maxRecDepth 100000 in
theorem lifted (os : Os) (started : os.Started) (H : Type) (enc : TypeId × Value → H) :
    ReturnsInHanded {} Tryz.checked os 3 .any (Rows.fnExactSameDocSpec.pre6 enc Tryz.prog Tryz.f3 Rows.fnExactSameDocRow.domain false) (Rows.fnExactSameDocSpec.post enc Tryz.prog Tryz.f3 false true false false) := by
  refine returnsInHanded_of_change_sized (C := Tryz.checked) Lift.own started (by kernel_rfl) Tryz.func3
    (ChangeSpec.witness6 (enc := enc) (C := Tryz.checked) false ⟨#[], #[.agg #[.slice none 0 0, .int .i64 0], .agg #[.slice none 0 0, .int .i64 0]], []⟩ 8 (by kernel_rfl) (by kernel_rfl) (by kernel_rfl) (by kernel_rfl)) ?_
  intro W base args ds gs before hval0 hW hcnd hsz0 _
  have hval : ∀ (j : Nat) t v, Tryz.f3.params[j]? = some t → args[j]? = some v → Value.okWide Tryz.prog W .any base t v := hval0
  have hW' := hW
  obtain ⟨p, q, hA0, hV, rfl, hfz, hnd⟩ := hW
  have hA : DataW.TrodAll enc Tryz.prog W 0 (fun _ => true) true Tryz.f3.params.toList args.toList ds p := hA0
  rw [Tryz.params3] at hA hval
  obtain ⟨v0, vs0, d0, ds0, p0, q0, hargs, rfl, rfl, h0, r0⟩ := trodAll_cons hA
  obtain ⟨v1, vs1, d1, ds1, p1, q1, rfl, rfl, rfl, h1, r1⟩ := trodAll_cons r0
  obtain ⟨rfl, rfl, rfl⟩ := trodAll_nil r1
  obtain rfl : args = #[v0, v1] := by cases args; simp_all
  obtain ⟨rfl, rfl⟩ := trodVars_none hV
  obtain ⟨a, r, ha1, ha2, hold⟩ := M.open_doc (hval 0 24 v0 rfl rfl) h0
  obtain ⟨b, q', hb1, hb2, hold2⟩ := M.open_doc (hval 1 24 v1 rfl rfl) h1
  refine (M.CS.calls Tryz.func3 rfl rfl rfl (M.sd3 a r b q' ha1 ha2 hb1 hb2) (vals := [v0, v1]) ⟨v0, _, [], [], rfl, rfl, ⟨rfl, hold⟩, _, _, [], [], rfl, rfl, ⟨rfl, hold2⟩, rfl, rfl⟩).mono fun e W' ⟨he, bel⟩ => ?_
  subst he
  exact ⟨_, rfl, Lift.close rfl rfl (by decide +kernel) hW' hA0 rfl bel⟩
theorem over : Rows.fnExactSameDocRow.holds Tryz.pinned (OpenSpec.ofChange Rows.fnExactSameDocSpec) :=
  OpenClaim.holds_of_wide 3 Tryz.f3 rfl rfl rfl rfl rfl rfl rfl ⟨rfl, rfl, rfl, rfl, rfl⟩ rfl rfl rfl rfl rfl (by kernel_rfl) Tryz.func3 (by kernel_rfl)
    (of_decide_eq_true (by kernel_rfl)) (by unfold Func.isWrapper; first | (rw [if_pos (by decide +kernel)]; kernel_rfl) | (rw [if_neg (by decide +kernel)]; exact ⟨rfl, rfl⟩))
    (fun os started H enc _ => lifted os started H enc)
end Go.Proofs.YtikegeligblekaaGreat.fnExactSameDoc
namespace Go.Proofs.YtikegeligblekaaGreat
theorem fnExactSameDoc_holds : Rows.FnExactSameDocSaid := fnExactSameDoc.over
#print axioms fnExactSameDoc_holds
end Go.Proofs.YtikegeligblekaaGreat
