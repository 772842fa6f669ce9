/- A machine of values: each operation does on the machine what is told of it, part 8: conversions, literals. No condition. -/
import Derived.Test.YtbmdncjnnlajnaaM11
namespace Go.Proofs.Ytbmdncjnnlajnaa.M
open Go
set_option linter.unusedSimpArgs false
set_option linter.unusedVariables false
set_option linter.unusedSectionVars false

section
variable {P : Program} {τ : Tab} {Γ : Ctx} {al : Nat → Prop} {s : St} {a : Act} {w : World} {μ : Nat → Option Pl} {n : Nat} {K : AV → List (Nat × Blk) → Prop} {next : Act → World → Prop}
variable {o : Oper} {Q : Exit → Act → World → Prop} {md : Nat → Bool} {hp : List (Nat × Blk)} {S : Addr → Option Value}

theorem int_of (hτ : TOk P τ) {t : Nat} {k : IntKind} (hk : (tg τ t).k = .int k) : P.underlying t = some (.int k) := by
  have hk' := (hτ t _ (find_of_k (by rw [hk]; simp))).k
  simpa only [kOk, hk] using hk'
theorem str_of (hτ : TOk P τ) {t : Nat} (hk : (tg τ t).k = .str) : P.underlying t = some .string := by
  have hk' := (hτ t _ (find_of_k (by rw [hk]; simp))).k
  simpa only [kOk, hk] using hk'

theorem bytes_values {es : List T} (h : ∀ b ∈ es, isByte b) : es = (es.map T.num).map (T.int .u8) := by
  rw [List.map_map]
  conv => lhs; rw [← List.map_id es]
  refine List.map_congr_left fun b hb => ?_
  have := h b hb
  unfold isByte at this
  split at this
  · rfl
  · exact this.elim
theorem flat_ints {k : IntKind} (ns : List Int) : flat (ns.map (T.int k)) = ns.map (T.int k) := by
  induction ns with
  | nil => rfl
  | cons n r ih => rw [List.map_cons, flat_cons, ih]; rfl
theorem HoldL_ints {k : IntKind} {ns : List Int} {vs : List Value} (h : HoldL S (ns.map (T.int k)) vs) : vs = ns.map (Value.int k) := by
  apply List.ext_getElem?
  intro j
  rw [List.getElem?_map]
  cases hn : ns[j]? with
  | none =>
    have : ns.length ≤ j := by simpa using hn
    rw [List.getElem?_eq_none (by rw [h.1]; simpa using this)]; rfl
  | some m =>
    have hlt : j < vs.length := by rw [h.1]; simpa using (List.getElem?_eq_some_iff.1 hn).1
    have := h.2.2 j (.int k m) vs[j] (by rw [List.getElem?_map, hn]; rfl) (List.getElem?_eq_getElem hlt)
    rw [List.getElem?_eq_getElem hlt, t_int this]; rfl

theorem op_convert (hτ : TOk P τ) (R : Rel Γ al s a w μ) (hn : ¬ al n) {src dst : TypeId} {x : Operand} (ho : o.op = .convert src dst x) (h : op P τ md o s n K) (N : Nxt Γ al s a w μ n o.dst K next) : o.wp P a w next Q := by
  have hx := eval_ok (τ := τ) R src x
  simp only [op, ho] at h
  split at h
  · rename_i k' k k'' m h1 h2 he
    have u1 := int_of hτ h1
    have u2 := int_of hτ h2
    have e := eval_int R he
    exact wp_val (val := .int k (k.wrap m)) (by simp [execOp, ho, convert, run_underlying u1, run_underlying u2, e, Conv.intToInt]) (N.quiet R h ⟨.int _ _, rfl⟩)
  · rename_i b h1 h2 he
    have u1 := str_of hτ h1
    have u2 := str_of hτ h2
    have e := eval_str R he
    exact wp_val (val := .string b) (by simp [execOp, ho, convert, run_underlying u1, run_underlying u2, e]) (N.quiet R h ⟨.str _, rfl⟩)
  · rename_i e c h1 h2 he
    rw [he] at hx
    obtain ⟨u1, _⟩ := slice_of hτ h1
    have u2 := str_of hτ h2
    split at h
    · rename_i sz es hke hl
      obtain ⟨hby, hK⟩ := h
      have u3 := int_of hτ hke
      have hes := bytes_values hby
      have hlen : es.length = (es.map T.num).length := by simp
      have hbs : ∀ ad cap vs, a.eval x = .slice (some ad) es.length cap → HoldL (Sv Γ.G s.hp μ w) (flat es) vs → (∀ (j : Nat) v, vs[j]? = some v → w.cell? (ad.add j) = some v) → (execOp a.eval o).run P w = .ok (.value (.string (bytes es))) w := fun ad cap vs e1 e2 e3 => by
        rw [hes, flat_ints] at e2
        have e4 := HoldL_ints e2
        have e5 := run_loadCells_list (P := P) w ad vs e3
        have e6 : vs.length = es.length := by rw [e4]; simp
        rw [e6] at e5
        rw [e4] at e5
        have e7 := run_bytesToString (P := P) w ad es.length cap (es.map T.num) e5
        rw [foldl_push_bytes] at e7
        have e8 : bytes es = ⟨ByteArray.empty.data ++ ((es.map T.num).map fun n => UInt8.ofNat n.toNat).toArray⟩ := by
          unfold bytes; rw [show ByteArray.empty.data = #[] from rfl]; simp
        rw [e8]
        simp [execOp, ho, e1, run_convert_bytes_string w src dst e _ _ _ u1 u3 u2, e7]
      rcases list_src R.mem hx hl with ⟨⟨q, hv⟩, rfl⟩ | ⟨ad, cap, vs, hv, hH, hc, hsz, hcap⟩
      · refine wp_val (val := .string (bytes [])) ?_ (N.quiet R hK ⟨.str _, rfl⟩)
        cases q <;> simp [execOp, ho, hv, run_convert_bytes_string w src dst e _ _ _ u1 u3 u2, Conv.bytesToString, bytes, loadCells, loadCellsFrom] <;> rfl
      · exact wp_val (hbs ad cap vs hv hH hc) (N.quiet R hK ⟨.str _, rfl⟩)
    · exact h.elim
  · rename_i e b h1 h2 he
    have u1 := str_of hτ h1
    obtain ⟨u2, _⟩ := slice_of hτ h2
    have e' := eval_str R he
    split at h
    · rename_i hke
      have u3 := int_of hτ hke
      have hr := Lib.run_convert_string_bytes (P := P) w src dst e b u1 u2 u3
      refine wp_val (val := .slice (some ⟨w.heap.size, 0, none⟩) b.size (grownCap w b.size 0 e)) (w' := Lib.bytesWorld w e b) (by simp [execOp, ho, e', hr]) ?_
      have hfr : Fr [] w (Lib.bytesWorld w e b) := ⟨rfl, rfl, rfl, by rw [Lib.bytesWorld_size]; omega, fun k hk _ => Lib.bytesWorld_at_old w e b k hk⟩
      have hge := grownCap_ge w b.size 0 e
      have hcsz : (Lib.bytesCells w e b).size = grownCap w b.size 0 e := by
        have : b.data.size = b.size := rfl
        simp [Lib.bytesCells, this]; omega
      refine N.new R hn hfr (p := some ⟨w.heap.size, 0, grownCap w b.size 0 e⟩) h (fun q hq => by obtain rfl := Option.some.inj hq; rw [Lib.bytesWorld_size]; simp) ?_ ⟨⟨.inr ⟨Nat.le_refl _, by omega⟩, Nat.zero_le _⟩, rfl, fun sz es hA => ?_⟩
      · have hob : ofBytes b = (b.data.toList.map fun c => (c.toNat : Int)).map (T.int .u8) := by simp [ofBytes]
        refine ⟨(b.data.toList.map fun c => (c.toNat : Int)).map (Value.int .u8), ?_, ?_, ?_, ?_, ?_⟩
        · rw [hob, flat_ints]
          refine ⟨by simp, by simp [Value.oneCell'], fun j t v h1 h2 => ?_⟩
          rw [List.getElem?_map, Option.map_eq_some_iff] at h1 h2
          obtain ⟨m1, h3, rfl⟩ := h1
          obtain ⟨m2, h4, rfl⟩ := h2
          rw [h3] at h4
          obtain rfl := Option.some.inj h4
          exact .int _ _
        · intro j v hj
          have hlt : j < b.size := by have := (List.getElem?_eq_some_iff.1 hj).1; simpa using this
          rw [Nat.zero_add, Lib.bytesWorld_cell w e b j hlt]
          rw [List.getElem?_map, List.getElem?_map] at hj
          have hlt' : j < b.data.toList.length := by simpa using hlt
          rw [List.getElem?_eq_getElem hlt'] at hj
          simp only [Option.map_some] at hj
          rw [List.getD_eq_getElem?_getD, List.getElem?_eq_getElem hlt']
          exact hj
        · intro t ht
          simp only [ofBytes, List.mem_map] at ht
          obtain ⟨c, _, rfl⟩ := ht
          rfl
        · simp only [List.length_map, Array.length_toList]; exact hge
        · intro j hj
          have hlt : j < (Lib.bytesCells w e b).size := by rw [hcsz]; exact hj
          rw [Nat.zero_add]
          constructor
          · simp [World.cell?, Lib.bytesWorld_at_new, hlt]
          · simp [World.frozen?, Lib.bytesWorld_at_new]; omega
      · simp only [arrOf, find_put, if_true, beq_self_eq_true, Option.some.injEq, Prod.mk.injEq] at hA
        obtain ⟨rfl, rfl⟩ := hA
        refine ⟨by simp [ofBytes], ?_⟩
        simp only [setμ, if_true]
        exact ⟨_, _, rfl, .inl (by simp), hge, by show (0 + grownCap w b.size 0 e) * 1 ≤ grownCap w b.size 0 e; omega⟩
    · exact h.elim
  · exact h.elim

theorem zero_elem {d : TD} {z : T} {zs : List Value} (hl : d.z.length = d.sz) (hz : sealA (if d.ag then .g d.z else .c (d.z.getD 0 .undef)) = some z) (hpos : 0 < d.sz) (h1 : d.ag = false → d.sz = 1) (hc : zs.length = d.sz) (h2 : ∀ v ∈ zs, v.oneCell' = true)
    (hzo : ∀ (j : Nat) c v, d.z[j]? = some c → zs[j]? = some v → zOk c v) : HoldL S z.cells zs ∧ z.cells.length = d.sz := by
  have hC : CsOk (fun _ => True) [] S (fun _ => none) d.z zs := ⟨by omega, h2, fun j c v a b => by
    have := hzo j c v a b
    unfold zOk at this
    split at this
    · obtain ⟨rfl, rfl⟩ := this; exact ⟨.int _ _, rfl⟩
    · subst this; exact ⟨.bool _, rfl⟩
    · subst this; exact ⟨.str _, rfl⟩
    · exact rfl
    · exact rfl
    · exact this.elim⟩
  cases hag : d.ag with
  | true =>
    simp only [hag, if_true, sealA, Option.map_eq_some_iff] at hz
    obtain ⟨xs, h3, rfl⟩ := hz
    exact ⟨sealL_ok hC h3, by simp [T.cells, sealL_length h3, hl]⟩
  | false =>
    have h4 := h1 hag
    simp only [hag, Bool.false_eq_true, if_false, sealA] at hz
    obtain ⟨c0, hz0⟩ : ∃ c0, d.z = [c0] := by
      cases hh : d.z with
      | nil => rw [hh] at hl; simp at hl; omega
      | cons c r => cases r with
        | nil => exact ⟨c, rfl⟩
        | cons _ _ => rw [hh] at hl; simp at hl; omega
    obtain ⟨v0, hv0⟩ : ∃ v0, zs = [v0] := by
      cases hh : zs with
      | nil => rw [hh] at hc; simp at hc; omega
      | cons c r => cases r with
        | nil => exact ⟨c, rfl⟩
        | cons _ _ => rw [hh] at hc; simp at hc; omega
    subst hv0
    rw [hz0] at hz hC
    have h5 := sealC_ok (hC.2.2 0 c0 v0 rfl rfl) (by simpa using hz)
    have h6 := one_of_hold h5 (h2 v0 (by simp))
    rw [h6]
    refine ⟨⟨rfl, by simpa using h2 v0 (by simp), fun j t v a b => ?_⟩, by simp [h4]⟩
    cases j with
    | zero => simp at a b; subst a; subst b; exact h5
    | succ j => simp at a
end
end Go.Proofs.Ytbmdncjnnlajnaa.M
