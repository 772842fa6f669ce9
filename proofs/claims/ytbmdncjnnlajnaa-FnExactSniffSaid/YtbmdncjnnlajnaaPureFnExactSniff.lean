/- The pure statement of FnExactSniff: the program's Sniff and the reference's tell the same kind for every text of at most 2^47 bytes, since a prefix test by cutting and one by HasPrefix are the same test. -/
import Derived.Test.YtbmdncjnnlajnaaPFnExactSniffx1
namespace Go.Proofs.Ytbmdncjnnlajnaa.Pure
open Go.RowKit Go.Proofs.Ytbmdncjnnlajnaa.PFnExactSniff Go.Proofs.YtbmdncjnnlajnaaW.PrintWords Go.Proofs.YtbmdncjnnlajnaaW.PrintLast

theorem sniff_at (a t : ByteArray) (h : a.size ≤ 140737488351232) (ht : t.size ≤ 100) : ∃ b, spec_l22At.f a 0 t = some b ∧ strings_HasPrefix.f a t = some b := by
  have e1 : wrap64 ((a.size : Int) - t.size) = (a.size : Int) - t.size := by unfold wrap64; omega
  have e2 : wrap64 (0 + (t.size : Int)) = t.size := by unfold wrap64; omega
  unfold strings_HasPrefix.f stringslite_HasPrefix.f spec_l22At.f
  rw [e1, e2]
  by_cases c : (t.size : Int) ≤ a.size
  · refine ⟨(a.extract 0 t.size).toList == t.toList, ?_, ?_⟩
    · rw [if_pos (by omega), if_pos (by omega), if_pos (by omega), if_pos (by omega), if_pos c]; rfl
    · rw [if_pos c, if_pos (by omega), if_pos c]; rfl
  · refine ⟨false, ?_, ?_⟩
    · rw [if_pos (by omega), if_neg (by omega)]
    · rw [if_neg c]; rfl

theorem FnExactSniff : laws_FnExactSniff.Pure := by
  intro a h
  obtain ⟨b, h1, h2⟩ := sniff_at a (⟨#[137, 80, 78, 71, 13, 10, 26, 10]⟩ : ByteArray) h (by decide)
  obtain ⟨c, h3, h4⟩ := sniff_at a (⟨#[37, 80, 68, 70, 45]⟩ : ByteArray) h (by decide)
  unfold laws_FnExactSniff.f
  by_cases g : (a.size : Int) > 1048576
  · rw [if_pos g]
  · rw [if_neg g]
    unfold spec_Sniff.f impl_Sniff.f spec_l16Sign.f
    simp only [Option.bind_some]
    rw [h1, h2, h3, h4]
    cases b <;> cases c <;> rfl

end Go.Proofs.Ytbmdncjnnlajnaa.Pure
