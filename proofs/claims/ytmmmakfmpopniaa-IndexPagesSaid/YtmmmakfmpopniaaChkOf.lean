/-
  corncriblaw05.of: the document's checkpoint as the program's.
-/
import Derived.Test.YtmmmakfmpopniaaChkRight
import Derived.Test.YtmmmakfmpopniaaNdlGet
namespace Go.Proofs.Ytmmmakfmpopniaa
open Go.RowKit

theorem own_more_any {W : World} {base base' size : Nat} {e : TypeId} {v : Value} {k : Nat} {xs : List Value} (h : W.ownsRow base e size v k xs) (hb : base' ≤ base) : W.ownsRow base' e size v k xs := by
  refine ⟨h.1, ?_⟩
  rcases h.2 with h2 | ⟨g', cap', cur, e1, e2, e3⟩
  · exact .inl h2
  · exact .inr ⟨g', cap', cur, e1, Nat.le_trans hb e2, e3⟩
theorem own_form_any {W : World} {base k size : Nat} {v : Value} {xs : List Value} {e : TypeId} (h : W.ownsRow base e size v k xs) : ∃ a c, v = .slice a k c ∧ k ≤ c := by
  rcases h.2 with ⟨rfl, rfl⟩ | ⟨g, cap, _, rfl, _, _, h1, _⟩
  · exact ⟨none, 0, rfl, Nat.le_refl _⟩
  · exact ⟨_, cap, rfl, h1⟩

end Go.Proofs.Ytmmmakfmpopniaa
