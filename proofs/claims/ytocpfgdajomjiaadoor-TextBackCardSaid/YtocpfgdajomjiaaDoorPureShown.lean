import Derived.Test.YtocpfgdajomjiaaDoorPureG
import Derived.Test.YtocpfgdajomjiaaDoorR2
/- The examples at the head of chapter 1's laws. -/
namespace Go.Proofs.YtocpfgdajomjiaaDoor.PureR
open Go.RowKit Go.Proofs.YtocpfgdajomjiaaDoor.R Go.Proofs.YtocpfgdajomjiaaDoor.Hand2 Go.Proofs.YtocpfgdajomjiaaDoorW.PrintWords Go.Proofs.YtocpfgdajomjiaaDoor.Spl
open Go.Proofs.YtocpfgdajomjiaaDoor.Hand hiding text_Lines.f text_Words.f text_Trim.f text_Join.f text_Path.f text_Quote.f text_Lines.calls text_Words.calls text_Trim.calls text_Join.calls text_Path.calls text_Quote.calls Glob
set_option linter.unusedVariables false
set_option linter.unusedSimpArgs false
/-! #### Two lists of texts that are one -/
theorem same_loop (a : List ByteArray) (ha : a.length ≤ 100000) : ∀ (n i : Nat), i + n = a.length → Ev fun k => cooperagelaw1_same.l0 k a a (i : Int) = some true := by
  intro n
  induction n with
  | zero =>
    intro i hi
    refine Ev.up (Ev.of fun k => ?_)
    simp only [cooperagelaw1_same.l0]
    rw [if_neg (by omega)]
  | succ n ih =>
    intro i hi
    refine Ev.up ((ih (i + 1) (by omega)).mp fun k hk => ?_)
    simp only [cooperagelaw1_same.l0]
    rw [if_pos (by omega), if_pos (by omega), if_pos (by omega), if_pos trivial, w64s i (by omega)]
    exact hk
theorem same_f (a : List ByteArray) (ha : a.length ≤ 100000) : Ev fun k => cooperagelaw1_same.f k a a = some true := by
  refine (same_loop a ha a.length 0 (by omega)).mp fun k hk => ?_
  unfold cooperagelaw1_same.f
  rw [if_pos rfl]
  exact hk

/-! #### The examples -/
theorem ex_words : text_Words.f (⟨#[32, 97, 9, 98, 99]⟩ : ByteArray) = some [⟨#[97]⟩, ⟨#[98, 99]⟩] := by
  show Hand.text_Words.f _ = _
  unfold Hand.text_Words.f
  rw [if_pos (by decide)]
  rfl
theorem ex_lines : text_Lines.f (⟨#[97, 10, 10, 98]⟩ : ByteArray) = some [⟨#[97]⟩, ⟨#[]⟩, ⟨#[98]⟩] := by
  show Hand.text_Lines.f _ = _
  unfold Hand.text_Lines.f
  rw [if_pos (by decide)]
  rfl
theorem ex_path1 : text_Path.f (⟨#[97, 47, 98, 46, 99]⟩ : ByteArray) = some true := by
  show Hand.text_Path.f _ = _
  unfold Hand.text_Path.f
  rw [if_pos (by decide), show pathV (⟨#[97, 47, 98, 46, 99]⟩ : ByteArray) = true by decide +kernel]
theorem ex_path2 : text_Path.f (⟨#[97, 47, 47, 98]⟩ : ByteArray) = some false := by
  show Hand.text_Path.f _ = _
  unfold Hand.text_Path.f
  rw [if_pos (by decide), show pathV (⟨#[97, 47, 47, 98]⟩ : ByteArray) = false by decide +kernel]
theorem ex_path3 : text_Path.f (⟨#[46, 46, 47, 120]⟩ : ByteArray) = some false := by
  show Hand.text_Path.f _ = _
  unfold Hand.text_Path.f
  rw [if_pos (by decide), show pathV (⟨#[46, 46, 47, 120]⟩ : ByteArray) = false by decide +kernel]
theorem ex_quote1 : text_Quote.f (⟨#[97, 32, 98]⟩ : ByteArray) = some ⟨#[97, 37, 50, 48, 98]⟩ := by
  show Hand.text_Quote.f _ = _
  unfold Hand.text_Quote.f
  rw [if_pos (by decide)]
  rfl
theorem ex_quote2 : text_Quote.f (⟨#[]⟩ : ByteArray) = some ⟨#[37]⟩ := by
  show Hand.text_Quote.f _ = _
  unfold Hand.text_Quote.f
  rw [if_pos (by decide)]
  rfl
theorem shown_f : Ev fun k => cooperagelaw1_shown.f k = some true := by
  refine ((same_f [⟨#[97]⟩, ⟨#[98, 99]⟩] (by simp)).and (same_f [⟨#[97]⟩, ⟨#[]⟩, ⟨#[98]⟩] (by simp))).mp fun k h => ?_
  unfold cooperagelaw1_shown.f
  rw [ex_words, Option.bind_some, h.1, Option.bind_some, if_pos rfl, ex_lines, Option.bind_some, h.2, Option.bind_some, if_pos rfl, ex_path1, Option.bind_some, if_pos rfl, ex_path2, Option.bind_some, if_neg (by decide), ex_path3, Option.bind_some, if_neg (by decide), ex_quote1, Option.bind_some, if_pos (by rw [tl]), ex_quote2, Option.bind_some]
  rw [tl]
  rfl
end Go.Proofs.YtocpfgdajomjiaaDoor.PureR
