import Derived.Test.YtocpfgdajomjiaaDoorHandText
import Derived.Test.YtocpfgdajomjiaaDoorP1
import Derived.Test.YtocpfgdajomjiaaDoorP2
namespace Go.Proofs.YtocpfgdajomjiaaDoor.Pure
open Go.RowKit Go.Proofs.YtocpfgdajomjiaaDoor.P Go.Proofs.YtocpfgdajomjiaaDoor.Hand Go.Proofs.YtocpfgdajomjiaaDoorW.PrintWords
set_option linter.unusedVariables false
set_option linter.unusedSimpArgs false

theorem w64 {x : Int} (h0 : -9223372036854775808 ≤ x) (h1 : x ≤ 9223372036854775807) : wrap64 x = x := by unfold wrap64; omega
theorem w64s (i : Nat) (h : i ≤ 100000000000) : wrap64 ((i : Int) + 1) = ((i + 1 : Nat) : Int) := by rw [w64 (by omega) (by omega)]; omega
/-- From some measure of steps on. -/
def Ev (p : Nat → Prop) : Prop := ∃ k0, ∀ k, k0 ≤ k → p k
theorem Ev.of {p : Nat → Prop} (h : ∀ k, p k) : Ev p := ⟨0, fun k _ => h k⟩
theorem Ev.and {p q : Nat → Prop} : Ev p → Ev q → Ev fun k => p k ∧ q k := fun ⟨a, ha⟩ ⟨b, hb⟩ => ⟨max a b, fun k hk => ⟨ha k (by omega), hb k (by omega)⟩⟩
theorem Ev.mp {p q : Nat → Prop} (h : Ev p) (hi : ∀ k, p k → q k) : Ev q := let ⟨a, ha⟩ := h; ⟨a, fun k hk => hi k (ha k hk)⟩
theorem Ev.up {p : Nat → Prop} (h : Ev fun k => p (k + 1)) : Ev p := by
  obtain ⟨a, ha⟩ := h
  refine ⟨a + 1, fun k hk => ?_⟩
  obtain ⟨j, rfl⟩ : ∃ j, k = j + 1 := ⟨k - 1, by omega⟩
  exact ha j (by omega)
theorem Ev.get {p : Nat → Prop} (h : Ev p) : ∃ k, p k := let ⟨a, ha⟩ := h; ⟨a, ha a (Nat.le_refl _)⟩

theorem rdo {l : List ByteArray} {i : Nat} (h : i < l.length) : rdOf ByteArray.empty l (i : Int) = l[i] := by
  simp [rdOf, List.getD_eq_getElem?_getD, List.getElem?_eq_getElem h]
theorem tl (s : ByteArray) : s.toList = s.data.toList := ByteArray.toList_eq s
theorem tl_inj {a b : ByteArray} (h : a.toList = b.toList) : a = b := ba_ext (by rw [← tl, ← tl]; exact h)
theorem len_data (s : ByteArray) : s.data.toList.length = s.size := by rw [Array.length_toList]; rfl
theorem bt_nat (s : ByteArray) (i : Nat) (h : i < s.data.toList.length) : bt s (i : Int) = ((s.data.toList[i]).toNat : Int) := by
  have h' : i < s.data.size := by simpa using h
  unfold bt
  rw [dif_pos (by simpa using h')]
  simp [ByteArray.getElem_eq_getElem_data]

/-! #### Two lists of texts that are one -/
theorem same_loop (a : List ByteArray) (ha : a.length ≤ 100000) : ∀ (n i : Nat), i + n = a.length → Ev fun k => cooperagelaw1_same.l0 k a a (i : Int) = some true := by
  intro n
  induction n with
  | zero =>
    intro i hi
    refine Ev.up (Ev.of fun k => ?_)
    simp only [cooperagelaw1_same.l0]
    rw [if_neg (by omega)]
  | succ n ih =>
    intro i hi
    refine Ev.up ((ih (i + 1) (by omega)).mp fun k hk => ?_)
    simp only [cooperagelaw1_same.l0]
    rw [if_pos (by omega), if_pos (by omega), if_pos (by omega), if_pos trivial, w64s i (by omega)]
    exact hk
theorem same_f (a : List ByteArray) (ha : a.length ≤ 100000) : Ev fun k => cooperagelaw1_same.f k a a = some true := by
  refine (same_loop a ha a.length 0 (by omega)).mp fun k hk => ?_
  unfold cooperagelaw1_same.f
  rw [if_pos rfl]
  exact hk

/-! #### The examples -/
theorem ex_words : text_Words.f (⟨#[32, 97, 9, 98, 99]⟩ : ByteArray) = some [⟨#[97]⟩, ⟨#[98, 99]⟩] := by
  unfold text_Words.f
  rw [if_pos (by decide)]
  rfl
theorem ex_lines : text_Lines.f (⟨#[97, 10, 10, 98]⟩ : ByteArray) = some [⟨#[97]⟩, ⟨#[]⟩, ⟨#[98]⟩] := by
  unfold text_Lines.f
  rw [if_pos (by decide)]
  rfl
theorem ex_path1 : text_Path.f (⟨#[97, 47, 98, 46, 99]⟩ : ByteArray) = some true := by
  unfold text_Path.f
  rw [if_pos (by decide), show pathV (⟨#[97, 47, 98, 46, 99]⟩ : ByteArray) = true by decide +kernel]
theorem ex_path2 : text_Path.f (⟨#[97, 47, 47, 98]⟩ : ByteArray) = some false := by
  unfold text_Path.f
  rw [if_pos (by decide), show pathV (⟨#[97, 47, 47, 98]⟩ : ByteArray) = false by decide +kernel]
theorem ex_path3 : text_Path.f (⟨#[46, 46, 47, 120]⟩ : ByteArray) = some false := by
  unfold text_Path.f
  rw [if_pos (by decide), show pathV (⟨#[46, 46, 47, 120]⟩ : ByteArray) = false by decide +kernel]
theorem ex_quote1 : text_Quote.f (⟨#[97, 32, 98]⟩ : ByteArray) = some ⟨#[97, 37, 50, 48, 98]⟩ := by
  unfold text_Quote.f
  rw [if_pos (by decide)]
  rfl
theorem ex_quote2 : text_Quote.f (⟨#[]⟩ : ByteArray) = some ⟨#[37]⟩ := by
  unfold text_Quote.f
  rw [if_pos (by decide)]
  rfl
theorem shown_f : Ev fun k => cooperagelaw1_shown.f k = some true := by
  refine ((same_f [⟨#[97]⟩, ⟨#[98, 99]⟩] (by simp)).and (same_f [⟨#[97]⟩, ⟨#[]⟩, ⟨#[98]⟩] (by simp))).mp fun k h => ?_
  unfold cooperagelaw1_shown.f
  rw [ex_words, Option.bind_some, h.1, Option.bind_some, if_pos rfl, ex_lines, Option.bind_some, h.2, Option.bind_some, if_pos rfl, ex_path1, Option.bind_some, if_pos rfl, ex_path2, Option.bind_some, if_neg (by decide), ex_path3, Option.bind_some, if_neg (by decide), ex_quote1, Option.bind_some, if_pos (by rw [tl]), ex_quote2, Option.bind_some]
  rw [tl]
  rfl
end Go.Proofs.YtocpfgdajomjiaaDoor.Pure
