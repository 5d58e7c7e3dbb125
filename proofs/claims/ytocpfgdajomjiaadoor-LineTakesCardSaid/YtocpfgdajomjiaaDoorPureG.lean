import Derived.Test.YtocpfgdajomjiaaDoorTextB
import Derived.Test.YtocpfgdajomjiaaDoorSpl
/- Plain facts of words, paths, quoted words. -/
namespace Go.Proofs.YtocpfgdajomjiaaDoor.PureR
open Go.RowKit Go.Proofs.YtocpfgdajomjiaaDoor.Hand2 Go.Proofs.YtocpfgdajomjiaaDoorW.PrintWords Go.Proofs.YtocpfgdajomjiaaDoor.Spl
open Go.Proofs.YtocpfgdajomjiaaDoor.Hand hiding text_Lines.f text_Words.f text_Trim.f text_Join.f text_Path.f text_Quote.f text_Lines.calls text_Words.calls text_Trim.calls text_Join.calls text_Path.calls text_Quote.calls Glob
set_option linter.unusedVariables false
set_option linter.unusedSimpArgs false
theorem w64 {x : Int} (h0 : -9223372036854775808 ≤ x) (h1 : x ≤ 9223372036854775807) : wrap64 x = x := by unfold wrap64; omega
theorem w64s (i : Nat) (h : i ≤ 100000000000) : wrap64 ((i : Int) + 1) = ((i + 1 : Nat) : Int) := by rw [w64 (by omega) (by omega)]; omega
/-- From some measure of steps on. -/
def Ev (p : Nat → Prop) : Prop := ∃ k0, ∀ k, k0 ≤ k → p k
theorem Ev.of {p : Nat → Prop} (h : ∀ k, p k) : Ev p := ⟨0, fun k _ => h k⟩
theorem Ev.and {p q : Nat → Prop} : Ev p → Ev q → Ev fun k => p k ∧ q k := fun ⟨a, ha⟩ ⟨b, hb⟩ => ⟨max a b, fun k hk => ⟨ha k (by omega), hb k (by omega)⟩⟩
theorem Ev.mp {p q : Nat → Prop} (h : Ev p) (hi : ∀ k, p k → q k) : Ev q := let ⟨a, ha⟩ := h; ⟨a, fun k hk => hi k (ha k hk)⟩
theorem Ev.up {p : Nat → Prop} (h : Ev fun k => p (k + 1)) : Ev p := by
  obtain ⟨a, ha⟩ := h
  refine ⟨a + 1, fun k hk => ?_⟩
  obtain ⟨j, rfl⟩ : ∃ j, k = j + 1 := ⟨k - 1, by omega⟩
  exact ha j (by omega)
theorem Ev.get {p : Nat → Prop} (h : Ev p) : ∃ k, p k := let ⟨a, ha⟩ := h; ⟨a, ha a (Nat.le_refl _)⟩

theorem rdo {l : List ByteArray} {i : Nat} (h : i < l.length) : rdOf ByteArray.empty l (i : Int) = l[i] := by
  simp [rdOf, List.getD_eq_getElem?_getD, List.getElem?_eq_getElem h]
theorem tl (s : ByteArray) : s.toList = s.data.toList := ByteArray.toList_eq s
theorem tl_inj {a b : ByteArray} (h : a.toList = b.toList) : a = b := ba_ext (by rw [← tl, ← tl]; exact h)
theorem len_data (s : ByteArray) : s.data.toList.length = s.size := by rw [Array.length_toList]; rfl
theorem bt_nat (s : ByteArray) (i : Nat) (h : i < s.data.toList.length) : bt s (i : Int) = ((s.data.toList[i]).toNat : Int) := by
  have h' : i < s.data.size := by simpa using h
  unfold bt
  rw [dif_pos (by simpa using h')]
  simp [ByteArray.getElem_eq_getElem_data]

def sign (c : UInt8) : Prop := plainI c.toNat = true ∨ c = 37
theorem hexD_sign (m : Nat) (h : m < 16) : plainI (hexD m).toNat = true := by
  have : ∀ m : Fin 16, plainI (hexD m.1).toNat = true := by decide
  exact this ⟨m, h⟩
theorem quoteB_sign (c : UInt8) : ∀ d ∈ quoteB c, sign d := by
  intro d hd
  unfold quoteB at hd
  have hl := UInt8.toNat_lt c
  split at hd
  · next h =>
    rw [List.mem_singleton.1 hd]
    exact .inl h
  · simp only [List.mem_cons, List.not_mem_nil, or_false] at hd
    rcases hd with rfl | rfl | rfl
    · exact .inr rfl
    · exact .inl (hexD_sign _ (by omega))
    · exact .inl (hexD_sign _ (by omega))
theorem quoteB_pos (c : UInt8) : 1 ≤ (quoteB c).length := by
  unfold quoteB
  split <;> simp

theorem data_app2 (s t : ByteArray) : (s ++ t).data.toList = s.data.toList ++ t.data.toList := by
  simp [ByteArray.data_append, Array.toList_append]
end Go.Proofs.YtocpfgdajomjiaaDoor.PureR
