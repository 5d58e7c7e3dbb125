import Derived.Test.YtajiidkmijeidaaDoorWholeP
/- FilesTimes, plain. -/
namespace Go.Proofs.YtajiidkmijeidaaDoor.Fr
open Go.RowKit Go.Proofs.YtajiidkmijeidaaDoor.F Go.Proofs.YtajiidkmijeidaaDoorW.PrintWords
set_option linter.unusedVariables false
set_option linter.unusedSimpArgs false
theorem stat_sz (T : TS) (q : ByteArray) : (statT T q).1 = ((textF T.l q).size : Int) := by
  unfold statT textF
  cases findF T.l q <;> rfl
theorem stat_le {n : Nat} {T : TS} (hI : Inv n T) (q : ByteArray) : 0 ≤ (statT T q).1 ∧ (statT T q).1 ≤ 1073741824 := by
  rw [stat_sz]
  have h1 := had_le T.l q
  have h2 := hI.good.used
  have h3 := hI.room
  omega
theorem stat_some {T : TS} {q : ByteArray} {f : Fl} (h : findF T.l q = some f) : statT T q = ((f.f1.size : Int), f.f2, 0) := by unfold statT; rw [h]
theorem write_err {T : TS} {st : Bool} {q s : ByteArray} (h : writeE T st q s ≠ 0) : writeT T st q s = T := by unfold writeT; rw [if_neg h]
theorem write_cases (T : TS) (st : Bool) (q s : ByteArray) : writeE T st q s = 0 ∨ writeE T st q s = 1 ∨ writeE T st q s = 3 ∨ writeE T st q s = 5 ∨ writeE T st q s = 6 := by
  unfold writeE
  split
  · simp
  · split
    · simp
    · split
      · simp
      · split <;> simp
theorem append_ok {n : Nat} {T : TS} (hI : Inv n T) {q s : ByteArray} (h : writeE T true q s = 0) : statT (writeT T true q s) q = ((statT T q).1 + s.size, T.clock + 1, 0) := by
  have e : (writeT T true q s).l = putF T.l ⟨q, textF T.l q ++ s, T.clock + 1⟩ := by
    rw [write_some h]
    rfl
  rw [stat_some (f := ⟨q, textF T.l q ++ s, T.clock + 1⟩) (by rw [e]; exact find_put hI.good.srt ⟨q, textF T.l q ++ s, T.clock + 1⟩), stat_sz]
  simp only [ByteArray.size_append]
  congr 1
theorem rename_stat {n : Nat} {T : TS} (hI : Inv n T) {a b : ByteArray} (h : renameE T a b = 0) : statT (renameT T a b) b = statT T a := by
  unfold renameE at h
  cases h1 : findF T.l a with
  | none => rw [h1] at h; simp at h
  | some f =>
    cases h2 : pathV b with
    | false => rw [h1, h2] at h; simp at h
    | true =>
      cases h3 : sameB a b with
      | true =>
        have e : a = b := ba_eq (eq_of_beq h3)
        subst e
        have : renameT T a a = T := by unfold renameT; rw [if_neg (by rw [h3]; simp)]
        rw [this]
      | false =>
        cases h4 : blockT T.l b a with
        | true => rw [h1, h2, h3, h4] at h; simp at h
        | false =>
          have e1 : renameT T a b = doneT T ⟨4, a, b, 0⟩ := rename_if ⟨by rw [h1]; rfl, h2, h3, h4⟩
          have el : (renameT T a b).l = putF (dropF T.l a) ⟨b, f.f1, f.f2⟩ := by rw [e1]; exact rename_after h1
          rw [stat_some h1, stat_some (f := ⟨b, f.f1, f.f2⟩) (by rw [el]; exact find_put (srt_drop hI.good.srt a) ⟨b, f.f1, f.f2⟩)]
theorem rename_clock (T : TS) (a b : ByteArray) : T.clock ≤ (renameT T a b).clock := by
  unfold renameT
  split
  · show T.clock ≤ T.clock + 1
    omega
  · exact Int.le_refl _
theorem write_clock {T : TS} {st : Bool} {q s : ByteArray} (h : writeE T st q s = 0) : (writeT T st q s).clock = T.clock + 1 := by rw [write_some h]; rfl
theorem acBox {W : World} {u : Nat} {a : Ac} (h : W.heap[u]? = some (.cells #[.int .i64 a.f0, .int .i64 a.f1, .int .i64 a.f2, .string a.f3, .string a.f4] 34)) :
    W.cell? ⟨u, 0, none⟩ = some (.int .i64 a.f0) ∧ W.cell? ⟨u, 1, none⟩ = some (.int .i64 a.f1) ∧ W.cell? ⟨u, 2, none⟩ = some (.int .i64 a.f2) ∧ W.cell? ⟨u, 3, none⟩ = some (.string a.f3) ∧ W.cell? ⟨u, 4, none⟩ = some (.string a.f4) :=
  ⟨cell_box h 0 rfl, cell_box h 1 rfl, cell_box h 2 rfl, cell_box h 3 rfl, cell_box h 4 rfl⟩
theorem inBox {W : World} {u : Nat} {s t : Int} (h : W.heap[u]? = some (.cells #[.int .i64 s, .int .i64 t] 46)) : W.cell? ⟨u, 0, none⟩ = some (.int .i64 s) ∧ W.cell? ⟨u, 1, none⟩ = some (.int .i64 t) :=
  ⟨cell_box h 0 rfl, cell_box h 1 rfl⟩
end Go.Proofs.YtajiidkmijeidaaDoor.Fr
