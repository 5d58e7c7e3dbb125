import Derived.Test.YtajiidkmijeidaaDoorWays
/- FilesWays, plain. -/
namespace Go.Proofs.YtajiidkmijeidaaDoor.Fr
open Go.RowKit Go.Proofs.YtajiidkmijeidaaDoor.F Go.Proofs.YtajiidkmijeidaaDoorW.PrintWords
set_option linter.unusedVariables false
set_option linter.unusedSimpArgs false
theorem act_room (T : TS) (a : Ac) : (actT T a).room = T.room := by
  have w1 : ∀ s q t, (writeT T s q t).room = T.room := fun s q t => by unfold writeT; split <;> rfl
  unfold actT
  simp only
  split
  · exact w1 _ _ _
  · split
    · exact w1 _ _ _
    · split
      · unfold removeT; split <;> rfl
      · split
        · unfold renameT; split <;> rfl
        · split <;> rfl
theorem used_take (l : List Fl) (j : Nat) (h : j < l.length) : usedF (l.take (j + 1)) = usedF (l.take j) + l[j].f1.size := by
  unfold usedF
  rw [List.take_succ_eq_append_getElem h, List.map_append, List.sum_append]
  simp
theorem used_take_le (l : List Fl) (j : Nat) : usedF (l.take j) ≤ usedF l := by
  have : usedF l = usedF (l.take j) + usedF (l.drop j) := by
    conv => lhs; rw [← List.take_append_drop j l]
    unfold usedF
    rw [List.map_append, List.sum_append]
  omega
theorem srt_next {l : List Fl} (h : Srt l) {j : Nat} (hj : j < l.length) : ∀ (j' : Nat) (h' : j' + 1 = j), ltB (l[j']'(by omega)).f0 l[j].f0 = true := by
  intro j' h'
  subst h'
  exact List.pairwise_iff_getElem.1 h j' (j' + 1) (by omega) hj (by omega)
theorem cut_ne {a b : ByteArray} (h : wayF a b = false) : ((b.extract 0 (a ++ (⟨#[47]⟩ : ByteArray)).size).toList == (a ++ (⟨#[47]⟩ : ByteArray)).toList) = false := by
  rw [ByteArray.toList_eq, ByteArray.toList_eq]
  cases e : (b.extract 0 (a ++ (⟨#[47]⟩ : ByteArray)).size).data.toList == (a ++ (⟨#[47]⟩ : ByteArray)).data.toList with
  | false => rfl
  | true =>
    have e := eq_of_beq e
    have e2 : (a ++ (⟨#[47]⟩ : ByteArray)).data.toList = a.data.toList ++ [47] := by rw [ByteArray.data_append, Array.toList_append]
    rw [e2] at e
    unfold wayF at h
    have : (a.data.toList ++ [47]).isPrefixOf b.data.toList = true := by
      rw [List.isPrefixOf_iff_prefix, ← e, Lib.extract_data, List.drop_zero]
      exact List.take_prefix _ _
    rw [this] at h
    cases h
theorem beq_ne {a b : List UInt8} (h : (a == b) = false) : ¬ a = b := fun e => by
  subst e
  simp at h
theorem lt_leq {a b : ByteArray} (h : ltB a b = true) : Op.bytesLess b.toList a.toList = false ∧ (b.toList == a.toList) = false := by
  rw [less_before, ByteArray.toList_eq, ByteArray.toList_eq]
  constructor
  · cases e : bytesBefore b.data.toList a.data.toList with
    | false => rfl
    | true => exact absurd (ltB_trans h e) (ltB_irrefl _)
  · cases e : b.data.toList == a.data.toList with
    | false => rfl
    | true =>
      have e2 := ba_eq (eq_of_beq e)
      rw [e2] at h
      exact absurd h (ltB_irrefl _)
end Go.Proofs.YtajiidkmijeidaaDoor.Fr
