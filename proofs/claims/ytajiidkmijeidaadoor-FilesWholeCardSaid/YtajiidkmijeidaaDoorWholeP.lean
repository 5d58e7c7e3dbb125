import Derived.Test.YtajiidkmijeidaaDoorWays
/- FilesWhole, plain. -/
namespace Go.Proofs.YtajiidkmijeidaaDoor.Fr
open Go.RowKit Go.Proofs.YtajiidkmijeidaaDoor.F Go.Proofs.YtajiidkmijeidaaDoorW.PrintWords
set_option linter.unusedVariables false
set_option linter.unusedSimpArgs false
def ownB : ByteArray := ⟨#[111, 119, 110]⟩
def besB : ByteArray := ⟨#[98, 101, 115, 105, 100, 101]⟩
theorem own_path : pathV ownB = true := by kernel_rfl
theorem bes_own : sameB besB ownB = false := by kernel_rfl
theorem bes_ne : besB ≠ ownB := same_ne bes_own
theorem write_some {T : TS} {stays : Bool} {q s : ByteArray} (h : writeE T stays q s = 0) : writeT T stays q s = doneT T (writeC T stays q s) := by
  unfold writeT
  rw [if_pos h]
theorem write_l {T : TS} {q s : ByteArray} (h : writeE T false q s = 0) : (writeT T false q s).l = putF T.l ⟨q, s, T.clock + 1⟩ := by
  rw [write_some h]
  rfl
theorem read_some {T : TS} {q : ByteArray} {f : Fl} (h : findF T.l q = some f) : readT T q = (f.f1, 0) := by unfold readT; rw [h]
theorem read_none {T : TS} {q : ByteArray} (h : findF T.l q = none) : readT T q = (⟨#[]⟩, 4) := by unfold readT; rw [h]
section
variable {n : Nat} {T : TS} {old text : ByteArray}
theorem whole_rename (hI : Inv n T) (h2 : writeE T false ownB old = 0) (h4 : writeE (syncT (writeT T false ownB old)) false besB text = 0) :
    renameE (writeT (syncT (writeT T false ownB old)) false besB text) besB ownB = 0 ∧
    renameT (writeT (syncT (writeT T false ownB old)) false besB text) besB ownB = doneT (writeT (syncT (writeT T false ownB old)) false besB text) ⟨4, besB, ownB, 0⟩ := by
  have hI2 : Good T.room (writeT T false ownB old).l := by
    rw [write_some h2]
    unfold writeE at h2
    have h3 := writeE_zero (T := T) (stays := false) (q := ownB) (s := old) h2
    have hx := hI.good
    have := (inv_write hI false (q := ownB) (s := old) (by
      have := h3.2.1
      unfold sizeT at this
      simp at this
      omega)).good
    rw [write_some h2] at this
    exact this
  obtain ⟨_, _, b3, _⟩ := writeE_zero h2
  have el : (writeT (syncT (writeT T false ownB old)) false besB text).l = putF (writeT T false ownB old).l ⟨besB, text, (writeT T false ownB old).clock + 1⟩ := write_l h4
  have hf : findF (writeT (syncT (writeT T false ownB old)) false besB text).l besB = some ⟨besB, text, (writeT T false ownB old).clock + 1⟩ := by
    rw [el]
    exact find_put hI2.srt ⟨besB, text, (writeT T false ownB old).clock + 1⟩
  have hb : blockT (writeT (syncT (writeT T false ownB old)) false besB text).l ownB besB = false := by
    refine block_false fun g hg => ?_
    rw [el] at hg
    unfold testB
    rcases mem_put.1 hg with rfl | ⟨hg, hg2⟩
    · have : sameB besB besB = true := by unfold sameB; simp
      simp only [this, Bool.not_true, Bool.false_and]
    · rw [write_l h2] at hg
      rcases mem_put.1 hg with rfl | ⟨hg, hg3⟩
      · simp only [way_self, Bool.or_self, Bool.and_false]
      · obtain ⟨w1, w2⟩ := block_all b3 hg (path_ne (hI.good.pth g hg))
        rw [w1, w2]
        simp
  have hc : (findF (writeT (syncT (writeT T false ownB old)) false besB text).l besB).isSome = true ∧ pathV ownB = true ∧ sameB besB ownB = false ∧ blockT (writeT (syncT (writeT T false ownB old)) false besB text).l ownB besB = false := ⟨by rw [hf]; rfl, own_path, bes_own, hb⟩
  refine ⟨?_, rename_if hc⟩
  unfold renameE
  rw [if_neg (by rw [hc.1]; decide), if_neg (by rw [own_path]; decide), bes_own, if_neg (by decide), if_neg (by rw [hb]; decide)]
end
/-- The files behind the crash. -/
theorem whole_end {n : Nat} {T : TS} {old text : ByteArray} (hI : Inv n T) (hs : old.size ≤ 1000000000) (ht : text.size ≤ 1000000000) (hb : findF T.l besB = none) (h2 : writeE T false ownB old = 0) (h4 : writeE (syncT (writeT T false ownB old)) false besB text = 0) (many part : Int) :
    (renameT (writeT (syncT (writeT T false ownB old)) false besB text) besB ownB).ch.length = 2 ∧
    readT (crashT (renameT (writeT (syncT (writeT T false ownB old)) false besB text) besB ownB) many part) ownB = (if 2 ≤ many then text else old, 0) ∧
    (readT (crashT (renameT (writeT (syncT (writeT T false ownB old)) false besB text) besB ownB) many part) besB).2 = if 2 ≤ many then 4 else if many = 1 ∨ 1 ≤ part then 0 else 4 := by
  obtain ⟨_, e5⟩ := whole_rename hI h2 h4
  have hI2 := inv_write hI false (q := ownB) (s := old) hs
  have hs2 := hI2.good.srt
  have el2 := write_l h2
  obtain ⟨T2, hT2⟩ : ∃ T2, T2 = writeT T false ownB old := ⟨_, rfl⟩
  rw [← hT2] at e5 h4 hI2 hs2 el2 ⊢
  have hI3 : Inv (n + 1) (syncT T2) := inv_sync hI2.room hI2.clock hI2.good
  have hI4 := inv_write hI3 false (q := besB) (s := text) ht
  have el4 : (writeT (syncT T2) false besB text).l = putF T2.l ⟨besB, text, T2.clock + 1⟩ := write_l h4
  have e4 : writeT (syncT T2) false besB text = doneT (syncT T2) ⟨1, besB, text, T2.clock + 1⟩ := write_some h4
  have fo : findF T2.l ownB = some ⟨ownB, old, T.clock + 1⟩ := by rw [el2]; exact find_put hI.good.srt ⟨ownB, old, T.clock + 1⟩
  have fb : findF T2.l besB = none := by rw [el2, find_put_ne hI.good.srt _ (by exact bes_ne)]; exact hb
  have go : ∀ s t, findF (putF T2.l ⟨besB, s, t⟩) ownB = some ⟨ownB, old, T.clock + 1⟩ := fun s t => by rw [find_put_ne hs2 _ (by exact Ne.symm bes_ne)]; exact fo
  have gb : ∀ s t, findF (putF T2.l ⟨besB, s, t⟩) besB = some ⟨besB, s, t⟩ := fun s t => find_put hs2 ⟨besB, s, t⟩
  have hch : (doneT (writeT (syncT T2) false besB text) ⟨4, besB, ownB, 0⟩).ch = [⟨1, besB, text, T2.clock + 1⟩, ⟨4, besB, ownB, 0⟩] := by rw [e4]; rfl
  have hla : (doneT (writeT (syncT T2) false besB text) ⟨4, besB, ownB, 0⟩).last = T2.l := by rw [e4]; rfl
  rw [e5]
  refine ⟨by rw [hch]; rfl, ?_⟩
  obtain ⟨T5, hT5⟩ : ∃ T5, T5 = doneT (writeT (syncT T2) false besB text) ⟨4, besB, ownB, 0⟩ := ⟨_, rfl⟩
  have hl5 : T5.l = putF (dropF (putF T2.l ⟨besB, text, T2.clock + 1⟩) besB) ⟨ownB, text, T2.clock + 1⟩ := by
    rw [hT5]
    have := rename_after (T := writeT (syncT T2) false besB text) (a := besB) (b := ownB) (f := ⟨besB, text, T2.clock + 1⟩) (by rw [el4]; exact gb _ _)
    rw [el4] at this
    show afterF (writeT (syncT T2) false besB text).l ⟨4, besB, ownB, 0⟩ = _
    rw [el4]
    exact this
  have hfold : foldF T2.l [⟨1, besB, text, T2.clock + 1⟩, ⟨4, besB, ownB, 0⟩] = T5.l := by
    rw [hT5, e4]
    rfl
  rw [← hT5] at hch hla ⊢
  have hcr : (crashT T5 many part).l = crashL T5 many part := rfl
  by_cases m2 : 2 ≤ many
  · have hk : keptN many 2 = 2 := by unfold keptN; omega
    have e : crashL T5 many part = T5.l := by
      unfold crashL
      rw [hch, hla]
      simp only [List.length_cons, List.length_nil, Nat.zero_add, Nat.reduceAdd, hk]
      exact hfold
    rw [if_pos m2, if_pos m2]
    have hsd : Srt (dropF (putF T2.l ⟨besB, text, T2.clock + 1⟩) besB) := srt_drop (srt_put hs2 _) _
    constructor
    · refine read_some (f := ⟨ownB, text, T2.clock + 1⟩) ?_
      rw [hcr, e, hl5]
      exact find_put hsd ⟨ownB, text, T2.clock + 1⟩
    · rw [read_none]
      rw [hcr, e, hl5, find_put_ne hsd _ (by exact bes_ne)]
      exact find_drop _ _
  · rw [if_neg m2, if_neg m2]
    by_cases m1 : many = 1
    · have hk : keptN many 2 = 1 := by unfold keptN; omega
      have e : crashL T5 many part = putF T2.l ⟨besB, text, T2.clock + 1⟩ := by
        unfold crashL
        rw [hch, hla]
        simp only [List.length_cons, List.length_nil, Nat.zero_add, Nat.reduceAdd, hk]
        rfl
      rw [if_pos (.inl m1)]
      exact ⟨read_some (f := ⟨ownB, old, T.clock + 1⟩) (by rw [hcr, e]; exact go _ _), by rw [read_some (f := ⟨besB, text, T2.clock + 1⟩) (by rw [hcr, e]; exact gb _ _)]⟩
    · have hk : keptN many 2 = 0 := by unfold keptN; omega
      by_cases hp : 1 ≤ part
      · have e : crashL T5 many part = putF T2.l ⟨besB, cutS text part, T2.clock + 1⟩ := by
          unfold crashL
          rw [hch, hla]
          simp only [List.length_cons, List.length_nil, Nat.zero_add, Nat.reduceAdd, hk]
          show (if (1 : Int) ≤ 2 ∧ 1 ≤ part then _ else _) = _
          rw [if_pos ⟨by decide, hp⟩]
          rfl
        rw [if_pos (.inr hp)]
        exact ⟨read_some (f := ⟨ownB, old, T.clock + 1⟩) (by rw [hcr, e]; exact go _ _), by rw [read_some (f := ⟨besB, cutS text part, T2.clock + 1⟩) (by rw [hcr, e]; exact gb _ _)]⟩
      · have e : crashL T5 many part = T2.l := by
          unfold crashL
          rw [hch, hla]
          simp only [List.length_cons, List.length_nil, Nat.zero_add, Nat.reduceAdd, hk]
          show (if (1 : Int) ≤ 2 ∧ 1 ≤ part then _ else _) = _
          rw [if_neg (fun h => hp h.2)]
          rfl
        rw [if_neg (fun h => h.elim m1 hp)]
        exact ⟨read_some (f := ⟨ownB, old, T.clock + 1⟩) (by rw [hcr, e]; exact fo), by rw [read_none (by rw [hcr, e]; exact fb)]⟩
theorem lit_ne {a : ByteArray} (l : List UInt8) (h : ¬ a = ⟨l.toArray⟩) : (a.toList == l) = false ∧ ¬ a.toList = l := by
  have h2 : ¬ a.toList = l := fun e => by
    rw [ByteArray.toList_eq] at e
    exact h (ba_eq (by rw [e]))
  refine ⟨?_, h2⟩
  cases e : a.toList == l with
  | false => rfl
  | true => exact absurd (eq_of_beq e) h2
end Go.Proofs.YtajiidkmijeidaaDoor.Fr
