import Derived.Test.YtocpfgdajomjiaaDoorPureText
import Derived.Test.YtocpfgdajomjiaaDoorP3
namespace Go.Proofs.YtocpfgdajomjiaaDoor.Pure
open Go.RowKit Go.Proofs.YtocpfgdajomjiaaDoor.P Go.Proofs.YtocpfgdajomjiaaDoor.Hand Go.Proofs.YtocpfgdajomjiaaDoorW.PrintWords
set_option linter.unusedVariables false
set_option linter.unusedSimpArgs false

/-- The lines, a line feed behind each. -/
def glue (l : List (List UInt8)) : List UInt8 := l.flatMap (· ++ [10])
theorem glue_lines : ∀ (u cur : List UInt8), glue (linesGo cur u) = cur.reverse ++ u ∨ (glue (linesGo cur u) = cur.reverse ++ u ++ [10] ∧ (cur ≠ [] ∨ u ≠ [])) := by
  intro u
  induction u with
  | nil =>
    intro cur
    rw [linesGo]
    by_cases h : cur = []
    · left; simp [h, glue]
    · right; simp [h, glue]
  | cons c t ih =>
    intro cur
    by_cases h : c = 10
    · subst h
      rw [linesGo, if_pos rfl]
      rcases ih [] with e | ⟨e, hne⟩
      · left
        unfold glue at e ⊢
        rw [List.flatMap_cons, e]
        simp
      · right
        unfold glue at e ⊢
        rw [List.flatMap_cons, e]
        simp
    · rw [linesGo, if_neg h]
      rcases ih (c :: cur) with e | ⟨e, hne⟩
      · left; rw [e]; simp
      · right; rw [e]; simp
theorem lines_no : ∀ (u cur : List UInt8), (∀ c ∈ cur, c ≠ 10) → ∀ x ∈ linesGo cur u, ∀ c ∈ x, c ≠ 10 := by
  intro u
  induction u with
  | nil =>
    intro cur h x hx
    rw [linesGo] at hx
    split at hx
    · simp at hx
    · rw [List.mem_singleton.1 hx]
      intro c hc
      exact h c (List.mem_reverse.1 hc)
  | cons c t ih =>
    intro cur h x hx
    rw [linesGo] at hx
    split at hx
    · rcases List.mem_cons.1 hx with rfl | hx
      · intro c hc
        exact h c (List.mem_reverse.1 hc)
      · exact ih [] (by simp) x hx
    · next hne =>
      exact ih (c :: cur) (by intro d hd; rcases List.mem_cons.1 hd with rfl | hd; (· exact hne); (· exact h d hd)) x hx
def gl (l : List ByteArray) : List UInt8 := l.flatMap (·.data.toList ++ [10])
theorem gl_map (l : List (List UInt8)) : gl (l.map bytesOf) = glue l := by
  unfold gl glue
  rw [List.flatMap_map]
  rfl
theorem gl_take {l : List ByteArray} {i : Nat} (h : i < l.length) : gl (l.take (i + 1)) = gl (l.take i) ++ (l[i].data.toList ++ [10]) := by
  unfold gl
  rw [List.take_succ_eq_append_getElem h, List.flatMap_append]
  simp
theorem gl_le {l : List ByteArray} (i : Nat) : (gl (l.take i)).length ≤ (gl l).length := by
  have h : gl l = gl (l.take i) ++ gl (l.drop i) := by
    unfold gl
    rw [← List.flatMap_append, List.take_append_drop]
  rw [h, List.length_append]
  omega
theorem app_data (s t : ByteArray) : (s ++ t).data.toList = s.data.toList ++ t.data.toList := by rw [ByteArray.data_append, Array.toList_append]
theorem lines_l1 (s : ByteArray) (l : List ByteArray) (t : ByteArray) (i : Nat) (hi : i < l.length) (hno : ∀ c ∈ l[i].data.toList, c ≠ 10) (hsz : t.size + l[i].size ≤ 1000000) (hnext : Ev fun k => cooperagelaw1_TextLines.l0 k s l ((t ++ l[i]) ++ (⟨#[10]⟩ : ByteArray)) (wrap64 ((i : Int) + 1)) = some true) :
    ∀ (n j : Nat), j + n = l[i].data.toList.length → Ev fun k => cooperagelaw1_TextLines.l1 k s l t (i : Int) (j : Int) = some true := by
  have hl := len_data l[i]
  intro n
  induction n with
  | zero =>
    intro j hj
    refine Ev.up (hnext.mp fun k h => ?_)
    simp only [cooperagelaw1_TextLines.l1]
    rw [if_pos (by omega), if_pos (by omega), rdo hi, if_neg (by omega), if_pos (by omega), if_pos (by rw [ByteArray.size_append]; omega)]
    exact h
  | succ n ih =>
    intro j hj
    have hjl : j < l[i].data.toList.length := by omega
    have hb := hno _ (List.getElem_mem hjl)
    have hb2 : (l[i].data.toList[j]).toNat ≠ 10 := fun e => hb (UInt8.toNat_inj.1 e)
    refine Ev.up ((ih (j + 1) (by omega)).mp fun k h => ?_)
    simp only [cooperagelaw1_TextLines.l1]
    rw [if_pos (by omega), if_pos (by omega), rdo hi, if_pos (by omega), if_pos (by omega), bt_nat _ j hjl, if_neg (by omega), w64s j (by omega)]
    exact h
theorem lines_l0 (s : ByteArray) (l : List ByteArray) (hno : ∀ x ∈ l, ∀ c ∈ x.data.toList, c ≠ 10) (hgl : (gl l).length ≤ 100000) (hll : l.length ≤ 100000) (hs : s.size ≤ 100000) (hfin : gl l = s.data.toList ∨ (gl l = s.data.toList ++ [10] ∧ s.data.toList ≠ [])) :
    ∀ (n i : Nat) (t : ByteArray), i + n = l.length → t.data.toList = gl (l.take i) → Ev fun k => cooperagelaw1_TextLines.l0 k s l t (i : Int) = some true := by
  intro n
  induction n with
  | zero =>
    intro i t hi ht
    rw [List.take_of_length_le (by omega)] at ht
    refine Ev.up (Ev.of fun k => ?_)
    simp only [cooperagelaw1_TextLines.l0]
    rw [if_neg (by omega)]
    rcases hfin with h | ⟨h, hne⟩
    · rw [if_pos (by rw [tl, tl, ht, h])]
    · by_cases h2 : t.toList = s.toList
      · rw [if_pos h2]
      · rw [if_neg h2, if_pos (by omega), if_pos (by rw [tl, tl, ht, h, app_data]), tl]
        simp [hne]
  | succ n ih =>
    intro i t hi ht
    have hlt : i < l.length := by omega
    have hle := gl_le (l := l) (i + 1)
    have hstep := gl_take hlt
    have h1 : t.size + (l[i].size + 1) ≤ 100000 := by
      rw [hstep, List.length_append, ← ht, len_data, List.length_append, len_data] at hle
      simp at hle
      omega
    refine Ev.up ((lines_l1 s l t i hlt (hno _ (List.getElem_mem hlt)) (by omega) ?_ l[i].data.toList.length 0 (by omega)).mp fun k h => ?_)
    · rw [w64s i (by omega)]
      refine ih (i + 1) _ (by omega) ?_
      rw [app_data, app_data, ht, hstep, List.append_assoc]
    · simp only [cooperagelaw1_TextLines.l0]
      rw [if_pos (by omega)]
      exact h
theorem lines_ok (s : ByteArray) (h : s.size ≤ 100000) : text_Lines.f s = some (linesV s) := by
  unfold text_Lines.f
  rw [if_pos h]
theorem TextLines : ∀ (s : ByteArray), s.size ≤ 140737488351232 → ∃ k, cooperagelaw1_TextLines.f k s = some true := by
  intro s _
  by_cases hs : s.size ≤ 1000
  · have hll : (linesV s).length ≤ 100000 := by
      have := linesGo_len s.data.toList []
      rw [len_data] at this
      unfold linesV
      rw [List.length_map]
      omega
    have hglue := glue_lines s.data.toList []
    have hg : gl (linesV s) = glue (linesGo [] s.data.toList) := gl_map _
    have hfin : gl (linesV s) = s.data.toList ∨ (gl (linesV s) = s.data.toList ++ [10] ∧ s.data.toList ≠ []) := by
      rw [hg]
      rcases hglue with h | ⟨h, h2⟩
      · left; simpa using h
      · right
        refine ⟨by simpa using h, ?_⟩
        rcases h2 with h2 | h2
        · exact absurd rfl h2
        · exact h2
    have hgl : (gl (linesV s)).length ≤ 100000 := by
      rcases hfin with h | ⟨h, _⟩
      · rw [h, len_data]; omega
      · rw [h, List.length_append, len_data]; simp; omega
    have hno : ∀ x ∈ linesV s, ∀ c ∈ x.data.toList, c ≠ 10 := by
      intro x hx
      obtain ⟨y, hy, rfl⟩ := List.mem_map.1 hx
      exact lines_no s.data.toList [] (by simp) y hy
    have hj : Ev fun k => cooperagelaw1_TextLines.j0 k s true false = some true := by
      refine Ev.up ((lines_l0 s (linesV s) hno hgl hll (by omega) hfin (linesV s).length 0 ⟨#[]⟩ (by omega) (by simp [gl])).mp fun k h => ?_)
      simp only [cooperagelaw1_TextLines.j0]
      rw [if_neg (by decide), lines_ok s (by omega), Option.bind_some]
      exact h
    refine ((shown_f.and hj).mp fun k h => ?_).get
    unfold cooperagelaw1_TextLines.f
    rw [h.1, Option.bind_some, if_pos rfl, show decide ((s.size : Int) > 1000) = false from decide_eq_false (by omega)]
    exact h.2
  · have hj : Ev fun k => cooperagelaw1_TextLines.j0 k s true true = some true := by
      refine Ev.up (Ev.of fun k => ?_)
      simp only [cooperagelaw1_TextLines.j0]
      rw [if_pos trivial]
    refine ((shown_f.and hj).mp fun k h => ?_).get
    unfold cooperagelaw1_TextLines.f
    rw [h.1, Option.bind_some, if_pos rfl, show decide ((s.size : Int) > 1000) = true from decide_eq_true (by omega)]
    exact h.2
end Go.Proofs.YtocpfgdajomjiaaDoor.Pure
