import Derived.Test.YtocpfgdajomjiaaDoorPureText
import Derived.Test.YtocpfgdajomjiaaDoorWd
import Derived.Test.YtocpfgdajomjiaaDoorP11
namespace Go.Proofs.YtocpfgdajomjiaaDoor.Pure
open Go.RowKit Go.Proofs.YtocpfgdajomjiaaDoor.P Go.Proofs.YtocpfgdajomjiaaDoor.Hand Go.Proofs.YtocpfgdajomjiaaDoorW.PrintWords
set_option linter.unusedVariables false
set_option linter.unusedSimpArgs false
theorem data_bytes (l : List UInt8) : (Hand.bytesOf l).data.toList = l := rfl
theorem words_ok (s : ByteArray) (h : s.size ≤ 100000) : text_Words.f s = some (wordsV s) := by
  unfold text_Words.f
  rw [if_pos h]
theorem trim_ok (s : ByteArray) (h : s.size ≤ 100000) : text_Trim.f s = some (trimV s) := by
  unfold text_Trim.f
  rw [if_pos h]
theorem wordsV_mem (s : ByteArray) : ∀ x ∈ wordsV s, x.data.toList ≠ [] ∧ ∀ c ∈ x.data.toList, Hand.blank c = false := by
  intro x hx
  obtain ⟨y, hy, rfl⟩ := List.mem_map.1 hx
  rw [data_bytes]
  exact wg_words _ [] (by simp) y hy
theorem wordsV_word (x : ByteArray) (h : x.data.toList ≠ [] ∧ ∀ c ∈ x.data.toList, Hand.blank c = false) : wordsV x = [x] := by
  have e := wg_plain x.data.toList [] h.2
  simp [h.1] at e
  unfold wordsV
  rw [e]
  rfl
theorem wordsV_join (ws : List ByteArray) (h : ∀ x ∈ ws, x.data.toList ≠ [] ∧ ∀ c ∈ x.data.toList, Hand.blank c = false) : wordsV (joinV ws) = ws := by
  unfold wordsV joinV
  have := wg_join (ws.map (·.data.toList)) (by
    intro x hx
    obtain ⟨y, hy, rfl⟩ := List.mem_map.1 hx
    exact h y hy)
  show (wordsGo [] (Lib.join (ws.map (·.data.toList)) [32])).map Hand.bytesOf = ws
  rw [this, List.map_map]
  have : (Hand.bytesOf ∘ fun x : ByteArray => x.data.toList) = id := by
    funext x
    exact tl_inj (by rw [tl, tl]; rfl)
  rw [this, List.map_id]
theorem wordsV_app (s t : ByteArray) : wordsV ((s ++ (⟨#[32]⟩ : ByteArray)) ++ t) = wordsV s ++ wordsV t := by
  unfold wordsV
  have e : ((s ++ (⟨#[32]⟩ : ByteArray)) ++ t).data.toList = s.data.toList ++ 32 :: t.data.toList := by
    simp [ByteArray.data_append, Array.toList_append]
  rw [e, wg_app _ _ _ 32 (by decide), List.map_append]
theorem trimV_word (x : ByteArray) (h : ∀ c ∈ x.data.toList, Hand.blank c = false) : trimV x = x := by
  apply tl_inj
  rw [tl, tl]
  exact trim_word _ h
theorem trimS_idem (l : List UInt8) : Lib.trimS (Lib.trimS l [32, 9]) [32, 9] = Lib.trimS l [32, 9] := by
  unfold Lib.trimS
  have hc : ∀ l, Lib.trimLeftS (Lib.trimRightS l [32, 9]) [32, 9] = Lib.trimRightS (Lib.trimLeftS l [32, 9]) [32, 9] := trim_commW
  rw [hc (Lib.trimLeftS _ _), trimL_idem, hc, trimR_idem]
theorem trimV_idem (s : ByteArray) : trimV (trimV s) = trimV s := by
  apply tl_inj
  rw [tl, tl]
  exact trimS_idem _
theorem trimV_size (s : ByteArray) : (trimV s).size ≤ s.size := by
  rw [← len_data, ← len_data]
  show (Lib.trimS s.data.toList [32, 9]).length ≤ _
  unfold Lib.trimS Lib.trimLeftS Lib.trimRightS
  refine Nat.le_trans (List.dropWhile_sublist _).length_le ?_
  rw [List.length_reverse]
  refine Nat.le_trans (List.dropWhile_sublist _).length_le ?_
  rw [List.length_reverse]
  exact Nat.le_refl _
theorem wg_size : ∀ (l cur : List UInt8), ((wordsGo cur l).map List.length).sum ≤ cur.length + l.length ∧ (Lib.join (wordsGo cur l) [32]).length ≤ cur.length + l.length := by
  intro l
  induction l with
  | nil =>
    intro cur
    rw [wordsGo]
    split
    · simp [Lib.join, List.intercalate]
    · simp [Lib.join, List.intercalate]
  | cons c t ih =>
    intro cur
    rw [wordsGo]
    split
    · split
      · have := ih []
        simp only [List.length_cons, List.length_nil] at this ⊢
        omega
      · have := ih []
        cases hw : wordsGo [] t with
        | nil => simp [Lib.join, List.intercalate]; try omega
        | cons y r =>
          have e : Lib.join (cur.reverse :: y :: r) [32] = cur.reverse ++ 32 :: Lib.join (y :: r) [32] := by
            simp [Lib.join, List.intercalate]
          rw [e]
          rw [hw] at this
          simp only [List.length_cons, List.length_nil, List.map_cons, List.sum_cons, List.length_append, List.length_reverse] at this ⊢
          omega
    · have := ih (c :: cur)
      simp only [List.length_cons] at this ⊢
      omega
theorem joinV_size (s : ByteArray) : (joinV (wordsV s)).size ≤ s.size := by
  rw [← len_data, ← len_data]
  show (Lib.join ((wordsV s).map (·.data.toList)) [32]).length ≤ _
  have e : (wordsV s).map (·.data.toList) = wordsGo [] s.data.toList := by
    unfold wordsV
    rw [List.map_map]
    exact List.map_id _
  rw [e]
  have := (wg_size s.data.toList []).2
  simpa using this
theorem wordsV_len (s : ByteArray) : (wordsV s).length ≤ s.size + 1 := by
  have := wordsGo_len s.data.toList []
  rw [len_data] at this
  unfold wordsV
  rw [List.length_map]
  omega
theorem mem_sum {l : List Nat} {n : Nat} (h : n ∈ l) : n ≤ l.sum := by
  induction l with
  | nil => simp at h
  | cons a t ih =>
    rw [List.sum_cons]
    rcases List.mem_cons.1 h with e | e
    · omega
    · have := ih e
      omega
theorem wordsV_size (s : ByteArray) : ∀ x ∈ wordsV s, x.size ≤ s.size := by
  intro x hx
  obtain ⟨y, hy, rfl⟩ := List.mem_map.1 hx
  have h1 := (wg_size s.data.toList []).1
  have h2 : y.length ≤ ((wordsGo [] s.data.toList).map List.length).sum := mem_sum (List.mem_map_of_mem hy)
  rw [← len_data, ← len_data, data_bytes]
  simp only [List.length_nil, Nat.zero_add] at h1
  omega
theorem words_end (s t : ByteArray) (hs : s.size ≤ 500) (ht : t.size ≤ 500) : ∀ (n i : Nat), i + n = (wordsV s).length → Ev fun k => cooperagelaw1_TextWords.l0 k s t (wordsV s) (i : Int) = some true := by
  have hw := wordsV_mem s
  have hl := wordsV_len s
  have hz := wordsV_size s
  have hlt := wordsV_len t
  intro n
  induction n with
  | zero =>
    intro i hi
    have hj : text_Join.f (wordsV s) = some (joinV (wordsV s)) := by
      unfold text_Join.f
      rw [if_pos ⟨by omega, by have := joinV_size s; omega⟩]
    have hjs := joinV_size s
    refine Ev.up (((same_f (wordsV s) (by omega)).and (same_f (wordsV s ++ wordsV t) (by rw [List.length_append]; omega))).mp fun k hk => ?_)
    have hsz : ((s ++ (⟨#[32]⟩ : ByteArray)) ++ t).size ≤ 100000 := by
      rw [ByteArray.size_append, ByteArray.size_append]
      show s.size + 1 + t.size ≤ 100000
      omega
    simp only [cooperagelaw1_TextWords.l0]
    rw [if_neg (by omega), hj, Option.bind_some, words_ok _ (by omega), Option.bind_some, wordsV_join _ hw, hk.1, Option.bind_some, if_pos rfl, if_pos (by omega),
      if_pos (by rw [ByteArray.size_append]; show s.size + 1 + t.size ≤ _; omega), words_ok _ hsz, Option.bind_some, wordsV_app, Option.bind_some, if_pos (by simp only [List.length_nil]; omega), Option.bind_some,
      words_ok t (by omega), Option.bind_some, if_pos (by rw [List.nil_append]; omega), List.nil_append, hk.2, Option.bind_some, if_pos rfl, trim_ok s (by omega), Option.bind_some,
      trim_ok _ (by have := trimV_size s; omega), Option.bind_some, Option.bind_some, trimV_idem, beq_self_eq_true]
  | succ n ih =>
    intro i hi
    have hlt' : i < (wordsV s).length := by omega
    have hr := rdo hlt'
    have hm := hw _ (List.getElem_mem hlt')
    have hsz := hz _ (List.getElem_mem hlt')
    refine Ev.up ((ih (i + 1) (by omega)).mp fun k hk => ?_)
    simp only [cooperagelaw1_TextWords.l0]
    rw [if_pos (by omega), if_pos (by omega), hr, if_neg (by rw [tl]; exact hm.1), trim_ok _ (by omega), Option.bind_some, trimV_word _ hm.2, if_pos rfl, words_ok _ (by omega), Option.bind_some,
      wordsV_word _ hm, if_pos (by simp), w64s i (by omega)]
    exact hk
theorem TextWords : ∀ (s : ByteArray), s.size ≤ 140737488351232 → ∀ (t : ByteArray), t.size ≤ 140737488351232 → ∃ k, cooperagelaw1_TextWords.f k s t = some true := by
  intro s _ t _
  have hj : ∀ b, (b = false → s.size ≤ 500 ∧ t.size ≤ 500) → Ev fun k => cooperagelaw1_TextWords.j0 k s t true b = some true := by
    intro b hb
    cases b with
    | true =>
      refine Ev.up (Ev.of fun k => ?_)
      simp only [cooperagelaw1_TextWords.j0]
      rw [if_pos trivial]
    | false =>
      obtain ⟨h1, h2⟩ := hb rfl
      refine Ev.up ((words_end s t h1 h2 _ 0 (Nat.zero_add _)).mp fun k hk => ?_)
      simp only [cooperagelaw1_TextWords.j0]
      rw [if_neg (by decide), words_ok _ (by omega), Option.bind_some]
      exact hk
  by_cases h1 : s.size ≤ 500
  · by_cases h2 : t.size ≤ 500
    · refine ((shown_f.and (hj false fun _ => ⟨h1, h2⟩)).mp fun k h => ?_).get
      unfold cooperagelaw1_TextWords.f
      rw [h.1, Option.bind_some, if_pos rfl, if_neg (by omega), show decide ((t.size : Int) > 500) = false from decide_eq_false (by omega)]
      exact h.2
    · refine ((shown_f.and (hj true (by simp))).mp fun k h => ?_).get
      unfold cooperagelaw1_TextWords.f
      rw [h.1, Option.bind_some, if_pos rfl, if_neg (by omega), show decide ((t.size : Int) > 500) = true from decide_eq_true (by omega)]
      exact h.2
  · refine ((shown_f.and (hj true (by simp))).mp fun k h => ?_).get
    unfold cooperagelaw1_TextWords.f
    rw [h.1, Option.bind_some, if_pos rfl, if_pos (by omega)]
    exact h.2
end Go.Proofs.YtocpfgdajomjiaaDoor.Pure
