import Derived.Test.YtocpfgdajomjiaaDoorHandText
/- Plain facts of words. -/
namespace Go.Proofs.YtocpfgdajomjiaaDoor.Pure
open Go.RowKit Go.Proofs.YtocpfgdajomjiaaDoor.Hand
theorem wg_words : ∀ (l cur : List UInt8), (∀ c ∈ cur, Hand.blank c = false) → ∀ x ∈ wordsGo cur l, x ≠ [] ∧ ∀ c ∈ x, Hand.blank c = false := by
  intro l
  induction l with
  | nil =>
    intro cur h x hx
    rw [wordsGo] at hx
    split at hx
    · simp at hx
    · next hc =>
      simp only [List.mem_singleton] at hx
      subst hx
      exact ⟨by simpa using hc, fun c hm => h c (by simpa using hm)⟩
  | cons c t ih =>
    intro cur h x hx
    rw [wordsGo] at hx
    split at hx
    · split at hx
      · exact ih [] (by simp) x hx
      · next hc =>
        rcases List.mem_cons.1 hx with e | e
        · subst e
          exact ⟨by simpa using hc, fun c hm => h c (by simpa using hm)⟩
        · exact ih [] (by simp) x e
    · next hb =>
      refine ih (c :: cur) (fun d hd => ?_) x hx
      rcases List.mem_cons.1 hd with e | e
      · subst e; simpa using hb
      · exact h d e
theorem wg_plain : ∀ (x cur : List UInt8), (∀ c ∈ x, Hand.blank c = false) → wordsGo cur x = if cur.reverse ++ x = [] then [] else [cur.reverse ++ x] := by
  intro x
  induction x with
  | nil =>
    intro cur _
    rw [wordsGo]
    simp
  | cons c t ih =>
    intro cur h
    rw [wordsGo, if_neg (by rw [h c (by simp)]; simp), ih _ (fun d hd => h d (by simp [hd]))]
    simp
theorem wg_app : ∀ (a cur b : List UInt8) (c : UInt8), Hand.blank c = true → wordsGo cur (a ++ c :: b) = wordsGo cur a ++ wordsGo [] b := by
  intro a
  induction a with
  | nil =>
    intro cur b c hc
    rw [List.nil_append, wordsGo.eq_2, if_pos hc, wordsGo.eq_1]
    split <;> simp
  | cons x t ih =>
    intro cur b c hc
    rw [List.cons_append, wordsGo, wordsGo]
    split
    · split
      · exact ih _ _ _ hc
      · rw [ih _ _ _ hc]; rfl
    · exact ih _ _ _ hc
theorem wg_join : ∀ ws : List (List UInt8), (∀ x ∈ ws, x ≠ [] ∧ ∀ c ∈ x, Hand.blank c = false) → wordsGo [] (Lib.join ws [32]) = ws := by
  intro ws
  induction ws with
  | nil => intro _; rfl
  | cons x r ih =>
    intro h
    have hx := h x (by simp)
    have e1 : wordsGo [] x = [x] := by
      rw [wg_plain x [] hx.2]
      simp [hx.1]
    cases r with
    | nil => rw [Lib.join_one]; exact e1
    | cons y r' =>
      have e : Lib.join (x :: y :: r') [32] = x ++ 32 :: Lib.join (y :: r') [32] := by
        simp [Lib.join, List.intercalate]
      rw [e, wg_app x [] _ 32 (by decide), e1, ih (fun z hz => h z (by simp [hz]))]
      rfl
theorem dw_idem {α : Type} (p : α → Bool) : ∀ l : List α, (l.dropWhile p).dropWhile p = l.dropWhile p := by
  intro l
  induction l with
  | nil => rfl
  | cons c t ih =>
    simp only [List.dropWhile_cons]
    split
    · exact ih
    · next h => rw [List.dropWhile_cons, if_neg h]
theorem dw_none {α : Type} (p : α → Bool) : ∀ l : List α, (∀ c ∈ l, p c = false) → l.dropWhile p = l := by
  intro l h
  cases l with
  | nil => rfl
  | cons c t => rw [List.dropWhile_cons, if_neg (by rw [h c (by simp)]; simp)]
theorem trimL_idem (l cs : List UInt8) : Lib.trimLeftS (Lib.trimLeftS l cs) cs = Lib.trimLeftS l cs := dw_idem _ _
theorem trimR_idem (l cs : List UInt8) : Lib.trimRightS (Lib.trimRightS l cs) cs = Lib.trimRightS l cs := by
  unfold Lib.trimRightS
  rw [List.reverse_reverse, dw_idem]
theorem trim_word (l : List UInt8) (h : ∀ c ∈ l, Hand.blank c = false) : Lib.trimS l [32, 9] = l := by
  have hb : ∀ c ∈ l, List.contains [32, 9] c = false := by
    intro c hc
    have := h c hc
    rw [Hand.blank] at this
    rw [← this, Bool.eq_iff_iff]
    simp
  unfold Lib.trimS Lib.trimRightS Lib.trimLeftS
  rw [dw_none _ l.reverse (fun c hc => hb c (by simpa using hc)), List.reverse_reverse]
  exact dw_none _ _ hb
theorem trimR_consW (c : UInt8) (t : List UInt8) : Lib.trimRightS (c :: t) [32, 9] = if Lib.trimRightS t [32, 9] = [] then (if Hand.blank c = true then [] else [c]) else c :: Lib.trimRightS t [32, 9] := by
  unfold Lib.trimRightS
  rw [List.reverse_cons, List.dropWhile_append]
  by_cases h : (List.dropWhile (fun x => List.contains [32, 9] x) t.reverse) = []
  · rw [h]
    simp only [List.isEmpty_nil, if_true, List.reverse_nil]
    rw [List.dropWhile_cons, contains_blank]
    by_cases hc : Hand.blank c = true
    · simp [hc]
    · simp [hc]
  · have h2 : (List.dropWhile (fun x => List.contains [32, 9] x) t.reverse).isEmpty = false := by
      cases hh : List.dropWhile (fun x => List.contains [32, 9] x) t.reverse with
      | nil => exact absurd hh h
      | cons => rfl
    rw [h2, if_neg (by simp), if_neg (by simpa using h), List.reverse_append]
    rfl
theorem trimL_consW (c : UInt8) (t : List UInt8) : Lib.trimLeftS (c :: t) [32, 9] = if Hand.blank c = true then Lib.trimLeftS t [32, 9] else c :: t := by
  unfold Lib.trimLeftS
  rw [List.dropWhile_cons, contains_blank]
theorem trim_commW (l : List UInt8) : Lib.trimLeftS (Lib.trimRightS l [32, 9]) [32, 9] = Lib.trimRightS (Lib.trimLeftS l [32, 9]) [32, 9] := by
  induction l with
  | nil => rfl
  | cons c t ih =>
    rw [trimR_consW, trimL_consW]
    by_cases hc : Hand.blank c = true
    · rw [if_pos hc, if_pos hc]
      by_cases h : Lib.trimRightS t [32, 9] = []
      · rw [if_pos h, ← ih, h]
      · rw [if_neg h, trimL_consW, if_pos hc, ih]
    · rw [if_neg hc, if_neg hc, trimR_consW, if_neg hc]
      by_cases h : Lib.trimRightS t [32, 9] = []
      · rw [if_pos h, trimL_consW, if_neg hc]
      · rw [if_neg h, trimL_consW, if_neg hc]

end Go.Proofs.YtocpfgdajomjiaaDoor.Pure
