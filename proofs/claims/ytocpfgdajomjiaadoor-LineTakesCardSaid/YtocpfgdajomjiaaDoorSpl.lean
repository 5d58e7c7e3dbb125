import Derived.Lib.SplitLaws
open Go
namespace Go.Proofs.YtocpfgdajomjiaaDoor.Spl
/-- A list of bytes, cut at each byte c. -/
def splG (c : UInt8) (cur : List UInt8) : List UInt8 → List (List UInt8)
  | [] => [cur.reverse]
  | b :: t => if b = c then cur.reverse :: splG c [] t else splG c (b :: cur) t
theorem splG_app (c : UInt8) (b : List UInt8) : ∀ a cur : List UInt8, splG c cur (a ++ c :: b) = splG c cur a ++ splG c [] b := by
  intro a
  induction a with
  | nil => intro cur; simp [splG]
  | cons x t ih =>
    intro cur
    simp only [List.cons_append, splG]
    split
    · rw [ih]; rfl
    · exact ih _
theorem splG_len (c : UInt8) : ∀ a cur : List UInt8, (splG c cur a).length = a.count c + 1 := by
  intro a
  induction a with
  | nil => intro cur; rfl
  | cons x t ih =>
    intro cur
    simp only [splG]
    split
    · next h => subst h; rw [List.length_cons, ih, List.count_cons_self]
    · next h => rw [ih, List.count_cons_of_ne (by simpa using h)]
theorem splG_none (c : UInt8) : ∀ a cur : List UInt8, (∀ x ∈ a, x ≠ c) → splG c cur a = [cur.reverse ++ a] := by
  intro a
  induction a with
  | nil => intro cur _; simp [splG]
  | cons x t ih =>
    intro cur h
    rw [splG, if_neg (h x (by simp)), ih _ (fun y hy => h y (by simp [hy]))]
    simp
theorem splG_cur (c : UInt8) : ∀ a cur : List UInt8, ∃ h r, splG c [] a = h :: r ∧ splG c cur a = (cur.reverse ++ h) :: r := by
  intro a
  induction a with
  | nil => intro cur; exact ⟨[], [], rfl, by simp [splG]⟩
  | cons x t ih =>
    intro cur
    simp only [splG]
    split
    · exact ⟨[], splG c [] t, rfl, by simp⟩
    · obtain ⟨h, r, e1, e2⟩ := ih [x]
      obtain ⟨h', r', e1', e2'⟩ := ih (x :: cur)
      rw [e1] at e1'
      injection e1' with q1 q2
      subst q1 q2
      exact ⟨_, _, e2, by rw [e2']; simp⟩
theorem splitK_G (c : UInt8) : ∀ l : List UInt8, Lib.splitK [c] 0 (Lib.count l [c]) l = splG c [] l := by
  intro l
  induction l with
  | nil => rw [Lib.count_miss (by simp [Lib.index])]; rfl
  | cons b t ih =>
    by_cases h : b = c
    · subst h
      have hix : Lib.index (b :: t) [b] = ((0 : Nat) : Int) := by rw [Lib.index]; simp [List.isPrefixOf]
      rw [Lib.count_cons_eq, Nat.add_comm, Lib.splitK, hix]
      simp only [splG, if_true]
      rw [if_neg (by decide)]
      simpa using ih
    · rw [Lib.count_cons_ne b c t h, splG, if_neg h]
      obtain ⟨h1, r1, e1, e2⟩ := splG_cur c t [b]
      rw [e2]
      have hp : ([c] : List UInt8).isPrefixOf (b :: t) = false := by simp [List.isPrefixOf, Ne.symm h]
      have hix : Lib.index (b :: t) [c] = if Lib.index t [c] == -1 then -1 else Lib.index t [c] + 1 := by rw [Lib.index, hp]; simp
      rw [e1] at ih
      by_cases hm : Lib.index t [c] = -1
      · rw [Lib.count_miss hm] at ih ⊢
        simp only [Lib.splitK] at ih ⊢
        injection ih with q1 q2
        subst q1 q2
        simp
      · have hge := Lib.index_ge t [c]
        obtain ⟨j, hj⟩ : ∃ j : Nat, Lib.index t [c] = j := ⟨(Lib.index t [c]).toNat, by omega⟩
        have hix' : Lib.index (b :: t) [c] = ((j + 1 : Nat) : Int) := by rw [hix, if_neg (fun e => hm (beq_iff_eq.1 e)), hj]; omega
        rw [Lib.count_hit (by simp) hj, Nat.add_comm, Lib.splitK] at ih ⊢
        rw [hj, if_neg (by simp)] at ih
        rw [hix', if_neg (by simp; omega)]
        injection ih with q1 q2
        simp only [Int.toNat_natCast, Nat.add_zero, List.length_cons, List.length_nil, Nat.zero_add] at q1 q2 ⊢
        rw [show j + 1 + 1 = (j + 1) + 1 from rfl, List.take_succ_cons, List.drop_succ_cons, q1, q2]
        simp
end Go.Proofs.YtocpfgdajomjiaaDoor.Spl
