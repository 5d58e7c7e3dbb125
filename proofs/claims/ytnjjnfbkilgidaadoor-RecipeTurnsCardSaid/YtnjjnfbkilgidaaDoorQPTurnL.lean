import Derived.Test.YtnjjnfbkilgidaaDoorQC
import Derived.Sort.Walk0
/- Plain: lines, in another order. -/
namespace Go.Proofs.YtnjjnfbkilgidaaDoor.Pure
open Go.RowKit Go.Proofs.YtnjjnfbkilgidaaDoor.Fr Go.Proofs.YtnjjnfbkilgidaaDoorW.PrintWords
open Go.Proofs.YtnjjnfbkilgidaaDoor.Hand (joinV wordsV wordsGo linesV linesGo ba_ext)
set_option linter.unusedVariables false
set_option linter.unusedSimpArgs false
/-- Lines, a line feed behind each. -/
def unl (l : List (List UInt8)) : List UInt8 := l.flatMap fun x => x ++ [10]
theorem unl_cons (x : List UInt8) (r : List (List UInt8)) : unl (x :: r) = x ++ 10 :: unl r := by unfold unl; simp
theorem join_unl : ∀ (r : List (List UInt8)) (x : List UInt8), Lib.join (x :: r) [10] ++ [10] = unl (x :: r) := by
  intro r
  induction r with
  | nil => intro x; simp [Lib.join, List.intercalate, unl]
  | cons y t ih =>
    intro x
    rw [unl_cons, ← ih y]
    simp [Lib.join, List.intercalate]
theorem rowsL_data (l : List (List UInt8)) : (rowsL l).data.toList = unl l := by
  unfold rowsL
  cases l with
  | nil => rfl
  | cons x r =>
    rw [if_neg (by simp), data_app]
    exact join_unl r x
theorem lnL_eq (s : ByteArray) : lnL s = linesGo [] s.data.toList := by
  unfold lnL linesV
  rw [List.map_map]
  exact List.map_id _
theorem linesGo_end : ∀ (x cur r : List UInt8), (∀ c ∈ x, c ≠ 10) → linesGo cur (x ++ 10 :: r) = (cur.reverse ++ x) :: linesGo [] r := by
  intro x
  induction x with
  | nil => intro cur r _; rw [List.nil_append, linesGo, if_pos rfl, List.append_nil]
  | cons c t ih =>
    intro cur r h
    rw [List.cons_append, linesGo, if_neg (h c (List.mem_cons_self ..)), ih (c :: cur) r fun y hy => h y (List.mem_cons_of_mem _ hy)]
    simp
theorem linesGo_unl : ∀ l : List (List UInt8), (∀ x ∈ l, ∀ c ∈ x, c ≠ 10) → linesGo [] (unl l) = l := by
  intro l
  induction l with
  | nil => intro _; rfl
  | cons x r ih =>
    intro h
    rw [unl_cons, linesGo_end x [] _ (h x (List.mem_cons_self ..)), ih fun y hy => h y (List.mem_cons_of_mem _ hy)]
    rfl
theorem linesGo_free : ∀ (s cur : List UInt8), (∀ c ∈ cur, c ≠ 10) → ∀ x ∈ linesGo cur s, ∀ c ∈ x, c ≠ 10 := by
  intro s
  induction s with
  | nil =>
    intro cur h x hx
    rw [linesGo] at hx
    split at hx
    · cases hx
    · rw [List.mem_singleton.1 hx]
      exact fun c hc => h c (List.mem_reverse.1 hc)
  | cons b t ih =>
    intro cur h x hx
    rw [linesGo] at hx
    split at hx
    · rcases List.mem_cons.1 hx with hx | hx
      · rw [hx]; exact fun c hc => h c (List.mem_reverse.1 hc)
      · exact ih [] (fun c hc => by cases hc) x hx
    · next hb =>
      exact ih (b :: cur) (fun c hc => by
        rcases List.mem_cons.1 hc with hc | hc
        · rw [hc]; exact hb
        · exact h c hc) x hx
/-- A text that ends in a line feed, if it has anything. -/
def endL (l : List UInt8) : List UInt8 := if l = [] then [] else if l.getLast? = some 10 then l else l ++ [10]
theorem unl_linesGo : ∀ (s cur : List UInt8), (∀ c ∈ cur, c ≠ 10) → unl (linesGo cur s) = endL (cur.reverse ++ s) := by
  intro s
  induction s with
  | nil =>
    intro cur h
    rw [linesGo, List.append_nil]
    cases cur with
    | nil => rfl
    | cons b r =>
      rw [if_neg (by simp), unl_cons]
      unfold endL
      rw [if_neg (by simp), if_neg]
      · rfl
      · have hb := h b (List.mem_cons_self ..)
        simp [hb]
  | cons b t ih =>
    intro cur h
    rw [linesGo]
    by_cases hb : b = 10
    · subst hb
      rw [if_pos rfl, unl_cons, ih [] (fun c hc => by cases hc)]
      unfold endL
      rw [List.reverse_nil, List.nil_append, if_neg (show ¬ cur.reverse ++ 10 :: t = [] by simp)]
      cases t with
      | nil => simp
      | cons a u =>
        rw [if_neg (by simp)]
        have e : (cur.reverse ++ 10 :: a :: u).getLast? = (a :: u).getLast? := by
          cases hq : (a :: u).getLast? with
          | none => simp at hq
          | some q => rw [show cur.reverse ++ 10 :: a :: u = (cur.reverse ++ [10]) ++ (a :: u) by simp, List.getLast?_append, hq]; rfl
        rw [e]
        by_cases hl : (a :: u).getLast? = some 10
        · rw [if_pos hl, if_pos hl]
        · rw [if_neg hl, if_neg hl]; simp
    · rw [if_neg hb, ih (b :: cur) (fun c hc => by
        rcases List.mem_cons.1 hc with hc | hc
        · rw [hc]; exact hb
        · exact h c hc)]
      simp
theorem lnL_free (s : ByteArray) : ∀ x ∈ lnL s, ∀ c ∈ x, c ≠ 10 := by
  rw [lnL_eq]
  exact linesGo_free _ [] (fun c hc => by cases hc)
theorem lnL_rowsL {l : List (List UInt8)} (h : ∀ x ∈ l, ∀ c ∈ x, c ≠ 10) : lnL (rowsL l) = l := by
  rw [lnL_eq, rowsL_data]
  exact linesGo_unl l h
theorem rowsL_lnL (s : ByteArray) : (rowsL (lnL s)).data.toList = endL s.data.toList := by
  rw [rowsL_data, lnL_eq]
  exact unl_linesGo _ [] (fun c hc => by cases hc)
theorem unl_len {a b : List (List UInt8)} (h : a.Perm b) : (unl a).length = (unl b).length := (h.flatMap_right _).length_eq
theorem rowsL_size {a b : List (List UInt8)} (h : a.Perm b) : (rowsL a).size = (rowsL b).size := by
  rw [← len_data, ← len_data, rowsL_data, rowsL_data]
  exact unl_len h
theorem endL_len (l : List UInt8) : (endL l).length ≤ l.length + 1 := by
  unfold endL
  split
  · simp
  · split
    · omega
    · simp
/-! #### Twice -/
theorem rev_twice (s : ByteArray) : rowsL (lnL (rowsL (lnL s).reverse)).reverse = rowsL (lnL s) := by
  rw [lnL_rowsL (fun x hx => lnL_free s x (List.mem_reverse.1 hx)), List.reverse_reverse]
abbrev srt (l : List (List UInt8)) : List (List UInt8) := l.mergeSort fun x y => decide (x ≤ y)
theorem le_tot (x y : List UInt8) : (decide (x ≤ y) || decide (y ≤ x)) = true := by
  rw [Bool.or_eq_true, decide_eq_true_eq, decide_eq_true_eq]
  exact List.le_total x y
theorem le_tr (x y z : List UInt8) (h1 : decide (x ≤ y) = true) (h2 : decide (y ≤ z) = true) : decide (x ≤ z) = true :=
  decide_eq_true (List.le_trans (of_decide_eq_true h1) (of_decide_eq_true h2))
theorem srt_sorted (l : List (List UInt8)) : (srt l).Pairwise fun x y => x ≤ y := by
  have := List.pairwise_mergeSort (le := fun x y : List UInt8 => decide (x ≤ y)) (fun a b c => le_tr a b c) (fun a b => le_tot a b) l
  exact this.imp fun h => of_decide_eq_true h
theorem srt_twice (l : List (List UInt8)) : srt (srt l) = srt l :=
  List.mergeSort_of_pairwise ((srt_sorted l).imp fun h => decide_eq_true h)
theorem srt_free (s : ByteArray) : ∀ x ∈ srt (lnL s), ∀ c ∈ x, c ≠ 10 := fun x hx => lnL_free s x (List.mem_mergeSort.1 hx)
theorem sort_twice (s : ByteArray) : rowsL (srt (lnL (rowsL (srt (lnL s))))) = rowsL (srt (lnL s)) := by
  rw [lnL_rowsL (srt_free s), srt_twice]
theorem turn_all : ∀ n : Fin 256, turnB 65 90 (turnB 97 122 (UInt8.ofNat n.val)) = turnB 65 90 (UInt8.ofNat n.val) ∧ turnB 97 122 (turnB 65 90 (UInt8.ofNat n.val)) = turnB 97 122 (UInt8.ofNat n.val) := by decide +kernel
theorem turn_of (x : UInt8) : turnB 65 90 (turnB 97 122 x) = turnB 65 90 x ∧ turnB 97 122 (turnB 65 90 x) = turnB 97 122 x := by
  have := turn_all ⟨x.toNat, x.toNat_lt⟩
  simpa using this
theorem low_up (s : ByteArray) : asciiV (asciiV s 97 122) 65 90 = asciiV s 65 90 := by
  unfold asciiV
  simp only [List.map_map]
  congr 2
  exact List.map_congr_left fun x _ => (turn_of x).1
theorem up_low (s : ByteArray) : asciiV (asciiV s 65 90) 97 122 = asciiV s 97 122 := by
  unfold asciiV
  simp only [List.map_map]
  congr 2
  exact List.map_congr_left fun x _ => (turn_of x).2
theorem ascii_size (s : ByteArray) (f l : Nat) : (asciiV s f l).size = s.size := by
  unfold asciiV
  show (List.toArray _).size = _
  rw [List.size_toArray, List.length_map, len_data]
end Go.Proofs.YtnjjnfbkilgidaaDoor.Pure
