import Derived.Test.YtocpfgdajomjiaaDoorPureTextSigns
import Derived.Test.YtocpfgdajomjiaaDoorPureTextWords
import Derived.Test.YtocpfgdajomjiaaDoorPathL
import Derived.Test.YtocpfgdajomjiaaDoorP4
namespace Go.Proofs.YtocpfgdajomjiaaDoor.Pure
open Go.RowKit Go.Proofs.YtocpfgdajomjiaaDoor.P Go.Proofs.YtocpfgdajomjiaaDoor.Hand Go.Proofs.YtocpfgdajomjiaaDoorW.PrintWords
set_option linter.unusedVariables false
set_option linter.unusedSimpArgs false
theorem data_app3 (s m t : ByteArray) : ((s ++ m) ++ t).data.toList = s.data.toList ++ m.data.toList ++ t.data.toList := by
  simp [ByteArray.data_append, Array.toList_append]
theorem data_app2 (s t : ByteArray) : (s ++ t).data.toList = s.data.toList ++ t.data.toList := by
  simp [ByteArray.data_append, Array.toList_append]
theorem paths_end (s t : ByteArray) (hs : s.size ≤ 200) (ht : t.size ≤ 200) (ps : pathV s = true) (pt : pathV t = true) (P : Int) (hP : P = ((2 + s.data.toList.count 47 + t.data.toList.count 47 : Nat) : Int)) :
    Ev fun k => cooperagelaw1_TextPaths.l1 k s t P ((s ++ (⟨#[47]⟩ : ByteArray)) ++ t) (t.size : Int) = some true := by
  have ps' := ps
  have pt' := pt
  rw [pathV_eq] at ps' pt'
  have hu : pathV ((s ++ (⟨#[47]⟩ : ByteArray)) ++ t) = (decide ((((s ++ (⟨#[47]⟩ : ByteArray)) ++ t).size : Int) ≤ 100) && decide (P ≤ 8)) := by
    rw [pathV_eq, data_app3, show s.data.toList ++ (⟨#[47]⟩ : ByteArray).data.toList ++ t.data.toList = s.data.toList ++ 47 :: t.data.toList by simp, pathL_app _ _ ps' pt', hP,
      ← len_data, data_app3, show s.data.toList ++ (⟨#[47]⟩ : ByteArray).data.toList ++ t.data.toList = s.data.toList ++ 47 :: t.data.toList by simp]
  have h1 : pathV (s ++ (⟨#[47]⟩ : ByteArray)) = false := by
    rw [pathV_eq, data_app2]
    exact pathL_end _
  have h2 : pathV ((⟨#[47]⟩ : ByteArray) ++ s) = false := by
    rw [pathV_eq, data_app2]
    exact pathL_front _
  have h3 : pathV ((s ++ (⟨#[47, 46, 46, 47]⟩ : ByteArray)) ++ t) = false := by
    rw [pathV_eq, data_app3, show s.data.toList ++ (⟨#[47, 46, 46, 47]⟩ : ByteArray).data.toList ++ t.data.toList = s.data.toList ++ 47 :: 46 :: 46 :: 47 :: t.data.toList by simp]
    exact pathL_up _ _
  have hw : wordsV s = [s] := wordsV_word s ⟨pathL_ne ps', fun c hc => plain_noblank c (pathL_plain ps' c hc)⟩
  have z1 : ((⟨#[47]⟩ : ByteArray)).size = 1 := rfl
  have z4 : ((⟨#[47, 46, 46, 47]⟩ : ByteArray)).size = 4 := rfl
  refine Ev.up ((same_f [s] (by simp)).mp fun k hk => ?_)
  simp only [cooperagelaw1_TextPaths.l1]
  rw [if_neg (by omega), quote_ok s (by omega), Option.bind_some, quote_path ps, if_pos rfl, words_ok s (by omega), Option.bind_some, hw, hk, Option.bind_some, if_pos rfl,
    path_ok _ (by rw [ByteArray.size_append, ByteArray.size_append, z1]; omega), Option.bind_some,
    path_ok _ (by rw [ByteArray.size_append, z1]; omega), Option.bind_some, path_ok _ (by rw [ByteArray.size_append, z1]; omega), Option.bind_some,
    path_ok _ (by rw [ByteArray.size_append, ByteArray.size_append, z4]; omega), Option.bind_some, h1, h2, h3]
  have b1 : s.size + 1 ≤ 9223372036854775807 := by omega
  have b2 : 1 + s.size ≤ 9223372036854775807 := by omega
  have b3 : s.size + 4 ≤ 9223372036854775807 := by omega
  have b4 : (s ++ (⟨#[47, 46, 46, 47]⟩ : ByteArray)).size + t.size ≤ 9223372036854775807 := by rw [ByteArray.size_append, z4]; omega
  have ff : ¬ (false = true) := by simp
  by_cases hz : ((((s ++ (⟨#[47]⟩ : ByteArray)) ++ t).size : Int) ≤ 100)
  · rw [if_pos hz, if_pos (by rw [hu, decide_eq_true hz]; simp), if_pos b1, if_neg ff, if_pos b2, if_neg ff, if_pos b3, if_pos b4]
    rfl
  · rw [if_neg hz, if_pos (by rw [hu, decide_eq_false hz]; simp), if_pos b1, if_neg ff, if_pos b2, if_neg ff, if_pos b3, if_pos b4]
    rfl
theorem count_take {l : List UInt8} {i : Nat} (h : i < l.length) : (l.take (i + 1)).count 47 = (l.take i).count 47 + if l[i] = 47 then 1 else 0 := by
  rw [List.take_succ_eq_append_getElem h, List.count_append, List.count_singleton]
  simp
theorem count_lt {l : List UInt8} {i : Nat} : (l.take i).count 47 ≤ l.length := by
  refine Nat.le_trans List.count_le_length ?_
  rw [List.length_take]
  omega
theorem bt47 {s : ByteArray} {i : Nat} (h : i < s.data.toList.length) : bt s (i : Int) = 47 ↔ s.data.toList[i] = 47 := by
  rw [bt_nat s i h]
  constructor
  · intro e
    exact UInt8.toNat_inj.1 (by have : (s.data.toList[i]).toNat = 47 := by omega
                                rw [this]; rfl)
  · intro e
    rw [e]
    rfl
theorem paths_l1 (s t : ByteArray) (hs : s.size ≤ 200) (ht : t.size ≤ 200) (ps : pathV s = true) (pt : pathV t = true) : ∀ (n i : Nat) (P : Int), i + n = t.size → P = ((2 + s.data.toList.count 47 + (t.data.toList.take i).count 47 : Nat) : Int) →
    Ev fun k => cooperagelaw1_TextPaths.l1 k s t P ((s ++ (⟨#[47]⟩ : ByteArray)) ++ t) (i : Int) = some true := by
  intro n
  induction n with
  | zero =>
    intro i P hi hP
    obtain rfl : i = t.size := by omega
    rw [List.take_of_length_le (by rw [len_data]; omega)] at hP
    exact paths_end s t hs ht ps pt P hP
  | succ n ih =>
    intro i P hi hP
    have hlt : i < t.data.toList.length := by rw [len_data]; omega
    have hc := count_take hlt
    have hcl := @count_lt t.data.toList i
    have hcs : s.data.toList.count 47 ≤ s.data.toList.length := List.count_le_length
    rw [len_data] at hcl hcs
    by_cases h : t.data.toList[i] = 47
    · rw [if_pos h] at hc
      refine Ev.up ((ih (i + 1) (P + 1) (by omega) (by omega)).mp fun k hk => ?_)
      simp only [cooperagelaw1_TextPaths.l1]
      rw [if_pos (by omega), if_pos (by omega), if_pos ((bt47 hlt).2 h), w64s i (by omega), w64 (by omega) (by omega)]
      exact hk
    · rw [if_neg h] at hc
      refine Ev.up ((ih (i + 1) P (by omega) (by omega)).mp fun k hk => ?_)
      simp only [cooperagelaw1_TextPaths.l1]
      rw [if_pos (by omega), if_pos (by omega), if_neg (fun e => h ((bt47 hlt).1 e)), w64s i (by omega)]
      exact hk
theorem paths_l0 (s t : ByteArray) (hs : s.size ≤ 200) (ht : t.size ≤ 200) (ps : pathV s = true) (pt : pathV t = true) : ∀ (n i : Nat) (P : Int), i + n = s.size → P = ((2 + (s.data.toList.take i).count 47 : Nat) : Int) →
    Ev fun k => cooperagelaw1_TextPaths.l0 k s t P ((s ++ (⟨#[47]⟩ : ByteArray)) ++ t) (i : Int) = some true := by
  intro n
  induction n with
  | zero =>
    intro i P hi hP
    obtain rfl : i = s.size := by omega
    rw [List.take_of_length_le (by rw [len_data]; omega)] at hP
    refine Ev.up ((paths_l1 s t hs ht ps pt t.size 0 P (by omega) (by simpa using hP)).mp fun k hk => ?_)
    simp only [cooperagelaw1_TextPaths.l0]
    rw [if_neg (by omega)]
    exact hk
  | succ n ih =>
    intro i P hi hP
    have hlt : i < s.data.toList.length := by rw [len_data]; omega
    have hc := count_take hlt
    have hcl := @count_lt s.data.toList i
    rw [len_data] at hcl
    by_cases h : s.data.toList[i] = 47
    · rw [if_pos h] at hc
      refine Ev.up ((ih (i + 1) (P + 1) (by omega) (by omega)).mp fun k hk => ?_)
      simp only [cooperagelaw1_TextPaths.l0]
      rw [if_pos (by omega), if_pos (by omega), if_pos ((bt47 hlt).2 h), w64s i (by omega), w64 (by omega) (by omega)]
      exact hk
    · rw [if_neg h] at hc
      refine Ev.up ((ih (i + 1) P (by omega) (by omega)).mp fun k hk => ?_)
      simp only [cooperagelaw1_TextPaths.l0]
      rw [if_pos (by omega), if_pos (by omega), if_neg (fun e => h ((bt47 hlt).1 e)), w64s i (by omega)]
      exact hk
theorem TextPaths : ∀ (s : ByteArray), s.size ≤ 140737488351232 → ∀ (t : ByteArray), t.size ≤ 140737488351232 → ∃ k, cooperagelaw1_TextPaths.f k s t = some true := by
  intro s _ t _
  have hj1 : Ev fun k => cooperagelaw1_TextPaths.j0 k s t true true = some true := by
    refine Ev.up (Ev.of fun k => ?_)
    simp only [cooperagelaw1_TextPaths.j0]
    rw [if_pos trivial]
  by_cases h1 : s.size ≤ 200
  · by_cases h2 : t.size ≤ 200
    · by_cases ps : pathV s = true
      · by_cases pt : pathV t = true
        · have hj0 : Ev fun k => cooperagelaw1_TextPaths.j0 k s t true false = some true := by
            refine Ev.up ((paths_l0 s t h1 h2 ps pt s.size 0 2 (by omega) (by simp)).mp fun k hk => ?_)
            simp only [cooperagelaw1_TextPaths.j0]
            rw [if_neg (by decide), if_pos (by omega), if_pos (by rw [ByteArray.size_append]; show s.size + 1 + t.size ≤ _; omega)]
            exact hk
          refine ((shown_f.and hj0).mp fun k h => ?_).get
          unfold cooperagelaw1_TextPaths.f
          rw [h.1, Option.bind_some, if_pos rfl, if_neg (by omega), if_neg (by omega), path_ok s (by omega), Option.bind_some, if_pos ps, path_ok t (by omega), Option.bind_some, pt]
          exact h.2
        · refine ((shown_f.and hj1).mp fun k h => ?_).get
          unfold cooperagelaw1_TextPaths.f
          rw [h.1, Option.bind_some, if_pos rfl, if_neg (by omega), if_neg (by omega), path_ok s (by omega), Option.bind_some, if_pos ps, path_ok t (by omega), Option.bind_some, show pathV t = false by simpa using pt]
          exact h.2
      · refine ((shown_f.and hj1).mp fun k h => ?_).get
        unfold cooperagelaw1_TextPaths.f
        rw [h.1, Option.bind_some, if_pos rfl, if_neg (by omega), if_neg (by omega), path_ok s (by omega), Option.bind_some, if_neg ps]
        exact h.2
    · refine ((shown_f.and hj1).mp fun k h => ?_).get
      unfold cooperagelaw1_TextPaths.f
      rw [h.1, Option.bind_some, if_pos rfl, if_neg (by omega), if_pos (by omega)]
      exact h.2
  · refine ((shown_f.and hj1).mp fun k h => ?_).get
    unfold cooperagelaw1_TextPaths.f
    rw [h.1, Option.bind_some, if_pos rfl, if_pos (by omega)]
    exact h.2
end Go.Proofs.YtocpfgdajomjiaaDoor.Pure
