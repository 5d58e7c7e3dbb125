import Derived.Test.YtocpfgdajomjiaaDoorPureNum
import Derived.Test.YtocpfgdajomjiaaDoorPureShown
import Derived.Test.YtocpfgdajomjiaaDoorPureRef1
import Derived.Test.YtocpfgdajomjiaaDoorR6
/- TextTells, plain. -/
namespace Go.Proofs.YtocpfgdajomjiaaDoor.PureR
open Go.RowKit Go.Proofs.YtocpfgdajomjiaaDoor.R Go.Proofs.YtocpfgdajomjiaaDoor.Hand2 Go.Proofs.YtocpfgdajomjiaaDoorW.PrintWords Go.Proofs.YtocpfgdajomjiaaDoor.Spl
open Go.Proofs.YtocpfgdajomjiaaDoor.Hand hiding text_Lines.f text_Words.f text_Trim.f text_Join.f text_Path.f text_Quote.f text_Lines.calls text_Words.calls text_Trim.calls text_Join.calls text_Path.calls text_Quote.calls Glob
set_option linter.unusedVariables false
set_option linter.unusedSimpArgs false
theorem bt47 {s : ByteArray} {i : Nat} (h : i < s.data.toList.length) : bt s (i : Int) = 47 ↔ s.data.toList[i] = 47 := by
  rw [bt_nat s i h]
  constructor
  · intro e
    exact UInt8.toNat_inj.1 (by have : (s.data.toList[i]).toNat = 47 := by omega
                                rw [this]; rfl)
  · intro e
    rw [e]
    rfl
theorem badL_f (p : ByteArray) : badL p.data.toList = (p.toList == [] || p.toList == [46] || p.toList == [46, 46]) := by
  rw [tl]
  unfold badL
  cases p.data.toList <;> rfl
theorem refpath_loop (s : ByteArray) (hs : s.size ≤ 100000) : ∀ (n i : Nat) (P : Nat) (part : ByteArray), i + n = s.size → part.size ≤ i → P ≤ i →
    Ev fun k => cooperageref1_Path.l0 k s (P : Int) part (i : Int) = some (((s.data.toList.drop i).all fun c => plainI c.toNat) && (splG 47 part.data.toList.reverse (s.data.toList.drop i)).all (fun p => !badL p) && decide (((P + (splG 47 part.data.toList.reverse (s.data.toList.drop i)).length : Nat) : Int) ≤ 8)) := by
  have hl := len_data s
  intro n
  induction n with
  | zero =>
    intro i P part hi hp hP
    have hd : s.data.toList.drop i = [] := List.drop_eq_nil_of_le (by omega)
    rw [hd]
    simp only [splG, List.all_nil, List.all_cons, List.reverse_reverse, Bool.and_true, Bool.true_and, List.length_singleton]
    have hstep : ∀ k, cooperageref1_Path.l0 (k + 1 + 1 + 1) s (P : Int) part (i : Int) = if part.toList = ([] : List UInt8) then (some false) else (if part.toList = ([46] : List UInt8) then (some false) else (if part.toList = ([46, 46] : List UInt8) then (some false) else (cooperageref1_Path.l0 k s (wrap64 ((P : Int) + 1)) (⟨#[]⟩ : ByteArray) (wrap64 ((i : Int) + 1))))) := by
      intro k
      simp only [cooperageref1_Path.l0, cooperageref1_Path.j2, cooperageref1_Path.j3]
      rw [if_pos (by omega), if_neg (by omega), if_neg (by decide), if_neg (by omega), if_neg (by decide)]
    refine Ev.up (Ev.up (Ev.up (Ev.up (Ev.of fun k => ?_))))
    rw [hstep, tl, w64s i (by omega), w64s P (by omega)]
    by_cases h1 : part.data.toList = []
    · rw [if_pos h1, h1]; rfl
    · by_cases h2 : part.data.toList = [46]
      · rw [if_neg h1, if_pos h2, h2]; rfl
      · by_cases h3 : part.data.toList = [46, 46]
        · rw [if_neg h1, if_neg h2, if_pos h3, h3]; rfl
        · have hb : badL part.data.toList = false := by
            unfold badL
            rw [Bool.or_eq_false_iff, Bool.or_eq_false_iff]
            exact ⟨⟨by simpa using h1, by simpa using h2⟩, by simpa using h3⟩
          rw [if_neg h1, if_neg h2, if_neg h3, hb]
          simp only [cooperageref1_Path.l0]
          rw [if_neg (by omega)]
          rfl
  | succ n ih =>
    intro i P part hi hp hP
    have hlt : i < s.data.toList.length := by omega
    have hpl := plain_at s i hlt
    rw [drop_at hlt]
    by_cases hc : plainI (s.data.toList[i]).toNat = true
    · by_cases h47 : s.data.toList[i] = 47
      · have hb47 : bt s (i : Int) = 47 := (bt47 hlt).2 h47
        have hstep : ∀ k, cooperageref1_Path.l0 (k + 1 + 1 + 1) s (P : Int) part (i : Int) = if part.toList = ([] : List UInt8) then (some false) else (if part.toList = ([46] : List UInt8) then (some false) else (if part.toList = ([46, 46] : List UInt8) then (some false) else (cooperageref1_Path.l0 k s (wrap64 ((P : Int) + 1)) (⟨#[]⟩ : ByteArray) (wrap64 ((i : Int) + 1))))) := by
          intro k
          simp only [cooperageref1_Path.l0, cooperageref1_Path.j2, cooperageref1_Path.j3]
          rw [if_pos (by omega), if_pos (by omega), if_pos (by omega), hpl, Option.bind_some, hc, if_neg (by decide), if_pos (by omega), if_pos (by omega), hb47, if_neg (by decide)]
        simp only [splG, h47, if_true, List.reverse_reverse, List.all_cons, List.length_cons]
        have ih' := ih (i + 1) (P + 1) (⟨#[]⟩ : ByteArray) (by omega) (by show 0 ≤ _; omega) (by omega)
        refine Ev.up (Ev.up (Ev.up (ih'.mp fun k hk => ?_)))
        rw [hstep, tl, w64s i (by omega), w64s P (by omega), hk]
        have hp47 : plainI ((47 : UInt8).toNat : Int) = true := by decide
        rw [hp47]
        have hdat : ((⟨#[]⟩ : ByteArray).data.toList.reverse : List UInt8) = [] := rfl
        rw [hdat, show P + 1 + (splG 47 [] (s.data.toList.drop (i + 1))).length = P + ((splG 47 [] (s.data.toList.drop (i + 1))).length + 1) by omega]
        by_cases h1 : part.data.toList = []
        · rw [if_pos h1, h1]
          simp [badL]
        · by_cases h2 : part.data.toList = [46]
          · rw [if_neg h1, if_pos h2, h2]
            simp [badL]
          · by_cases h3 : part.data.toList = [46, 46]
            · rw [if_neg h1, if_neg h2, if_pos h3, h3]
              simp [badL]
            · have hb : badL part.data.toList = false := by
                unfold badL
                rw [Bool.or_eq_false_iff, Bool.or_eq_false_iff]
                exact ⟨⟨by simpa using h1, by simpa using h2⟩, by simpa using h3⟩
              rw [if_neg h1, if_neg h2, if_neg h3, hb]
              simp
      · have hb47 : ¬ bt s (i : Int) = 47 := fun e => h47 ((bt47 hlt).1 e)
        have hne : (bt s (i : Int) != 47) = true := by simpa using hb47
        have hw := w64s i (by omega : i ≤ 100000000000)
        have hz : (s.extract (i : Int).toNat (wrap64 ((i : Int) + 1)).toNat).size = 1 := by
          rw [w64z (by omega), Int.toNat_natCast, ByteArray.size_extract]
          omega
        have hpe : (part ++ s.extract (i : Int).toNat (wrap64 ((i : Int) + 1)).toNat).data.toList = part.data.toList ++ [s.data.toList[i]] := by
          rw [data_app2, w64z (by omega), Int.toNat_natCast, ext_one s i hlt]
        have ih' := ih (i + 1) P (part ++ s.extract (i : Int).toNat (wrap64 ((i : Int) + 1)).toNat) (by omega) (by rw [ByteArray.size_append, hz]; omega) (by omega)
        refine Ev.up (Ev.up (Ev.up (ih'.mp fun k hk => ?_)))
        simp only [cooperageref1_Path.l0, cooperageref1_Path.j2, cooperageref1_Path.j3]
        rw [if_pos (by omega), if_pos (by omega), if_pos (by omega), hpl, Option.bind_some, hc, if_neg (by decide), if_pos (by omega), if_pos (by omega), hne, if_pos rfl, if_pos (by omega), if_pos (by rw [hw]; omega), if_pos (by rw [hw]; omega),
          if_pos (by rw [hz]; omega)]
        rw [hw] at hk ⊢
        rw [hk, hw] at *
        rw [hpe, List.reverse_append]
        simp only [splG, if_neg h47, List.all_cons, hc, Bool.true_and, List.reverse_cons, List.reverse_nil, List.nil_append, List.cons_append]
    · have hc' : plainI (s.data.toList[i]).toNat = false := by simpa using hc
      refine Ev.up (Ev.up (Ev.of fun k => ?_))
      simp only [cooperageref1_Path.l0, cooperageref1_Path.j2]
      rw [if_pos (by omega), if_pos (by omega), if_pos (by omega), hpl, Option.bind_some, hc', if_pos (by decide), List.all_cons, hc']
      rfl
theorem refpath_f (s : ByteArray) (hs : s.size ≤ 100000) : Ev fun k => cooperageref1_Path.f k s = some (pathV s) := by
  have hl := len_data s
  rw [pathV_eq]
  have hj1 : Ev fun k => cooperageref1_Path.j0 k s true = some false := by
    refine Ev.up (Ev.of fun k => ?_)
    simp only [cooperageref1_Path.j0]
    rw [if_pos trivial]
  by_cases h1 : s.size < 1
  · refine hj1.mp fun k hk => ?_
    unfold cooperageref1_Path.f
    rw [if_pos (by omega), hk]
    have : s.data.toList = [] := List.eq_nil_of_length_eq_zero (by omega)
    rw [this]
    rfl
  · by_cases h2 : s.size ≤ 100
    · have := refpath_loop s hs s.size 0 0 (⟨#[]⟩ : ByteArray) (by omega) (by show 0 ≤ 0; omega) (by omega)
      refine (Ev.up (p := fun k => cooperageref1_Path.j0 k s false = some (pathL s.data.toList)) (this.mp fun k hk => ?_)).mp fun k hk => ?_
      · simp only [cooperageref1_Path.j0]
        rw [if_neg (by decide)]
        refine hk.trans ?_
        have hdat : ((⟨#[]⟩ : ByteArray).data.toList.reverse : List UInt8) = [] := rfl
        rw [hdat, List.drop_zero, Nat.zero_add]
        unfold pathL
        rw [show decide ((s.data.toList.length : Int) ≤ 100) = true from decide_eq_true (by omega), Bool.and_true]
      · unfold cooperageref1_Path.f
        rw [if_neg (by omega), show decide ((s.size : Int) > 100) = false from decide_eq_false (by omega)]
        exact hk
    · refine hj1.mp fun k hk => ?_
      unfold cooperageref1_Path.f
      rw [if_neg (by omega), show decide ((s.size : Int) > 100) = true from decide_eq_true (by omega), hk]
      unfold pathL
      rw [show decide ((s.data.toList.length : Int) ≤ 100) = false from decide_eq_false (by omega)]
      simp
theorem digit_at (s : ByteArray) (i : Nat) (h : i < s.data.toList.length) : cooperageref1_digit.f (bt s (i : Int)) = some (dgB s.data.toList[i]) := by
  rw [bt_nat s i h]
  unfold cooperageref1_digit.f dgB
  by_cases h1 : 48 ≤ (s.data.toList[i]).toNat
  · rw [if_pos (by omega)]
    congr 1
    rw [Bool.eq_iff_iff]
    simp only [decide_eq_true_eq]
    omega
  · rw [if_neg (by omega)]
    congr 1
    rw [eq_comm, decide_eq_false_iff_not]
    omega
theorem refnum_loop (s : ByteArray) (hs : s.size ≤ 9) : ∀ (n i v : Nat), i + n = s.size → v < 10 ^ i →
    Ev fun k => cooperageref1_Number.l0 k s (v : Int) (i : Int) = some (if (s.data.toList.drop i).all dgB = true then ((val v (s.data.toList.drop i) : Int), true) else (0, false)) := by
  have hl := len_data s
  intro n
  induction n with
  | zero =>
    intro i v hi hv
    refine Ev.up (Ev.of fun k => ?_)
    simp only [cooperageref1_Number.l0]
    rw [if_neg (by omega), List.drop_eq_nil_of_le (by omega)]
    rfl
  | succ n ih =>
    intro i v hi hv
    have hlt : i < s.data.toList.length := by omega
    have hd := digit_at s i hlt
    have hb := bt_nat s i hlt
    have hi9 : 10 ^ i ≤ 10 ^ 8 := Nat.pow_le_pow_right (by decide) (by omega)
    rw [drop_at hlt]
    by_cases hc : dgB s.data.toList[i] = true
    · have hc2 := hc
      simp only [dgB, decide_eq_true_eq] at hc2
      have hv2 : v * 10 + ((s.data.toList[i]).toNat - 48) < 10 ^ (i + 1) := by rw [Nat.pow_succ]; omega
      refine Ev.up ((ih (i + 1) (v * 10 + ((s.data.toList[i]).toNat - 48)) (by omega) hv2).mp fun k hk => ?_)
      simp only [cooperageref1_Number.l0]
      rw [if_pos (by omega), if_pos (by omega), hd, Option.bind_some, if_pos hc, hb, w64s i (by omega), List.all_cons, hc, Bool.true_and, val_cons, ← hk]
      congr 1
      rw [w64 (x := 10 * (v : Int)) (by omega) (by omega), w64 (by omega) (by omega)]
      omega
    · refine Ev.up (Ev.of fun k => ?_)
      simp only [cooperageref1_Number.l0]
      rw [if_pos (by omega), if_pos (by omega), hd, Option.bind_some, if_neg hc, List.all_cons, show dgB s.data.toList[i] = false by simpa using hc]
      rfl
theorem refnum_f (s : ByteArray) (hs : s.size ≤ 100000) : Ev fun k => cooperageref1_Number.f k s = some (numV s) := by
  have hl := len_data s
  rw [numV_eq]
  have hj1 : Ev fun k => cooperageref1_Number.j0 k s true = some (0, false) := by
    refine Ev.up (Ev.of fun k => ?_)
    simp only [cooperageref1_Number.j0]
    rw [if_pos trivial]
  by_cases h1 : s.size < 1
  · refine hj1.mp fun k hk => ?_
    unfold cooperageref1_Number.f
    rw [if_pos (by omega), hk]
    have : s.data.toList = [] := List.eq_nil_of_length_eq_zero (by omega)
    rw [this, if_neg (by decide)]
  · by_cases h9 : s.size ≤ 9
    · have hj0 : Ev fun k => cooperageref1_Number.j0 k s false = some (if s.data.toList.all dgB = true then ((val 0 s.data.toList : Int), true) else (0, false)) := by
        refine Ev.up ((refnum_loop s h9 s.size 0 0 (by omega) (by simp)).mp fun k hk => ?_)
        simp only [cooperageref1_Number.j0]
        rw [if_neg (by decide)]
        rw [List.drop_zero] at hk
        exact hk
      have hlen9 : decide (s.data.toList.length ≤ 9) = true := decide_eq_true (by omega)
      have hlen1 : decide (1 ≤ s.data.toList.length) = true := decide_eq_true (by omega)
      by_cases h2 : s.size > 1
      · have hlt : 0 < s.data.toList.length := by omega
        have hb := bt_nat s 0 hlt
        have hh : s.data.toList.head? = some s.data.toList[0] := by rw [List.head?_eq_getElem?, List.getElem?_eq_getElem hlt]
        by_cases h48 : s.data.toList[0] = 48
        · refine hj1.mp fun k hk => ?_
          unfold cooperageref1_Number.f
          rw [if_neg (by omega), if_neg (by omega), if_pos (by omega), if_pos (by omega), show (bt s 0 == 48) = true by rw [show (0 : Int) = ((0 : Nat) : Int) from rfl, hb, h48]; rfl, hk, if_neg]
          simp only [numL, canB, hh, h48, decide_not, Bool.and_eq_true, Bool.or_eq_true, decide_eq_true_eq, Bool.not_eq_true', decide_eq_false_iff_not]
          intro h
          rcases h.1.2 with e | e
          · omega
          · exact e trivial
        · refine hj0.mp fun k hk => ?_
          have hne : (bt s 0 == 48) = false := by
            rw [show (0 : Int) = ((0 : Nat) : Int) from rfl, hb, beq_eq_false_iff_ne]
            intro e
            apply h48
            apply UInt8.toNat_inj.1
            show _ = 48
            omega
          unfold cooperageref1_Number.f
          rw [if_neg (by omega), if_neg (by omega), if_pos (by omega), if_pos (by omega), hne, hk]
          have : numL s.data.toList = s.data.toList.all dgB := by
            simp only [numL, canB]
            rw [hlen9, hlen1, hh, show decide (some s.data.toList[0] ≠ some 48) = true from decide_eq_true (by simpa using h48)]
            simp
          rw [this]
      · refine hj0.mp fun k hk => ?_
        unfold cooperageref1_Number.f
        rw [if_neg (by omega), if_neg (by omega), if_neg (by omega), hk]
        have : numL s.data.toList = s.data.toList.all dgB := by
          simp only [numL, canB]
          rw [hlen9, hlen1, show decide (s.data.toList.length = 1) = true from decide_eq_true (by omega)]
          simp
        rw [this]
    · refine hj1.mp fun k hk => ?_
      unfold cooperageref1_Number.f
      rw [if_neg (by omega), if_pos (by omega), hk, if_neg]
      simp only [numL, Bool.and_eq_true, decide_eq_true_eq]
      omega
theorem TextTells : ∀ (s : ByteArray), s.size ≤ 140737488351232 → ∃ k, cooperagelaw1_TextTells.f k s = some true := by
  intro s _
  by_cases hs : s.size ≤ 1000
  · have hj : Ev fun k => cooperagelaw1_TextTells.j0 k s true false = some true := by
      refine Ev.up (((refnum_f s (by omega)).and (refpath_f s (by omega))).mp fun k hk => ?_)
      simp only [cooperagelaw1_TextTells.j0]
      rw [if_neg (by decide), number_ok s (by omega), Option.bind_some, hk.1, Option.bind_some, if_pos rfl, if_pos (by simp), path_ok s (by omega), Option.bind_some, hk.2, Option.bind_some, beq_self_eq_true]
    refine ((shown_f.and hj).mp fun k h => ?_).get
    unfold cooperagelaw1_TextTells.f
    rw [h.1, Option.bind_some, if_pos rfl, show decide ((s.size : Int) > 1000) = false from decide_eq_false (by omega)]
    exact h.2
  · have hj : Ev fun k => cooperagelaw1_TextTells.j0 k s true true = some true := by
      refine Ev.up (Ev.of fun k => ?_)
      simp only [cooperagelaw1_TextTells.j0]
      rw [if_pos trivial]
    refine ((shown_f.and hj).mp fun k h => ?_).get
    unfold cooperagelaw1_TextTells.f
    rw [h.1, Option.bind_some, if_pos rfl, show decide ((s.size : Int) > 1000) = true from decide_eq_true (by omega)]
    exact h.2
end Go.Proofs.YtocpfgdajomjiaaDoor.PureR
