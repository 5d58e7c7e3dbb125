-- Written by a program of this session (hprint.py over the kit's print).
import Derived.Test.YtanclpdphlbeiaaDoorP0
import Derived.Test.YtanclpdphlbeiaaDoorP1
namespace Go.Proofs.YtanclpdphlbeiaaDoor.P
open Go.Proofs.YtanclpdphlbeiaaDoor.Hand
open Go.Proofs.YtanclpdphlbeiaaDoor
open Go.RowKit Go.Proofs.YtanclpdphlbeiaaDoorW.PrintWords Go.Proofs.YtanclpdphlbeiaaDoorW.PrintLast Go.Proofs.YtanclpdphlbeiaaDoorW.PrintMore
attribute [local go_sem] max2_int min2_int max_two min_two max_three min_three max_four min_four   -- for this text's walks alone
set_option linter.unusedVariables false
set_option linter.unusedSimpArgs false

/-! ### cooperagelaw3_SumFinds: function 5 -/
def cooperagelaw3_SumFinds.j0 : Nat → Int → ByteArray → Int → Int → Bool → Bool → Option (Bool)
  | 0, _, _, _, _, _, _ => none
  | k + 1, x0, x1, x2, x3, x9, x28 => if x28 = true then (some x9) else (if 0 ≤ x2 then (if x2 ≤ (x1.size : Int) then ((some (([x3] : List Int) : List Int)).bind fun y120 => (if (x1.extract 0 (x2 : Int).toNat).size + (strOfNums y120).size ≤ 9223372036854775807 then (if 0 ≤ (wrap64 (x2 + 1)) then (if (wrap64 (x2 + 1)) ≤ (x1.size : Int) then (if ((x1.extract 0 (x2 : Int).toNat) ++ (strOfNums y120)).size + (x1.extract ((wrap64 (x2 + 1)) : Int).toNat x1.size).size ≤ 9223372036854775807 then ((sum_Add.f x0 x1).bind fun t123 => ((sum_Add.f x0 (((x1.extract 0 (x2 : Int).toNat) ++ (strOfNums y120)) ++ (x1.extract ((wrap64 (x2 + 1)) : Int).toNat x1.size))).bind fun t124 => (if ((t123 == t124) == (x1.toList == (((x1.extract 0 (x2 : Int).toNat) ++ (strOfNums y120)) ++ (x1.extract ((wrap64 (x2 + 1)) : Int).toNat x1.size)).toList)) = true then ((sum_Of.f x1).bind fun t125 => ((sum_Hex.f t125).bind fun t126 => ((sum_Of.f (((x1.extract 0 (x2 : Int).toNat) ++ (strOfNums y120)) ++ (x1.extract ((wrap64 (x2 + 1)) : Int).toNat x1.size))).bind fun t127 => ((sum_Hex.f t127).bind fun t128 => (some ((t126.toList == t128.toList) == (x1.toList == (((x1.extract 0 (x2 : Int).toNat) ++ (strOfNums y120)) ++ (x1.extract ((wrap64 (x2 + 1)) : Int).toNat x1.size)).toList))))))) else (some false)))) else (none)) else (none)) else (none)) else (none))) else (none)) else (none))
def cooperagelaw3_SumFinds.f (k : Nat) (a0 : Int) (a1 : ByteArray) (a2 : Int) (a3 : Int) : Option (Bool) := (cooperagelaw3_shown.f).bind fun t119 => (if t119 = true then (if (a1.size : Int) > 3000 then (cooperagelaw3_SumFinds.j0 k a0 a1 a2 a3 t119 true) else (if a2 < 0 then (cooperagelaw3_SumFinds.j0 k a0 a1 a2 a3 t119 true) else (cooperagelaw3_SumFinds.j0 k a0 a1 a2 a3 t119 (decide (a2 ≥ (a1.size : Int)))))) else (cooperagelaw3_SumFinds.j0 k a0 a1 a2 a3 t119 true))
theorem cooperagelaw3_SumFinds.mono_l : ∀ k, (∀ y0 y1 y2 y3 y4 y5, LeO (cooperagelaw3_SumFinds.j0 k y0 y1 y2 y3 y4 y5) (cooperagelaw3_SumFinds.j0 (k + 1) y0 y1 y2 y3 y4 y5))
  | 0 => fun _ _ _ _ _ _ r h => by simp [cooperagelaw3_SumFinds.j0] at h
  | k + 1 => by
    have ih0 := cooperagelaw3_SumFinds.mono_l k
    · intro y0 y1 y2 y3 y4 y5
      unfold cooperagelaw3_SumFinds.j0
      repeat' first
      | (with_reducible exact ih0 _ _ _ _ _ _)
      | (with_reducible exact LeO.refl _)
      | (with_reducible exact LeO.none _)
      | (with_reducible refine LeO.ite ?_ ?_)
      | (with_reducible refine LeO.bind ?_ (fun _ => ?_))
      | exact ih0 _ _ _ _ _ _
      | exact LeO.none _
      | refine LeO.ite ?_ ?_
      | refine LeO.bind ?_ (fun _ => ?_)
theorem cooperagelaw3_SumFinds.mono : ∀ a0 a1 a2 a3 k, LeO (cooperagelaw3_SumFinds.f k a0 a1 a2 a3) (cooperagelaw3_SumFinds.f (k + 1) a0 a1 a2 a3) := by
  intro a0 a1 a2 a3 k
  have ih0 := cooperagelaw3_SumFinds.mono_l k
  unfold cooperagelaw3_SumFinds.f
  repeat' first
      | (with_reducible exact ih0 _ _ _ _ _ _)
      | (with_reducible exact LeO.refl _)
      | (with_reducible exact LeO.none _)
      | (with_reducible refine LeO.ite ?_ ?_)
      | (with_reducible refine LeO.bind ?_ (fun _ => ?_))
      | exact ih0 _ _ _ _ _ _
      | exact LeO.none _
      | refine LeO.ite ?_ ?_
      | refine LeO.bind ?_ (fun _ => ?_)
def cooperagelaw3_SumFinds.T4 : Bool × List (List Nat × List Nat) := (true, [([], []), ([], []), ([0, 1], [0, 1]), ([], []), ([3], [3]), ([4], [4]), ([2, 5], [2, 5]), ([], []), ([], []), ([8], [8]), ([7, 9], [7, 9]), ([6, 10], [6, 10]), ([11, 0, 1, 2, 3, 4, 5, 6, 7, 8, 9, 10, 11], [11])])
def cooperagelaw3_SumFinds.B4 : List Nat := [0, 0, 3, 0, 8, 24, 63, 0, 0, 256, 896, 2047, 4095]
theorem cooperagelaw3_SumFinds.tab4 : rtab .any (opsOf Tryd.f5 4) = cooperagelaw3_SumFinds.T4 := by kernel_rfl
theorem cooperagelaw3_SumFinds.bits4 : waitsOk cooperagelaw3_SumFinds.T4.2 cooperagelaw3_SumFinds.B4 = true := by kernel_rfl
set_option maxHeartbeats 8000000 in
set_option maxRecDepth 100000 in
theorem cooperagelaw3_SumFinds.calls (k : Nat) (a0 : Int) (a1 : ByteArray) (a2 : Int) (a3 : Int) (r : Bool) (w : World) (hG : Hand.Glob w) (h : cooperagelaw3_SumFinds.f k a0 a1 a2 a3 = some r) :
    Calls Tryd.prog 5 #[.int .u32 a0, .string a1, .int .i64 a2, .int .u8 a3] w fun e w' => e = .returned (.bool r) ∧ Below w.heap.size w w' := by
  have HB := Aside0.mk (Below.refl w.heap.size w)
  have H : ((cooperagelaw3_shown.f).bind fun t119 => (if t119 = true then (if (a1.size : Int) > 3000 then (cooperagelaw3_SumFinds.j0 k a0 a1 a2 a3 t119 true) else (if a2 < 0 then (cooperagelaw3_SumFinds.j0 k a0 a1 a2 a3 t119 true) else (cooperagelaw3_SumFinds.j0 k a0 a1 a2 a3 t119 (decide (a2 ≥ (a1.size : Int)))))) else (cooperagelaw3_SumFinds.j0 k a0 a1 a2 a3 t119 true))) = some r := h
  clear h
  replace H := Option.bind_eq_some_iff.mp H
  obtain ⟨t119, A50, H⟩ := H
  replace H : (if t119 = true then (if (a1.size : Int) > 3000 then (cooperagelaw3_SumFinds.j0 k a0 a1 a2 a3 t119 true) else (if a2 < 0 then (cooperagelaw3_SumFinds.j0 k a0 a1 a2 a3 t119 true) else (cooperagelaw3_SumFinds.j0 k a0 a1 a2 a3 t119 (decide (a2 ≥ (a1.size : Int)))))) else (cooperagelaw3_SumFinds.j0 k a0 a1 a2 a3 t119 true)) = some r := H
  have A5 := Aside0.mk A50
  clear A50
  have HC6 := Aside0.mk H
  clear H
  go_enter Tryd.func5, Tryd.ntmps5
  go_upto_region 2 with (first | ((with_reducible refine gate_callee (f := 8) rfl ?_); refine goesL_ (some 11) rfl rfl Tryd.func8 (by kernel_rfl) rfl #[] rfl (by (try simp only [List.map_toArray, List.map_cons, List.map_nil]); first | done | rfl | (simp only [List.length_drop, List.length_take]; rfl)) ?_; (with_reducible refine (cooperagelaw3_shown.calls  t119 _ ?side1 A5.out).mono ?_); (case side1 => exact Hand.Glob.below hG (by repeat (first | (with_reducible first | exact HB.out | apply below_alloc | apply pw_below_drewN | apply below_drew1) | exact HB.out))); rintro e w7 ⟨rfl, hb⟩; refine ⟨_, rfl, ?_⟩; have n0_ := Aside0.mk (below_step (by repeat (first | (with_reducible first | exact HB.out | apply below_alloc | apply pw_below_drewN | apply below_drew1) | exact HB.out)) hb); clear HB; have HB := n0_; clear n0_; (try clear hb); (try clear hb2); (try clear hk); (try clear hi)))
  (try simp only [Act.put, List.setIfInBounds_toArray, List.set_cons_zero, List.set_cons_succ])
  go_cut [28] (fun v28 wc => ∃ (kq : Nat) (x28_5 : Bool), v28 = .bool x28_5 ∧ Aside0 (cooperagelaw3_SumFinds.j0 kq a0 a1 a2 a3 t119 x28_5 = some r) ∧ Aside0 (kq ≤ k) ∧ Aside0 (Below w.heap.size w wc))
  case first =>
    have H := HC6.out
    clear HC6
    by_cases c8 : t119 = true
    · subst c8
      have H1 : (if (a1.size : Int) > 3000 then (cooperagelaw3_SumFinds.j0 k a0 a1 a2 a3 true true) else (if a2 < 0 then (cooperagelaw3_SumFinds.j0 k a0 a1 a2 a3 true true) else (cooperagelaw3_SumFinds.j0 k a0 a1 a2 a3 true (decide (a2 ≥ (a1.size : Int)))))) = some r := by rw [if_pos rfl] at H; exact H
      clear H
      have H := H1
      clear H1
      by_cases c9 : (a1.size : Int) > 3000
      · rw [if_pos c9] at H
        have c9b0 : decide (3000 < (a1.size : Int)) = true := decide_eq_true c9
        have c9b1 : decide (3000 < a1.size) = true := decide_eq_true (by omega)
        clear c9
        (first | rw [c9b0] | (simp only [i64_w, i32_w]; rw [c9b0]) | skip)
        have H' := Aside0.mk H
        clear H
        go_wp2
        go_meet
        case rel => exact ⟨_, (true), (by first | rfl | (simp; done) | (simp [*]; done)), H', ⟨by first | omega | exact Nat.le_refl _⟩, ⟨by repeat (first | (with_reducible first | exact HB.out | apply below_alloc | apply pw_below_drewN | apply below_drew1) | exact HB.out)⟩⟩
      · rw [if_neg c9] at H
        have c9b0 : decide (3000 < (a1.size : Int)) = false := decide_eq_false c9
        have c9b1 : decide (3000 < a1.size) = false := decide_eq_false (by omega)
        clear c9
        (first | rw [c9b0] | (simp only [i64_w, i32_w]; rw [c9b0]) | skip)
        by_cases c10 : a2 < 0
        · rw [if_pos c10] at H
          have c10b0 : decide (a2 < 0) = true := decide_eq_true c10
          clear c10
          have H' := Aside0.mk H
          clear H
          go_wp2
          go_meet
          case rel => exact ⟨_, (true), (by first | rfl | (simp; done) | (simp [*]; done)), H', ⟨by first | omega | exact Nat.le_refl _⟩, ⟨by repeat (first | (with_reducible first | exact HB.out | apply below_alloc | apply pw_below_drewN | apply below_drew1) | exact HB.out)⟩⟩
        · rw [if_neg c10] at H
          have c10b0 : decide (a2 < 0) = false := decide_eq_false c10
          clear c10
          have H' := Aside0.mk H
          clear H
          go_wp2
          go_meet
          case rel => exact ⟨_, (decide (a2 ≥ (a1.size : Int))), (by first | rfl | (simp; done) | (simp [*]; done)), H', ⟨by first | omega | exact Nat.le_refl _⟩, ⟨by repeat (first | (with_reducible first | exact HB.out | apply below_alloc | apply pw_below_drewN | apply below_drew1) | exact HB.out)⟩⟩
    · replace c8 := Bool.eq_false_iff.mpr c8
      subst c8
      have H1 : (cooperagelaw3_SumFinds.j0 k a0 a1 a2 a3 false true) = some r := by rw [if_neg (show ¬ (false = true) by decide)] at H; exact H
      clear H
      have H := H1
      clear H1
      have H' := Aside0.mk H
      clear H
      go_wp2
      go_meet
      case rel => exact ⟨_, (true), (by first | rfl | (simp; done) | (simp [*]; done)), H', ⟨by first | omega | exact Nat.le_refl _⟩, ⟨by repeat (first | (with_reducible first | exact HB.out | apply below_alloc | apply pw_below_drewN | apply below_drew1) | exact HB.out)⟩⟩
  case rest =>
    clear HC6
    try clear c1
    try clear p2
    try clear c5
    try clear c8
    try clear c9
    try clear c9b0
    try clear c9b1
    try clear c10
    try clear c10b0
    obtain ⟨kq, x28_5, rfl, HA, HJ5, HB⟩ := hcut
    cases kq with
    | zero => exact absurd HA.out (by simp [cooperagelaw3_SumFinds.j0])
    | succ kj5 =>
      have H := HA.out
      clear HA
      simp only [cooperagelaw3_SumFinds.j0] at H
      by_cases c11 : x28_5 = true
      · subst c11
        have H1 : (some t119) = some r := by rw [if_pos rfl] at H; exact H
        clear H
        have H := H1
        clear H1
        obtain rfl := Option.some.inj H
        go_wp2
        go_ret
        exact ⟨by first | rfl | (simp [errW_none, errW_some] <;> rfl) | (simp [*, errW_none, errW_some] <;> rfl), by repeat (first | (with_reducible first | exact HB.out | apply below_alloc | apply pw_below_drewN | apply below_drew1) | exact HB.out)⟩
      · replace c11 := Bool.eq_false_iff.mpr c11
        subst c11
        have H1 : (if 0 ≤ a2 then (if a2 ≤ (a1.size : Int) then ((some (([a3] : List Int) : List Int)).bind fun y120 => (if (a1.extract 0 (a2 : Int).toNat).size + (strOfNums y120).size ≤ 9223372036854775807 then (if 0 ≤ (wrap64 (a2 + 1)) then (if (wrap64 (a2 + 1)) ≤ (a1.size : Int) then (if ((a1.extract 0 (a2 : Int).toNat) ++ (strOfNums y120)).size + (a1.extract ((wrap64 (a2 + 1)) : Int).toNat a1.size).size ≤ 9223372036854775807 then ((sum_Add.f a0 a1).bind fun t123 => ((sum_Add.f a0 (((a1.extract 0 (a2 : Int).toNat) ++ (strOfNums y120)) ++ (a1.extract ((wrap64 (a2 + 1)) : Int).toNat a1.size))).bind fun t124 => (if ((t123 == t124) == (a1.toList == (((a1.extract 0 (a2 : Int).toNat) ++ (strOfNums y120)) ++ (a1.extract ((wrap64 (a2 + 1)) : Int).toNat a1.size)).toList)) = true then ((sum_Of.f a1).bind fun t125 => ((sum_Hex.f t125).bind fun t126 => ((sum_Of.f (((a1.extract 0 (a2 : Int).toNat) ++ (strOfNums y120)) ++ (a1.extract ((wrap64 (a2 + 1)) : Int).toNat a1.size))).bind fun t127 => ((sum_Hex.f t127).bind fun t128 => (some ((t126.toList == t128.toList) == (a1.toList == (((a1.extract 0 (a2 : Int).toNat) ++ (strOfNums y120)) ++ (a1.extract ((wrap64 (a2 + 1)) : Int).toNat a1.size)).toList))))))) else (some false)))) else (none)) else (none)) else (none)) else (none))) else (none)) else (none)) = some r := by rw [if_neg (show ¬ (false = true) by decide)] at H; exact H
        clear H
        have H := H1
        clear H1
        by_cases c12 : 0 ≤ a2
        · rw [if_pos c12] at H
          have c12b0 := eq_true c12
          have c12b1 : decide (0 ≤ a2) = true := decide_eq_true c12
          clear c12
          by_cases c13 : a2 ≤ (a1.size : Int)
          · rw [if_pos c13] at H
            have c13b0 := eq_true c13
            have c13b1 : decide (a2 ≤ (a1.size : Int)) = true := decide_eq_true c13
            clear c13
            obtain ⟨y120, hy120⟩ : ∃ y_ : List Int, y_ = (([a3] : List Int)) := ⟨_, rfl⟩
            replace H : (if (a1.extract 0 (a2 : Int).toNat).size + (strOfNums y120).size ≤ 9223372036854775807 then (if 0 ≤ (wrap64 (a2 + 1)) then (if (wrap64 (a2 + 1)) ≤ (a1.size : Int) then (if ((a1.extract 0 (a2 : Int).toNat) ++ (strOfNums y120)).size + (a1.extract ((wrap64 (a2 + 1)) : Int).toNat a1.size).size ≤ 9223372036854775807 then ((sum_Add.f a0 a1).bind fun t123 => ((sum_Add.f a0 (((a1.extract 0 (a2 : Int).toNat) ++ (strOfNums y120)) ++ (a1.extract ((wrap64 (a2 + 1)) : Int).toNat a1.size))).bind fun t124 => (if ((t123 == t124) == (a1.toList == (((a1.extract 0 (a2 : Int).toNat) ++ (strOfNums y120)) ++ (a1.extract ((wrap64 (a2 + 1)) : Int).toNat a1.size)).toList)) = true then ((sum_Of.f a1).bind fun t125 => ((sum_Hex.f t125).bind fun t126 => ((sum_Of.f (((a1.extract 0 (a2 : Int).toNat) ++ (strOfNums y120)) ++ (a1.extract ((wrap64 (a2 + 1)) : Int).toNat a1.size))).bind fun t127 => ((sum_Hex.f t127).bind fun t128 => (some ((t126.toList == t128.toList) == (a1.toList == (((a1.extract 0 (a2 : Int).toNat) ++ (strOfNums y120)) ++ (a1.extract ((wrap64 (a2 + 1)) : Int).toNat a1.size)).toList))))))) else (some false)))) else (none)) else (none)) else (none)) else (none)) = some r := by first | (rw [hy120]; with_reducible exact H) | (have H2_ := (Option.bind_some _ _).symm.trans H; rw [hy120]; with_reducible exact H2_) | (have H2_ := (Option.bind_some _ _).symm.trans H; with_reducible exact H2_) | with_reducible exact H | (rw [hy120]; exact H) | exact H
            have Ny120 := Aside0.mk hy120
            clear hy120
            by_cases c14 : (a1.extract 0 (a2 : Int).toNat).size + (strOfNums y120).size ≤ 9223372036854775807
            · rw [if_pos c14] at H
              have c14b0 := eq_true c14
              have c14b1 : decide ((a1.extract 0 (a2 : Int).toNat).size + (strOfNums y120).size ≤ 9223372036854775807) = true := decide_eq_true c14
              try have c14b2 : (9223372036854775807 < (a1.extract 0 (a2 : Int).toNat).size + (strOfNums y120).size) = False := eq_false (Nat.not_lt.2 c14)
              have e14 : (a1.extract 0 (a2 : Int).toNat).size = (a2 : Int).toNat := by simp only [ByteArray.size_extract]; have := of_eq_true c13b0; have := of_eq_true c12b0; omega
              have c14b3 : (9223372036854775807 < (a2 : Int).toNat + (strOfNums y120).size) = False := eq_false (by rw [e14] at c14; omega)
              have E14 := Aside0.mk e14
              clear e14
              obtain ⟨ji15, hji15⟩ : ∃ j_ : Int, (wrap64 (a2 + 1)) = j_ := ⟨_, rfl⟩
              replace H : (if 0 ≤ (ji15) then (if (ji15) ≤ (a1.size : Int) then (if ((a1.extract 0 (a2 : Int).toNat) ++ (strOfNums y120)).size + (a1.extract ((ji15) : Int).toNat a1.size).size ≤ 9223372036854775807 then ((sum_Add.f a0 a1).bind fun t123 => ((sum_Add.f a0 (((a1.extract 0 (a2 : Int).toNat) ++ (strOfNums y120)) ++ (a1.extract ((ji15) : Int).toNat a1.size))).bind fun t124 => (if ((t123 == t124) == (a1.toList == (((a1.extract 0 (a2 : Int).toNat) ++ (strOfNums y120)) ++ (a1.extract ((ji15) : Int).toNat a1.size)).toList)) = true then ((sum_Of.f a1).bind fun t125 => ((sum_Hex.f t125).bind fun t126 => ((sum_Of.f (((a1.extract 0 (a2 : Int).toNat) ++ (strOfNums y120)) ++ (a1.extract ((ji15) : Int).toNat a1.size))).bind fun t127 => ((sum_Hex.f t127).bind fun t128 => (some ((t126.toList == t128.toList) == (a1.toList == (((a1.extract 0 (a2 : Int).toNat) ++ (strOfNums y120)) ++ (a1.extract ((ji15) : Int).toNat a1.size)).toList))))))) else (some false)))) else (none)) else (none)) else (none)) = some r := by first | (rw [hji15] at H; exact H) | (simp only [hji15] at H ⊢; exact H)
              have hji15w : (IntKind.i64.wrap (a2 + 1)) = ji15 := (i64_w _).trans hji15
              by_cases c16 : 0 ≤ (ji15)
              · rw [if_pos c16] at H
                have c16b0 := eq_true c16
                have c16b1 : decide (0 ≤ (ji15)) = true := decide_eq_true c16
                clear c16
                by_cases c17 : (ji15) ≤ (a1.size : Int)
                · rw [if_pos c17] at H
                  have c17b0 := eq_true c17
                  have c17b1 : decide ((ji15) ≤ (a1.size : Int)) = true := decide_eq_true c17
                  clear c17
                  by_cases c18 : ((a1.extract 0 (a2 : Int).toNat) ++ (strOfNums y120)).size + (a1.extract ((ji15) : Int).toNat a1.size).size ≤ 9223372036854775807
                  · rw [if_pos c18] at H
                    have c18b0 := eq_true c18
                    have c18b1 : decide (((a1.extract 0 (a2 : Int).toNat) ++ (strOfNums y120)).size + (a1.extract ((ji15) : Int).toNat a1.size).size ≤ 9223372036854775807) = true := decide_eq_true c18
                    try have c18b2 : (9223372036854775807 < ((a1.extract 0 (a2 : Int).toNat) ++ (strOfNums y120)).size + (a1.extract ((ji15) : Int).toNat a1.size).size) = False := eq_false (Nat.not_lt.2 c18)
                    have c18b3 : (9223372036854775807 < (a2 : Int).toNat + (strOfNums y120).size + (a1.size - (ji15 : Int).toNat)) = False := eq_false (by have e := c18; rw [ByteArray.size_append, E14.out, ByteArray.size_extract] at e; omega)
                    replace H := Option.bind_eq_some_iff.mp H
                    obtain ⟨t123, A190, H⟩ := H
                    replace H : ((sum_Add.f a0 (((a1.extract 0 (a2 : Int).toNat) ++ (strOfNums y120)) ++ (a1.extract ((ji15) : Int).toNat a1.size))).bind fun t124 => (if ((t123 == t124) == (a1.toList == (((a1.extract 0 (a2 : Int).toNat) ++ (strOfNums y120)) ++ (a1.extract ((ji15) : Int).toNat a1.size)).toList)) = true then ((sum_Of.f a1).bind fun t125 => ((sum_Hex.f t125).bind fun t126 => ((sum_Of.f (((a1.extract 0 (a2 : Int).toNat) ++ (strOfNums y120)) ++ (a1.extract ((ji15) : Int).toNat a1.size))).bind fun t127 => ((sum_Hex.f t127).bind fun t128 => (some ((t126.toList == t128.toList) == (a1.toList == (((a1.extract 0 (a2 : Int).toNat) ++ (strOfNums y120)) ++ (a1.extract ((ji15) : Int).toNat a1.size)).toList))))))) else (some false))) = some r := H
                    have A19 := Aside0.mk A190
                    clear A190
                    replace H := Option.bind_eq_some_iff.mp H
                    obtain ⟨t124, A200, H⟩ := H
                    replace H : (if ((t123 == t124) == (a1.toList == (((a1.extract 0 (a2 : Int).toNat) ++ (strOfNums y120)) ++ (a1.extract ((ji15) : Int).toNat a1.size)).toList)) = true then ((sum_Of.f a1).bind fun t125 => ((sum_Hex.f t125).bind fun t126 => ((sum_Of.f (((a1.extract 0 (a2 : Int).toNat) ++ (strOfNums y120)) ++ (a1.extract ((ji15) : Int).toNat a1.size))).bind fun t127 => ((sum_Hex.f t127).bind fun t128 => (some ((t126.toList == t128.toList) == (a1.toList == (((a1.extract 0 (a2 : Int).toNat) ++ (strOfNums y120)) ++ (a1.extract ((ji15) : Int).toNat a1.size)).toList))))))) else (some false)) = some r := H
                    have A20 := Aside0.mk A200
                    clear A200
                    by_cases c21 : ((t123 == t124) == (a1.toList == (((a1.extract 0 (a2 : Int).toNat) ++ (strOfNums y120)) ++ (a1.extract ((ji15) : Int).toNat a1.size)).toList)) = true
                    · rw [if_pos c21] at H
                      have c21b0 : ((t123 == t124) == (a1.toList == (((a1.extract 0 (a2 : Int).toNat) ++ (strOfNums y120)) ++ (a1.extract ((ji15) : Int).toNat a1.size)).toList)) = true := c21
                      (try (have c21b1 : decide ((t123 == t124) = (a1.toList == (((a1.extract 0 (a2 : Int).toNat) ++ (strOfNums y120)) ++ (a1.extract ((ji15) : Int).toNat a1.size)).toList)) = true := by simpa using c21))
                      (try (have c21b2 : ((t123 == t124) == (a1.toList == (((a1.extract 0 (a2 : Int).toNat) ++ (strOfNums y120)) ++ (a1.extract ((ji15) : Int).toNat a1.size)).toList)) = true := by simpa using c21))
                      clear c21
                      replace H := Option.bind_eq_some_iff.mp H
                      obtain ⟨t125, A220, H⟩ := H
                      replace H : ((sum_Hex.f t125).bind fun t126 => ((sum_Of.f (((a1.extract 0 (a2 : Int).toNat) ++ (strOfNums y120)) ++ (a1.extract ((ji15) : Int).toNat a1.size))).bind fun t127 => ((sum_Hex.f t127).bind fun t128 => (some ((t126.toList == t128.toList) == (a1.toList == (((a1.extract 0 (a2 : Int).toNat) ++ (strOfNums y120)) ++ (a1.extract ((ji15) : Int).toNat a1.size)).toList)))))) = some r := H
                      have A22 := Aside0.mk A220
                      clear A220
                      replace H := Option.bind_eq_some_iff.mp H
                      obtain ⟨t126, A230, H⟩ := H
                      replace H : ((sum_Of.f (((a1.extract 0 (a2 : Int).toNat) ++ (strOfNums y120)) ++ (a1.extract ((ji15) : Int).toNat a1.size))).bind fun t127 => ((sum_Hex.f t127).bind fun t128 => (some ((t126.toList == t128.toList) == (a1.toList == (((a1.extract 0 (a2 : Int).toNat) ++ (strOfNums y120)) ++ (a1.extract ((ji15) : Int).toNat a1.size)).toList))))) = some r := H
                      have A23 := Aside0.mk A230
                      clear A230
                      replace H := Option.bind_eq_some_iff.mp H
                      obtain ⟨t127, A240, H⟩ := H
                      replace H : ((sum_Hex.f t127).bind fun t128 => (some ((t126.toList == t128.toList) == (a1.toList == (((a1.extract 0 (a2 : Int).toNat) ++ (strOfNums y120)) ++ (a1.extract ((ji15) : Int).toNat a1.size)).toList)))) = some r := H
                      have A24 := Aside0.mk A240
                      clear A240
                      replace H := Option.bind_eq_some_iff.mp H
                      obtain ⟨t128, A250, H⟩ := H
                      replace H : (some ((t126.toList == t128.toList) == (a1.toList == (((a1.extract 0 (a2 : Int).toNat) ++ (strOfNums y120)) ++ (a1.extract ((ji15) : Int).toNat a1.size)).toList))) = some r := H
                      have A25 := Aside0.mk A250
                      clear A250
                      obtain rfl := Option.some.inj H
                      try go_wp2
                      have n0_ := Aside0.mk (below_drew1 HB.out)
                      clear HB
                      have HB := n0_
                      clear n0_
                      refine start_ (n := 13) (S := fun w' => True) (ds := []) #[false, false, false, false, false, false, false, false, false, false, false, false, false] (by kernel_rfl) rfl rfl trivial (fun hHeld => ?_); refine with_tabW cooperagelaw3_SumFinds.tab4 cooperagelaw3_SumFinds.bits4 (fun HT_ HW_ => ?_)
                      generalize wc.drew = w26 at HB hHeld ⊢
                      refine pure_ (i := 0) (N := some 30) (v := ?_) (a' := ?_) #[true, false, false, false, false, false, false, false, false, false, false, false, false] rfl rfl (any_of HT_.out (by kernel_rfl)) (fun _ _ _ h => h) (Or.inl ⟨by rfl, ?_⟩) ?_ ?_
                      rotate_left
                      · intro w'
                        go_simp
                        with_reducible rfl
                      rotate_left
                      · simp only [Act.put, List.setIfInBounds_toArray, List.set_cons_zero, List.set_cons_succ, i64_w, i32_w]
                        rfl
                      refine pure_ (i := 1) (N := some 31) (v := ?_) (a' := ?_) #[true, true, false, false, false, false, false, false, false, false, false, false, false] rfl rfl (any_of HT_.out (by kernel_rfl)) (fun _ _ _ h => h) (Or.inl ⟨by rfl, ?_⟩) ?_ ?_
                      rotate_left
                      · intro w'
                        go_simp
                        with_reducible rfl
                      rotate_left
                      · simp only [Act.put, List.setIfInBounds_toArray, List.set_cons_zero, List.set_cons_succ, i64_w, i32_w]
                        rfl
                      refine pure_ (i := 2) (N := some 32) (v := ?_) (a' := ?_) #[true, true, true, false, false, false, false, false, false, false, false, false, false] rfl rfl (any_of HT_.out (by kernel_rfl)) (fun _ _ _ h => h) (Or.inl ⟨by rfl, ?_⟩) ?_ ?_
                      rotate_left
                      · intro w'
                        go_simp
                        with_reducible rfl
                      rotate_left
                      · simp only [Act.put, List.setIfInBounds_toArray, List.set_cons_zero, List.set_cons_succ, i64_w, i32_w]
                        rfl
                      refine pure_ (i := 3) (N := some 33) (v := ?_) (a' := ?_) #[true, true, true, true, false, false, false, false, false, false, false, false, false] rfl rfl (any_of HT_.out (by kernel_rfl)) (fun _ _ _ h => h) (Or.inl ⟨by rfl, ?_⟩) ?_ ?_
                      rotate_left
                      · intro w'
                        go_simp
                        with_reducible rfl
                      rotate_left
                      · simp only [Act.put, List.setIfInBounds_toArray, List.set_cons_zero, List.set_cons_succ, i64_w, i32_w]
                        rfl
                      refine pure_ (i := 7) (N := some 37) (v := ?_) (a' := ?_) #[true, true, true, true, false, false, false, true, false, false, false, false, false] rfl rfl (any_of HT_.out (by kernel_rfl)) (fun _ _ _ h => h) (Or.inl ⟨by rfl, ?_⟩) ?_ ?_
                      rotate_left
                      · intro w'
                        go_simp
                        with_reducible rfl
                      rotate_left
                      · simp only [Act.put, List.setIfInBounds_toArray, List.set_cons_zero, List.set_cons_succ, i64_w, i32_w]
                        rfl
                      refine pure_ (i := 8) (N := some 38) (v := ?_) (a' := ?_) #[true, true, true, true, false, false, false, true, true, false, false, false, false] rfl rfl (any_of HT_.out (by kernel_rfl)) (fun _ _ _ h => h) (Or.inl ⟨by rfl, ?_⟩) ?_ ?_
                      rotate_left
                      · intro w'
                        go_simp
                        with_reducible rfl
                      rotate_left
                      · simp only [Act.put, List.setIfInBounds_toArray, List.set_cons_zero, List.set_cons_succ, i64_w, i32_w]
                        rfl
                      refine pure_ (i := 9) (N := some 39) (v := ?_) (a' := ?_) #[true, true, true, true, false, false, false, true, true, true, false, false, false] rfl rfl (any_of HT_.out (by kernel_rfl)) (fun _ _ _ h => h) (Or.inl ⟨by rfl, ?_⟩) ?_ ?_
                      rotate_left
                      · intro w'
                        go_simp
                        with_reducible rfl
                      rotate_left
                      · simp only [Act.put, List.setIfInBounds_toArray, List.set_cons_zero, List.set_cons_succ, i64_w, i32_w]
                        rfl
                      refine pure_ (i := 10) (N := some 40) (v := ?_) (a' := ?_) #[true, true, true, true, false, false, false, true, true, true, true, false, false] rfl rfl (any_of HT_.out (by kernel_rfl)) (fun _ _ _ h => h) (Or.inl ⟨by rfl, ?_⟩) ?_ ?_
                      rotate_left
                      · intro w'
                        go_simp
                        with_reducible rfl
                      rotate_left
                      · simp only [Act.put, List.setIfInBounds_toArray, List.set_cons_zero, List.set_cons_succ, i64_w, i32_w]
                        rfl
                      refine one_ (i := 4) (N := some 34) #[true, true, true, true, true, false, false, true, true, true, true, false, false] rfl rfl (one_of HT_.out (by kernel_rfl)) (by decide) (fun K hK => ?_)
                      refine Kd.R_lit_step (Kd.int .u8) _ 5 ?hg (N := 34) ?hd (xs := ([a3] : List Int)) (inner := [.int .u8 a3]) (ok := fun _ => True) (okp := fun _ => True) ?hr ?hp (fun _ hk => hk) trivial (Below.refl _ _) (Nat.le_refl _) (by simp) ?_; (case hd => rfl); (case hg => rfl); (case hr => first | (go_simp; done) | (go_simp; rfl)); (case hp => exact (Reps.one (show Kd.M (Kd.int .u8) _ _ _ a3 [.int .u8 a3] from rfl) (Reps.none _ _)))
                      intro v121 w27 ho28 hb hg_ hnew_
                      clear hg_ hnew_
                      (first | rw [← Ny120.out] at ho28 | (simp only [Int.reduceToNat] at ho28; rw [← Ny120.out] at ho28))
                      have n0_ := Aside0.mk (Kd.R_lower ho28 (below_size (by repeat (first | (with_reducible first | exact HB.out | apply below_alloc | apply pw_below_drewN | apply below_drew1) | exact HB.out))))
                      have n1_ := Aside0.mk (below_step (by repeat (first | (with_reducible first | exact HB.out | apply below_alloc | apply pw_below_drewN | apply below_drew1) | exact HB.out)) hb)
                      clear HB
                      have HO122 := n0_
                      have HB := n1_
                      clear n0_ n1_
                      clear hb ho28
                      refine hK.out _ _ trivial (fun hHeld => ?_)
                      clear hK K
                      refine norm_ (a' := ?_) ?_ ?_
                      rotate_left
                      · show Act.put _ (some 34) _ = _
                        simp only [Act.put, List.setIfInBounds_toArray, List.set_cons_zero, List.set_cons_succ, i64_w, i32_w]
                        rfl
                      refine one_ (i := 5) (N := some 35) #[true, true, true, true, true, true, false, true, true, true, true, false, false] rfl rfl (one_of HT_.out (by kernel_rfl)) (by decide) (fun K hK => ?_)
                      have hcv29 := own_string (P := Tryd.prog) Tryd.underlying30 Tryd.underlying5 Tryd.underlying9 (Kd.own_of_R HO122.out)
                      refine value_ (w1 := ?_) (v := ?_) (by rfl) rfl ?_ ?_
                      rotate_left 2
                      · go_simp
                        constructor
                        · rfl
                        · rfl
                      clear hcv29
                      refine hK.out _ _ trivial (fun hHeld => ?_)
                      clear hK K
                      refine norm_ (a' := ?_) ?_ ?_
                      rotate_left
                      · show Act.put _ (some 35) _ = _
                        simp only [Act.put, List.setIfInBounds_toArray, List.set_cons_zero, List.set_cons_succ, i64_w, i32_w]
                        rfl
                      refine pure_ (i := 6) (N := some 36) (v := ?_) (a' := ?_) #[true, true, true, true, true, true, true, true, true, true, true, false, false] rfl rfl (any_of HT_.out (by kernel_rfl)) (fun _ _ _ h => h) (Or.inl ⟨by rfl, ?_⟩) ?_ ?_
                      rotate_left
                      · intro w'
                        go_simp
                        with_reducible rfl
                      rotate_left
                      · simp only [Act.put, List.setIfInBounds_toArray, List.set_cons_zero, List.set_cons_succ, i64_w, i32_w]
                        rfl
                      refine pure_ (i := 11) (N := some 41) (v := ?_) (a' := ?_) #[true, true, true, true, true, true, true, true, true, true, true, true, false] rfl rfl (any_of HT_.out (by kernel_rfl)) (fun _ _ _ h => h) (Or.inl ⟨by rfl, ?_⟩) ?_ ?_
                      rotate_left
                      · intro w'
                        go_simp
                        with_reducible rfl
                      rotate_left
                      · simp only [Act.put, List.setIfInBounds_toArray, List.set_cons_zero, List.set_cons_succ, i64_w, i32_w]
                        rfl
                      refine pure_ (i := 12) (N := some 10) (v := ?_) (a' := ?_) #[true, true, true, true, true, true, true, true, true, true, true, true, true] rfl rfl (any_of HT_.out (by kernel_rfl)) (fun _ _ _ h => h) (Or.inl ⟨by rfl, ?_⟩) ?_ ?_
                      rotate_left
                      · intro w'
                        go_simp
                        with_reducible rfl
                      rotate_left
                      · simp only [Act.put, List.setIfInBounds_toArray, List.set_cons_zero, List.set_cons_succ, i64_w, i32_w]
                        rfl
                      refine done_ (done_of HT_.out (by kernel_rfl)) ?_
                      try go_wp2_with (first | ((with_reducible refine gate_callee (f := 9) rfl ?_); refine goesL_ (some 44) rfl rfl Tryd.func9 (by kernel_rfl) rfl #[.int .u32 a0, .string a1] rfl (by (try simp only [List.map_toArray, List.map_cons, List.map_nil]); first | done | rfl | (simp only [List.length_drop, List.length_take]; rfl)) ?_; (with_reducible refine (sum_Add.calls a0 a1 t123 _ A19.out).mono ?_); rintro e w30 ⟨rfl, hb⟩; refine ⟨_, rfl, ?_⟩; have n0_ := Aside0.mk (Kd.R_below (by (with_reducible repeat (first | apply Kd.R_alloc | apply Kd.R_drewN | apply Kd.R_drew)); exact HO122.out) hb); have n1_ := Aside0.mk (below_step (by repeat (first | (with_reducible first | exact HB.out | apply below_alloc | apply pw_below_drewN | apply below_drew1) | exact HB.out)) hb); clear HO122; clear HB; have HO122 := n0_; have HB := n1_; clear n0_ n1_; (try clear hb); (try clear hb2); (try clear hk); (try clear hi)) | ((with_reducible refine gate_callee (f := 9) rfl ?_); refine goesL_ (some 47) rfl rfl Tryd.func9 (by kernel_rfl) rfl #[.int .u32 a0, .string (((a1.extract 0 (a2 : Int).toNat) ++ (strOfNums y120)) ++ (a1.extract ((ji15) : Int).toNat a1.size))] rfl (by (try simp only [List.map_toArray, List.map_cons, List.map_nil]); first | done | (simp only [hji15]; rfl) | rfl | (simp only [List.length_drop, List.length_take]; rfl)) ?_; (with_reducible refine (sum_Add.calls a0 (((a1.extract 0 (a2 : Int).toNat) ++ (strOfNums y120)) ++ (a1.extract ((ji15) : Int).toNat a1.size)) t124 _ A20.out).mono ?_); rintro e w31 ⟨rfl, hb⟩; refine ⟨_, rfl, ?_⟩; have n0_ := Aside0.mk (Kd.R_below (by (with_reducible repeat (first | apply Kd.R_alloc | apply Kd.R_drewN | apply Kd.R_drew)); exact HO122.out) hb); have n1_ := Aside0.mk (below_step (by repeat (first | (with_reducible first | exact HB.out | apply below_alloc | apply pw_below_drewN | apply below_drew1) | exact HB.out)) hb); clear HO122; clear HB; have HO122 := n0_; have HB := n1_; clear n0_ n1_; (try clear hb); (try clear hb2); (try clear hk); (try clear hi)) | (go_at_call 11; (with_reducible refine (sum_Of.calls a1 t125 _ A22.out).mono ?_); rintro e w32 ⟨rfl, hb⟩; have n0_ := Aside0.mk (Kd.R_below (by (with_reducible repeat (first | apply Kd.R_alloc | apply Kd.R_drewN | apply Kd.R_drew)); exact HO122.out) hb); have n1_ := Aside0.mk (below_step (by repeat (first | (with_reducible first | exact HB.out | apply below_alloc | apply pw_below_drewN | apply below_drew1) | exact HB.out)) hb); clear HO122; clear HB; have HO122 := n0_; have HB := n1_; clear n0_ n1_; (try clear hb); (try clear hb2); (try clear hk); (try clear hi)) | (go_at_call 13; (with_reducible refine (sum_Hex.calls t125 t126 _ ?side1 A23.out).mono ?_); (case side1 => exact Hand.Glob.below hG (by repeat (first | (with_reducible first | exact HB.out | apply below_alloc | apply pw_below_drewN | apply below_drew1) | exact HB.out))); rintro e w33 ⟨rfl, hb⟩; have n0_ := Aside0.mk (Kd.R_below (by (with_reducible repeat (first | apply Kd.R_alloc | apply Kd.R_drewN | apply Kd.R_drew)); exact HO122.out) hb); have n1_ := Aside0.mk (below_step (by repeat (first | (with_reducible first | exact HB.out | apply below_alloc | apply pw_below_drewN | apply below_drew1) | exact HB.out)) hb); clear HO122; clear HB; have HO122 := n0_; have HB := n1_; clear n0_ n1_; (try clear hb); (try clear hb2); (try clear hk); (try clear hi)) | (go_at_call 11; (with_reducible refine (sum_Of.calls (((a1.extract 0 (a2 : Int).toNat) ++ (strOfNums y120)) ++ (a1.extract ((ji15) : Int).toNat a1.size)) t127 _ A24.out).mono ?_); rintro e w34 ⟨rfl, hb⟩; have n0_ := Aside0.mk (Kd.R_below (by (with_reducible repeat (first | apply Kd.R_alloc | apply Kd.R_drewN | apply Kd.R_drew)); exact HO122.out) hb); have n1_ := Aside0.mk (below_step (by repeat (first | (with_reducible first | exact HB.out | apply below_alloc | apply pw_below_drewN | apply below_drew1) | exact HB.out)) hb); clear HO122; clear HB; have HO122 := n0_; have HB := n1_; clear n0_ n1_; (try clear hb); (try clear hb2); (try clear hk); (try clear hi)) | (go_at_call 13; (with_reducible refine (sum_Hex.calls t127 t128 _ ?side1 A25.out).mono ?_); (case side1 => exact Hand.Glob.below hG (by repeat (first | (with_reducible first | exact HB.out | apply below_alloc | apply pw_below_drewN | apply below_drew1) | exact HB.out))); rintro e w35 ⟨rfl, hb⟩; have n0_ := Aside0.mk (Kd.R_below (by (with_reducible repeat (first | apply Kd.R_alloc | apply Kd.R_drewN | apply Kd.R_drew)); exact HO122.out) hb); have n1_ := Aside0.mk (below_step (by repeat (first | (with_reducible first | exact HB.out | apply below_alloc | apply pw_below_drewN | apply below_drew1) | exact HB.out)) hb); clear HO122; clear HB; have HO122 := n0_; have HB := n1_; clear n0_ n1_; (try clear hb); (try clear hb2); (try clear hk); (try clear hi)))
                      go_ret
                      exact ⟨by first | rfl | (simp [errW_none, errW_some] <;> rfl) | (simp only [← hji15]; first | rfl | (simp [errW_none, errW_some] <;> rfl)) | (simp [*, errW_none, errW_some] <;> rfl), by repeat (first | (with_reducible first | exact HB.out | apply below_alloc | apply pw_below_drewN | apply below_drew1) | exact HB.out)⟩
                    · rw [if_neg c21] at H
                      have c21b0 : ((t123 == t124) == (a1.toList == (((a1.extract 0 (a2 : Int).toNat) ++ (strOfNums y120)) ++ (a1.extract ((ji15) : Int).toNat a1.size)).toList)) = false := by simpa using c21
                      (try (have c21b1 : decide ((t123 == t124) = (a1.toList == (((a1.extract 0 (a2 : Int).toNat) ++ (strOfNums y120)) ++ (a1.extract ((ji15) : Int).toNat a1.size)).toList)) = false := by simpa using c21))
                      (try (have c21b2 : ((t123 == t124) == (a1.toList == (((a1.extract 0 (a2 : Int).toNat) ++ (strOfNums y120)) ++ (a1.extract ((ji15) : Int).toNat a1.size)).toList)) = false := by simpa using c21))
                      (try (have c21b3 : ¬ ((t123 == t124) = (a1.toList == (((a1.extract 0 (a2 : Int).toNat) ++ (strOfNums y120)) ++ (a1.extract ((ji15) : Int).toNat a1.size)).toList)) := by simpa using c21))
                      clear c21
                      obtain rfl := Option.some.inj H
                      try go_wp2
                      have n0_ := Aside0.mk (below_drew1 HB.out)
                      clear HB
                      have HB := n0_
                      clear n0_
                      refine start_ (n := 13) (S := fun w' => True) (ds := []) #[false, false, false, false, false, false, false, false, false, false, false, false, false] (by kernel_rfl) rfl rfl trivial (fun hHeld => ?_); refine with_tabW cooperagelaw3_SumFinds.tab4 cooperagelaw3_SumFinds.bits4 (fun HT_ HW_ => ?_)
                      generalize wc.drew = w36 at HB hHeld ⊢
                      refine pure_ (i := 0) (N := some 30) (v := ?_) (a' := ?_) #[true, false, false, false, false, false, false, false, false, false, false, false, false] rfl rfl (any_of HT_.out (by kernel_rfl)) (fun _ _ _ h => h) (Or.inl ⟨by rfl, ?_⟩) ?_ ?_
                      rotate_left
                      · intro w'
                        go_simp
                        with_reducible rfl
                      rotate_left
                      · simp only [Act.put, List.setIfInBounds_toArray, List.set_cons_zero, List.set_cons_succ, i64_w, i32_w]
                        rfl
                      refine pure_ (i := 1) (N := some 31) (v := ?_) (a' := ?_) #[true, true, false, false, false, false, false, false, false, false, false, false, false] rfl rfl (any_of HT_.out (by kernel_rfl)) (fun _ _ _ h => h) (Or.inl ⟨by rfl, ?_⟩) ?_ ?_
                      rotate_left
                      · intro w'
                        go_simp
                        with_reducible rfl
                      rotate_left
                      · simp only [Act.put, List.setIfInBounds_toArray, List.set_cons_zero, List.set_cons_succ, i64_w, i32_w]
                        rfl
                      refine pure_ (i := 2) (N := some 32) (v := ?_) (a' := ?_) #[true, true, true, false, false, false, false, false, false, false, false, false, false] rfl rfl (any_of HT_.out (by kernel_rfl)) (fun _ _ _ h => h) (Or.inl ⟨by rfl, ?_⟩) ?_ ?_
                      rotate_left
                      · intro w'
                        go_simp
                        with_reducible rfl
                      rotate_left
                      · simp only [Act.put, List.setIfInBounds_toArray, List.set_cons_zero, List.set_cons_succ, i64_w, i32_w]
                        rfl
                      refine pure_ (i := 3) (N := some 33) (v := ?_) (a' := ?_) #[true, true, true, true, false, false, false, false, false, false, false, false, false] rfl rfl (any_of HT_.out (by kernel_rfl)) (fun _ _ _ h => h) (Or.inl ⟨by rfl, ?_⟩) ?_ ?_
                      rotate_left
                      · intro w'
                        go_simp
                        with_reducible rfl
                      rotate_left
                      · simp only [Act.put, List.setIfInBounds_toArray, List.set_cons_zero, List.set_cons_succ, i64_w, i32_w]
                        rfl
                      refine pure_ (i := 7) (N := some 37) (v := ?_) (a' := ?_) #[true, true, true, true, false, false, false, true, false, false, false, false, false] rfl rfl (any_of HT_.out (by kernel_rfl)) (fun _ _ _ h => h) (Or.inl ⟨by rfl, ?_⟩) ?_ ?_
                      rotate_left
                      · intro w'
                        go_simp
                        with_reducible rfl
                      rotate_left
                      · simp only [Act.put, List.setIfInBounds_toArray, List.set_cons_zero, List.set_cons_succ, i64_w, i32_w]
                        rfl
                      refine pure_ (i := 8) (N := some 38) (v := ?_) (a' := ?_) #[true, true, true, true, false, false, false, true, true, false, false, false, false] rfl rfl (any_of HT_.out (by kernel_rfl)) (fun _ _ _ h => h) (Or.inl ⟨by rfl, ?_⟩) ?_ ?_
                      rotate_left
                      · intro w'
                        go_simp
                        with_reducible rfl
                      rotate_left
                      · simp only [Act.put, List.setIfInBounds_toArray, List.set_cons_zero, List.set_cons_succ, i64_w, i32_w]
                        rfl
                      refine pure_ (i := 9) (N := some 39) (v := ?_) (a' := ?_) #[true, true, true, true, false, false, false, true, true, true, false, false, false] rfl rfl (any_of HT_.out (by kernel_rfl)) (fun _ _ _ h => h) (Or.inl ⟨by rfl, ?_⟩) ?_ ?_
                      rotate_left
                      · intro w'
                        go_simp
                        with_reducible rfl
                      rotate_left
                      · simp only [Act.put, List.setIfInBounds_toArray, List.set_cons_zero, List.set_cons_succ, i64_w, i32_w]
                        rfl
                      refine pure_ (i := 10) (N := some 40) (v := ?_) (a' := ?_) #[true, true, true, true, false, false, false, true, true, true, true, false, false] rfl rfl (any_of HT_.out (by kernel_rfl)) (fun _ _ _ h => h) (Or.inl ⟨by rfl, ?_⟩) ?_ ?_
                      rotate_left
                      · intro w'
                        go_simp
                        with_reducible rfl
                      rotate_left
                      · simp only [Act.put, List.setIfInBounds_toArray, List.set_cons_zero, List.set_cons_succ, i64_w, i32_w]
                        rfl
                      refine one_ (i := 4) (N := some 34) #[true, true, true, true, true, false, false, true, true, true, true, false, false] rfl rfl (one_of HT_.out (by kernel_rfl)) (by decide) (fun K hK => ?_)
                      refine Kd.R_lit_step (Kd.int .u8) _ 5 ?hg (N := 34) ?hd (xs := ([a3] : List Int)) (inner := [.int .u8 a3]) (ok := fun _ => True) (okp := fun _ => True) ?hr ?hp (fun _ hk => hk) trivial (Below.refl _ _) (Nat.le_refl _) (by simp) ?_; (case hd => rfl); (case hg => rfl); (case hr => first | (go_simp; done) | (go_simp; rfl)); (case hp => exact (Reps.one (show Kd.M (Kd.int .u8) _ _ _ a3 [.int .u8 a3] from rfl) (Reps.none _ _)))
                      intro v121 w37 ho38 hb hg_ hnew_
                      clear hg_ hnew_
                      (first | rw [← Ny120.out] at ho38 | (simp only [Int.reduceToNat] at ho38; rw [← Ny120.out] at ho38))
                      have n0_ := Aside0.mk (Kd.R_lower ho38 (below_size (by repeat (first | (with_reducible first | exact HB.out | apply below_alloc | apply pw_below_drewN | apply below_drew1) | exact HB.out))))
                      have n1_ := Aside0.mk (below_step (by repeat (first | (with_reducible first | exact HB.out | apply below_alloc | apply pw_below_drewN | apply below_drew1) | exact HB.out)) hb)
                      clear HB
                      have HO122 := n0_
                      have HB := n1_
                      clear n0_ n1_
                      clear hb ho38
                      refine hK.out _ _ trivial (fun hHeld => ?_)
                      clear hK K
                      refine norm_ (a' := ?_) ?_ ?_
                      rotate_left
                      · show Act.put _ (some 34) _ = _
                        simp only [Act.put, List.setIfInBounds_toArray, List.set_cons_zero, List.set_cons_succ, i64_w, i32_w]
                        rfl
                      refine one_ (i := 5) (N := some 35) #[true, true, true, true, true, true, false, true, true, true, true, false, false] rfl rfl (one_of HT_.out (by kernel_rfl)) (by decide) (fun K hK => ?_)
                      have hcv39 := own_string (P := Tryd.prog) Tryd.underlying30 Tryd.underlying5 Tryd.underlying9 (Kd.own_of_R HO122.out)
                      refine value_ (w1 := ?_) (v := ?_) (by rfl) rfl ?_ ?_
                      rotate_left 2
                      · go_simp
                        constructor
                        · rfl
                        · rfl
                      clear hcv39
                      refine hK.out _ _ trivial (fun hHeld => ?_)
                      clear hK K
                      refine norm_ (a' := ?_) ?_ ?_
                      rotate_left
                      · show Act.put _ (some 35) _ = _
                        simp only [Act.put, List.setIfInBounds_toArray, List.set_cons_zero, List.set_cons_succ, i64_w, i32_w]
                        rfl
                      refine pure_ (i := 6) (N := some 36) (v := ?_) (a' := ?_) #[true, true, true, true, true, true, true, true, true, true, true, false, false] rfl rfl (any_of HT_.out (by kernel_rfl)) (fun _ _ _ h => h) (Or.inl ⟨by rfl, ?_⟩) ?_ ?_
                      rotate_left
                      · intro w'
                        go_simp
                        with_reducible rfl
                      rotate_left
                      · simp only [Act.put, List.setIfInBounds_toArray, List.set_cons_zero, List.set_cons_succ, i64_w, i32_w]
                        rfl
                      refine pure_ (i := 11) (N := some 41) (v := ?_) (a' := ?_) #[true, true, true, true, true, true, true, true, true, true, true, true, false] rfl rfl (any_of HT_.out (by kernel_rfl)) (fun _ _ _ h => h) (Or.inl ⟨by rfl, ?_⟩) ?_ ?_
                      rotate_left
                      · intro w'
                        go_simp
                        with_reducible rfl
                      rotate_left
                      · simp only [Act.put, List.setIfInBounds_toArray, List.set_cons_zero, List.set_cons_succ, i64_w, i32_w]
                        rfl
                      refine pure_ (i := 12) (N := some 10) (v := ?_) (a' := ?_) #[true, true, true, true, true, true, true, true, true, true, true, true, true] rfl rfl (any_of HT_.out (by kernel_rfl)) (fun _ _ _ h => h) (Or.inl ⟨by rfl, ?_⟩) ?_ ?_
                      rotate_left
                      · intro w'
                        go_simp
                        with_reducible rfl
                      rotate_left
                      · simp only [Act.put, List.setIfInBounds_toArray, List.set_cons_zero, List.set_cons_succ, i64_w, i32_w]
                        rfl
                      refine done_ (done_of HT_.out (by kernel_rfl)) ?_
                      try go_wp2_with (first | ((with_reducible refine gate_callee (f := 9) rfl ?_); refine goesL_ (some 44) rfl rfl Tryd.func9 (by kernel_rfl) rfl #[.int .u32 a0, .string a1] rfl (by (try simp only [List.map_toArray, List.map_cons, List.map_nil]); first | done | rfl | (simp only [List.length_drop, List.length_take]; rfl)) ?_; (with_reducible refine (sum_Add.calls a0 a1 t123 _ A19.out).mono ?_); rintro e w40 ⟨rfl, hb⟩; refine ⟨_, rfl, ?_⟩; have n0_ := Aside0.mk (Kd.R_below (by (with_reducible repeat (first | apply Kd.R_alloc | apply Kd.R_drewN | apply Kd.R_drew)); exact HO122.out) hb); have n1_ := Aside0.mk (below_step (by repeat (first | (with_reducible first | exact HB.out | apply below_alloc | apply pw_below_drewN | apply below_drew1) | exact HB.out)) hb); clear HO122; clear HB; have HO122 := n0_; have HB := n1_; clear n0_ n1_; (try clear hb); (try clear hb2); (try clear hk); (try clear hi)) | ((with_reducible refine gate_callee (f := 9) rfl ?_); refine goesL_ (some 47) rfl rfl Tryd.func9 (by kernel_rfl) rfl #[.int .u32 a0, .string (((a1.extract 0 (a2 : Int).toNat) ++ (strOfNums y120)) ++ (a1.extract ((ji15) : Int).toNat a1.size))] rfl (by (try simp only [List.map_toArray, List.map_cons, List.map_nil]); first | done | (simp only [hji15]; rfl) | rfl | (simp only [List.length_drop, List.length_take]; rfl)) ?_; (with_reducible refine (sum_Add.calls a0 (((a1.extract 0 (a2 : Int).toNat) ++ (strOfNums y120)) ++ (a1.extract ((ji15) : Int).toNat a1.size)) t124 _ A20.out).mono ?_); rintro e w41 ⟨rfl, hb⟩; refine ⟨_, rfl, ?_⟩; have n0_ := Aside0.mk (Kd.R_below (by (with_reducible repeat (first | apply Kd.R_alloc | apply Kd.R_drewN | apply Kd.R_drew)); exact HO122.out) hb); have n1_ := Aside0.mk (below_step (by repeat (first | (with_reducible first | exact HB.out | apply below_alloc | apply pw_below_drewN | apply below_drew1) | exact HB.out)) hb); clear HO122; clear HB; have HO122 := n0_; have HB := n1_; clear n0_ n1_; (try clear hb); (try clear hb2); (try clear hk); (try clear hi)))
                      go_ret
                      exact ⟨by first | rfl | (simp [errW_none, errW_some] <;> rfl) | (simp only [← hji15]; first | rfl | (simp [errW_none, errW_some] <;> rfl)) | (simp [*, errW_none, errW_some] <;> rfl), by repeat (first | (with_reducible first | exact HB.out | apply below_alloc | apply pw_below_drewN | apply below_drew1) | exact HB.out)⟩
                  · rw [if_neg c18] at H
                    exact absurd H (by simp)
                · rw [if_neg c17] at H
                  exact absurd H (by simp)
              · rw [if_neg c16] at H
                exact absurd H (by simp)
            · rw [if_neg c14] at H
              exact absurd H (by simp)
          · rw [if_neg c13] at H
            exact absurd H (by simp)
        · rw [if_neg c12] at H
          exact absurd H (by simp)

end Go.Proofs.YtanclpdphlbeiaaDoor.P
