import Derived.Test.YtghbaehbgefpaaaGreatDoorQ19
import Derived.Test.YtghbaehbgefpaaaGreatDoorQ20
/- Several texts of this session in one: the walks of the functions that the laws reach, and what they tell. -/
set_option linter.unusedVariables false
set_option linter.unusedSimpArgs false
namespace Go.Proofs.YtghbaehbgefpaaaGreatDoor.L
open Go.Proofs.YtghbaehbgefpaaaGreatDoor.Hand3
open Go.Proofs.YtghbaehbgefpaaaGreatDoor
open Go.RowKit Go.Proofs.YtghbaehbgefpaaaGreatDoorW.PrintWords Go.Proofs.YtghbaehbgefpaaaGreatDoorW.PrintLast Go.Proofs.YtghbaehbgefpaaaGreatDoorW.PrintMore
attribute [local go_sem] max2_int min2_int max_two min_two max_three min_three max_four min_four   -- for this text's walks alone
mutual
def cooperageref4_Take.j1 : Nat → ByteArray → Int → Option (List ByteArray × ByteArray × Int)
  | 0, _, _ => none
  | k + 1, x0, x5 => if x5 = (x0.size : Int) then (some (([] : List ByteArray), (⟨#[]⟩ : ByteArray), 14)) else (if 0 ≤ x5 then (if x5 ≤ (x0.size : Int) then (if x5 < 8 then (cooperageref4_Take.j2 k x0 x5 (x0.extract 0 (x5 : Int).toNat) true) else (if x5 ≥ 13000 then (cooperageref4_Take.j2 k x0 x5 (x0.extract 0 (x5 : Int).toNat) true) else (if 0 ≤ (wrap64 (x5 - 8)) then (if (wrap64 (x5 - 8)) ≤ ((x0.extract 0 (x5 : Int).toNat).size : Int) then ((cooperageref4_digits.f k ((x0.extract 0 (x5 : Int).toNat).extract ((wrap64 (x5 - 8)) : Int).toNat (x0.extract 0 (x5 : Int).toNat).size)).bind fun t106 => (cooperageref4_Take.j2 k x0 x5 (x0.extract 0 (x5 : Int).toNat) (!t106))) else (none)) else (none)))) else (none)) else (none))
def cooperageref4_Take.j2 : Nat → ByteArray → Int → ByteArray → Bool → Option (List ByteArray × ByteArray × Int)
  | 0, _, _, _, _ => none
  | k + 1, x0, x5, x6, x44 => if x44 = true then (some (([] : List ByteArray), (⟨#[]⟩ : ByteArray), 2)) else (cooperageref4_Take.l1 k x0 x5 x6 ([] : List ByteArray) (⟨#[]⟩ : ByteArray) 0)
def cooperageref4_Take.l1 : Nat → ByteArray → Int → ByteArray → List ByteArray → ByteArray → Int → Option (List ByteArray × ByteArray × Int)
  | 0, _, _, _, _, _, _ => none
  | k + 1, x0, x5, x6, x7, x8, x9 => if x9 < (wrap64 (x5 - 8)) then (if 0 ≤ x9 then (if x9 < (x6.size : Int) then (if (bt x6 x9) = 32 then ((cooperageref1_Unquote.f x8).bind fun bt107 => (if bt107.2 = 0 then (if x7.length < 8796093022208 then (cooperageref4_Take.l1 k x0 x5 x6 (x7 ++ [bt107.1]) (⟨#[]⟩ : ByteArray) (wrap64 (x9 + 1))) else (none)) else (some (([] : List ByteArray), (⟨#[]⟩ : ByteArray), 2)))) else (if x9 ≤ (wrap64 (x9 + 1)) then (if (wrap64 (x9 + 1)) ≤ (x6.size : Int) then (if x8.size + (x6.extract (x9 : Int).toNat ((wrap64 (x9 + 1)) : Int).toNat).size ≤ 9223372036854775807 then (cooperageref4_Take.l1 k x0 x5 x6 x7 (x8 ++ (x6.extract (x9 : Int).toNat ((wrap64 (x9 + 1)) : Int).toNat)) (wrap64 (x9 + 1))) else (none)) else (none)) else (none))) else (none)) else (none)) else (if x8.toList = ([] : List UInt8) then (if (x7.length : Int) = 0 then (cooperageref4_Take.j4 k x0 x5 x6 x7 true) else (cooperageref4_Take.j4 k x0 x5 x6 x7 (decide ((x7.length : Int) > 40)))) else (cooperageref4_Take.j4 k x0 x5 x6 x7 true))
def cooperageref4_Take.j4 : Nat → ByteArray → Int → ByteArray → List ByteArray → Bool → Option (List ByteArray × ByteArray × Int)
  | 0, _, _, _, _, _ => none
  | k + 1, x0, x5, x6, x7, x84 => if x84 = true then (some (([] : List ByteArray), (⟨#[]⟩ : ByteArray), 2)) else (if 0 ≤ (wrap64 (x5 - 8)) then (if (wrap64 (x5 - 8)) ≤ (x6.size : Int) then ((cooperageref3_Of.f k (x6.extract 0 ((wrap64 (x5 - 8)) : Int).toNat)).bind fun t112 => ((cooperageref3_Hex.f k t112).bind fun t113 => (if t113.toList = (x6.extract ((wrap64 (x5 - 8)) : Int).toNat x6.size).toList then (if 0 ≤ (wrap64 (x5 + 1)) then (if (wrap64 (x5 + 1)) ≤ (x0.size : Int) then (some (x7, x0.extract ((wrap64 (x5 + 1)) : Int).toNat x0.size, 0)) else (none)) else (none)) else (some (([] : List ByteArray), (⟨#[]⟩ : ByteArray), 13))))) else (none)) else (none))
def cooperageref4_Take.l0 : Nat → ByteArray → Int → Option (List ByteArray × ByteArray × Int)
  | 0, _, _ => none
  | k + 1, x0, x5 => if x5 < (x0.size : Int) then (if 0 ≤ x5 then (if (bt x0 x5) = 10 then (cooperageref4_Take.j1 k x0 x5) else (cooperageref4_Take.l0 k x0 (wrap64 (x5 + 1)))) else (none)) else (cooperageref4_Take.j1 k x0 x5)
end
def cooperageref4_Take.f (k : Nat) (a0 : ByteArray) : Option (List ByteArray × ByteArray × Int) := cooperageref4_Take.l0 k a0 0
set_option maxHeartbeats 8000000 in
set_option maxRecDepth 100000 in
theorem cooperageref4_Take.calls (k : Nat) (a0 : ByteArray) (r1 : List ByteArray) (r2 : ByteArray) (r3 : Int) (w : World) (h : cooperageref4_Take.f k a0 = some (r1, r2, r3)) :
    Calls Tryz.prog 100 #[.string a0] w fun e w' => ∃ v0_ : Value, e = .returned (.tuple #[v0_, .string r2, .int .i64 r3]) ∧ Kd.R Kd.string 9 w' w.heap.size (fun _ => True) v0_ r1 ∧ Below w.heap.size w w' := by
  have HB := Aside0.mk (Below.refl w.heap.size w)
  have H : (cooperageref4_Take.l0 k a0 0) = some (r1, r2, r3) := h
  clear h
  have HC2 := Aside0.mk H
  clear H
  go_enter Tryz.func100, Tryz.ntmps100
  go_upto_block 0 with (fail)
  repeat (go_quiet (fail); go_upto_block 0 with (fail))
  go_cut [5] (fun v5 wc => ∃ (kq : Nat) (x5_1 : Int), v5 = .int .i64 x5_1 ∧ Aside0 (cooperageref4_Take.j1 kq a0 x5_1 = some (r1, r2, r3)) ∧ Aside0 (kq ≤ k) ∧ Aside0 (Below w.heap.size w wc))
  case first =>
    have H := HC2.out
    clear HC2
    have H' := Aside0.mk H
    clear H
    go_wp2
    repeat (go_quiet (fail); try go_wp2)
    go_loopg [5] k (fun kq v5 w' => ∃ (x5_1 : Int), v5 = .int .i64 x5_1 ∧ Aside0 (cooperageref4_Take.l0 kq a0 x5_1 = some (r1, r2, r3)) ∧ Aside0 (kq ≤ k) ∧ Aside0 (Below w.heap.size w w'))
    case atStart => exact ⟨(0), (by first | rfl | (simp; done) | (simp [*]; done)), H', ⟨Nat.le_refl _⟩, ⟨by repeat (first | (with_reducible first | exact HB.out | apply below_alloc | apply pw_below_drewN | apply below_drew1) | exact HB.out)⟩⟩
    case round =>
      clear H'
      try clear c1
      try clear p2
      obtain ⟨x5_1, rfl, HA, HK1, HB⟩ := hrel
      cases gk with
      | zero => exact absurd HA.out (by simp [cooperageref4_Take.l0])
      | succ k1 =>
        have H := HA.out
        clear HA
        simp only [cooperageref4_Take.l0] at H
        by_cases c3 : x5_1 < (a0.size : Int)
        · rw [if_pos c3] at H
          have c3b0 : decide (x5_1 < (a0.size : Int)) = true := decide_eq_true c3
          clear c3
          (first | rw [c3b0] | (simp only [i64_w, i32_w]; rw [c3b0]) | skip)
          by_cases c4 : 0 ≤ x5_1
          · rw [if_pos c4] at H
            have c4b0 : decide (0 ≤ x5_1) = true := decide_eq_true c4
            clear c4
            by_cases c6 : (bt a0 x5_1) = 10
            · rw [if_pos c6] at H
              have c6b0 : ((bt a0 x5_1) == 10) = true := beq_iff_eq.mpr c6
              have c6b1 : ((bt a0 x5_1) != 10) = false := bne_eq_false_iff_eq.mpr c6
              clear c6
              have H' := Aside0.mk H
              clear H
              have p5 : 0 ≤ (x5_1 : Int) := of_decide_eq_true (by first | (with_reducible assumption) | assumption)
              have q5 : x5_1 < (a0.size : Int) := of_decide_eq_true (by first | (with_reducible assumption) | assumption)
              have hx5 := bt_at a0 x5_1
              replace p5 := eq_true p5
              replace q5 := eq_true q5
              go_wp2
              repeat (go_quiet (fail); try go_wp2)
              go_meet
              case rel => exact ⟨_, (x5_1), (by first | rfl | (simp; done) | (simp [*]; done)), H', ⟨by have := HK1.out; first | omega | exact Nat.le_refl _⟩, ⟨by repeat (first | (with_reducible first | exact HB.out | apply below_alloc | apply pw_below_drewN | apply below_drew1) | exact HB.out)⟩⟩
            · rw [if_neg c6] at H
              have c6b0 : ((bt a0 x5_1) == 10) = false := beq_eq_false_iff_ne.mpr c6
              have c6b1 : ((bt a0 x5_1) != 10) = true := bne_iff_ne.mpr c6
              have H' := Aside0.mk H
              clear H
              have p5 : 0 ≤ (x5_1 : Int) := of_decide_eq_true (by first | (with_reducible assumption) | assumption)
              have q5 : x5_1 < (a0.size : Int) := of_decide_eq_true (by first | (with_reducible assumption) | assumption)
              have hx5 := bt_at a0 x5_1
              replace p5 := eq_true p5
              replace q5 := eq_true q5
              go_wp2
              repeat (go_quiet (fail); try go_wp2)
              go_roundg k1
              case measure => have := HK1.out; omega
              case rel => exact ⟨(wrap64 (x5_1 + 1)), (by first | rfl | (simp; done) | (simp [*]; done)), H', ⟨by have := HK1.out; omega⟩, ⟨by repeat (first | (with_reducible first | exact HB.out | apply below_alloc | apply pw_below_drewN | apply below_drew1) | exact HB.out)⟩⟩
          · rw [if_neg c4] at H
            exact absurd H (by simp)
        · rw [if_neg c3] at H
          have c3b0 : decide (x5_1 < (a0.size : Int)) = false := decide_eq_false c3
          clear c3
          (first | rw [c3b0] | (simp only [i64_w, i32_w]; rw [c3b0]) | skip)
          have H' := Aside0.mk H
          clear H
          go_wp2
          repeat (go_quiet (fail); try go_wp2)
          go_meet
          case rel => exact ⟨_, (x5_1), (by first | rfl | (simp; done) | (simp [*]; done)), H', ⟨by have := HK1.out; first | omega | exact Nat.le_refl _⟩, ⟨by repeat (first | (with_reducible first | exact HB.out | apply below_alloc | apply pw_below_drewN | apply below_drew1) | exact HB.out)⟩⟩
  case rest =>
    clear HC2
    try clear c1
    try clear p2
    try clear c3
    try clear c3b0
    try clear c4
    try clear c4b0
    try clear p5
    try clear q5
    try clear hx5
    try clear c6
    try clear c6b0
    try clear c6b1
    try clear p6
    try clear p2
    try clear p5
    try clear q5
    obtain ⟨kq, x5_1, rfl, HA, HJ1, HB⟩ := hcut
    cases kq with
    | zero => exact absurd HA.out (by simp [cooperageref4_Take.j1])
    | succ kj1 =>
      have H := HA.out
      clear HA
      simp only [cooperageref4_Take.j1] at H
      by_cases c7 : x5_1 = (a0.size : Int)
      · rw [if_pos c7] at H
        have c7b0 : (x5_1 == (a0.size : Int)) = true := beq_iff_eq.mpr c7
        have c7b1 : (x5_1 != (a0.size : Int)) = false := bne_eq_false_iff_eq.mpr c7
        clear c7
        simp only [Option.some.injEq, Prod.mk.injEq] at H
        obtain ⟨rfl, rfl, rfl⟩ := H
        go_wp2
        repeat (go_quiet (fail); try go_wp2)
        go_ret3
        exact ⟨_, by first | rfl | (simp [errW_none, errW_some] <;> rfl) | (simp [*, errW_none, errW_some] <;> rfl), by first | exact Kd.R_nil _ _ _ _ _ | exact Kd.N_nil _ _ _ _ _ | exact Kd.V_nil _ _ _ _ _ | exact Kd.Q_nil _ _ _ _ _ | exact Kd.S_nil _ _ _ _ _, by repeat (first | (with_reducible first | exact HB.out | apply below_alloc | apply pw_below_drewN | apply below_drew1) | exact HB.out)⟩
      · rw [if_neg c7] at H
        have c7b0 : (x5_1 == (a0.size : Int)) = false := beq_eq_false_iff_ne.mpr c7
        have c7b1 : (x5_1 != (a0.size : Int)) = true := bne_iff_ne.mpr c7
        by_cases c8 : 0 ≤ x5_1
        · rw [if_pos c8] at H
          have c8b0 := eq_true c8
          have c8b1 : decide (0 ≤ x5_1) = true := decide_eq_true c8
          clear c8
          by_cases c9 : x5_1 ≤ (a0.size : Int)
          · rw [if_pos c9] at H
            have c9b0 := eq_true c9
            have c9b1 : decide (x5_1 ≤ (a0.size : Int)) = true := decide_eq_true c9
            clear c9
            have HC10 := Aside0.mk H
            clear H
            go_upto_region 7 with (fail)
            repeat (go_quiet (fail); go_upto_region 7 with (fail))
            generalize a0.extract 0 (x5_1 : Int).toNat = y6 at HC10 ⊢
            go_cut [44] (fun v44 wc => ∃ (kq : Nat) (x44_9 : Bool), v44 = .bool x44_9 ∧ Aside0 (cooperageref4_Take.j2 kq a0 x5_1 y6 x44_9 = some (r1, r2, r3)) ∧ Aside0 (kq ≤ kj1) ∧ Aside0 (Below w.heap.size w wc))
            case first =>
              have H := HC10.out
              clear HC10
              by_cases c11 : x5_1 < 8
              · rw [if_pos c11] at H
                have c11b0 : decide (x5_1 < 8) = true := decide_eq_true c11
                clear c11
                (first | rw [c11b0] | (simp only [i64_w, i32_w]; rw [c11b0]) | skip)
                have H' := Aside0.mk H
                clear H
                go_wp2
                repeat (go_quiet (fail); try go_wp2)
                go_meet
                case rel => exact ⟨_, (true), (by first | rfl | (simp; done) | (simp [*]; done)), H', ⟨by have := HJ1.out; first | omega | exact Nat.le_refl _⟩, ⟨by repeat (first | (with_reducible first | exact HB.out | apply below_alloc | apply pw_below_drewN | apply below_drew1) | exact HB.out)⟩⟩
              · rw [if_neg c11] at H
                have c11b0 : decide (x5_1 < 8) = false := decide_eq_false c11
                clear c11
                (first | rw [c11b0] | (simp only [i64_w, i32_w]; rw [c11b0]) | skip)
                by_cases c12 : x5_1 ≥ 13000
                · rw [if_pos c12] at H
                  have c12b0 : decide (13000 ≤ x5_1) = true := decide_eq_true c12
                  clear c12
                  have H' := Aside0.mk H
                  clear H
                  go_wp2
                  repeat (go_quiet (fail); try go_wp2)
                  go_meet
                  case rel => exact ⟨_, (true), (by first | rfl | (simp; done) | (simp [*]; done)), H', ⟨by have := HJ1.out; first | omega | exact Nat.le_refl _⟩, ⟨by repeat (first | (with_reducible first | exact HB.out | apply below_alloc | apply pw_below_drewN | apply below_drew1) | exact HB.out)⟩⟩
                · rw [if_neg c12] at H
                  have c12b0 : decide (13000 ≤ x5_1) = false := decide_eq_false c12
                  clear c12
                  obtain ⟨ji13, hji13⟩ : ∃ j_ : Int, (wrap64 (x5_1 - 8)) = j_ := ⟨_, rfl⟩
                  replace H : (if 0 ≤ (ji13) then (if (ji13) ≤ (y6.size : Int) then ((cooperageref4_digits.f kj1 (y6.extract ((ji13) : Int).toNat y6.size)).bind fun t106 => (cooperageref4_Take.j2 kj1 a0 x5_1 y6 (!t106))) else (none)) else (none)) = some (r1, r2, r3) := by first | (rw [hji13] at H; exact H) | (simp only [hji13] at H ⊢; exact H)
                  have hji13w : (IntKind.i64.wrap (x5_1 - 8)) = ji13 := (i64_w _).trans hji13
                  by_cases c14 : 0 ≤ (ji13)
                  · rw [if_pos c14] at H
                    have c14b0 := eq_true c14
                    have c14b1 : decide (0 ≤ (ji13)) = true := decide_eq_true c14
                    clear c14
                    by_cases c15 : (ji13) ≤ (y6.size : Int)
                    · rw [if_pos c15] at H
                      have c15b0 := eq_true c15
                      have c15b1 : decide ((ji13) ≤ (y6.size : Int)) = true := decide_eq_true c15
                      clear c15
                      replace H := Option.bind_eq_some_iff.mp H
                      obtain ⟨t106, A160, H⟩ := H
                      replace H : (cooperageref4_Take.j2 kj1 a0 x5_1 y6 (!t106)) = some (r1, r2, r3) := H
                      have A16 := Aside0.mk A160
                      clear A160
                      have H' := Aside0.mk H
                      clear H
                      go_wp2_with (first | (go_at_call 113; (with_reducible refine (cooperageref4_digits.calls kj1 (y6.extract ((ji13) : Int).toNat y6.size) t106 _ A16.out).mono ?_); rintro e w' ⟨rfl, ⟨nd, rfl⟩⟩; (try first | exact ⟨rfl, _, World.drewN_drewN _ _ _⟩ | exact ⟨rfl, _, Eq.trans (World.drewN_drewN _ _ _) (congrArg (World.drewN _) (Nat.add_assoc _ _ _))⟩)))
                      repeat (go_quiet (first | (go_at_call 113; (with_reducible refine (cooperageref4_digits.calls kj1 (y6.extract ((ji13) : Int).toNat y6.size) t106 _ A16.out).mono ?_); rintro e w' ⟨rfl, ⟨nd, rfl⟩⟩; (try first | exact ⟨rfl, _, World.drewN_drewN _ _ _⟩ | exact ⟨rfl, _, Eq.trans (World.drewN_drewN _ _ _) (congrArg (World.drewN _) (Nat.add_assoc _ _ _))⟩))); try go_wp2_with (first | (go_at_call 113; (with_reducible refine (cooperageref4_digits.calls kj1 (y6.extract ((ji13) : Int).toNat y6.size) t106 _ A16.out).mono ?_); rintro e w' ⟨rfl, ⟨nd, rfl⟩⟩; (try first | exact ⟨rfl, _, World.drewN_drewN _ _ _⟩ | exact ⟨rfl, _, Eq.trans (World.drewN_drewN _ _ _) (congrArg (World.drewN _) (Nat.add_assoc _ _ _))⟩))))
                      go_meet
                      case rel => exact ⟨_, (!t106), (by first | rfl | (simp; done) | (simp [*]; done)), H', ⟨by have := HJ1.out; first | omega | exact Nat.le_refl _⟩, ⟨by repeat (first | (with_reducible first | exact HB.out | apply below_alloc | apply pw_below_drewN | apply below_drew1) | exact HB.out)⟩⟩
                    · rw [if_neg c15] at H
                      exact absurd H (by simp)
                  · rw [if_neg c14] at H
                    exact absurd H (by simp)
            case rest =>
              clear HC10
              try clear c1
              try clear p2
              try clear c3
              try clear c3b0
              try clear c4
              try clear c4b0
              try clear p5
              try clear q5
              try clear hx5
              try clear c6
              try clear c6b0
              try clear c6b1
              try clear p6
              try clear c7
              try clear c7b0
              try clear c7b1
              try clear c8
              try clear c8b0
              try clear c8b1
              try clear c9
              try clear c9b0
              try clear c9b1
              try clear c10
              try clear c11
              try clear c11b0
              try clear c12
              try clear c12b0
              try clear c14
              try clear c14b0
              try clear c14b1
              try clear c15
              try clear c15b0
              try clear c15b1
              try clear p2
              try clear p5
              try clear p6
              try clear q5
              obtain ⟨kq, x44_9, rfl, HA, HJ9, HB⟩ := hcut
              cases kq with
              | zero => exact absurd HA.out (by simp [cooperageref4_Take.j2])
              | succ kj9 =>
                have H := HA.out
                clear HA
                simp only [cooperageref4_Take.j2] at H
                by_cases c17 : x44_9 = true
                · subst c17
                  have H1 : (some (([] : List ByteArray), (⟨#[]⟩ : ByteArray), 2)) = some (r1, r2, r3) := by rw [if_pos rfl] at H; exact H
                  clear H
                  have H := H1
                  clear H1
                  simp only [Option.some.injEq, Prod.mk.injEq] at H
                  obtain ⟨rfl, rfl, rfl⟩ := H
                  go_wp2
                  repeat (go_quiet (fail); try go_wp2)
                  go_ret3
                  exact ⟨_, by first | rfl | (simp [errW_none, errW_some] <;> rfl) | (simp [*, errW_none, errW_some] <;> rfl), by first | exact Kd.R_nil _ _ _ _ _ | exact Kd.N_nil _ _ _ _ _ | exact Kd.V_nil _ _ _ _ _ | exact Kd.Q_nil _ _ _ _ _ | exact Kd.S_nil _ _ _ _ _, by repeat (first | (with_reducible first | exact HB.out | apply below_alloc | apply pw_below_drewN | apply below_drew1) | exact HB.out)⟩
                · replace c17 := Bool.eq_false_iff.mpr c17
                  subst c17
                  have H1 : (cooperageref4_Take.l1 kj9 a0 x5_1 y6 ([] : List ByteArray) (⟨#[]⟩ : ByteArray) 0) = some (r1, r2, r3) := by rw [if_neg (show ¬ (false = true) by decide)] at H; exact H
                  clear H
                  have H := H1
                  clear H1
                  have H' := Aside0.mk H
                  clear H
                  go_wp2
                  repeat (go_quiet (fail); try go_wp2)
                  go_loopg [7, 8, 9] kj9 (fun kq v7 v8 v9 w' => ∃ (x7_3 : List ByteArray) (x8_3 : ByteArray) (x9_3 : Int), v8 = .string x8_3 ∧ v9 = .int .i64 x9_3 ∧ Aside0 (cooperageref4_Take.l1 kq a0 x5_1 y6 x7_3 x8_3 x9_3 = some (r1, r2, r3)) ∧ Aside0 (kq ≤ kj9) ∧ Aside0 (Kd.R Kd.string 9 w' w.heap.size (fun _ => True) v7 x7_3) ∧ Aside0 (Below w.heap.size w w'))
                  case atStart => exact ⟨(([] : List ByteArray)), ((⟨#[]⟩ : ByteArray)), (0), (by first | rfl | (simp; done) | (simp [*]; done)), (by first | rfl | (simp; done) | (simp [*]; done)), H', ⟨Nat.le_refl _⟩, ⟨by first | exact Kd.R_nil _ _ _ _ _ | exact Kd.N_nil _ _ _ _ _ | exact Kd.V_nil _ _ _ _ _ | exact Kd.Q_nil _ _ _ _ _ | exact Kd.S_nil _ _ _ _ _⟩, ⟨by repeat (first | (with_reducible first | exact HB.out | apply below_alloc | apply pw_below_drewN | apply below_drew1) | exact HB.out)⟩⟩
                  case round =>
                    clear H'
                    try clear c1
                    try clear p2
                    try clear c3
                    try clear c3b0
                    try clear c4
                    try clear c4b0
                    try clear p5
                    try clear q5
                    try clear hx5
                    try clear c6
                    try clear c6b0
                    try clear c6b1
                    try clear p6
                    try clear c7
                    try clear c7b0
                    try clear c7b1
                    try clear c8
                    try clear c8b0
                    try clear c8b1
                    try clear c9
                    try clear c9b0
                    try clear c9b1
                    try clear c10
                    try clear c11
                    try clear c11b0
                    try clear c12
                    try clear c12b0
                    try clear c14
                    try clear c14b0
                    try clear c14b1
                    try clear c15
                    try clear c15b0
                    try clear c15b1
                    try clear c17
                    try clear p2
                    try clear p5
                    try clear p6
                    try clear q5
                    obtain ⟨x7_3, x8_3, x9_3, rfl, rfl, HA, HK3, HO_7, HB⟩ := hrel
                    cases gk with
                    | zero => exact absurd HA.out (by simp [cooperageref4_Take.l1])
                    | succ k3 =>
                      have H := HA.out
                      clear HA
                      simp only [cooperageref4_Take.l1] at H
                      by_cases c18 : x9_3 < (wrap64 (x5_1 - 8))
                      · rw [if_pos c18] at H
                        have c18b0 : decide (x9_3 < (wrap64 (x5_1 - 8))) = true := decide_eq_true c18
                        clear c18
                        by_cases c19 : 0 ≤ x9_3
                        · rw [if_pos c19] at H
                          have c19b0 : decide (0 ≤ x9_3) = true := decide_eq_true c19
                          clear c19
                          by_cases c20 : x9_3 < (y6.size : Int)
                          · rw [if_pos c20] at H
                            have c20b0 : decide (x9_3 < (y6.size : Int)) = true := decide_eq_true c20
                            clear c20
                            by_cases c22 : (bt y6 x9_3) = 32
                            · rw [if_pos c22] at H
                              have c22b0 : ((bt y6 x9_3) == 32) = true := beq_iff_eq.mpr c22
                              have c22b1 : ((bt y6 x9_3) != 32) = false := bne_eq_false_iff_eq.mpr c22
                              clear c22
                              replace H := Option.bind_eq_some_iff.mp H
                              obtain ⟨⟨t107, t108⟩, A230, H⟩ := H
                              replace H : (if t108 = 0 then (if x7_3.length < 8796093022208 then (cooperageref4_Take.l1 k3 a0 x5_1 y6 (x7_3 ++ [t107]) (⟨#[]⟩ : ByteArray) (wrap64 (x9_3 + 1))) else (none)) else (some (([] : List ByteArray), (⟨#[]⟩ : ByteArray), 2))) = some (r1, r2, r3) := H
                              have A23 := Aside0.mk A230
                              clear A230
                              by_cases c24 : t108 = 0
                              · rw [if_pos c24] at H
                                have c24b0 : (t108 == 0) = true := beq_iff_eq.mpr c24
                                have c24b1 : (t108 != 0) = false := bne_eq_false_iff_eq.mpr c24
                                clear c24
                                by_cases c25 : x7_3.length < 8796093022208
                                · rw [if_pos c25] at H
                                  have LMc25 := Aside0.mk c25
                                  clear c25
                                  obtain ⟨y109, hy109⟩ : ∃ y_ : List ByteArray, y_ = (x7_3 ++ [t107]) := ⟨_, rfl⟩
                                  replace H : (cooperageref4_Take.l1 k3 a0 x5_1 y6 y109 (⟨#[]⟩ : ByteArray) (wrap64 (x9_3 + 1))) = some (r1, r2, r3) := by first | (rw [hy109]; with_reducible exact H) | (have H2_ := (Option.bind_some _ _).symm.trans H; rw [hy109]; with_reducible exact H2_) | (have H2_ := (Option.bind_some _ _).symm.trans H; with_reducible exact H2_) | with_reducible exact H | (rw [hy109]; exact H) | exact H
                                  have Ny109 := Aside0.mk hy109
                                  clear hy109
                                  have H' := Aside0.mk H
                                  clear H
                                  have p21 : 0 ≤ (x9_3 : Int) := of_decide_eq_true (by first | (with_reducible assumption) | assumption)
                                  have q21 : x9_3 < (y6.size : Int) := of_decide_eq_true (by first | (with_reducible assumption) | assumption)
                                  have hx21 := bt_at y6 x9_3
                                  replace p21 := eq_true p21
                                  replace q21 := eq_true q21
                                  go_wp2_with (first | (go_at_call 114; (with_reducible refine (cooperageref1_Unquote.calls x8_3 t107 t108 _ A23.out).mono ?_); rintro e w26 ⟨rfl, hb⟩; have n0_ := Aside0.mk (Kd.R_below (by (with_reducible repeat (first | apply Kd.R_alloc | apply Kd.R_drewN | apply Kd.R_drew)); exact HO_7.out) hb); have n1_ := Aside0.mk (below_step (by repeat (first | (with_reducible first | exact HB.out | apply below_alloc | apply pw_below_drewN | apply below_drew1) | exact HB.out)) hb); clear HO_7; clear HB; have HO_7 := n0_; have HB := n1_; clear n0_ n1_; (try clear hb); (try clear hb2); (try clear hk); (try clear hi)) | ((with_reducible refine gate_builtin (b := .append) (xs := #[.tmp 69, .tmp 71]) rfl ?_); (try (refine gate_guard (by rfl) ?_; dsimp only)); at_builtin; refine Kd.R_append Kd.string (w0 := w) w.heap.size rfl (.tmp 69) (.tmp 71) 22 9 (.string ⟨#[]⟩) 16 rfl Tryz.underlying22 info9 rfl (by decide) (by omega) u7 x7_3 t107 [.string t107] (fun _ => True) (fun _ => False) rfl rfl ?aP (fun _ hk => hk.elim) ?aF ?aO ?aB ?aS ?aL ?_; (case aP => exact rfl); (case aB => exact (by repeat (first | (with_reducible first | exact HB.out | apply below_alloc | apply pw_below_drewN | apply below_drew1) | exact HB.out))); (case aF => exact (fun _ _ => trivial)); (case aO => exact (by (with_reducible repeat (first | apply Kd.R_alloc | apply Kd.R_drewN | apply Kd.R_drew)); exact HO_7.out)); (case aS => exact (below_size (by repeat (first | (with_reducible first | exact HB.out | apply below_alloc | apply pw_below_drewN | apply below_drew1) | exact HB.out)))); (case aL => have := LMc25.out; omega); intro v110 w27 ho hb hg hat; rw [← Ny109.out] at ho; have n0_ := Aside0.mk (hb); have n1_ := Aside0.mk (ho); clear HB; clear HO_7; have HB := n0_; have HO111 := n1_; clear n0_ n1_; clear ho hb hg hat))
                                  repeat (go_quiet (first | (go_at_call 114; (with_reducible refine (cooperageref1_Unquote.calls x8_3 t107 t108 _ A23.out).mono ?_); rintro e w26 ⟨rfl, hb⟩; have n0_ := Aside0.mk (Kd.R_below (by (with_reducible repeat (first | apply Kd.R_alloc | apply Kd.R_drewN | apply Kd.R_drew)); exact HO_7.out) hb); have n1_ := Aside0.mk (below_step (by repeat (first | (with_reducible first | exact HB.out | apply below_alloc | apply pw_below_drewN | apply below_drew1) | exact HB.out)) hb); clear HO_7; clear HB; have HO_7 := n0_; have HB := n1_; clear n0_ n1_; (try clear hb); (try clear hb2); (try clear hk); (try clear hi)) | ((with_reducible refine gate_builtin (b := .append) (xs := #[.tmp 69, .tmp 71]) rfl ?_); (try (refine gate_guard (by rfl) ?_; dsimp only)); at_builtin; refine Kd.R_append Kd.string (w0 := w) w.heap.size rfl (.tmp 69) (.tmp 71) 22 9 (.string ⟨#[]⟩) 16 rfl Tryz.underlying22 info9 rfl (by decide) (by omega) u7 x7_3 t107 [.string t107] (fun _ => True) (fun _ => False) rfl rfl ?aP (fun _ hk => hk.elim) ?aF ?aO ?aB ?aS ?aL ?_; (case aP => exact rfl); (case aB => exact (by repeat (first | (with_reducible first | exact HB.out | apply below_alloc | apply pw_below_drewN | apply below_drew1) | exact HB.out))); (case aF => exact (fun _ _ => trivial)); (case aO => exact (by (with_reducible repeat (first | apply Kd.R_alloc | apply Kd.R_drewN | apply Kd.R_drew)); exact HO_7.out)); (case aS => exact (below_size (by repeat (first | (with_reducible first | exact HB.out | apply below_alloc | apply pw_below_drewN | apply below_drew1) | exact HB.out)))); (case aL => have := LMc25.out; omega); intro v110 w27 ho hb hg hat; rw [← Ny109.out] at ho; have n0_ := Aside0.mk (hb); have n1_ := Aside0.mk (ho); clear HB; clear HO_7; have HB := n0_; have HO111 := n1_; clear n0_ n1_; clear ho hb hg hat)); try go_wp2_with (first | (go_at_call 114; (with_reducible refine (cooperageref1_Unquote.calls x8_3 t107 t108 _ A23.out).mono ?_); rintro e w26 ⟨rfl, hb⟩; have n0_ := Aside0.mk (Kd.R_below (by (with_reducible repeat (first | apply Kd.R_alloc | apply Kd.R_drewN | apply Kd.R_drew)); exact HO_7.out) hb); have n1_ := Aside0.mk (below_step (by repeat (first | (with_reducible first | exact HB.out | apply below_alloc | apply pw_below_drewN | apply below_drew1) | exact HB.out)) hb); clear HO_7; clear HB; have HO_7 := n0_; have HB := n1_; clear n0_ n1_; (try clear hb); (try clear hb2); (try clear hk); (try clear hi)) | ((with_reducible refine gate_builtin (b := .append) (xs := #[.tmp 69, .tmp 71]) rfl ?_); (try (refine gate_guard (by rfl) ?_; dsimp only)); at_builtin; refine Kd.R_append Kd.string (w0 := w) w.heap.size rfl (.tmp 69) (.tmp 71) 22 9 (.string ⟨#[]⟩) 16 rfl Tryz.underlying22 info9 rfl (by decide) (by omega) u7 x7_3 t107 [.string t107] (fun _ => True) (fun _ => False) rfl rfl ?aP (fun _ hk => hk.elim) ?aF ?aO ?aB ?aS ?aL ?_; (case aP => exact rfl); (case aB => exact (by repeat (first | (with_reducible first | exact HB.out | apply below_alloc | apply pw_below_drewN | apply below_drew1) | exact HB.out))); (case aF => exact (fun _ _ => trivial)); (case aO => exact (by (with_reducible repeat (first | apply Kd.R_alloc | apply Kd.R_drewN | apply Kd.R_drew)); exact HO_7.out)); (case aS => exact (below_size (by repeat (first | (with_reducible first | exact HB.out | apply below_alloc | apply pw_below_drewN | apply below_drew1) | exact HB.out)))); (case aL => have := LMc25.out; omega); intro v110 w27 ho hb hg hat; rw [← Ny109.out] at ho; have n0_ := Aside0.mk (hb); have n1_ := Aside0.mk (ho); clear HB; clear HO_7; have HB := n0_; have HO111 := n1_; clear n0_ n1_; clear ho hb hg hat)))
                                  go_roundg k3
                                  case measure => have := HJ1.out; have := HJ9.out; have := HK3.out; omega
                                  case rel => exact ⟨(y109), ((⟨#[]⟩ : ByteArray)), (wrap64 (x9_3 + 1)), (by first | rfl | (simp; done) | (simp [*]; done)), (by first | rfl | (simp; done) | (simp [*]; done)), H', ⟨by have := HJ1.out; have := HJ9.out; have := HK3.out; omega⟩, ⟨by (with_reducible repeat (first | apply Kd.R_alloc | apply Kd.R_drewN | apply Kd.R_drew)); exact HO111.out⟩, ⟨by repeat (first | (with_reducible first | exact HB.out | apply below_alloc | apply pw_below_drewN | apply below_drew1) | exact HB.out)⟩⟩
                                · rw [if_neg c25] at H
                                  exact absurd H (by simp)
                              · rw [if_neg c24] at H
                                have c24b0 : (t108 == 0) = false := beq_eq_false_iff_ne.mpr c24
                                have c24b1 : (t108 != 0) = true := bne_iff_ne.mpr c24
                                simp only [Option.some.injEq, Prod.mk.injEq] at H
                                obtain ⟨rfl, rfl, rfl⟩ := H
                                have p21 : 0 ≤ (x9_3 : Int) := of_decide_eq_true (by first | (with_reducible assumption) | assumption)
                                have q21 : x9_3 < (y6.size : Int) := of_decide_eq_true (by first | (with_reducible assumption) | assumption)
                                have hx21 := bt_at y6 x9_3
                                replace p21 := eq_true p21
                                replace q21 := eq_true q21
                                go_wp2_with (first | (go_at_call 114; (with_reducible refine (cooperageref1_Unquote.calls x8_3 t107 t108 _ A23.out).mono ?_); rintro e w28 ⟨rfl, hb⟩; have n0_ := Aside0.mk (Kd.R_below (by (with_reducible repeat (first | apply Kd.R_alloc | apply Kd.R_drewN | apply Kd.R_drew)); exact HO_7.out) hb); have n1_ := Aside0.mk (below_step (by repeat (first | (with_reducible first | exact HB.out | apply below_alloc | apply pw_below_drewN | apply below_drew1) | exact HB.out)) hb); clear HO_7; clear HB; have HO_7 := n0_; have HB := n1_; clear n0_ n1_; (try clear hb); (try clear hb2); (try clear hk); (try clear hi)))
                                repeat (go_quiet (first | (go_at_call 114; (with_reducible refine (cooperageref1_Unquote.calls x8_3 t107 t108 _ A23.out).mono ?_); rintro e w28 ⟨rfl, hb⟩; have n0_ := Aside0.mk (Kd.R_below (by (with_reducible repeat (first | apply Kd.R_alloc | apply Kd.R_drewN | apply Kd.R_drew)); exact HO_7.out) hb); have n1_ := Aside0.mk (below_step (by repeat (first | (with_reducible first | exact HB.out | apply below_alloc | apply pw_below_drewN | apply below_drew1) | exact HB.out)) hb); clear HO_7; clear HB; have HO_7 := n0_; have HB := n1_; clear n0_ n1_; (try clear hb); (try clear hb2); (try clear hk); (try clear hi))); try go_wp2_with (first | (go_at_call 114; (with_reducible refine (cooperageref1_Unquote.calls x8_3 t107 t108 _ A23.out).mono ?_); rintro e w28 ⟨rfl, hb⟩; have n0_ := Aside0.mk (Kd.R_below (by (with_reducible repeat (first | apply Kd.R_alloc | apply Kd.R_drewN | apply Kd.R_drew)); exact HO_7.out) hb); have n1_ := Aside0.mk (below_step (by repeat (first | (with_reducible first | exact HB.out | apply below_alloc | apply pw_below_drewN | apply below_drew1) | exact HB.out)) hb); clear HO_7; clear HB; have HO_7 := n0_; have HB := n1_; clear n0_ n1_; (try clear hb); (try clear hb2); (try clear hk); (try clear hi))))
                                go_ret3
                                exact ⟨_, by first | rfl | (simp [errW_none, errW_some] <;> rfl) | (simp [*, errW_none, errW_some] <;> rfl), by first | exact Kd.R_nil _ _ _ _ _ | exact Kd.N_nil _ _ _ _ _ | exact Kd.V_nil _ _ _ _ _ | exact Kd.Q_nil _ _ _ _ _ | exact Kd.S_nil _ _ _ _ _, by repeat (first | (with_reducible first | exact HB.out | apply below_alloc | apply pw_below_drewN | apply below_drew1) | exact HB.out)⟩
                            · rw [if_neg c22] at H
                              have c22b0 : ((bt y6 x9_3) == 32) = false := beq_eq_false_iff_ne.mpr c22
                              have c22b1 : ((bt y6 x9_3) != 32) = true := bne_iff_ne.mpr c22
                              have c29b0 := eq_true (of_decide_eq_true (by first | (with_reducible assumption) | assumption) : 0 ≤ x9_3)
                              by_cases c30 : x9_3 ≤ (wrap64 (x9_3 + 1))
                              · rw [if_pos c30] at H
                                have c30b0 := eq_true c30
                                have c30b1 : decide (x9_3 ≤ (wrap64 (x9_3 + 1))) = true := decide_eq_true c30
                                by_cases c31 : (wrap64 (x9_3 + 1)) ≤ (y6.size : Int)
                                · rw [if_pos c31] at H
                                  have c31b0 := eq_true c31
                                  have c31b1 : decide ((wrap64 (x9_3 + 1)) ≤ (y6.size : Int)) = true := decide_eq_true c31
                                  by_cases c32 : x8_3.size + (y6.extract (x9_3 : Int).toNat ((wrap64 (x9_3 + 1)) : Int).toNat).size ≤ 9223372036854775807
                                  · rw [if_pos c32] at H
                                    have c32b0 := eq_true c32
                                    have c32b1 : decide (x8_3.size + (y6.extract (x9_3 : Int).toNat ((wrap64 (x9_3 + 1)) : Int).toNat).size ≤ 9223372036854775807) = true := decide_eq_true c32
                                    try have c32b2 : (9223372036854775807 < x8_3.size + (y6.extract (x9_3 : Int).toNat ((wrap64 (x9_3 + 1)) : Int).toNat).size) = False := eq_false (Nat.not_lt.2 c32)
                                    have H' := Aside0.mk H
                                    clear H
                                    have p21 : 0 ≤ (x9_3 : Int) := of_decide_eq_true (by first | (with_reducible assumption) | assumption)
                                    have q21 : x9_3 < (y6.size : Int) := of_decide_eq_true (by first | (with_reducible assumption) | assumption)
                                    have hx21 := bt_at y6 x9_3
                                    replace p21 := eq_true p21
                                    replace q21 := eq_true q21
                                    go_wp2
                                    repeat (go_quiet (fail); try go_wp2)
                                    go_roundg k3
                                    case measure => have := HJ1.out; have := HJ9.out; have := HK3.out; omega
                                    case rel => exact ⟨(x7_3), (x8_3 ++ (y6.extract (x9_3 : Int).toNat ((wrap64 (x9_3 + 1)) : Int).toNat)), (wrap64 (x9_3 + 1)), (by first | rfl | (simp; done) | (simp [*]; done)), (by first | rfl | (simp; done) | (simp [*]; done)), H', ⟨by have := HJ1.out; have := HJ9.out; have := HK3.out; omega⟩, ⟨by (with_reducible repeat (first | apply Kd.R_alloc | apply Kd.R_drewN | apply Kd.R_drew)); exact HO_7.out⟩, ⟨by repeat (first | (with_reducible first | exact HB.out | apply below_alloc | apply pw_below_drewN | apply below_drew1) | exact HB.out)⟩⟩
                                  · rw [if_neg c32] at H
                                    exact absurd H (by simp)
                                · rw [if_neg c31] at H
                                  exact absurd H (by simp)
                              · rw [if_neg c30] at H
                                exact absurd H (by simp)
                          · rw [if_neg c20] at H
                            exact absurd H (by simp)
                        · rw [if_neg c19] at H
                          exact absurd H (by simp)
                      · rw [if_neg c18] at H
                        have c18b0 : decide (x9_3 < (wrap64 (x5_1 - 8))) = false := decide_eq_false c18
                        clear c18
                        have HC33 := Aside0.mk H
                        clear H
                        go_upto_region 21 with (fail)
                        repeat (go_quiet (fail); go_upto_region 21 with (fail))
                        go_cut [84] (fun v84 wc => ∃ (kq : Nat) (x84_32 : Bool), v84 = .bool x84_32 ∧ Aside0 (cooperageref4_Take.j4 kq a0 x5_1 y6 x7_3 x84_32 = some (r1, r2, r3)) ∧ Aside0 (kq ≤ k3) ∧ Aside0 (Kd.R Kd.string 9 wc w.heap.size (fun _ => True) u7 x7_3) ∧ Aside0 (Below w.heap.size w wc))
                        case first =>
                          have H := HC33.out
                          clear HC33
                          by_cases c34 : x8_3.toList = ([] : List UInt8)
                          · rw [if_pos c34] at H
                            have c34b0 : (x8_3.toList == ([] : List UInt8)) = true := beq_iff_eq.mpr c34
                            have c34b1 : (x8_3.toList != ([] : List UInt8)) = false := bne_eq_false_iff_eq.mpr c34
                            clear c34
                            (first | rw [c34b0] | (simp only [i64_w, i32_w]; rw [c34b0]) | skip)
                            by_cases c35 : (x7_3.length : Int) = 0
                            · rw [if_pos c35] at H
                              have c35b0 : ((x7_3.length : Int) == 0) = true := beq_iff_eq.mpr c35
                              have c35b1 : ((x7_3.length : Int) != 0) = false := bne_eq_false_iff_eq.mpr c35
                              clear c35
                              have H' := Aside0.mk H
                              clear H
                              obtain ⟨Ao36, co36, eo36⟩ := Kd.R_slice HO_7.out
                              subst eo36
                              go_wp2
                              repeat (go_quiet (fail); try go_wp2)
                              go_meet
                              case rel => exact ⟨_, (true), (by first | rfl | (simp; done) | (simp [*]; done)), H', ⟨by have := HJ1.out; have := HJ9.out; have := HK3.out; first | omega | exact Nat.le_refl _⟩, ⟨by (with_reducible repeat (first | apply Kd.R_alloc | apply Kd.R_drewN | apply Kd.R_drew)); exact HO_7.out⟩, ⟨by repeat (first | (with_reducible first | exact HB.out | apply below_alloc | apply pw_below_drewN | apply below_drew1) | exact HB.out)⟩⟩
                            · rw [if_neg c35] at H
                              have c35b0 : ((x7_3.length : Int) == 0) = false := beq_eq_false_iff_ne.mpr c35
                              have c35b1 : ((x7_3.length : Int) != 0) = true := bne_iff_ne.mpr c35
                              have c35b2 : ¬ (x7_3 = []) := fun h_ => c35 (by rw [h_]; rfl)
                              have H' := Aside0.mk H
                              clear H
                              obtain ⟨Ao37, co37, eo37⟩ := Kd.R_slice HO_7.out
                              subst eo37
                              go_wp2
                              repeat (go_quiet (fail); try go_wp2)
                              go_meet
                              case rel => exact ⟨_, (decide ((x7_3.length : Int) > 40)), (by first | rfl | (simp; done) | (simp [*]; done)), H', ⟨by have := HJ1.out; have := HJ9.out; have := HK3.out; first | omega | exact Nat.le_refl _⟩, ⟨by (with_reducible repeat (first | apply Kd.R_alloc | apply Kd.R_drewN | apply Kd.R_drew)); exact HO_7.out⟩, ⟨by repeat (first | (with_reducible first | exact HB.out | apply below_alloc | apply pw_below_drewN | apply below_drew1) | exact HB.out)⟩⟩
                          · rw [if_neg c34] at H
                            have c34b0 : (x8_3.toList == ([] : List UInt8)) = false := beq_eq_false_iff_ne.mpr c34
                            have c34b1 : (x8_3.toList != ([] : List UInt8)) = true := bne_iff_ne.mpr c34
                            (first | rw [c34b0] | (simp only [i64_w, i32_w]; rw [c34b0]) | skip)
                            have H' := Aside0.mk H
                            clear H
                            go_wp2
                            repeat (go_quiet (fail); try go_wp2)
                            go_meet
                            case rel => exact ⟨_, (true), (by first | rfl | (simp; done) | (simp [*]; done)), H', ⟨by have := HJ1.out; have := HJ9.out; have := HK3.out; first | omega | exact Nat.le_refl _⟩, ⟨by (with_reducible repeat (first | apply Kd.R_alloc | apply Kd.R_drewN | apply Kd.R_drew)); exact HO_7.out⟩, ⟨by repeat (first | (with_reducible first | exact HB.out | apply below_alloc | apply pw_below_drewN | apply below_drew1) | exact HB.out)⟩⟩
                        case rest =>
                          clear HC33
                          try clear c1
                          try clear c2
                          try clear p2
                          try clear q2
                          try clear hx2
                          try clear c3
                          try clear c3b0
                          try clear c4
                          try clear c4b0
                          try clear p5
                          try clear q5
                          try clear hx5
                          try clear c6
                          try clear c6b0
                          try clear c6b1
                          try clear p6
                          try clear c7
                          try clear c7b0
                          try clear c7b1
                          try clear c8
                          try clear c8b0
                          try clear c8b1
                          try clear c9
                          try clear c9b0
                          try clear c9b1
                          try clear c10
                          try clear c11
                          try clear c11b0
                          try clear c12
                          try clear c12b0
                          try clear c14
                          try clear c14b0
                          try clear c14b1
                          try clear c15
                          try clear c15b0
                          try clear c15b1
                          try clear c17
                          try clear c18
                          try clear c18b0
                          try clear c19
                          try clear c19b0
                          try clear c20
                          try clear c20b0
                          try clear p21
                          try clear q21
                          try clear hx21
                          try clear c22
                          try clear c22b0
                          try clear c22b1
                          try clear c24
                          try clear c24b0
                          try clear c24b1
                          try clear c25
                          try clear c29
                          try clear c29b0
                          try clear c30
                          try clear c30b0
                          try clear c30b1
                          try clear c31
                          try clear c31b0
                          try clear c31b1
                          try clear c32
                          try clear c32b0
                          try clear c32b1
                          try clear c32b2
                          try clear c34
                          try clear c34b0
                          try clear c34b1
                          try clear c35
                          try clear c35b0
                          try clear c35b1
                          try clear c35b2
                          try clear p2
                          try clear p21
                          try clear p5
                          try clear p6
                          try clear q21
                          try clear q5
                          obtain ⟨kq, x84_32, rfl, HA, HJ32, HO_7, HB⟩ := hcut
                          cases kq with
                          | zero => exact absurd HA.out (by simp [cooperageref4_Take.j4])
                          | succ kj32 =>
                            have H := HA.out
                            clear HA
                            simp only [cooperageref4_Take.j4] at H
                            by_cases c38 : x84_32 = true
                            · subst c38
                              have H1 : (some (([] : List ByteArray), (⟨#[]⟩ : ByteArray), 2)) = some (r1, r2, r3) := by rw [if_pos rfl] at H; exact H
                              clear H
                              have H := H1
                              clear H1
                              simp only [Option.some.injEq, Prod.mk.injEq] at H
                              obtain ⟨rfl, rfl, rfl⟩ := H
                              go_wp2
                              repeat (go_quiet (fail); try go_wp2)
                              go_ret3
                              exact ⟨_, by first | rfl | (simp [errW_none, errW_some] <;> rfl) | (simp [*, errW_none, errW_some] <;> rfl), by first | exact Kd.R_nil _ _ _ _ _ | exact Kd.N_nil _ _ _ _ _ | exact Kd.V_nil _ _ _ _ _ | exact Kd.Q_nil _ _ _ _ _ | exact Kd.S_nil _ _ _ _ _, by repeat (first | (with_reducible first | exact HB.out | apply below_alloc | apply pw_below_drewN | apply below_drew1) | exact HB.out)⟩
                            · replace c38 := Bool.eq_false_iff.mpr c38
                              subst c38
                              have H1 : (if 0 ≤ (wrap64 (x5_1 - 8)) then (if (wrap64 (x5_1 - 8)) ≤ (y6.size : Int) then ((cooperageref3_Of.f kj32 (y6.extract 0 ((wrap64 (x5_1 - 8)) : Int).toNat)).bind fun t112 => ((cooperageref3_Hex.f kj32 t112).bind fun t113 => (if t113.toList = (y6.extract ((wrap64 (x5_1 - 8)) : Int).toNat y6.size).toList then (if 0 ≤ (wrap64 (x5_1 + 1)) then (if (wrap64 (x5_1 + 1)) ≤ (a0.size : Int) then (some (x7_3, a0.extract ((wrap64 (x5_1 + 1)) : Int).toNat a0.size, 0)) else (none)) else (none)) else (some (([] : List ByteArray), (⟨#[]⟩ : ByteArray), 13))))) else (none)) else (none)) = some (r1, r2, r3) := by rw [if_neg (show ¬ (false = true) by decide)] at H; exact H
                              clear H
                              have H := H1
                              clear H1
                              obtain ⟨ji39, hji39⟩ : ∃ j_ : Int, (wrap64 (x5_1 - 8)) = j_ := ⟨_, rfl⟩
                              replace H : (if 0 ≤ (ji39) then (if (ji39) ≤ (y6.size : Int) then ((cooperageref3_Of.f kj32 (y6.extract 0 ((ji39) : Int).toNat)).bind fun t112 => ((cooperageref3_Hex.f kj32 t112).bind fun t113 => (if t113.toList = (y6.extract ((ji39) : Int).toNat y6.size).toList then (if 0 ≤ (wrap64 (x5_1 + 1)) then (if (wrap64 (x5_1 + 1)) ≤ (a0.size : Int) then (some (x7_3, a0.extract ((wrap64 (x5_1 + 1)) : Int).toNat a0.size, 0)) else (none)) else (none)) else (some (([] : List ByteArray), (⟨#[]⟩ : ByteArray), 13))))) else (none)) else (none)) = some (r1, r2, r3) := by first | (rw [hji39] at H; exact H) | (simp only [hji39] at H ⊢; exact H)
                              (try rw [hji39] at c18b0)
                              have hji39w : (IntKind.i64.wrap (x5_1 - 8)) = ji39 := (i64_w _).trans hji39
                              by_cases c40 : 0 ≤ (ji39)
                              · rw [if_pos c40] at H
                                have c40b0 := eq_true c40
                                have c40b1 : decide (0 ≤ (ji39)) = true := decide_eq_true c40
                                clear c40
                                by_cases c41 : (ji39) ≤ (y6.size : Int)
                                · rw [if_pos c41] at H
                                  have c41b0 := eq_true c41
                                  have c41b1 : decide ((ji39) ≤ (y6.size : Int)) = true := decide_eq_true c41
                                  clear c41
                                  replace H := Option.bind_eq_some_iff.mp H
                                  obtain ⟨t112, A420, H⟩ := H
                                  replace H : ((cooperageref3_Hex.f kj32 t112).bind fun t113 => (if t113.toList = (y6.extract ((ji39) : Int).toNat y6.size).toList then (if 0 ≤ (wrap64 (x5_1 + 1)) then (if (wrap64 (x5_1 + 1)) ≤ (a0.size : Int) then (some (x7_3, a0.extract ((wrap64 (x5_1 + 1)) : Int).toNat a0.size, 0)) else (none)) else (none)) else (some (([] : List ByteArray), (⟨#[]⟩ : ByteArray), 13)))) = some (r1, r2, r3) := H
                                  have A42 := Aside0.mk A420
                                  clear A420
                                  replace H := Option.bind_eq_some_iff.mp H
                                  obtain ⟨t113, A430, H⟩ := H
                                  replace H : (if t113.toList = (y6.extract ((ji39) : Int).toNat y6.size).toList then (if 0 ≤ (wrap64 (x5_1 + 1)) then (if (wrap64 (x5_1 + 1)) ≤ (a0.size : Int) then (some (x7_3, a0.extract ((wrap64 (x5_1 + 1)) : Int).toNat a0.size, 0)) else (none)) else (none)) else (some (([] : List ByteArray), (⟨#[]⟩ : ByteArray), 13))) = some (r1, r2, r3) := H
                                  have A43 := Aside0.mk A430
                                  clear A430
                                  have c44b0 := eq_true (of_decide_eq_true (by first | (with_reducible assumption) | assumption) : 0 ≤ (ji39))
                                  have c45b0 := eq_true (of_decide_eq_true (by first | (with_reducible assumption) | assumption) : (ji39) ≤ (y6.size : Int))
                                  by_cases c46 : t113.toList = (y6.extract ((ji39) : Int).toNat y6.size).toList
                                  · rw [if_pos c46] at H
                                    have c46b0 : (t113.toList == (y6.extract ((ji39) : Int).toNat y6.size).toList) = true := beq_iff_eq.mpr c46
                                    have c46b1 : (t113.toList != (y6.extract ((ji39) : Int).toNat y6.size).toList) = false := bne_eq_false_iff_eq.mpr c46
                                    clear c46
                                    obtain ⟨ji47, hji47⟩ : ∃ j_ : Int, (wrap64 (x5_1 + 1)) = j_ := ⟨_, rfl⟩
                                    replace H : (if 0 ≤ (ji47) then (if (ji47) ≤ (a0.size : Int) then (some (x7_3, a0.extract ((ji47) : Int).toNat a0.size, 0)) else (none)) else (none)) = some (r1, r2, r3) := by first | (rw [hji47] at H; exact H) | (simp only [hji47] at H ⊢; exact H)
                                    (try rw [hji47] at A42)
                                    (try rw [hji47] at A43)
                                    have hji47w : (IntKind.i64.wrap (x5_1 + 1)) = ji47 := (i64_w _).trans hji47
                                    by_cases c48 : 0 ≤ (ji47)
                                    · rw [if_pos c48] at H
                                      have c48b0 := eq_true c48
                                      have c48b1 : decide (0 ≤ (ji47)) = true := decide_eq_true c48
                                      clear c48
                                      by_cases c49 : (ji47) ≤ (a0.size : Int)
                                      · rw [if_pos c49] at H
                                        have c49b0 := eq_true c49
                                        have c49b1 : decide ((ji47) ≤ (a0.size : Int)) = true := decide_eq_true c49
                                        clear c49
                                        simp only [Option.some.injEq, Prod.mk.injEq] at H
                                        obtain ⟨rfl, rfl, rfl⟩ := H
                                        go_wp2_with (first | (go_at_call 78; (with_reducible refine (cooperageref3_Of.calls kj32 (y6.extract 0 ((ji39) : Int).toNat) t112 _ A42.out).mono ?_); rintro e w' ⟨rfl, ⟨nd, rfl⟩⟩; (try first | exact ⟨rfl, _, World.drewN_drewN _ _ _⟩ | exact ⟨rfl, _, Eq.trans (World.drewN_drewN _ _ _) (congrArg (World.drewN _) (Nat.add_assoc _ _ _))⟩)) | (go_at_call 77; (with_reducible refine (cooperageref3_Hex.calls kj32 t112 t113 _ A43.out).mono ?_); rintro e w' ⟨rfl, ⟨nd, rfl⟩⟩; (try first | exact ⟨rfl, _, World.drewN_drewN _ _ _⟩ | exact ⟨rfl, _, Eq.trans (World.drewN_drewN _ _ _) (congrArg (World.drewN _) (Nat.add_assoc _ _ _))⟩)))
                                        repeat (go_quiet (first | (go_at_call 78; (with_reducible refine (cooperageref3_Of.calls kj32 (y6.extract 0 ((ji39) : Int).toNat) t112 _ A42.out).mono ?_); rintro e w' ⟨rfl, ⟨nd, rfl⟩⟩; (try first | exact ⟨rfl, _, World.drewN_drewN _ _ _⟩ | exact ⟨rfl, _, Eq.trans (World.drewN_drewN _ _ _) (congrArg (World.drewN _) (Nat.add_assoc _ _ _))⟩)) | (go_at_call 77; (with_reducible refine (cooperageref3_Hex.calls kj32 t112 t113 _ A43.out).mono ?_); rintro e w' ⟨rfl, ⟨nd, rfl⟩⟩; (try first | exact ⟨rfl, _, World.drewN_drewN _ _ _⟩ | exact ⟨rfl, _, Eq.trans (World.drewN_drewN _ _ _) (congrArg (World.drewN _) (Nat.add_assoc _ _ _))⟩))); try go_wp2_with (first | (go_at_call 78; (with_reducible refine (cooperageref3_Of.calls kj32 (y6.extract 0 ((ji39) : Int).toNat) t112 _ A42.out).mono ?_); rintro e w' ⟨rfl, ⟨nd, rfl⟩⟩; (try first | exact ⟨rfl, _, World.drewN_drewN _ _ _⟩ | exact ⟨rfl, _, Eq.trans (World.drewN_drewN _ _ _) (congrArg (World.drewN _) (Nat.add_assoc _ _ _))⟩)) | (go_at_call 77; (with_reducible refine (cooperageref3_Hex.calls kj32 t112 t113 _ A43.out).mono ?_); rintro e w' ⟨rfl, ⟨nd, rfl⟩⟩; (try first | exact ⟨rfl, _, World.drewN_drewN _ _ _⟩ | exact ⟨rfl, _, Eq.trans (World.drewN_drewN _ _ _) (congrArg (World.drewN _) (Nat.add_assoc _ _ _))⟩))))
                                        go_ret3
                                        exact ⟨_, by first | rfl | (simp [errW_none, errW_some] <;> rfl) | (simp only [← hji39, ← hji47]; first | rfl | (simp [errW_none, errW_some] <;> rfl)) | (simp [*, errW_none, errW_some] <;> rfl), by (with_reducible repeat (first | apply Kd.R_alloc | apply Kd.R_drewN | apply Kd.R_drew)); exact HO_7.out, by repeat (first | (with_reducible first | exact HB.out | apply below_alloc | apply pw_below_drewN | apply below_drew1) | exact HB.out)⟩
                                      · rw [if_neg c49] at H
                                        exact absurd H (by simp)
                                    · rw [if_neg c48] at H
                                      exact absurd H (by simp)
                                  · rw [if_neg c46] at H
                                    have c46b0 : (t113.toList == (y6.extract ((ji39) : Int).toNat y6.size).toList) = false := beq_eq_false_iff_ne.mpr c46
                                    have c46b1 : (t113.toList != (y6.extract ((ji39) : Int).toNat y6.size).toList) = true := bne_iff_ne.mpr c46
                                    simp only [Option.some.injEq, Prod.mk.injEq] at H
                                    obtain ⟨rfl, rfl, rfl⟩ := H
                                    go_wp2_with (first | (go_at_call 78; (with_reducible refine (cooperageref3_Of.calls kj32 (y6.extract 0 ((ji39) : Int).toNat) t112 _ A42.out).mono ?_); rintro e w' ⟨rfl, ⟨nd, rfl⟩⟩; (try first | exact ⟨rfl, _, World.drewN_drewN _ _ _⟩ | exact ⟨rfl, _, Eq.trans (World.drewN_drewN _ _ _) (congrArg (World.drewN _) (Nat.add_assoc _ _ _))⟩)) | (go_at_call 77; (with_reducible refine (cooperageref3_Hex.calls kj32 t112 t113 _ A43.out).mono ?_); rintro e w' ⟨rfl, ⟨nd, rfl⟩⟩; (try first | exact ⟨rfl, _, World.drewN_drewN _ _ _⟩ | exact ⟨rfl, _, Eq.trans (World.drewN_drewN _ _ _) (congrArg (World.drewN _) (Nat.add_assoc _ _ _))⟩)))
                                    repeat (go_quiet (first | (go_at_call 78; (with_reducible refine (cooperageref3_Of.calls kj32 (y6.extract 0 ((ji39) : Int).toNat) t112 _ A42.out).mono ?_); rintro e w' ⟨rfl, ⟨nd, rfl⟩⟩; (try first | exact ⟨rfl, _, World.drewN_drewN _ _ _⟩ | exact ⟨rfl, _, Eq.trans (World.drewN_drewN _ _ _) (congrArg (World.drewN _) (Nat.add_assoc _ _ _))⟩)) | (go_at_call 77; (with_reducible refine (cooperageref3_Hex.calls kj32 t112 t113 _ A43.out).mono ?_); rintro e w' ⟨rfl, ⟨nd, rfl⟩⟩; (try first | exact ⟨rfl, _, World.drewN_drewN _ _ _⟩ | exact ⟨rfl, _, Eq.trans (World.drewN_drewN _ _ _) (congrArg (World.drewN _) (Nat.add_assoc _ _ _))⟩))); try go_wp2_with (first | (go_at_call 78; (with_reducible refine (cooperageref3_Of.calls kj32 (y6.extract 0 ((ji39) : Int).toNat) t112 _ A42.out).mono ?_); rintro e w' ⟨rfl, ⟨nd, rfl⟩⟩; (try first | exact ⟨rfl, _, World.drewN_drewN _ _ _⟩ | exact ⟨rfl, _, Eq.trans (World.drewN_drewN _ _ _) (congrArg (World.drewN _) (Nat.add_assoc _ _ _))⟩)) | (go_at_call 77; (with_reducible refine (cooperageref3_Hex.calls kj32 t112 t113 _ A43.out).mono ?_); rintro e w' ⟨rfl, ⟨nd, rfl⟩⟩; (try first | exact ⟨rfl, _, World.drewN_drewN _ _ _⟩ | exact ⟨rfl, _, Eq.trans (World.drewN_drewN _ _ _) (congrArg (World.drewN _) (Nat.add_assoc _ _ _))⟩))))
                                    go_ret3
                                    exact ⟨_, by first | rfl | (simp [errW_none, errW_some] <;> rfl) | (simp only [← hji39]; first | rfl | (simp [errW_none, errW_some] <;> rfl)) | (simp [*, errW_none, errW_some] <;> rfl), by first | exact Kd.R_nil _ _ _ _ _ | exact Kd.N_nil _ _ _ _ _ | exact Kd.V_nil _ _ _ _ _ | exact Kd.Q_nil _ _ _ _ _ | exact Kd.S_nil _ _ _ _ _, by repeat (first | (with_reducible first | exact HB.out | apply below_alloc | apply pw_below_drewN | apply below_drew1) | exact HB.out)⟩
                                · rw [if_neg c41] at H
                                  exact absurd H (by simp)
                              · rw [if_neg c40] at H
                                exact absurd H (by simp)
          · rw [if_neg c9] at H
            exact absurd H (by simp)
        · rw [if_neg c8] at H
          exact absurd H (by simp)
end Go.Proofs.YtghbaehbgefpaaaGreatDoor.L
