import Derived.Test.YtgdanenhbjfhaaaGreatDoorQ02
import Derived.Test.YtgdanenhbjfhaaaGreatDoorQ03
/- Several texts of this session in one: the walks of the functions that the laws reach, and what they tell. -/
namespace Go.Proofs.YtgdanenhbjfhaaaGreatDoor.F
open Go.Proofs.YtgdanenhbjfhaaaGreatDoor.Fr
open Go.Proofs.YtgdanenhbjfhaaaGreatDoor
open Go.RowKit Go.Proofs.YtgdanenhbjfhaaaGreatDoorW.PrintWords Go.Proofs.YtgdanenhbjfhaaaGreatDoorW.PrintLast Go.Proofs.YtgdanenhbjfhaaaGreatDoorW.PrintMore
attribute [local go_sem] max2_int min2_int max_two min_two max_three min_three max_four min_four   -- for this text's walks alone
set_option linter.unusedVariables false
set_option linter.unusedSimpArgs false

/-! ### cooperagelaw6_small: function 5 -/
def cooperagelaw6_small.l0 : Nat → List (S34) → Int → Option (Bool)
  | 0, _, _ => none
  | k + 1, x0, x3 => if x3 < (x0.length : Int) then (if 0 ≤ x3 then ((cooperagelaw6_tiny.f k ((rd_T34 x0 x3).f4)).bind fun t113 => (if t113 = true then (if (((rd_T34 x0 x3).f3).size : Int) > 150 then (some false) else (if (((rd_T34 x0 x3).f5).size : Int) > 300 then (some false) else (cooperagelaw6_small.l0 k x0 (wrap64 (x3 + 1))))) else (some false))) else (none)) else (some true)
def cooperagelaw6_small.f (k : Nat) (l0 : List (S34)) : Option (Bool) := if (l0.length : Int) > 40 then (some false) else (cooperagelaw6_small.l0 k l0 0)
set_option maxHeartbeats 8000000 in
set_option maxRecDepth 100000 in
theorem cooperagelaw6_small.calls (k : Nat) (A0 : Option Addr) (c0 : Nat) (l0 : List (S34)) (r : Bool) (w : World) (hr0 : Kd.C k34 w A0 l0.length l0) (hc0 : l0.length ≤ c0) (h : cooperagelaw6_small.f k l0 = some r) :
    Calls Tryz.prog 5 #[.slice A0 l0.length c0] w fun e w' => e = .returned (.bool r) ∧ Drawn0 w w' := by
  have HR0 := Aside0.mk hr0
  have HC0 := Aside0.mk hc0
  clear hr0 hc0
  have H : (if (l0.length : Int) > 40 then (some false) else (cooperagelaw6_small.l0 k l0 0)) = some r := h
  clear h
  by_cases c2 : (l0.length : Int) > 40
  · rw [if_pos c2] at H
    have c2b0 : decide (40 < (l0.length : Int)) = true := decide_eq_true c2
    have c2b1 : decide (40 < l0.length) = true := decide_eq_true (by omega)
    clear c2
    obtain rfl := Option.some.inj H
    go_enter Tryz.func5, Tryz.ntmps5
    go_wp2
    go_ret
    exact ⟨by first | rfl | (simp; done) | (simp [*]; done), by repeat (first | exact Drawn0.refl _ | apply Drawn0.step)⟩
  · rw [if_neg c2] at H
    have c2b0 : decide (40 < (l0.length : Int)) = false := decide_eq_false c2
    have c2b1 : decide (40 < l0.length) = false := decide_eq_false (by omega)
    clear c2
    have H' := Aside0.mk H
    clear H
    go_enter Tryz.func5, Tryz.ntmps5
    go_wp2
    go_loopg [3] k (fun kq v3 w' => ∃ (x3_1 : Int), v3 = .int .i64 x3_1 ∧ Aside0 (cooperagelaw6_small.l0 kq l0 x3_1 = some r) ∧ Aside0 (kq ≤ k) ∧ Drawn0 w w')
    case atStart => exact ⟨(0), (by first | rfl | (simp; done) | (simp [*]; done)), H', ⟨Nat.le_refl _⟩, by repeat (first | exact Drawn0.refl _ | apply Drawn0.step)⟩
    case round =>
      clear H'
      try clear c2
      try clear c2b0
      try clear c2b1
      try clear p2
      obtain ⟨x3_1, rfl, HA, HK1, ⟨m1, rfl⟩⟩ := hrel
      cases gk with
      | zero => exact absurd HA.out (by simp [cooperagelaw6_small.l0])
      | succ k1 =>
        have H := HA.out
        clear HA
        simp only [cooperagelaw6_small.l0] at H
        by_cases c3 : x3_1 < (l0.length : Int)
        · rw [if_pos c3] at H
          have c3b0 : decide (x3_1 < (l0.length : Int)) = true := decide_eq_true c3
          clear c3
          by_cases c4 : 0 ≤ x3_1
          · rw [if_pos c4] at H
            have c4b0 : decide (0 ≤ x3_1) = true := decide_eq_true c4
            clear c4
            replace H := Option.bind_eq_some_iff.mp H
            obtain ⟨t113, A50, H⟩ := H
            replace H : (if t113 = true then (if (((rd_T34 l0 x3_1).f3).size : Int) > 150 then (some false) else (if (((rd_T34 l0 x3_1).f5).size : Int) > 300 then (some false) else (cooperagelaw6_small.l0 k1 l0 (wrap64 (x3_1 + 1))))) else (some false)) = some r := H
            have A5 := Aside0.mk A50
            clear A50
            by_cases c6 : t113 = true
            · subst c6
              have H1 : (if (((rd_T34 l0 x3_1).f3).size : Int) > 150 then (some false) else (if (((rd_T34 l0 x3_1).f5).size : Int) > 300 then (some false) else (cooperagelaw6_small.l0 k1 l0 (wrap64 (x3_1 + 1))))) = some r := by rw [if_pos rfl] at H; exact H
              clear H
              have H := H1
              clear H1
              by_cases c7 : (((rd_T34 l0 x3_1).f3).size : Int) > 150
              · rw [if_pos c7] at H
                have c7b0 : decide (150 < (((rd_T34 l0 x3_1).f3).size : Int)) = true := decide_eq_true c7
                have c7b1 : decide (150 < ((rd_T34 l0 x3_1).f3).size) = true := decide_eq_true (by omega)
                clear c7
                obtain rfl := Option.some.inj H
                have p112 : 0 ≤ (x3_1 : Int) := of_decide_eq_true (by first | (with_reducible assumption) | assumption)
                have q112 : x3_1 < (l0.length : Int) := of_decide_eq_true (by first | (with_reducible assumption) | assumption)
                obtain ⟨ad112, A112_4, c112_4, e112, hx112_0, hx112_1, hx112_2, hx112_3, hx112_4, hx112_5, hl112_4, hi112_4⟩ := at_T34 HR0.out x3_1 p112 q112
                cases e112
                have HR112_4 := Aside0.mk hi112_4
                have HC112_4 := Aside0.mk hl112_4
                clear hi112_4 hl112_4
                replace p112 := eq_true p112
                replace q112 := eq_true q112
                go_wp2_with (first | ((with_reducible refine gate_callee (f := 26) rfl ?_); refine goesL_ (some 19) rfl rfl Tryz.func26 (by kernel_rfl) rfl #[.slice A112_4 ((rd_T34 l0 x3_1).f4).length c112_4] rfl (by (try simp only [List.map_toArray, List.map_cons, List.map_nil]); first | done | rfl | (simp only [List.length_drop, List.length_take]; rfl)) ?_; (with_reducible refine (cooperagelaw6_tiny.calls k1 _ _ ((rd_T34 l0 x3_1).f4) true _ ?side1 ?side2 A5.out).mono ?_); (case side1 => repeat (first | exact HR112_4.out | (with_reducible refine Kd.C_alloc ?_ _) | (with_reducible refine Kd.C_drewN ?_ _) | (with_reducible refine Kd.C_drew ?_))); (case side2 => exact HC112_4.out); rintro e w' ⟨rfl, ⟨nd, rfl⟩⟩; refine ⟨_, rfl, ?_⟩; have p114 : 0 ≤ (x3_1 : Int) := of_decide_eq_true (by first | (with_reducible assumption) | assumption); have q114 : x3_1 < (l0.length : Int) := of_decide_eq_true (by first | (with_reducible assumption) | assumption); obtain ⟨ad114, A114_4, c114_4, e114, hx114_0, hx114_1, hx114_2, hx114_3, hx114_4, hx114_5, hl114_4, hi114_4⟩ := at_T34 HR0.out x3_1 p114 q114; obtain rfl : ad112 = ad114 := (by injection e114); have HR114_4 := Aside0.mk hi114_4; have HC114_4 := Aside0.mk hl114_4; clear hi114_4 hl114_4; replace p114 := eq_true p114; replace q114 := eq_true q114; have ea_ := Option.some.inj (hx112_4.symm.trans hx114_4); injection ea_ with ea_ en_ ec_; subst ea_; subst ec_; clear en_))
                go_ret
                exact ⟨by first | rfl | (simp; done) | (simp [*]; done), by repeat (first | exact Drawn0.refl _ | apply Drawn0.step)⟩
              · rw [if_neg c7] at H
                have c7b0 : decide (150 < (((rd_T34 l0 x3_1).f3).size : Int)) = false := decide_eq_false c7
                have c7b1 : decide (150 < ((rd_T34 l0 x3_1).f3).size) = false := decide_eq_false (by omega)
                clear c7
                by_cases c8 : (((rd_T34 l0 x3_1).f5).size : Int) > 300
                · rw [if_pos c8] at H
                  have c8b0 : decide (300 < (((rd_T34 l0 x3_1).f5).size : Int)) = true := decide_eq_true c8
                  have c8b1 : decide (300 < ((rd_T34 l0 x3_1).f5).size) = true := decide_eq_true (by omega)
                  clear c8
                  obtain rfl := Option.some.inj H
                  have p112 : 0 ≤ (x3_1 : Int) := of_decide_eq_true (by first | (with_reducible assumption) | assumption)
                  have q112 : x3_1 < (l0.length : Int) := of_decide_eq_true (by first | (with_reducible assumption) | assumption)
                  obtain ⟨ad112, A112_4, c112_4, e112, hx112_0, hx112_1, hx112_2, hx112_3, hx112_4, hx112_5, hl112_4, hi112_4⟩ := at_T34 HR0.out x3_1 p112 q112
                  cases e112
                  have HR112_4 := Aside0.mk hi112_4
                  have HC112_4 := Aside0.mk hl112_4
                  clear hi112_4 hl112_4
                  replace p112 := eq_true p112
                  replace q112 := eq_true q112
                  go_wp2_with (first | ((with_reducible refine gate_callee (f := 26) rfl ?_); refine goesL_ (some 19) rfl rfl Tryz.func26 (by kernel_rfl) rfl #[.slice A112_4 ((rd_T34 l0 x3_1).f4).length c112_4] rfl (by (try simp only [List.map_toArray, List.map_cons, List.map_nil]); first | done | rfl | (simp only [List.length_drop, List.length_take]; rfl)) ?_; (with_reducible refine (cooperagelaw6_tiny.calls k1 _ _ ((rd_T34 l0 x3_1).f4) true _ ?side1 ?side2 A5.out).mono ?_); (case side1 => repeat (first | exact HR112_4.out | (with_reducible refine Kd.C_alloc ?_ _) | (with_reducible refine Kd.C_drewN ?_ _) | (with_reducible refine Kd.C_drew ?_))); (case side2 => exact HC112_4.out); rintro e w' ⟨rfl, ⟨nd, rfl⟩⟩; refine ⟨_, rfl, ?_⟩; have p114 : 0 ≤ (x3_1 : Int) := of_decide_eq_true (by first | (with_reducible assumption) | assumption); have q114 : x3_1 < (l0.length : Int) := of_decide_eq_true (by first | (with_reducible assumption) | assumption); obtain ⟨ad114, A114_4, c114_4, e114, hx114_0, hx114_1, hx114_2, hx114_3, hx114_4, hx114_5, hl114_4, hi114_4⟩ := at_T34 HR0.out x3_1 p114 q114; obtain rfl : ad112 = ad114 := (by injection e114); have HR114_4 := Aside0.mk hi114_4; have HC114_4 := Aside0.mk hl114_4; clear hi114_4 hl114_4; replace p114 := eq_true p114; replace q114 := eq_true q114; have ea_ := Option.some.inj (hx112_4.symm.trans hx114_4); injection ea_ with ea_ en_ ec_; subst ea_; subst ec_; clear en_; have p115 : 0 ≤ (x3_1 : Int) := of_decide_eq_true (by first | (with_reducible assumption) | assumption); have q115 : x3_1 < (l0.length : Int) := of_decide_eq_true (by first | (with_reducible assumption) | assumption); obtain ⟨ad115, A115_4, c115_4, e115, hx115_0, hx115_1, hx115_2, hx115_3, hx115_4, hx115_5, hl115_4, hi115_4⟩ := at_T34 HR0.out x3_1 p115 q115; obtain rfl : ad112 = ad115 := (by injection e115); have HR115_4 := Aside0.mk hi115_4; have HC115_4 := Aside0.mk hl115_4; clear hi115_4 hl115_4; replace p115 := eq_true p115; replace q115 := eq_true q115; have ea_ := Option.some.inj (hx112_4.symm.trans hx115_4); injection ea_ with ea_ en_ ec_; subst ea_; subst ec_; clear en_))
                  go_ret
                  exact ⟨by first | rfl | (simp; done) | (simp [*]; done), by repeat (first | exact Drawn0.refl _ | apply Drawn0.step)⟩
                · rw [if_neg c8] at H
                  have c8b0 : decide (300 < (((rd_T34 l0 x3_1).f5).size : Int)) = false := decide_eq_false c8
                  have c8b1 : decide (300 < ((rd_T34 l0 x3_1).f5).size) = false := decide_eq_false (by omega)
                  clear c8
                  have H' := Aside0.mk H
                  clear H
                  have p112 : 0 ≤ (x3_1 : Int) := of_decide_eq_true (by first | (with_reducible assumption) | assumption)
                  have q112 : x3_1 < (l0.length : Int) := of_decide_eq_true (by first | (with_reducible assumption) | assumption)
                  obtain ⟨ad112, A112_4, c112_4, e112, hx112_0, hx112_1, hx112_2, hx112_3, hx112_4, hx112_5, hl112_4, hi112_4⟩ := at_T34 HR0.out x3_1 p112 q112
                  cases e112
                  have HR112_4 := Aside0.mk hi112_4
                  have HC112_4 := Aside0.mk hl112_4
                  clear hi112_4 hl112_4
                  replace p112 := eq_true p112
                  replace q112 := eq_true q112
                  go_wp2_with (first | ((with_reducible refine gate_callee (f := 26) rfl ?_); refine goesL_ (some 19) rfl rfl Tryz.func26 (by kernel_rfl) rfl #[.slice A112_4 ((rd_T34 l0 x3_1).f4).length c112_4] rfl (by (try simp only [List.map_toArray, List.map_cons, List.map_nil]); first | done | rfl | (simp only [List.length_drop, List.length_take]; rfl)) ?_; (with_reducible refine (cooperagelaw6_tiny.calls k1 _ _ ((rd_T34 l0 x3_1).f4) true _ ?side1 ?side2 A5.out).mono ?_); (case side1 => repeat (first | exact HR112_4.out | (with_reducible refine Kd.C_alloc ?_ _) | (with_reducible refine Kd.C_drewN ?_ _) | (with_reducible refine Kd.C_drew ?_))); (case side2 => exact HC112_4.out); rintro e w' ⟨rfl, ⟨nd, rfl⟩⟩; refine ⟨_, rfl, ?_⟩; have p114 : 0 ≤ (x3_1 : Int) := of_decide_eq_true (by first | (with_reducible assumption) | assumption); have q114 : x3_1 < (l0.length : Int) := of_decide_eq_true (by first | (with_reducible assumption) | assumption); obtain ⟨ad114, A114_4, c114_4, e114, hx114_0, hx114_1, hx114_2, hx114_3, hx114_4, hx114_5, hl114_4, hi114_4⟩ := at_T34 HR0.out x3_1 p114 q114; obtain rfl : ad112 = ad114 := (by injection e114); have HR114_4 := Aside0.mk hi114_4; have HC114_4 := Aside0.mk hl114_4; clear hi114_4 hl114_4; replace p114 := eq_true p114; replace q114 := eq_true q114; have ea_ := Option.some.inj (hx112_4.symm.trans hx114_4); injection ea_ with ea_ en_ ec_; subst ea_; subst ec_; clear en_; have p115 : 0 ≤ (x3_1 : Int) := of_decide_eq_true (by first | (with_reducible assumption) | assumption); have q115 : x3_1 < (l0.length : Int) := of_decide_eq_true (by first | (with_reducible assumption) | assumption); obtain ⟨ad115, A115_4, c115_4, e115, hx115_0, hx115_1, hx115_2, hx115_3, hx115_4, hx115_5, hl115_4, hi115_4⟩ := at_T34 HR0.out x3_1 p115 q115; obtain rfl : ad112 = ad115 := (by injection e115); have HR115_4 := Aside0.mk hi115_4; have HC115_4 := Aside0.mk hl115_4; clear hi115_4 hl115_4; replace p115 := eq_true p115; replace q115 := eq_true q115; have ea_ := Option.some.inj (hx112_4.symm.trans hx115_4); injection ea_ with ea_ en_ ec_; subst ea_; subst ec_; clear en_))
                  go_roundg k1
                  case measure => have := HK1.out; omega
                  case rel => exact ⟨(wrap64 (x3_1 + 1)), (by first | rfl | (simp; done) | (simp [*]; done)), H', ⟨by have := HK1.out; omega⟩, by repeat (first | exact Drawn0.refl _ | apply Drawn0.step)⟩
            · replace c6 := Bool.eq_false_iff.mpr c6
              subst c6
              have H1 : (some false) = some r := by rw [if_neg (show ¬ (false = true) by decide)] at H; exact H
              clear H
              have H := H1
              clear H1
              obtain rfl := Option.some.inj H
              have p112 : 0 ≤ (x3_1 : Int) := of_decide_eq_true (by first | (with_reducible assumption) | assumption)
              have q112 : x3_1 < (l0.length : Int) := of_decide_eq_true (by first | (with_reducible assumption) | assumption)
              obtain ⟨ad112, A112_4, c112_4, e112, hx112_0, hx112_1, hx112_2, hx112_3, hx112_4, hx112_5, hl112_4, hi112_4⟩ := at_T34 HR0.out x3_1 p112 q112
              cases e112
              have HR112_4 := Aside0.mk hi112_4
              have HC112_4 := Aside0.mk hl112_4
              clear hi112_4 hl112_4
              replace p112 := eq_true p112
              replace q112 := eq_true q112
              go_wp2_with (first | ((with_reducible refine gate_callee (f := 26) rfl ?_); refine goesL_ (some 19) rfl rfl Tryz.func26 (by kernel_rfl) rfl #[.slice A112_4 ((rd_T34 l0 x3_1).f4).length c112_4] rfl (by (try simp only [List.map_toArray, List.map_cons, List.map_nil]); first | done | rfl | (simp only [List.length_drop, List.length_take]; rfl)) ?_; (with_reducible refine (cooperagelaw6_tiny.calls k1 _ _ ((rd_T34 l0 x3_1).f4) false _ ?side1 ?side2 A5.out).mono ?_); (case side1 => repeat (first | exact HR112_4.out | (with_reducible refine Kd.C_alloc ?_ _) | (with_reducible refine Kd.C_drewN ?_ _) | (with_reducible refine Kd.C_drew ?_))); (case side2 => exact HC112_4.out); rintro e w' ⟨rfl, ⟨nd, rfl⟩⟩; refine ⟨_, rfl, ?_⟩))
              go_ret
              exact ⟨by first | rfl | (simp; done) | (simp [*]; done), by repeat (first | exact Drawn0.refl _ | apply Drawn0.step)⟩
          · rw [if_neg c4] at H
            exact absurd H (by simp)
        · rw [if_neg c3] at H
          have c3b0 : decide (x3_1 < (l0.length : Int)) = false := decide_eq_false c3
          clear c3
          obtain rfl := Option.some.inj H
          go_wp2
          go_ret
          exact ⟨by first | rfl | (simp; done) | (simp [*]; done), by repeat (first | exact Drawn0.refl _ | apply Drawn0.step)⟩

/-! ### cooperageref1_digit: function 84 -/
def cooperageref1_digit.f (a0 : Int) : Option (Bool) := if a0 ≥ 48 then (some (decide (a0 ≤ 57))) else (some false)
set_option maxHeartbeats 8000000 in
set_option maxRecDepth 100000 in
theorem cooperageref1_digit.calls (a0 : Int) (r : Bool) (w : World) (h : cooperageref1_digit.f a0 = some r) :
    Calls Tryz.prog 84 #[.int .u8 a0] w fun e w' => e = .returned (.bool r) ∧ Drawn0 w w' := by
  have H : (if a0 ≥ 48 then (some (decide (a0 ≤ 57))) else (some false)) = some r := h
  clear h
  by_cases c2 : a0 ≥ 48
  · rw [if_pos c2] at H
    have c2b0 : decide (48 ≤ a0) = true := decide_eq_true c2
    clear c2
    obtain rfl := Option.some.inj H
    go_enter Tryz.func84, Tryz.ntmps84
    go_wp2
    go_ret
    exact ⟨by first | rfl | (simp; done) | (simp [*]; done), by repeat (first | exact Drawn0.refl _ | apply Drawn0.step)⟩
  · rw [if_neg c2] at H
    have c2b0 : decide (48 ≤ a0) = false := decide_eq_false c2
    clear c2
    obtain rfl := Option.some.inj H
    go_enter Tryz.func84, Tryz.ntmps84
    go_wp2
    go_ret
    exact ⟨by first | rfl | (simp; done) | (simp [*]; done), by repeat (first | exact Drawn0.refl _ | apply Drawn0.step)⟩

end Go.Proofs.YtgdanenhbjfhaaaGreatDoor.F
