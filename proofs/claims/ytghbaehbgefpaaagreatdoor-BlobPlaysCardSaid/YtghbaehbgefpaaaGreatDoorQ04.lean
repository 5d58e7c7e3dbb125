import Derived.Test.YtghbaehbgefpaaaGreatDoorQ02
import Derived.Test.YtghbaehbgefpaaaGreatDoorQ03
/- Several texts of this session in one: the walks of the functions that the laws reach, and what they tell. -/
set_option linter.unusedVariables false
set_option linter.unusedSimpArgs false
namespace Go.Proofs.YtghbaehbgefpaaaGreatDoor.F
open Go.Proofs.YtghbaehbgefpaaaGreatDoor.Fr
open Go.Proofs.YtghbaehbgefpaaaGreatDoor
open Go.RowKit Go.Proofs.YtghbaehbgefpaaaGreatDoorW.PrintWords Go.Proofs.YtghbaehbgefpaaaGreatDoorW.PrintLast Go.Proofs.YtghbaehbgefpaaaGreatDoorW.PrintMore
attribute [local go_sem] max2_int min2_int max_two min_two max_three min_three max_four min_four   -- for this text's walks alone
mutual
def cooperageref1_Path.j0 : Nat → ByteArray → Bool → Option (Bool)
  | 0, _, _ => none
  | k + 1, x0, x13 => if x13 = true then (some false) else (cooperageref1_Path.l0 k x0 0 (⟨#[]⟩ : ByteArray) 0)
def cooperageref1_Path.l0 : Nat → ByteArray → Int → ByteArray → Int → Option (Bool)
  | 0, _, _, _, _ => none
  | k + 1, x0, x3, x4, x5 => if x5 ≤ (x0.size : Int) then (if x5 < (x0.size : Int) then (if 0 ≤ x5 then ((cooperageref1_plain.f (bt x0 x5)).bind fun t110 => (cooperageref1_Path.j2 k x0 x3 x4 x5 (!t110))) else (none)) else (cooperageref1_Path.j2 k x0 x3 x4 x5 false)) else (some (decide (x3 ≤ 8)))
def cooperageref1_Path.j2 : Nat → ByteArray → Int → ByteArray → Int → Bool → Option (Bool)
  | 0, _, _, _, _, _ => none
  | k + 1, x0, x3, x4, x5, x30 => if x30 = true then (some false) else (if x5 < (x0.size : Int) then (if 0 ≤ x5 then (cooperageref1_Path.j3 k x0 x3 x4 x5 ((bt x0 x5) != 47)) else (none)) else (cooperageref1_Path.j3 k x0 x3 x4 x5 false))
def cooperageref1_Path.j3 : Nat → ByteArray → Int → ByteArray → Int → Bool → Option (Bool)
  | 0, _, _, _, _, _ => none
  | k + 1, x0, x3, x4, x5, x40 => if x40 = true then (if 0 ≤ x5 then (if x5 ≤ (wrap64 (x5 + 1)) then (if (wrap64 (x5 + 1)) ≤ (x0.size : Int) then (if x4.size + (x0.extract (x5 : Int).toNat ((wrap64 (x5 + 1)) : Int).toNat).size ≤ 9223372036854775807 then (cooperageref1_Path.l0 k x0 x3 (x4 ++ (x0.extract (x5 : Int).toNat ((wrap64 (x5 + 1)) : Int).toNat)) (wrap64 (x5 + 1))) else (none)) else (none)) else (none)) else (none)) else (if x4.toList = ([] : List UInt8) then (some false) else (if x4.toList = ([46] : List UInt8) then (some false) else (if x4.toList = ([46, 46] : List UInt8) then (some false) else (cooperageref1_Path.l0 k x0 (wrap64 (x3 + 1)) (⟨#[]⟩ : ByteArray) (wrap64 (x5 + 1))))))
end
def cooperageref1_Path.f (k : Nat) (a0 : ByteArray) : Option (Bool) := if (a0.size : Int) < 1 then (cooperageref1_Path.j0 k a0 true) else (cooperageref1_Path.j0 k a0 (decide ((a0.size : Int) > 100)))
set_option maxHeartbeats 8000000 in
set_option maxRecDepth 100000 in
theorem cooperageref1_Path.calls (k : Nat) (a0 : ByteArray) (r : Bool) (w : World) (h : cooperageref1_Path.f k a0 = some r) :
    Calls Tryz.prog 46 #[.string a0] w fun e w' => e = .returned (.bool r) ∧ Drawn0 w w' := by
  have H : (if (a0.size : Int) < 1 then (cooperageref1_Path.j0 k a0 true) else (cooperageref1_Path.j0 k a0 (decide ((a0.size : Int) > 100)))) = some r := h
  clear h
  have HC2 := Aside0.mk H
  clear H
  go_enter Tryz.func46, Tryz.ntmps46
  go_upto_region 1 with (fail)
  go_cut [13] (fun v13 wc => ∃ (kq : Nat) (x13_1 : Bool), v13 = .bool x13_1 ∧ Aside0 (cooperageref1_Path.j0 kq a0 x13_1 = some r) ∧ Aside0 (kq ≤ k) ∧ Drawn0 w wc)
  case first =>
    have H := HC2.out
    clear HC2
    by_cases c3 : (a0.size : Int) < 1
    · rw [if_pos c3] at H
      have c3b0 : decide ((a0.size : Int) < 1) = true := decide_eq_true c3
      have c3b1 : decide (a0.size < 1) = true := decide_eq_true (by omega)
      clear c3
      (first | rw [c3b0] | (simp only [i64_w, i32_w]; rw [c3b0]) | skip)
      have H' := Aside0.mk H
      clear H
      go_wp2
      go_meet
      case rel => exact ⟨_, (true), (by first | rfl | (simp; done) | (simp [*]; done)), H', ⟨by first | omega | exact Nat.le_refl _⟩, by repeat (first | exact Drawn0.refl _ | apply Drawn0.step)⟩
    · rw [if_neg c3] at H
      have c3b0 : decide ((a0.size : Int) < 1) = false := decide_eq_false c3
      have c3b1 : decide (a0.size < 1) = false := decide_eq_false (by omega)
      clear c3
      (first | rw [c3b0] | (simp only [i64_w, i32_w]; rw [c3b0]) | skip)
      have H' := Aside0.mk H
      clear H
      go_wp2
      go_meet
      case rel => exact ⟨_, (decide ((a0.size : Int) > 100)), (by first | rfl | (simp; done) | (simp [*]; done)), H', ⟨by first | omega | exact Nat.le_refl _⟩, by repeat (first | exact Drawn0.refl _ | apply Drawn0.step)⟩
  case rest =>
    clear HC2
    try clear p2
    try clear c3
    try clear c3b0
    try clear c3b1
    obtain ⟨kq, x13_1, rfl, HA, HJ1, ⟨mc1, rfl⟩⟩ := hcut
    cases kq with
    | zero => exact absurd HA.out (by simp [cooperageref1_Path.j0])
    | succ kj1 =>
      have H := HA.out
      clear HA
      simp only [cooperageref1_Path.j0] at H
      by_cases c4 : x13_1 = true
      · subst c4
        have H1 : (some false) = some r := by rw [if_pos rfl] at H; exact H
        clear H
        have H := H1
        clear H1
        obtain rfl := Option.some.inj H
        go_wp2
        go_ret
        exact ⟨by first | rfl | (simp; done) | (simp [*]; done), by repeat (first | exact Drawn0.refl _ | apply Drawn0.step)⟩
      · replace c4 := Bool.eq_false_iff.mpr c4
        subst c4
        have H1 : (cooperageref1_Path.l0 kj1 a0 0 (⟨#[]⟩ : ByteArray) 0) = some r := by rw [if_neg (show ¬ (false = true) by decide)] at H; exact H
        clear H
        have H := H1
        clear H1
        have H' := Aside0.mk H
        clear H
        go_wp2
        go_loopg [3, 4, 5] kj1 (fun kq v3 v4 v5 w' => ∃ (x3_2 : Int) (x4_2 : ByteArray) (x5_2 : Int), v3 = .int .i64 x3_2 ∧ v4 = .string x4_2 ∧ v5 = .int .i64 x5_2 ∧ Aside0 (cooperageref1_Path.l0 kq a0 x3_2 x4_2 x5_2 = some r) ∧ Aside0 (kq ≤ kj1) ∧ Drawn0 w w')
        case atStart => exact ⟨(0), ((⟨#[]⟩ : ByteArray)), (0), (by first | rfl | (simp; done) | (simp [*]; done)), (by first | rfl | (simp; done) | (simp [*]; done)), (by first | rfl | (simp; done) | (simp [*]; done)), H', ⟨Nat.le_refl _⟩, by repeat (first | exact Drawn0.refl _ | apply Drawn0.step)⟩
        case round =>
          clear H'
          try clear c1
          try clear p2
          try clear c3
          try clear c3b0
          try clear c3b1
          try clear c4
          try clear p2
          obtain ⟨x3_2, x4_2, x5_2, rfl, rfl, rfl, HA, HK2, ⟨m2, rfl⟩⟩ := hrel
          cases gk with
          | zero => exact absurd HA.out (by simp [cooperageref1_Path.l0])
          | succ k2 =>
            have H := HA.out
            clear HA
            simp only [cooperageref1_Path.l0] at H
            by_cases c5 : x5_2 ≤ (a0.size : Int)
            · rw [if_pos c5] at H
              have c5b0 : decide (x5_2 ≤ (a0.size : Int)) = true := decide_eq_true c5
              clear c5
              have HC6 := Aside0.mk H
              clear H
              go_upto_region 8 with (fail)
              go_cut [30] (fun v30 wc => ∃ (kq : Nat) (x30_5 : Bool), v30 = .bool x30_5 ∧ Aside0 (cooperageref1_Path.j2 kq a0 x3_2 x4_2 x5_2 x30_5 = some r) ∧ Aside0 (kq ≤ k2) ∧ Drawn0 w wc)
              case first =>
                have H := HC6.out
                clear HC6
                by_cases c7 : x5_2 < (a0.size : Int)
                · rw [if_pos c7] at H
                  have c7b0 : decide (x5_2 < (a0.size : Int)) = true := decide_eq_true c7
                  clear c7
                  (first | rw [c7b0] | (simp only [i64_w, i32_w]; rw [c7b0]) | skip)
                  by_cases c8 : 0 ≤ x5_2
                  · rw [if_pos c8] at H
                    have c8b0 : decide (0 ≤ x5_2) = true := decide_eq_true c8
                    clear c8
                    replace H := Option.bind_eq_some_iff.mp H
                    obtain ⟨t110, A100, H⟩ := H
                    replace H : (cooperageref1_Path.j2 k2 a0 x3_2 x4_2 x5_2 (!t110)) = some r := H
                    have A10 := Aside0.mk A100
                    clear A100
                    have H' := Aside0.mk H
                    clear H
                    have p9 : 0 ≤ (x5_2 : Int) := of_decide_eq_true (by first | (with_reducible assumption) | assumption)
                    have q9 : x5_2 < (a0.size : Int) := of_decide_eq_true (by first | (with_reducible assumption) | assumption)
                    have hx9 := bt_at a0 x5_2
                    replace p9 := eq_true p9
                    replace q9 := eq_true q9
                    go_wp2_with (first | (go_at_call 75; (with_reducible refine (cooperageref1_plain.calls (bt a0 x5_2) t110 _ A10.out).mono ?_); rintro e w' ⟨rfl, ⟨nd, rfl⟩⟩))
                    go_meet
                    case rel => exact ⟨_, (!t110), (by first | rfl | (simp; done) | (simp [*]; done)), H', ⟨by have := HJ1.out; have := HK2.out; first | omega | exact Nat.le_refl _⟩, by repeat (first | exact Drawn0.refl _ | apply Drawn0.step)⟩
                  · rw [if_neg c8] at H
                    exact absurd H (by simp)
                · rw [if_neg c7] at H
                  have c7b0 : decide (x5_2 < (a0.size : Int)) = false := decide_eq_false c7
                  clear c7
                  (first | rw [c7b0] | (simp only [i64_w, i32_w]; rw [c7b0]) | skip)
                  have H' := Aside0.mk H
                  clear H
                  go_wp2
                  go_meet
                  case rel => exact ⟨_, (false), (by first | rfl | (simp; done) | (simp [*]; done)), H', ⟨by have := HJ1.out; have := HK2.out; first | omega | exact Nat.le_refl _⟩, by repeat (first | exact Drawn0.refl _ | apply Drawn0.step)⟩
              case rest =>
                clear HC6
                try clear c1
                try clear p2
                try clear c3
                try clear c3b0
                try clear c3b1
                try clear c4
                try clear c5
                try clear c5b0
                try clear c7
                try clear c7b0
                try clear c8
                try clear c8b0
                try clear p9
                try clear q9
                try clear hx9
                try clear p2
                try clear p9
                try clear q9
                obtain ⟨kq, x30_5, rfl, HA, HJ5, ⟨mc5, rfl⟩⟩ := hcut
                cases kq with
                | zero => exact absurd HA.out (by simp [cooperageref1_Path.j2])
                | succ kj5 =>
                  have H := HA.out
                  clear HA
                  simp only [cooperageref1_Path.j2] at H
                  by_cases c11 : x30_5 = true
                  · subst c11
                    have H1 : (some false) = some r := by rw [if_pos rfl] at H; exact H
                    clear H
                    have H := H1
                    clear H1
                    obtain rfl := Option.some.inj H
                    go_wp2
                    go_ret
                    exact ⟨by first | rfl | (simp; done) | (simp [*]; done), by repeat (first | exact Drawn0.refl _ | apply Drawn0.step)⟩
                  · replace c11 := Bool.eq_false_iff.mpr c11
                    subst c11
                    have H1 : (if x5_2 < (a0.size : Int) then (if 0 ≤ x5_2 then (cooperageref1_Path.j3 kj5 a0 x3_2 x4_2 x5_2 ((bt a0 x5_2) != 47)) else (none)) else (cooperageref1_Path.j3 kj5 a0 x3_2 x4_2 x5_2 false)) = some r := by rw [if_neg (show ¬ (false = true) by decide)] at H; exact H
                    clear H
                    have H := H1
                    clear H1
                    have HC12 := Aside0.mk H
                    clear H
                    go_upto_region 10 with (fail)
                    go_cut [40] (fun v40 wc => ∃ (kq : Nat) (x40_11 : Bool), v40 = .bool x40_11 ∧ Aside0 (cooperageref1_Path.j3 kq a0 x3_2 x4_2 x5_2 x40_11 = some r) ∧ Aside0 (kq ≤ kj5) ∧ Drawn0 w wc)
                    case first =>
                      have H := HC12.out
                      clear HC12
                      by_cases c13 : x5_2 < (a0.size : Int)
                      · rw [if_pos c13] at H
                        have c13b0 : decide (x5_2 < (a0.size : Int)) = true := decide_eq_true c13
                        clear c13
                        (first | rw [c13b0] | (simp only [i64_w, i32_w]; rw [c13b0]) | skip)
                        by_cases c14 : 0 ≤ x5_2
                        · rw [if_pos c14] at H
                          have c14b0 : decide (0 ≤ x5_2) = true := decide_eq_true c14
                          clear c14
                          have H' := Aside0.mk H
                          clear H
                          have p15 : 0 ≤ (x5_2 : Int) := of_decide_eq_true (by first | (with_reducible assumption) | assumption)
                          have q15 : x5_2 < (a0.size : Int) := of_decide_eq_true (by first | (with_reducible assumption) | assumption)
                          have hx15 := bt_at a0 x5_2
                          replace p15 := eq_true p15
                          replace q15 := eq_true q15
                          go_wp2
                          go_meet
                          case rel => exact ⟨_, (((bt a0 x5_2) != 47)), (by first | rfl | (simp; done) | (simp [*]; done)), H', ⟨by have := HJ1.out; have := HK2.out; have := HJ5.out; first | omega | exact Nat.le_refl _⟩, by repeat (first | exact Drawn0.refl _ | apply Drawn0.step)⟩
                        · rw [if_neg c14] at H
                          exact absurd H (by simp)
                      · rw [if_neg c13] at H
                        have c13b0 : decide (x5_2 < (a0.size : Int)) = false := decide_eq_false c13
                        clear c13
                        (first | rw [c13b0] | (simp only [i64_w, i32_w]; rw [c13b0]) | skip)
                        have H' := Aside0.mk H
                        clear H
                        go_wp2
                        go_meet
                        case rel => exact ⟨_, (false), (by first | rfl | (simp; done) | (simp [*]; done)), H', ⟨by have := HJ1.out; have := HK2.out; have := HJ5.out; first | omega | exact Nat.le_refl _⟩, by repeat (first | exact Drawn0.refl _ | apply Drawn0.step)⟩
                    case rest =>
                      clear HC12
                      try clear c1
                      try clear p1
                      try clear q1
                      try clear hx1
                      try clear p2
                      try clear c3
                      try clear c3b0
                      try clear c3b1
                      try clear c4
                      try clear c5
                      try clear c5b0
                      try clear c7
                      try clear c7b0
                      try clear c8
                      try clear c8b0
                      try clear p9
                      try clear q9
                      try clear hx9
                      try clear c11
                      try clear c13
                      try clear c13b0
                      try clear c14
                      try clear c14b0
                      try clear p15
                      try clear q15
                      try clear hx15
                      try clear p15
                      try clear p2
                      try clear p9
                      try clear q15
                      try clear q9
                      obtain ⟨kq, x40_11, rfl, HA, HJ11, ⟨mc11, rfl⟩⟩ := hcut
                      cases kq with
                      | zero => exact absurd HA.out (by simp [cooperageref1_Path.j3])
                      | succ kj11 =>
                        have H := HA.out
                        clear HA
                        simp only [cooperageref1_Path.j3] at H
                        by_cases c16 : x40_11 = true
                        · subst c16
                          have H1 : (if 0 ≤ x5_2 then (if x5_2 ≤ (wrap64 (x5_2 + 1)) then (if (wrap64 (x5_2 + 1)) ≤ (a0.size : Int) then (if x4_2.size + (a0.extract (x5_2 : Int).toNat ((wrap64 (x5_2 + 1)) : Int).toNat).size ≤ 9223372036854775807 then (cooperageref1_Path.l0 kj11 a0 x3_2 (x4_2 ++ (a0.extract (x5_2 : Int).toNat ((wrap64 (x5_2 + 1)) : Int).toNat)) (wrap64 (x5_2 + 1))) else (none)) else (none)) else (none)) else (none)) = some r := by rw [if_pos rfl] at H; exact H
                          clear H
                          have H := H1
                          clear H1
                          by_cases c17 : 0 ≤ x5_2
                          · rw [if_pos c17] at H
                            have c17b0 := eq_true c17
                            have c17b1 : decide (0 ≤ x5_2) = true := decide_eq_true c17
                            clear c17
                            by_cases c18 : x5_2 ≤ (wrap64 (x5_2 + 1))
                            · rw [if_pos c18] at H
                              have c18b0 := eq_true c18
                              have c18b1 : decide (x5_2 ≤ (wrap64 (x5_2 + 1))) = true := decide_eq_true c18
                              by_cases c19 : (wrap64 (x5_2 + 1)) ≤ (a0.size : Int)
                              · rw [if_pos c19] at H
                                have c19b0 := eq_true c19
                                have c19b1 : decide ((wrap64 (x5_2 + 1)) ≤ (a0.size : Int)) = true := decide_eq_true c19
                                by_cases c20 : x4_2.size + (a0.extract (x5_2 : Int).toNat ((wrap64 (x5_2 + 1)) : Int).toNat).size ≤ 9223372036854775807
                                · rw [if_pos c20] at H
                                  have c20b0 := eq_true c20
                                  have c20b1 : decide (x4_2.size + (a0.extract (x5_2 : Int).toNat ((wrap64 (x5_2 + 1)) : Int).toNat).size ≤ 9223372036854775807) = true := decide_eq_true c20
                                  try have c20b2 : (9223372036854775807 < x4_2.size + (a0.extract (x5_2 : Int).toNat ((wrap64 (x5_2 + 1)) : Int).toNat).size) = False := eq_false (Nat.not_lt.2 c20)
                                  have H' := Aside0.mk H
                                  clear H
                                  go_wp2
                                  go_roundg kj11
                                  case measure => have := HJ1.out; have := HK2.out; have := HJ5.out; have := HJ11.out; omega
                                  case rel => exact ⟨(x3_2), (x4_2 ++ (a0.extract (x5_2 : Int).toNat ((wrap64 (x5_2 + 1)) : Int).toNat)), (wrap64 (x5_2 + 1)), (by first | rfl | (simp; done) | (simp [*]; done)), (by first | rfl | (simp; done) | (simp [*]; done)), (by first | rfl | (simp; done) | (simp [*]; done)), H', ⟨by have := HJ1.out; have := HK2.out; have := HJ5.out; have := HJ11.out; omega⟩, by repeat (first | exact Drawn0.refl _ | apply Drawn0.step)⟩
                                · rw [if_neg c20] at H
                                  exact absurd H (by simp)
                              · rw [if_neg c19] at H
                                exact absurd H (by simp)
                            · rw [if_neg c18] at H
                              exact absurd H (by simp)
                          · rw [if_neg c17] at H
                            exact absurd H (by simp)
                        · replace c16 := Bool.eq_false_iff.mpr c16
                          subst c16
                          have H1 : (if x4_2.toList = ([] : List UInt8) then (some false) else (if x4_2.toList = ([46] : List UInt8) then (some false) else (if x4_2.toList = ([46, 46] : List UInt8) then (some false) else (cooperageref1_Path.l0 kj11 a0 (wrap64 (x3_2 + 1)) (⟨#[]⟩ : ByteArray) (wrap64 (x5_2 + 1)))))) = some r := by rw [if_neg (show ¬ (false = true) by decide)] at H; exact H
                          clear H
                          have H := H1
                          clear H1
                          by_cases c21 : x4_2.toList = ([] : List UInt8)
                          · rw [if_pos c21] at H
                            have c21b0 : (x4_2.toList == ([] : List UInt8)) = true := beq_iff_eq.mpr c21
                            have c21b1 : (x4_2.toList != ([] : List UInt8)) = false := bne_eq_false_iff_eq.mpr c21
                            clear c21
                            obtain rfl := Option.some.inj H
                            go_wp2
                            go_ret
                            exact ⟨by first | rfl | (simp; done) | (simp [*]; done), by repeat (first | exact Drawn0.refl _ | apply Drawn0.step)⟩
                          · rw [if_neg c21] at H
                            have c21b0 : (x4_2.toList == ([] : List UInt8)) = false := beq_eq_false_iff_ne.mpr c21
                            have c21b1 : (x4_2.toList != ([] : List UInt8)) = true := bne_iff_ne.mpr c21
                            by_cases c22 : x4_2.toList = ([46] : List UInt8)
                            · rw [if_pos c22] at H
                              have c22b0 : (x4_2.toList == ([46] : List UInt8)) = true := beq_iff_eq.mpr c22
                              have c22b1 : (x4_2.toList != ([46] : List UInt8)) = false := bne_eq_false_iff_eq.mpr c22
                              clear c22
                              obtain rfl := Option.some.inj H
                              go_wp2
                              go_ret
                              exact ⟨by first | rfl | (simp; done) | (simp [*]; done), by repeat (first | exact Drawn0.refl _ | apply Drawn0.step)⟩
                            · rw [if_neg c22] at H
                              have c22b0 : (x4_2.toList == ([46] : List UInt8)) = false := beq_eq_false_iff_ne.mpr c22
                              have c22b1 : (x4_2.toList != ([46] : List UInt8)) = true := bne_iff_ne.mpr c22
                              by_cases c23 : x4_2.toList = ([46, 46] : List UInt8)
                              · rw [if_pos c23] at H
                                have c23b0 : (x4_2.toList == ([46, 46] : List UInt8)) = true := beq_iff_eq.mpr c23
                                have c23b1 : (x4_2.toList != ([46, 46] : List UInt8)) = false := bne_eq_false_iff_eq.mpr c23
                                clear c23
                                obtain rfl := Option.some.inj H
                                go_wp2
                                go_ret
                                exact ⟨by first | rfl | (simp; done) | (simp [*]; done), by repeat (first | exact Drawn0.refl _ | apply Drawn0.step)⟩
                              · rw [if_neg c23] at H
                                have c23b0 : (x4_2.toList == ([46, 46] : List UInt8)) = false := beq_eq_false_iff_ne.mpr c23
                                have c23b1 : (x4_2.toList != ([46, 46] : List UInt8)) = true := bne_iff_ne.mpr c23
                                have H' := Aside0.mk H
                                clear H
                                go_wp2
                                go_roundg kj11
                                case measure => have := HJ1.out; have := HK2.out; have := HJ5.out; have := HJ11.out; omega
                                case rel => exact ⟨(wrap64 (x3_2 + 1)), ((⟨#[]⟩ : ByteArray)), (wrap64 (x5_2 + 1)), (by first | rfl | (simp; done) | (simp [*]; done)), (by first | rfl | (simp; done) | (simp [*]; done)), (by first | rfl | (simp; done) | (simp [*]; done)), H', ⟨by have := HJ1.out; have := HK2.out; have := HJ5.out; have := HJ11.out; omega⟩, by repeat (first | exact Drawn0.refl _ | apply Drawn0.step)⟩
            · rw [if_neg c5] at H
              have c5b0 : decide (x5_2 ≤ (a0.size : Int)) = false := decide_eq_false c5
              clear c5
              obtain rfl := Option.some.inj H
              go_wp2
              go_ret
              exact ⟨by first | rfl | (simp; done) | (simp [*]; done), by repeat (first | exact Drawn0.refl _ | apply Drawn0.step)⟩
attribute [local go_sem] max2_int min2_int max_two min_two max_three min_three max_four min_four   -- for this text's walks alone
def cooperageref5_Find.l0 : Nat → List (S89) → ByteArray → Int → Option (Int)
  | 0, _, _, _ => none
  | k + 1, x0, x1, x5 => if x5 < (x0.length : Int) then (if 0 ≤ x5 then (if ((rd_T89 x0 x5).f0).toList = x1.toList then (some x5) else (cooperageref5_Find.l0 k x0 x1 (wrap64 (x5 + 1)))) else (none)) else (some (-1))
def cooperageref5_Find.f (k : Nat) (l0 : List (S89)) (a1 : ByteArray) : Option (Int) := cooperageref5_Find.l0 k l0 a1 0
set_option maxHeartbeats 8000000 in
set_option maxRecDepth 100000 in
theorem cooperageref5_Find.calls (k : Nat) (A0 : Option Addr) (c0 : Nat) (l0 : List (S89)) (a1 : ByteArray) (r : Int) (w : World) (hr0 : Kd.C k89 w A0 l0.length l0) (hc0 : l0.length ≤ c0) (h : cooperageref5_Find.f k l0 a1 = some r) :
    Calls Tryz.prog 63 #[.slice A0 l0.length c0, .string a1] w fun e w' => e = .returned (.int .i64 r) ∧ Drawn0 w w' := by
  have HR0 := Aside0.mk hr0
  have HC0 := Aside0.mk hc0
  clear hr0 hc0
  have H : (cooperageref5_Find.l0 k l0 a1 0) = some r := h
  clear h
  have H' := Aside0.mk H
  clear H
  go_enter Tryz.func63, Tryz.ntmps63
  go_wp2
  go_loopg [5] k (fun kq v5 w' => ∃ (x5_1 : Int), v5 = .int .i64 x5_1 ∧ Aside0 (cooperageref5_Find.l0 kq l0 a1 x5_1 = some r) ∧ Aside0 (kq ≤ k) ∧ Drawn0 w w')
  case atStart => exact ⟨(0), (by first | rfl | (simp; done) | (simp [*]; done)), H', ⟨Nat.le_refl _⟩, by repeat (first | exact Drawn0.refl _ | apply Drawn0.step)⟩
  case round =>
    clear H'
    try clear p2
    obtain ⟨x5_1, rfl, HA, HK1, ⟨m1, rfl⟩⟩ := hrel
    cases gk with
    | zero => exact absurd HA.out (by simp [cooperageref5_Find.l0])
    | succ k1 =>
      have H := HA.out
      clear HA
      simp only [cooperageref5_Find.l0] at H
      by_cases c3 : x5_1 < (l0.length : Int)
      · rw [if_pos c3] at H
        have c3b0 : decide (x5_1 < (l0.length : Int)) = true := decide_eq_true c3
        clear c3
        by_cases c4 : 0 ≤ x5_1
        · rw [if_pos c4] at H
          have c4b0 : decide (0 ≤ x5_1) = true := decide_eq_true c4
          clear c4
          by_cases c5 : ((rd_T89 l0 x5_1).f0).toList = a1.toList
          · rw [if_pos c5] at H
            have c5b0 : (((rd_T89 l0 x5_1).f0).toList == a1.toList) = true := beq_iff_eq.mpr c5
            have c5b1 : (((rd_T89 l0 x5_1).f0).toList != a1.toList) = false := bne_eq_false_iff_eq.mpr c5
            clear c5
            obtain rfl := Option.some.inj H
            have p111 : 0 ≤ (x5_1 : Int) := of_decide_eq_true (by first | (with_reducible assumption) | assumption)
            have q111 : x5_1 < (l0.length : Int) := of_decide_eq_true (by first | (with_reducible assumption) | assumption)
            obtain ⟨ad111, e111, hx111_0, hx111_1, hx111_2⟩ := at_T89 HR0.out x5_1 p111 q111
            cases e111
            replace p111 := eq_true p111
            replace q111 := eq_true q111
            go_wp2
            go_ret
            exact ⟨by first | rfl | (simp; done) | (simp [*]; done), by repeat (first | exact Drawn0.refl _ | apply Drawn0.step)⟩
          · rw [if_neg c5] at H
            have c5b0 : (((rd_T89 l0 x5_1).f0).toList == a1.toList) = false := beq_eq_false_iff_ne.mpr c5
            have c5b1 : (((rd_T89 l0 x5_1).f0).toList != a1.toList) = true := bne_iff_ne.mpr c5
            have H' := Aside0.mk H
            clear H
            have p111 : 0 ≤ (x5_1 : Int) := of_decide_eq_true (by first | (with_reducible assumption) | assumption)
            have q111 : x5_1 < (l0.length : Int) := of_decide_eq_true (by first | (with_reducible assumption) | assumption)
            obtain ⟨ad111, e111, hx111_0, hx111_1, hx111_2⟩ := at_T89 HR0.out x5_1 p111 q111
            cases e111
            replace p111 := eq_true p111
            replace q111 := eq_true q111
            go_wp2
            go_roundg k1
            case measure => have := HK1.out; omega
            case rel => exact ⟨(wrap64 (x5_1 + 1)), (by first | rfl | (simp; done) | (simp [*]; done)), H', ⟨by have := HK1.out; omega⟩, by repeat (first | exact Drawn0.refl _ | apply Drawn0.step)⟩
        · rw [if_neg c4] at H
          exact absurd H (by simp)
      · rw [if_neg c3] at H
        have c3b0 : decide (x5_1 < (l0.length : Int)) = false := decide_eq_false c3
        clear c3
        obtain rfl := Option.some.inj H
        go_wp2
        go_ret
        exact ⟨by first | rfl | (simp; done) | (simp [*]; done), by repeat (first | exact Drawn0.refl _ | apply Drawn0.step)⟩
def cooperageref5_drop.l0 : Nat → List (S89) → ByteArray → List (S89) → Int → Option ((List (S89)))
  | 0, _, _, _, _ => none
  | k + 1, x0, x1, x5, x6 => if x6 < (x0.length : Int) then (if 0 ≤ x6 then (if ((rd_T89 x0 x6).f0).toList = x1.toList then (cooperageref5_drop.l0 k x0 x1 x5 (wrap64 (x6 + 1))) else (if x5.length < 3518437208883 then (cooperageref5_drop.l0 k x0 x1 (x5 ++ [(⟨(rd_T89 x0 x6).f0, (rd_T89 x0 x6).f1, (rd_T89 x0 x6).f2⟩ : S89)]) (wrap64 (x6 + 1))) else (none))) else (none)) else (some x5)
def cooperageref5_drop.f (k : Nat) (l0 : List (S89)) (a1 : ByteArray) : Option ((List (S89))) := cooperageref5_drop.l0 k l0 a1 ([] : List (S89)) 0
set_option maxHeartbeats 8000000 in
set_option maxRecDepth 100000 in
theorem cooperageref5_drop.calls (k : Nat) (A0 : Option Addr) (c0 : Nat) (l0 : List (S89)) (a1 : ByteArray) (r : List (S89)) (w : World) (hr0 : Kd.C k89 w A0 l0.length l0) (hc0 : l0.length ≤ c0) (h : cooperageref5_drop.f k l0 a1 = some r) :
    Calls Tryz.prog 65 #[.slice A0 l0.length c0, .string a1] w fun e w' => ∃ v0_ : Value, e = .returned (v0_) ∧ Kd.R k89 89 w' w.heap.size (fun _ => True) v0_ r ∧ Below w.heap.size w w' := by
  have hu89 := Tryz.underlying89
  have HR0 := Aside0.mk hr0
  have HC0 := Aside0.mk hc0
  clear hr0 hc0
  have HB := Aside0.mk (Below.refl w.heap.size w)
  have H : (cooperageref5_drop.l0 k l0 a1 ([] : List (S89)) 0) = some r := h
  clear h
  have H' := Aside0.mk H
  clear H
  go_enter Tryz.func65, Tryz.ntmps65
  go_wp2
  go_loopg [5, 6] k (fun kq v5 v6 w' => ∃ (x5_1 : List (S89)) (x6_1 : Int), v6 = .int .i64 x6_1 ∧ Aside0 (cooperageref5_drop.l0 kq l0 a1 x5_1 x6_1 = some r) ∧ Aside0 (kq ≤ k) ∧ Aside0 (Kd.R k89 89 w' w.heap.size (fun _ => True) v5 x5_1) ∧ Aside0 (Below w.heap.size w w'))
  case atStart => exact ⟨(([] : List (S89))), (0), (by first | rfl | (simp; done) | (simp [*]; done)), H', ⟨Nat.le_refl _⟩, ⟨by first | exact Kd.R_nil _ _ _ _ _ | exact Kd.N_nil _ _ _ _ _ | exact Kd.V_nil _ _ _ _ _ | exact Kd.Q_nil _ _ _ _ _ | exact Kd.S_nil _ _ _ _ _⟩, ⟨by repeat (first | (with_reducible first | exact HB.out | apply below_alloc | apply pw_below_drewN | apply below_drew1) | exact HB.out)⟩⟩
  case round =>
    clear H'
    try clear p2
    obtain ⟨x5_1, x6_1, rfl, HA, HK1, HO_5, HB⟩ := hrel
    cases gk with
    | zero => exact absurd HA.out (by simp [cooperageref5_drop.l0])
    | succ k1 =>
      have H := HA.out
      clear HA
      simp only [cooperageref5_drop.l0] at H
      by_cases c3 : x6_1 < (l0.length : Int)
      · rw [if_pos c3] at H
        have c3b0 : decide (x6_1 < (l0.length : Int)) = true := decide_eq_true c3
        clear c3
        by_cases c4 : 0 ≤ x6_1
        · rw [if_pos c4] at H
          have c4b0 : decide (0 ≤ x6_1) = true := decide_eq_true c4
          clear c4
          by_cases c5 : ((rd_T89 l0 x6_1).f0).toList = a1.toList
          · rw [if_pos c5] at H
            have c5b0 : (((rd_T89 l0 x6_1).f0).toList == a1.toList) = true := beq_iff_eq.mpr c5
            have c5b1 : (((rd_T89 l0 x6_1).f0).toList != a1.toList) = false := bne_eq_false_iff_eq.mpr c5
            clear c5
            have H' := Aside0.mk H
            clear H
            have p112 : 0 ≤ (x6_1 : Int) := of_decide_eq_true (by first | (with_reducible assumption) | assumption)
            have q112 : x6_1 < (l0.length : Int) := of_decide_eq_true (by first | (with_reducible assumption) | assumption)
            obtain ⟨ad112, e112, hx112_0, hx112_1, hx112_2⟩ := at_T89 HR0.out x6_1 p112 q112
            cases e112
            replace hx112_0 := (HB.out.cell (World.block_lt_of_cell? w _ hx112_0)).trans hx112_0
            replace hx112_1 := (HB.out.cell (World.block_lt_of_cell? w _ hx112_1)).trans hx112_1
            replace hx112_2 := (HB.out.cell (World.block_lt_of_cell? w _ hx112_2)).trans hx112_2
            replace p112 := eq_true p112
            replace q112 := eq_true q112
            go_wp2
            go_roundg k1
            case measure => have := HK1.out; omega
            case rel => exact ⟨(x5_1), (wrap64 (x6_1 + 1)), (by first | rfl | (simp; done) | (simp [*]; done)), H', ⟨by have := HK1.out; omega⟩, ⟨by (with_reducible repeat (first | apply Kd.R_alloc | apply Kd.R_drewN | apply Kd.R_drew)); exact HO_5.out⟩, ⟨by repeat (first | (with_reducible first | exact HB.out | apply below_alloc | apply pw_below_drewN | apply below_drew1) | exact HB.out)⟩⟩
          · rw [if_neg c5] at H
            have c5b0 : (((rd_T89 l0 x6_1).f0).toList == a1.toList) = false := beq_eq_false_iff_ne.mpr c5
            have c5b1 : (((rd_T89 l0 x6_1).f0).toList != a1.toList) = true := bne_iff_ne.mpr c5
            by_cases c6 : x5_1.length < 3518437208883
            · rw [if_pos c6] at H
              have LMc6 := Aside0.mk c6
              clear c6
              obtain ⟨y114, hy114⟩ : ∃ y_ : List (S89), y_ = (x5_1 ++ [(⟨(rd_T89 l0 x6_1).f0, (rd_T89 l0 x6_1).f1, (rd_T89 l0 x6_1).f2⟩ : S89)]) := ⟨_, rfl⟩
              replace H : (cooperageref5_drop.l0 k1 l0 a1 y114 (wrap64 (x6_1 + 1))) = some r := by first | (rw [hy114]; with_reducible exact H) | (have H2_ := (Option.bind_some _ _).symm.trans H; rw [hy114]; with_reducible exact H2_) | (have H2_ := (Option.bind_some _ _).symm.trans H; with_reducible exact H2_) | with_reducible exact H | (rw [hy114]; exact H) | exact H
              have Ny114 := Aside0.mk hy114
              clear hy114
              have H' := Aside0.mk H
              clear H
              have p112 : 0 ≤ (x6_1 : Int) := of_decide_eq_true (by first | (with_reducible assumption) | assumption)
              have q112 : x6_1 < (l0.length : Int) := of_decide_eq_true (by first | (with_reducible assumption) | assumption)
              obtain ⟨ad112, e112, hx112_0, hx112_1, hx112_2⟩ := at_T89 HR0.out x6_1 p112 q112
              cases e112
              replace hx112_0 := (HB.out.cell (World.block_lt_of_cell? w _ hx112_0)).trans hx112_0
              replace hx112_1 := (HB.out.cell (World.block_lt_of_cell? w _ hx112_1)).trans hx112_1
              replace hx112_2 := (HB.out.cell (World.block_lt_of_cell? w _ hx112_2)).trans hx112_2
              replace p112 := eq_true p112
              replace q112 := eq_true q112
              have p113 : 0 ≤ (x6_1 : Int) := of_decide_eq_true (by first | (with_reducible assumption) | assumption)
              have q113 : x6_1 < (l0.length : Int) := of_decide_eq_true (by first | (with_reducible assumption) | assumption)
              obtain ⟨ad113, e113, hx113_0, hx113_1, hx113_2⟩ := at_T89 HR0.out x6_1 p113 q113
              obtain rfl : ad112 = ad113 := (by injection e113)
              replace hx113_0 := (HB.out.cell (World.block_lt_of_cell? w _ hx113_0)).trans hx113_0
              replace hx113_1 := (HB.out.cell (World.block_lt_of_cell? w _ hx113_1)).trans hx113_1
              replace hx113_2 := (HB.out.cell (World.block_lt_of_cell? w _ hx113_2)).trans hx113_2
              replace p113 := eq_true p113
              replace q113 := eq_true q113
              go_wp2_with (first | ((with_reducible refine gate_builtin (b := .append) (xs := #[.tmp 20, .tmp 25]) rfl ?_); at_builtin; refine Kd.R_append k89 (w0 := w) w.heap.size rfl (.tmp 20) (.tmp 25) 84 89 (.agg #[(.string ⟨#[]⟩), (.string ⟨#[]⟩), (.int .i64 0)]) 40 rfl Tryz.underlying84 info89 rfl (by decide) (by omega) u5 x5_1 (⟨(rd_T89 l0 x6_1).f0, (rd_T89 l0 x6_1).f1, (rd_T89 l0 x6_1).f2⟩ : S89) [.string ((rd_T89 l0 x6_1).f0), .string ((rd_T89 l0 x6_1).f1), .int .i64 ((rd_T89 l0 x6_1).f2)] (fun _ => True) (fun _ => False) rfl rfl ?aP (fun _ hk => hk.elim) ?aF ?aO ?aB ?aS ?aL ?_; (case aP => exact k89_mkM _ _ _ (⟨(rd_T89 l0 x6_1).f0, (rd_T89 l0 x6_1).f1, (rd_T89 l0 x6_1).f2⟩ : S89)); (case aB => exact (by repeat (first | (with_reducible first | exact HB.out | apply below_alloc | apply pw_below_drewN | apply below_drew1) | exact HB.out))); (case aF => exact (fun _ _ => trivial)); (case aO => exact (by (with_reducible repeat (first | apply Kd.R_alloc | apply Kd.R_drewN | apply Kd.R_drew)); exact HO_5.out)); (case aS => exact (below_size (by repeat (first | (with_reducible first | exact HB.out | apply below_alloc | apply pw_below_drewN | apply below_drew1) | exact HB.out)))); (case aL => have := LMc6.out; omega); intro v115 w7 ho hb hg hat; rw [← Ny114.out] at ho; have n0_ := Aside0.mk (hb); have n1_ := Aside0.mk (ho); clear HB; clear HO_5; have HB := n0_; have HO116 := n1_; clear n0_ n1_; clear ho hb hg hat))
              go_roundg k1
              case measure => have := HK1.out; omega
              case rel => exact ⟨(y114), (wrap64 (x6_1 + 1)), (by first | rfl | (simp; done) | (simp [*]; done)), H', ⟨by have := HK1.out; omega⟩, ⟨by (with_reducible repeat (first | apply Kd.R_alloc | apply Kd.R_drewN | apply Kd.R_drew)); exact HO116.out⟩, ⟨by repeat (first | (with_reducible first | exact HB.out | apply below_alloc | apply pw_below_drewN | apply below_drew1) | exact HB.out)⟩⟩
            · rw [if_neg c6] at H
              exact absurd H (by simp)
        · rw [if_neg c4] at H
          exact absurd H (by simp)
      · rw [if_neg c3] at H
        have c3b0 : decide (x6_1 < (l0.length : Int)) = false := decide_eq_false c3
        clear c3
        obtain rfl := Option.some.inj H
        go_wp2
        go_ret
        exact ⟨_, by first | rfl | (simp [errW_none, errW_some] <;> rfl) | (simp [*, errW_none, errW_some] <;> rfl), by (with_reducible repeat (first | apply Kd.R_alloc | apply Kd.R_drewN | apply Kd.R_drew)); exact HO_5.out, by repeat (first | (with_reducible first | exact HB.out | apply below_alloc | apply pw_below_drewN | apply below_drew1) | exact HB.out)⟩
end Go.Proofs.YtghbaehbgefpaaaGreatDoor.F
