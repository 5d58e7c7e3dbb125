-- fixed by fix_text2.py, fixed by fix_text.py. Written by a program of this session (hprint.py over the kit's print).
import Derived.Test.YtocpfgdajomjiaaDoorL0
import Derived.Test.YtocpfgdajomjiaaDoorL4
import Derived.Test.YtocpfgdajomjiaaDoorHandLine
namespace Go.Proofs.YtocpfgdajomjiaaDoor.L
open Go.Proofs.YtocpfgdajomjiaaDoor.Hand3
open Go.Proofs.YtocpfgdajomjiaaDoor
open Go.RowKit Go.Proofs.YtocpfgdajomjiaaDoorW.PrintWords Go.Proofs.YtocpfgdajomjiaaDoorW.PrintLast Go.Proofs.YtocpfgdajomjiaaDoorW.PrintMore
attribute [local go_sem] max2_int min2_int max_two min_two max_three min_three max_four min_four   -- for this text's walks alone
set_option linter.unusedVariables false
set_option linter.unusedSimpArgs false

/-! ### cooperageref3_Of: function 70 -/
def cooperageref3_Of.f (k : Nat) (a0 : ByteArray) : Option (Int) := (cooperageref3_Add.f k 1 a0).bind fun t133 => (some t133)
theorem cooperageref3_Of.mono : ∀ a0 k, LeO (cooperageref3_Of.f k a0) (cooperageref3_Of.f (k + 1) a0) := by
  intro a0 k
  unfold cooperageref3_Of.f
  repeat' first
      | (with_reducible exact cooperageref3_Add.mono _ _ _)
      | (with_reducible exact LeO.refl _)
      | (with_reducible exact LeO.none _)
      | (with_reducible refine LeO.ite ?_ ?_)
      | (with_reducible refine LeO.bind ?_ (fun _ => ?_))
      | exact cooperageref3_Add.mono _ _ _
      | exact LeO.none _
      | refine LeO.ite ?_ ?_
      | refine LeO.bind ?_ (fun _ => ?_)
set_option maxHeartbeats 8000000 in
set_option maxRecDepth 100000 in
theorem cooperageref3_Of.calls (k : Nat) (a0 : ByteArray) (r : Int) (w : World) (h : cooperageref3_Of.f k a0 = some r) :
    Calls Tryd.prog 70 #[.string a0] w fun e w' => e = .returned (.int .u32 r) ∧ Drawn0 w w' := by
  have H : ((cooperageref3_Add.f k 1 a0).bind fun t133 => (some t133)) = some r := h
  clear h
  replace H := Option.bind_eq_some_iff.mp H
  obtain ⟨t133, A20, H⟩ := H
  replace H : (some t133) = some r := H
  have A2 := Aside0.mk A20
  clear A20
  obtain rfl := Option.some.inj H
  go_enter Tryd.func70, Tryd.ntmps70
  go_wp2_with (first | ((with_reducible refine gate_callee (f := 93) rfl ?_); refine goesL_ (some 4) rfl rfl Tryd.func93 (by kernel_rfl) rfl #[.int .u32 1, .string a0] rfl (by (try simp only [List.map_toArray, List.map_cons, List.map_nil]); first | done | rfl | (simp only [List.length_drop, List.length_take]; rfl)) ?_; (with_reducible refine (cooperageref3_Add.calls k 1 a0 t133 _ A2.out).mono ?_); rintro e w' ⟨rfl, ⟨nd, rfl⟩⟩; refine ⟨_, rfl, ?_⟩))
  go_ret
  exact ⟨by first | rfl | (simp; done) | (simp [*]; done), by repeat (first | exact Drawn0.refl _ | apply Drawn0.step)⟩

/-! ### cooperageref4_Put: function 41 -/
def cooperageref4_Put.l0 : Nat → List ByteArray → ByteArray → Int → Option (ByteArray × Int)
  | 0, _, _, _ => none
  | k + 1, x0, x4, x5 => if x5 < (x0.length : Int) then (if 0 ≤ x5 then ((cooperageref1_Quote.f (rdOf ByteArray.empty x0 x5)).bind fun t135 => (if x4.size + t135.size ≤ 9223372036854775807 then (if (x4 ++ t135).size + 1 ≤ 9223372036854775807 then (cooperageref4_Put.l0 k x0 ((x4 ++ t135) ++ (⟨#[32]⟩ : ByteArray)) (wrap64 (x5 + 1))) else (none)) else (none))) else (none)) else ((cooperageref3_Of.f k x4).bind fun t136 => ((cooperageref3_Hex.f k t136).bind fun t137 => (if x4.size + t137.size ≤ 9223372036854775807 then (if (x4 ++ t137).size + 1 ≤ 9223372036854775807 then (if (((x4 ++ t137) ++ (⟨#[10]⟩ : ByteArray)).size : Int) > 13000 then (some ((⟨#[]⟩ : ByteArray), 3)) else (some ((x4 ++ t137) ++ (⟨#[10]⟩ : ByteArray), 0))) else (none)) else (none))))
def cooperageref4_Put.f (k : Nat) (l0 : List ByteArray) : Option (ByteArray × Int) := if (l0.length : Int) = 0 then (some ((⟨#[]⟩ : ByteArray), 1)) else (if (l0.length : Int) > 40 then (some ((⟨#[]⟩ : ByteArray), 3)) else (cooperageref4_Put.l0 k l0 (⟨#[]⟩ : ByteArray) 0))
theorem cooperageref4_Put.mono_l : ∀ k, (∀ y0 y1 y2, LeO (cooperageref4_Put.l0 k y0 y1 y2) (cooperageref4_Put.l0 (k + 1) y0 y1 y2))
  | 0 => fun _ _ _ r h => by simp [cooperageref4_Put.l0] at h
  | k + 1 => by
    have ih0 := cooperageref4_Put.mono_l k
    · intro y0 y1 y2
      unfold cooperageref4_Put.l0
      repeat' first
      | (with_reducible exact ih0 _ _ _)
      | (with_reducible exact cooperageref3_Hex.mono _ _)
      | (with_reducible exact cooperageref3_Of.mono _ _)
      | (with_reducible exact LeO.refl _)
      | (with_reducible exact LeO.none _)
      | (with_reducible refine LeO.ite ?_ ?_)
      | (with_reducible refine LeO.bind ?_ (fun _ => ?_))
      | exact ih0 _ _ _
      | exact cooperageref3_Hex.mono _ _
      | exact cooperageref3_Of.mono _ _
      | exact LeO.none _
      | refine LeO.ite ?_ ?_
      | refine LeO.bind ?_ (fun _ => ?_)
theorem cooperageref4_Put.mono : ∀ a0 k, LeO (cooperageref4_Put.f k a0) (cooperageref4_Put.f (k + 1) a0) := by
  intro a0 k
  have ih0 := cooperageref4_Put.mono_l k
  unfold cooperageref4_Put.f
  repeat' first
      | (with_reducible exact ih0 _ _ _)
      | (with_reducible exact cooperageref3_Hex.mono _ _)
      | (with_reducible exact cooperageref3_Of.mono _ _)
      | (with_reducible exact LeO.refl _)
      | (with_reducible exact LeO.none _)
      | (with_reducible refine LeO.ite ?_ ?_)
      | (with_reducible refine LeO.bind ?_ (fun _ => ?_))
      | exact ih0 _ _ _
      | exact cooperageref3_Hex.mono _ _
      | exact cooperageref3_Of.mono _ _
      | exact LeO.none _
      | refine LeO.ite ?_ ?_
      | refine LeO.bind ?_ (fun _ => ?_)
set_option maxHeartbeats 8000000 in
set_option maxRecDepth 100000 in
theorem cooperageref4_Put.calls (k : Nat) (A0 : Option Addr) (c0 : Nat) (l0 : List ByteArray) (r1 : ByteArray) (r2 : Int) (w : World) (hr0 : Kd.C Kd.string w A0 l0.length l0) (hc0 : l0.length ≤ c0) (h : cooperageref4_Put.f k l0 = some (r1, r2)) :
    Calls Tryd.prog 41 #[.slice A0 l0.length c0] w fun e w' => e = .returned (.tuple #[.string r1, .int .i64 r2]) ∧ Drawn0 w w' := by
  have HR0 := Aside0.mk hr0
  have HC0 := Aside0.mk hc0
  clear hr0 hc0
  have H : (if (l0.length : Int) = 0 then (some ((⟨#[]⟩ : ByteArray), 1)) else (if (l0.length : Int) > 40 then (some ((⟨#[]⟩ : ByteArray), 3)) else (cooperageref4_Put.l0 k l0 (⟨#[]⟩ : ByteArray) 0))) = some (r1, r2) := h
  clear h
  by_cases c2 : (l0.length : Int) = 0
  · rw [if_pos c2] at H
    have c2b0 : ((l0.length : Int) == 0) = true := beq_iff_eq.mpr c2
    have c2b1 : ((l0.length : Int) != 0) = false := bne_eq_false_iff_eq.mpr c2
    clear c2
    simp only [Option.some.injEq, Prod.mk.injEq] at H
    obtain ⟨rfl, rfl⟩ := H
    go_enter Tryd.func41, Tryd.ntmps41
    go_wp2
    go_ret2
    exact ⟨by first | rfl | (simp; done) | (simp [*]; done), by repeat (first | exact Drawn0.refl _ | apply Drawn0.step)⟩
  · rw [if_neg c2] at H
    have c2b0 : ((l0.length : Int) == 0) = false := beq_eq_false_iff_ne.mpr c2
    have c2b1 : ((l0.length : Int) != 0) = true := bne_iff_ne.mpr c2
    have c2b2 : ¬ (l0 = []) := fun h_ => c2 (by rw [h_]; rfl)
    by_cases c3 : (l0.length : Int) > 40
    · rw [if_pos c3] at H
      have c3b0 : decide (40 < (l0.length : Int)) = true := decide_eq_true c3
      have c3b1 : decide (40 < l0.length) = true := decide_eq_true (by omega)
      clear c3
      simp only [Option.some.injEq, Prod.mk.injEq] at H
      obtain ⟨rfl, rfl⟩ := H
      go_enter Tryd.func41, Tryd.ntmps41
      go_wp2
      go_ret2
      exact ⟨by first | rfl | (simp; done) | (simp [*]; done), by repeat (first | exact Drawn0.refl _ | apply Drawn0.step)⟩
    · rw [if_neg c3] at H
      have c3b0 : decide (40 < (l0.length : Int)) = false := decide_eq_false c3
      have c3b1 : decide (40 < l0.length) = false := decide_eq_false (by omega)
      clear c3
      have H' := Aside0.mk H
      clear H
      go_enter Tryd.func41, Tryd.ntmps41
      go_wp2
      go_loopg [4, 5] k (fun kq v4 v5 w' => ∃ (x4_1 : ByteArray) (x5_1 : Int), v4 = .string x4_1 ∧ v5 = .int .i64 x5_1 ∧ Aside0 (cooperageref4_Put.l0 kq l0 x4_1 x5_1 = some (r1, r2)) ∧ Aside0 (kq ≤ k) ∧ Drawn0 w w')
      case atStart => exact ⟨((⟨#[]⟩ : ByteArray)), (0), (by first | rfl | (simp; done) | (simp [*]; done)), (by first | rfl | (simp; done) | (simp [*]; done)), H', ⟨Nat.le_refl _⟩, by repeat (first | exact Drawn0.refl _ | apply Drawn0.step)⟩
      case round =>
        clear H'
        try clear c2
        try clear c2b0
        try clear c2b1
        try clear c2b2
        try clear p2
        try clear c3
        try clear c3b0
        try clear c3b1
        obtain ⟨x4_1, x5_1, rfl, rfl, HA, HK1, ⟨m1, rfl⟩⟩ := hrel
        cases gk with
        | zero => exact absurd HA.out (by simp [cooperageref4_Put.l0])
        | succ k1 =>
          have H := HA.out
          clear HA
          simp only [cooperageref4_Put.l0] at H
          by_cases c4 : x5_1 < (l0.length : Int)
          · rw [if_pos c4] at H
            have c4b0 : decide (x5_1 < (l0.length : Int)) = true := decide_eq_true c4
            clear c4
            by_cases c5 : 0 ≤ x5_1
            · rw [if_pos c5] at H
              have c5b0 : decide (0 ≤ x5_1) = true := decide_eq_true c5
              clear c5
              replace H := Option.bind_eq_some_iff.mp H
              obtain ⟨t135, A60, H⟩ := H
              replace H : (if x4_1.size + t135.size ≤ 9223372036854775807 then (if (x4_1 ++ t135).size + 1 ≤ 9223372036854775807 then (cooperageref4_Put.l0 k1 l0 ((x4_1 ++ t135) ++ (⟨#[32]⟩ : ByteArray)) (wrap64 (x5_1 + 1))) else (none)) else (none)) = some (r1, r2) := H
              have A6 := Aside0.mk A60
              clear A60
              by_cases c7 : x4_1.size + t135.size ≤ 9223372036854775807
              · rw [if_pos c7] at H
                have c7b0 := eq_true c7
                have c7b1 : decide (x4_1.size + t135.size ≤ 9223372036854775807) = true := decide_eq_true c7
                try have c7b2 : (9223372036854775807 < x4_1.size + t135.size) = False := eq_false (Nat.not_lt.2 c7)
                by_cases c8 : (x4_1 ++ t135).size + 1 ≤ 9223372036854775807
                · rw [if_pos c8] at H
                  have c8b0 := eq_true c8
                  have c8b1 : decide ((x4_1 ++ t135).size + 1 ≤ 9223372036854775807) = true := decide_eq_true c8
                  try have c8b2 : (9223372036854775807 < (x4_1 ++ t135).size + 1) = False := eq_false (Nat.not_lt.2 c8)
                  try (have c8sb0 := c8b0; simp only [ByteArray.size_append] at c8sb0)
                  try (have c8sb1 := c8b1; simp only [ByteArray.size_append] at c8sb1)
                  try (have c8sb2 := c8b2; simp only [ByteArray.size_append] at c8sb2)
                  have H' := Aside0.mk H
                  clear H
                  have p134 : 0 ≤ (x5_1 : Int) := of_decide_eq_true (by first | (with_reducible assumption) | assumption)
                  have q134 : x5_1 < (l0.length : Int) := of_decide_eq_true (by first | (with_reducible assumption) | assumption)
                  obtain ⟨ad134, e134, hx134_0⟩ := Kd.at_string HR0.out x5_1 p134 q134
                  cases e134
                  replace p134 := eq_true p134
                  replace q134 := eq_true q134
                  go_wp2_with (first | ((with_reducible refine gate_callee (f := 37) rfl ?_); refine goesL_ (some 23) rfl rfl Tryd.func37 (by kernel_rfl) rfl #[.string (rdOf ByteArray.empty l0 x5_1)] rfl (by (try simp only [List.map_toArray, List.map_cons, List.map_nil]); first | done | rfl | (simp only [List.length_drop, List.length_take]; rfl)) ?_; (with_reducible refine (cooperageref1_Quote.calls (rdOf ByteArray.empty l0 x5_1) t135 _ A6.out).mono ?_); rintro e w' ⟨rfl, ⟨nd, rfl⟩⟩; refine ⟨_, rfl, ?_⟩))
                  go_roundg k1
                  case measure => have := HK1.out; omega
                  case rel => exact ⟨((x4_1 ++ t135) ++ (⟨#[32]⟩ : ByteArray)), (wrap64 (x5_1 + 1)), (by first | rfl | (simp; done) | (simp [*]; done)), (by first | rfl | (simp; done) | (simp [*]; done)), H', ⟨by have := HK1.out; omega⟩, by repeat (first | exact Drawn0.refl _ | apply Drawn0.step)⟩
                · rw [if_neg c8] at H
                  exact absurd H (by simp)
              · rw [if_neg c7] at H
                exact absurd H (by simp)
            · rw [if_neg c5] at H
              exact absurd H (by simp)
          · rw [if_neg c4] at H
            have c4b0 : decide (x5_1 < (l0.length : Int)) = false := decide_eq_false c4
            clear c4
            replace H := Option.bind_eq_some_iff.mp H
            obtain ⟨t136, A90, H⟩ := H
            replace H : ((cooperageref3_Hex.f k1 t136).bind fun t137 => (if x4_1.size + t137.size ≤ 9223372036854775807 then (if (x4_1 ++ t137).size + 1 ≤ 9223372036854775807 then (if (((x4_1 ++ t137) ++ (⟨#[10]⟩ : ByteArray)).size : Int) > 13000 then (some ((⟨#[]⟩ : ByteArray), 3)) else (some ((x4_1 ++ t137) ++ (⟨#[10]⟩ : ByteArray), 0))) else (none)) else (none))) = some (r1, r2) := H
            have A9 := Aside0.mk A90
            clear A90
            replace H := Option.bind_eq_some_iff.mp H
            obtain ⟨t137, A100, H⟩ := H
            replace H : (if x4_1.size + t137.size ≤ 9223372036854775807 then (if (x4_1 ++ t137).size + 1 ≤ 9223372036854775807 then (if (((x4_1 ++ t137) ++ (⟨#[10]⟩ : ByteArray)).size : Int) > 13000 then (some ((⟨#[]⟩ : ByteArray), 3)) else (some ((x4_1 ++ t137) ++ (⟨#[10]⟩ : ByteArray), 0))) else (none)) else (none)) = some (r1, r2) := H
            have A10 := Aside0.mk A100
            clear A100
            by_cases c11 : x4_1.size + t137.size ≤ 9223372036854775807
            · rw [if_pos c11] at H
              have c11b0 := eq_true c11
              have c11b1 : decide (x4_1.size + t137.size ≤ 9223372036854775807) = true := decide_eq_true c11
              try have c11b2 : (9223372036854775807 < x4_1.size + t137.size) = False := eq_false (Nat.not_lt.2 c11)
              by_cases c12 : (x4_1 ++ t137).size + 1 ≤ 9223372036854775807
              · rw [if_pos c12] at H
                have c12b0 := eq_true c12
                have c12b1 : decide ((x4_1 ++ t137).size + 1 ≤ 9223372036854775807) = true := decide_eq_true c12
                try have c12b2 : (9223372036854775807 < (x4_1 ++ t137).size + 1) = False := eq_false (Nat.not_lt.2 c12)
                try (have c12sb0 := c12b0; simp only [ByteArray.size_append] at c12sb0)
                try (have c12sb1 := c12b1; simp only [ByteArray.size_append] at c12sb1)
                try (have c12sb2 := c12b2; simp only [ByteArray.size_append] at c12sb2)
                by_cases c13 : (((x4_1 ++ t137) ++ (⟨#[10]⟩ : ByteArray)).size : Int) > 13000
                · rw [if_pos c13] at H
                  have c13b0 : decide (13000 < (((x4_1 ++ t137) ++ (⟨#[10]⟩ : ByteArray)).size : Int)) = true := decide_eq_true c13
                  try (have c13p := of_decide_eq_true c13b0; simp only [ByteArray.size_append, (show ((⟨#[10]⟩ : ByteArray)).size = 1 from rfl)] at c13p; push_cast at c13p)
                  have c13b1 : decide (13000 < ((x4_1 ++ t137) ++ (⟨#[10]⟩ : ByteArray)).size) = true := decide_eq_true (by omega)
                  clear c13
                  simp only [Option.some.injEq, Prod.mk.injEq] at H
                  obtain ⟨rfl, rfl⟩ := H
                  go_wp2_with (first | ((with_reducible refine gate_callee (f := 70) rfl ?_); refine goesL_ (some 28) rfl rfl Tryd.func70 (by kernel_rfl) rfl #[.string x4_1] rfl (by (try simp only [List.map_toArray, List.map_cons, List.map_nil]); first | done | rfl | (simp only [List.length_drop, List.length_take]; rfl)) ?_; (with_reducible refine (cooperageref3_Of.calls k1 x4_1 t136 _ A9.out).mono ?_); rintro e w' ⟨rfl, ⟨nd, rfl⟩⟩; refine ⟨_, rfl, ?_⟩) | ((with_reducible refine gate_callee (f := 69) rfl ?_); refine goesL_ (some 29) rfl rfl Tryd.func69 (by kernel_rfl) rfl #[.int .u32 t136] rfl (by (try simp only [List.map_toArray, List.map_cons, List.map_nil]); first | done | rfl | (simp only [List.length_drop, List.length_take]; rfl)) ?_; (with_reducible refine (cooperageref3_Hex.calls k1 t136 t137 _ A10.out).mono ?_); rintro e w' ⟨rfl, ⟨nd, rfl⟩⟩; refine ⟨_, rfl, ?_⟩))
                  go_ret2
                  exact ⟨by first | rfl | (simp; done) | (simp [*]; done), by repeat (first | exact Drawn0.refl _ | apply Drawn0.step)⟩
                · rw [if_neg c13] at H
                  have c13b0 : decide (13000 < (((x4_1 ++ t137) ++ (⟨#[10]⟩ : ByteArray)).size : Int)) = false := decide_eq_false c13
                  try (have c13p := of_decide_eq_false c13b0; simp only [ByteArray.size_append, (show ((⟨#[10]⟩ : ByteArray)).size = 1 from rfl)] at c13p; push_cast at c13p)
                  try (replace c13p := Int.not_le.1 c13p)
                  have c13b1 : decide (13000 < ((x4_1 ++ t137) ++ (⟨#[10]⟩ : ByteArray)).size) = false := decide_eq_false (by omega)
                  clear c13
                  simp only [Option.some.injEq, Prod.mk.injEq] at H
                  obtain ⟨rfl, rfl⟩ := H
                  go_wp2_with (first | ((with_reducible refine gate_callee (f := 70) rfl ?_); refine goesL_ (some 28) rfl rfl Tryd.func70 (by kernel_rfl) rfl #[.string x4_1] rfl (by (try simp only [List.map_toArray, List.map_cons, List.map_nil]); first | done | rfl | (simp only [List.length_drop, List.length_take]; rfl)) ?_; (with_reducible refine (cooperageref3_Of.calls k1 x4_1 t136 _ A9.out).mono ?_); rintro e w' ⟨rfl, ⟨nd, rfl⟩⟩; refine ⟨_, rfl, ?_⟩) | ((with_reducible refine gate_callee (f := 69) rfl ?_); refine goesL_ (some 29) rfl rfl Tryd.func69 (by kernel_rfl) rfl #[.int .u32 t136] rfl (by (try simp only [List.map_toArray, List.map_cons, List.map_nil]); first | done | rfl | (simp only [List.length_drop, List.length_take]; rfl)) ?_; (with_reducible refine (cooperageref3_Hex.calls k1 t136 t137 _ A10.out).mono ?_); rintro e w' ⟨rfl, ⟨nd, rfl⟩⟩; refine ⟨_, rfl, ?_⟩))
                  go_ret2
                  exact ⟨by first | rfl | (simp; done) | (simp [*]; done), by repeat (first | exact Drawn0.refl _ | apply Drawn0.step)⟩
              · rw [if_neg c12] at H
                exact absurd H (by simp)
            · rw [if_neg c11] at H
              exact absurd H (by simp)

end Go.Proofs.YtocpfgdajomjiaaDoor.L
