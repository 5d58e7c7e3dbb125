-- fixed by fix_text2.py, fixed by fix_text.py. Written by a program of this session (hprint.py over the kit's print).
import Derived.Test.YtocpfgdajomjiaaDoorP0
import Derived.Test.YtocpfgdajomjiaaDoorP1
import Derived.Test.YtocpfgdajomjiaaDoorP2
import Derived.Test.YtocpfgdajomjiaaDoorHandText
namespace Go.Proofs.YtocpfgdajomjiaaDoor.P
open Go.Proofs.YtocpfgdajomjiaaDoor.Hand
open Go.Proofs.YtocpfgdajomjiaaDoor
open Go.RowKit Go.Proofs.YtocpfgdajomjiaaDoorW.PrintWords Go.Proofs.YtocpfgdajomjiaaDoorW.PrintLast Go.Proofs.YtocpfgdajomjiaaDoorW.PrintMore
attribute [local go_sem] max2_int min2_int max_two min_two max_three min_three max_four min_four   -- for this text's walks alone
set_option linter.unusedVariables false
set_option linter.unusedSimpArgs false

/-! ### cooperagelaw1_TextPaths: function 4 -/
mutual
def cooperagelaw1_TextPaths.j0 : Nat → ByteArray → ByteArray → Bool → Bool → Option (Bool)
  | 0, _, _, _, _ => none
  | k + 1, x0, x1, x5, x32 => if x32 = true then (some x5) else (if x0.size + 1 ≤ 9223372036854775807 then (if (x0 ++ (⟨#[47]⟩ : ByteArray)).size + x1.size ≤ 9223372036854775807 then (cooperagelaw1_TextPaths.l0 k x0 x1 2 ((x0 ++ (⟨#[47]⟩ : ByteArray)) ++ x1) 0) else (none)) else (none))
def cooperagelaw1_TextPaths.l0 : Nat → ByteArray → ByteArray → Int → ByteArray → Int → Option (Bool)
  | 0, _, _, _, _, _ => none
  | k + 1, x0, x1, x6, x7, x8 => if x8 < (x0.size : Int) then (if 0 ≤ x8 then (if (bt x0 x8) = 47 then (cooperagelaw1_TextPaths.l0 k x0 x1 (wrap64 (x6 + 1)) x7 (wrap64 (x8 + 1))) else (cooperagelaw1_TextPaths.l0 k x0 x1 x6 x7 (wrap64 (x8 + 1)))) else (none)) else (cooperagelaw1_TextPaths.l1 k x0 x1 x6 x7 0)
def cooperagelaw1_TextPaths.l1 : Nat → ByteArray → ByteArray → Int → ByteArray → Int → Option (Bool)
  | 0, _, _, _, _, _ => none
  | k + 1, x0, x1, x6, x7, x9 => if x9 < (x1.size : Int) then (if 0 ≤ x9 then (if (bt x1 x9) = 47 then (cooperagelaw1_TextPaths.l1 k x0 x1 (wrap64 (x6 + 1)) x7 (wrap64 (x9 + 1))) else (cooperagelaw1_TextPaths.l1 k x0 x1 x6 x7 (wrap64 (x9 + 1)))) else (none)) else ((text_Quote.f x0).bind fun t132 => (if t132.toList = x0.toList then ((text_Words.f x0).bind fun t133 => ((cooperagelaw1_same.f k t133 (([x0] : List ByteArray))).bind fun t139 => (if t139 = true then ((text_Path.f x7).bind fun t140 => (if (x7.size : Int) ≤ 100 then (if (t140 == (decide (x6 ≤ 8))) = true then (if x0.size + 1 ≤ 9223372036854775807 then ((text_Path.f (x0 ++ (⟨#[47]⟩ : ByteArray))).bind fun t141 => (if t141 = true then (some false) else (if 1 + x0.size ≤ 9223372036854775807 then ((text_Path.f ((⟨#[47]⟩ : ByteArray) ++ x0)).bind fun t142 => (if t142 = true then (some false) else (if x0.size + 4 ≤ 9223372036854775807 then (if (x0 ++ (⟨#[47, 46, 46, 47]⟩ : ByteArray)).size + x1.size ≤ 9223372036854775807 then ((text_Path.f ((x0 ++ (⟨#[47, 46, 46, 47]⟩ : ByteArray)) ++ x1)).bind fun t143 => (some (!t143))) else (none)) else (none)))) else (none)))) else (none)) else (some false)) else (if (t140 == false) = true then (if x0.size + 1 ≤ 9223372036854775807 then ((text_Path.f (x0 ++ (⟨#[47]⟩ : ByteArray))).bind fun t144 => (if t144 = true then (some false) else (if 1 + x0.size ≤ 9223372036854775807 then ((text_Path.f ((⟨#[47]⟩ : ByteArray) ++ x0)).bind fun t145 => (if t145 = true then (some false) else (if x0.size + 4 ≤ 9223372036854775807 then (if (x0 ++ (⟨#[47, 46, 46, 47]⟩ : ByteArray)).size + x1.size ≤ 9223372036854775807 then ((text_Path.f ((x0 ++ (⟨#[47, 46, 46, 47]⟩ : ByteArray)) ++ x1)).bind fun t146 => (some (!t146))) else (none)) else (none)))) else (none)))) else (none)) else (some false)))) else (some false)))) else (some false)))
end
def cooperagelaw1_TextPaths.f (k : Nat) (a0 : ByteArray) (a1 : ByteArray) : Option (Bool) := (cooperagelaw1_shown.f k).bind fun t129 => (if t129 = true then (if (a0.size : Int) > 200 then (cooperagelaw1_TextPaths.j0 k a0 a1 t129 true) else (if (a1.size : Int) > 200 then (cooperagelaw1_TextPaths.j0 k a0 a1 t129 true) else ((text_Path.f a0).bind fun t130 => (if t130 = true then ((text_Path.f a1).bind fun t131 => (cooperagelaw1_TextPaths.j0 k a0 a1 t129 (!t131))) else (cooperagelaw1_TextPaths.j0 k a0 a1 t129 true))))) else (cooperagelaw1_TextPaths.j0 k a0 a1 t129 true))
theorem cooperagelaw1_TextPaths.mono_l : ∀ k, (∀ y0 y1 y2 y3, LeO (cooperagelaw1_TextPaths.j0 k y0 y1 y2 y3) (cooperagelaw1_TextPaths.j0 (k + 1) y0 y1 y2 y3)) ∧ (∀ y0 y1 y2 y3 y4, LeO (cooperagelaw1_TextPaths.l0 k y0 y1 y2 y3 y4) (cooperagelaw1_TextPaths.l0 (k + 1) y0 y1 y2 y3 y4)) ∧ (∀ y0 y1 y2 y3 y4, LeO (cooperagelaw1_TextPaths.l1 k y0 y1 y2 y3 y4) (cooperagelaw1_TextPaths.l1 (k + 1) y0 y1 y2 y3 y4))
  | 0 => ⟨fun _ _ _ _ r h => by simp [cooperagelaw1_TextPaths.j0] at h, fun _ _ _ _ _ r h => by simp [cooperagelaw1_TextPaths.l0] at h, fun _ _ _ _ _ r h => by simp [cooperagelaw1_TextPaths.l1] at h⟩
  | k + 1 => by
    obtain ⟨ih0, ih1, ih2⟩ := cooperagelaw1_TextPaths.mono_l k
    refine ⟨?_, ?_, ?_⟩
    · intro y0 y1 y2 y3
      unfold cooperagelaw1_TextPaths.j0
      repeat' first
      | (with_reducible exact ih0 _ _ _ _)
      | (with_reducible exact ih1 _ _ _ _ _)
      | (with_reducible exact ih2 _ _ _ _ _)
      | (with_reducible exact cooperagelaw1_same.mono _ _ _)
      | (with_reducible exact cooperagelaw1_shown.mono _)
      | (with_reducible exact LeO.refl _)
      | (with_reducible exact LeO.none _)
      | (with_reducible refine LeO.ite ?_ ?_)
      | (with_reducible refine LeO.bind ?_ (fun _ => ?_))
      | exact ih0 _ _ _ _
      | exact ih1 _ _ _ _ _
      | exact ih2 _ _ _ _ _
      | exact cooperagelaw1_same.mono _ _ _
      | exact cooperagelaw1_shown.mono _
      | exact LeO.none _
      | refine LeO.ite ?_ ?_
      | refine LeO.bind ?_ (fun _ => ?_)
    · intro y0 y1 y2 y3 y4
      unfold cooperagelaw1_TextPaths.l0
      repeat' first
      | (with_reducible exact ih0 _ _ _ _)
      | (with_reducible exact ih1 _ _ _ _ _)
      | (with_reducible exact ih2 _ _ _ _ _)
      | (with_reducible exact cooperagelaw1_same.mono _ _ _)
      | (with_reducible exact cooperagelaw1_shown.mono _)
      | (with_reducible exact LeO.refl _)
      | (with_reducible exact LeO.none _)
      | (with_reducible refine LeO.ite ?_ ?_)
      | (with_reducible refine LeO.bind ?_ (fun _ => ?_))
      | exact ih0 _ _ _ _
      | exact ih1 _ _ _ _ _
      | exact ih2 _ _ _ _ _
      | exact cooperagelaw1_same.mono _ _ _
      | exact cooperagelaw1_shown.mono _
      | exact LeO.none _
      | refine LeO.ite ?_ ?_
      | refine LeO.bind ?_ (fun _ => ?_)
    · intro y0 y1 y2 y3 y4
      unfold cooperagelaw1_TextPaths.l1
      repeat' first
      | (with_reducible exact ih0 _ _ _ _)
      | (with_reducible exact ih1 _ _ _ _ _)
      | (with_reducible exact ih2 _ _ _ _ _)
      | (with_reducible exact cooperagelaw1_same.mono _ _ _)
      | (with_reducible exact cooperagelaw1_shown.mono _)
      | (with_reducible exact LeO.refl _)
      | (with_reducible exact LeO.none _)
      | (with_reducible refine LeO.ite ?_ ?_)
      | (with_reducible refine LeO.bind ?_ (fun _ => ?_))
      | exact ih0 _ _ _ _
      | exact ih1 _ _ _ _ _
      | exact ih2 _ _ _ _ _
      | exact cooperagelaw1_same.mono _ _ _
      | exact cooperagelaw1_shown.mono _
      | exact LeO.none _
      | refine LeO.ite ?_ ?_
      | refine LeO.bind ?_ (fun _ => ?_)
theorem cooperagelaw1_TextPaths.mono : ∀ a0 a1 k, LeO (cooperagelaw1_TextPaths.f k a0 a1) (cooperagelaw1_TextPaths.f (k + 1) a0 a1) := by
  intro a0 a1 k
  obtain ⟨ih0, ih1, ih2⟩ := cooperagelaw1_TextPaths.mono_l k
  unfold cooperagelaw1_TextPaths.f
  repeat' first
      | (with_reducible exact ih0 _ _ _ _)
      | (with_reducible exact ih1 _ _ _ _ _)
      | (with_reducible exact ih2 _ _ _ _ _)
      | (with_reducible exact cooperagelaw1_same.mono _ _ _)
      | (with_reducible exact cooperagelaw1_shown.mono _)
      | (with_reducible exact LeO.refl _)
      | (with_reducible exact LeO.none _)
      | (with_reducible refine LeO.ite ?_ ?_)
      | (with_reducible refine LeO.bind ?_ (fun _ => ?_))
      | exact ih0 _ _ _ _
      | exact ih1 _ _ _ _ _
      | exact ih2 _ _ _ _ _
      | exact cooperagelaw1_same.mono _ _ _
      | exact cooperagelaw1_shown.mono _
      | exact LeO.none _
      | refine LeO.ite ?_ ?_
      | refine LeO.bind ?_ (fun _ => ?_)
set_option maxHeartbeats 8000000 in
set_option maxRecDepth 100000 in
theorem cooperagelaw1_TextPaths.calls (k : Nat) (a0 : ByteArray) (a1 : ByteArray) (r : Bool) (w : World) (hG : Hand.Glob w) (h : cooperagelaw1_TextPaths.f k a0 a1 = some r) :
    Calls Tryd.prog 4 #[.string a0, .string a1] w fun e w' => e = .returned (.bool r) ∧ Below w.heap.size w w' := by
  have HB := Aside0.mk (Below.refl w.heap.size w)
  have H : ((cooperagelaw1_shown.f k).bind fun t129 => (if t129 = true then (if (a0.size : Int) > 200 then (cooperagelaw1_TextPaths.j0 k a0 a1 t129 true) else (if (a1.size : Int) > 200 then (cooperagelaw1_TextPaths.j0 k a0 a1 t129 true) else ((text_Path.f a0).bind fun t130 => (if t130 = true then ((text_Path.f a1).bind fun t131 => (cooperagelaw1_TextPaths.j0 k a0 a1 t129 (!t131))) else (cooperagelaw1_TextPaths.j0 k a0 a1 t129 true))))) else (cooperagelaw1_TextPaths.j0 k a0 a1 t129 true))) = some r := h
  clear h
  replace H := Option.bind_eq_some_iff.mp H
  obtain ⟨t129, A30, H⟩ := H
  replace H : (if t129 = true then (if (a0.size : Int) > 200 then (cooperagelaw1_TextPaths.j0 k a0 a1 t129 true) else (if (a1.size : Int) > 200 then (cooperagelaw1_TextPaths.j0 k a0 a1 t129 true) else ((text_Path.f a0).bind fun t130 => (if t130 = true then ((text_Path.f a1).bind fun t131 => (cooperagelaw1_TextPaths.j0 k a0 a1 t129 (!t131))) else (cooperagelaw1_TextPaths.j0 k a0 a1 t129 true))))) else (cooperagelaw1_TextPaths.j0 k a0 a1 t129 true)) = some r := H
  have A3 := Aside0.mk A30
  clear A30
  have HC4 := Aside0.mk H
  clear H
  go_enter Tryd.func4, Tryd.ntmps4
  go_upto_region 2 with (first | ((with_reducible refine gate_callee (f := 19) rfl ?_); refine goesL_ (some 10) rfl rfl Tryd.func19 (by kernel_rfl) rfl #[] rfl (by (try simp only [List.map_toArray, List.map_cons, List.map_nil]); first | done | rfl | (simp only [List.length_drop, List.length_take]; rfl)) ?_; (with_reducible refine (cooperagelaw1_shown.calls k  t129 _ ?side1 A3.out).mono ?_); (case side1 => exact Hand.Glob.below hG (by repeat (first | (with_reducible first | exact HB.out | apply below_alloc | apply pw_below_drewN | apply below_drew1) | exact HB.out))); rintro e w5 ⟨rfl, hb⟩; refine ⟨_, rfl, ?_⟩; have n0_ := Aside0.mk (below_step (by repeat (first | (with_reducible first | exact HB.out | apply below_alloc | apply pw_below_drewN | apply below_drew1) | exact HB.out)) hb); clear HB; have HB := n0_; clear n0_; (try clear hb); (try clear hb2); (try clear hk); (try clear hi)))
  (try simp only [Act.put, List.setIfInBounds_toArray, List.set_cons_zero, List.set_cons_succ])
  go_cut [32] (fun v32 wc => ∃ (kq : Nat) (x32_3 : Bool), v32 = .bool x32_3 ∧ Aside0 (cooperagelaw1_TextPaths.j0 kq a0 a1 t129 x32_3 = some r) ∧ Aside0 (kq ≤ k) ∧ Aside0 (Below w.heap.size w wc))
  case first =>
    have H := HC4.out
    clear HC4
    by_cases c6 : t129 = true
    · subst c6
      have H1 : (if (a0.size : Int) > 200 then (cooperagelaw1_TextPaths.j0 k a0 a1 true true) else (if (a1.size : Int) > 200 then (cooperagelaw1_TextPaths.j0 k a0 a1 true true) else ((text_Path.f a0).bind fun t130 => (if t130 = true then ((text_Path.f a1).bind fun t131 => (cooperagelaw1_TextPaths.j0 k a0 a1 true (!t131))) else (cooperagelaw1_TextPaths.j0 k a0 a1 true true))))) = some r := by rw [if_pos rfl] at H; exact H
      clear H
      have H := H1
      clear H1
      by_cases c7 : (a0.size : Int) > 200
      · rw [if_pos c7] at H
        have c7b0 : decide (200 < (a0.size : Int)) = true := decide_eq_true c7
        have c7b1 : decide (200 < a0.size) = true := decide_eq_true (by omega)
        clear c7
        (first | rw [c7b0] | (simp only [i64_w, i32_w]; rw [c7b0]) | skip)
        have H' := Aside0.mk H
        clear H
        go_wp2
        go_meet
        case rel => exact ⟨_, (true), (by first | rfl | (simp; done) | (simp [*]; done)), H', ⟨by first | omega | exact Nat.le_refl _⟩, ⟨by repeat (first | (with_reducible first | exact HB.out | apply below_alloc | apply pw_below_drewN | apply below_drew1) | exact HB.out)⟩⟩
      · rw [if_neg c7] at H
        have c7b0 : decide (200 < (a0.size : Int)) = false := decide_eq_false c7
        have c7b1 : decide (200 < a0.size) = false := decide_eq_false (by omega)
        clear c7
        (first | rw [c7b0] | (simp only [i64_w, i32_w]; rw [c7b0]) | skip)
        by_cases c8 : (a1.size : Int) > 200
        · rw [if_pos c8] at H
          have c8b0 : decide (200 < (a1.size : Int)) = true := decide_eq_true c8
          have c8b1 : decide (200 < a1.size) = true := decide_eq_true (by omega)
          clear c8
          have H' := Aside0.mk H
          clear H
          go_wp2
          go_meet
          case rel => exact ⟨_, (true), (by first | rfl | (simp; done) | (simp [*]; done)), H', ⟨by first | omega | exact Nat.le_refl _⟩, ⟨by repeat (first | (with_reducible first | exact HB.out | apply below_alloc | apply pw_below_drewN | apply below_drew1) | exact HB.out)⟩⟩
        · rw [if_neg c8] at H
          have c8b0 : decide (200 < (a1.size : Int)) = false := decide_eq_false c8
          have c8b1 : decide (200 < a1.size) = false := decide_eq_false (by omega)
          clear c8
          replace H := Option.bind_eq_some_iff.mp H
          obtain ⟨t130, A90, H⟩ := H
          replace H : (if t130 = true then ((text_Path.f a1).bind fun t131 => (cooperagelaw1_TextPaths.j0 k a0 a1 true (!t131))) else (cooperagelaw1_TextPaths.j0 k a0 a1 true true)) = some r := H
          have A9 := Aside0.mk A90
          clear A90
          by_cases c10 : t130 = true
          · subst c10
            have H1 : ((text_Path.f a1).bind fun t131 => (cooperagelaw1_TextPaths.j0 k a0 a1 true (!t131))) = some r := by rw [if_pos rfl] at H; exact H
            clear H
            have H := H1
            clear H1
            replace H := Option.bind_eq_some_iff.mp H
            obtain ⟨t131, A110, H⟩ := H
            replace H : (cooperagelaw1_TextPaths.j0 k a0 a1 true (!t131)) = some r := H
            have A11 := Aside0.mk A110
            clear A110
            have H' := Aside0.mk H
            clear H
            go_wp2_with (first | (go_at_call 21; (with_reducible refine (text_Path.calls a0 true _ ?side1 A9.out).mono ?_); (case side1 => exact Hand.Glob.below hG (by repeat (first | (with_reducible first | exact HB.out | apply below_alloc | apply pw_below_drewN | apply below_drew1) | exact HB.out))); rintro e w12 ⟨rfl, hb⟩; have n0_ := Aside0.mk (below_step (by repeat (first | (with_reducible first | exact HB.out | apply below_alloc | apply pw_below_drewN | apply below_drew1) | exact HB.out)) hb); clear HB; have HB := n0_; clear n0_; (try clear hb); (try clear hb2); (try clear hk); (try clear hi)) | (go_at_call 21; (with_reducible refine (text_Path.calls a1 t131 _ ?side1 A11.out).mono ?_); (case side1 => exact Hand.Glob.below hG (by repeat (first | (with_reducible first | exact HB.out | apply below_alloc | apply pw_below_drewN | apply below_drew1) | exact HB.out))); rintro e w13 ⟨rfl, hb⟩; have n0_ := Aside0.mk (below_step (by repeat (first | (with_reducible first | exact HB.out | apply below_alloc | apply pw_below_drewN | apply below_drew1) | exact HB.out)) hb); clear HB; have HB := n0_; clear n0_; (try clear hb); (try clear hb2); (try clear hk); (try clear hi)))
            go_meet
            case rel => exact ⟨_, (!t131), (by first | rfl | (simp; done) | (simp [*]; done)), H', ⟨by first | omega | exact Nat.le_refl _⟩, ⟨by repeat (first | (with_reducible first | exact HB.out | apply below_alloc | apply pw_below_drewN | apply below_drew1) | exact HB.out)⟩⟩
          · replace c10 := Bool.eq_false_iff.mpr c10
            subst c10
            have H1 : (cooperagelaw1_TextPaths.j0 k a0 a1 true true) = some r := by rw [if_neg (show ¬ (false = true) by decide)] at H; exact H
            clear H
            have H := H1
            clear H1
            have H' := Aside0.mk H
            clear H
            go_wp2_with (first | (go_at_call 21; (with_reducible refine (text_Path.calls a0 false _ ?side1 A9.out).mono ?_); (case side1 => exact Hand.Glob.below hG (by repeat (first | (with_reducible first | exact HB.out | apply below_alloc | apply pw_below_drewN | apply below_drew1) | exact HB.out))); rintro e w14 ⟨rfl, hb⟩; have n0_ := Aside0.mk (below_step (by repeat (first | (with_reducible first | exact HB.out | apply below_alloc | apply pw_below_drewN | apply below_drew1) | exact HB.out)) hb); clear HB; have HB := n0_; clear n0_; (try clear hb); (try clear hb2); (try clear hk); (try clear hi)))
            go_meet
            case rel => exact ⟨_, (true), (by first | rfl | (simp; done) | (simp [*]; done)), H', ⟨by first | omega | exact Nat.le_refl _⟩, ⟨by repeat (first | (with_reducible first | exact HB.out | apply below_alloc | apply pw_below_drewN | apply below_drew1) | exact HB.out)⟩⟩
    · replace c6 := Bool.eq_false_iff.mpr c6
      subst c6
      have H1 : (cooperagelaw1_TextPaths.j0 k a0 a1 false true) = some r := by rw [if_neg (show ¬ (false = true) by decide)] at H; exact H
      clear H
      have H := H1
      clear H1
      have H' := Aside0.mk H
      clear H
      go_wp2
      go_meet
      case rel => exact ⟨_, (true), (by first | rfl | (simp; done) | (simp [*]; done)), H', ⟨by first | omega | exact Nat.le_refl _⟩, ⟨by repeat (first | (with_reducible first | exact HB.out | apply below_alloc | apply pw_below_drewN | apply below_drew1) | exact HB.out)⟩⟩
  case rest =>
    clear HC4
    try clear c1
    try clear p2
    try clear c4
    try clear c6
    try clear c7
    try clear c7b0
    try clear c7b1
    try clear c8
    try clear c8b0
    try clear c8b1
    try clear c10
    obtain ⟨kq, x32_3, rfl, HA, HJ3, HB⟩ := hcut
    cases kq with
    | zero => exact absurd HA.out (by simp [cooperagelaw1_TextPaths.j0])
    | succ kj3 =>
      have H := HA.out
      clear HA
      simp only [cooperagelaw1_TextPaths.j0] at H
      by_cases c15 : x32_3 = true
      · subst c15
        have H1 : (some t129) = some r := by rw [if_pos rfl] at H; exact H
        clear H
        have H := H1
        clear H1
        obtain rfl := Option.some.inj H
        go_wp2
        go_ret
        exact ⟨by first | rfl | (simp [errW_none, errW_some] <;> rfl) | (simp [*, errW_none, errW_some] <;> rfl) | (simp [errW_none, errW_some]; cases a0.toList <;> rfl), by repeat (first | (with_reducible first | exact HB.out | apply below_alloc | apply pw_below_drewN | apply below_drew1) | exact HB.out)⟩
      · replace c15 := Bool.eq_false_iff.mpr c15
        subst c15
        have H1 : (if a0.size + 1 ≤ 9223372036854775807 then (if (a0 ++ (⟨#[47]⟩ : ByteArray)).size + a1.size ≤ 9223372036854775807 then (cooperagelaw1_TextPaths.l0 kj3 a0 a1 2 ((a0 ++ (⟨#[47]⟩ : ByteArray)) ++ a1) 0) else (none)) else (none)) = some r := by rw [if_neg (show ¬ (false = true) by decide)] at H; exact H
        clear H
        have H := H1
        clear H1
        by_cases c16 : a0.size + 1 ≤ 9223372036854775807
        · rw [if_pos c16] at H
          have c16b0 := eq_true c16
          have c16b1 : decide (a0.size + 1 ≤ 9223372036854775807) = true := decide_eq_true c16
          try have c16b2 : (9223372036854775807 < a0.size + 1) = False := eq_false (Nat.not_lt.2 c16)
          by_cases c17 : (a0 ++ (⟨#[47]⟩ : ByteArray)).size + a1.size ≤ 9223372036854775807
          · rw [if_pos c17] at H
            have c17b0 := eq_true c17
            have c17b1 : decide ((a0 ++ (⟨#[47]⟩ : ByteArray)).size + a1.size ≤ 9223372036854775807) = true := decide_eq_true c17
            try have c17b2 : (9223372036854775807 < (a0 ++ (⟨#[47]⟩ : ByteArray)).size + a1.size) = False := eq_false (Nat.not_lt.2 c17)
            try (have c17sb0 := c17b0; simp only [ByteArray.size_append] at c17sb0)
            try (have c17sb1 := c17b1; simp only [ByteArray.size_append] at c17sb1)
            try (have c17sb2 := c17b2; simp only [ByteArray.size_append] at c17sb2)
            have H' := Aside0.mk H
            clear H
            go_wp2
            go_loopg [6, 8] kj3 (fun kq v6 v8 w' => ∃ (x6_2 : Int) (x8_2 : Int), v6 = .int .i64 x6_2 ∧ v8 = .int .i64 x8_2 ∧ Aside0 (cooperagelaw1_TextPaths.l0 kq a0 a1 x6_2 ((a0 ++ (⟨#[47]⟩ : ByteArray)) ++ a1) x8_2 = some r) ∧ Aside0 (kq ≤ kj3) ∧ Aside0 (Below w.heap.size w w'))
            case atStart => exact ⟨(2), (0), (by first | rfl | (simp; done) | (simp [*]; done)), (by first | rfl | (simp; done) | (simp [*]; done)), H', ⟨Nat.le_refl _⟩, ⟨by repeat (first | (with_reducible first | exact HB.out | apply below_alloc | apply pw_below_drewN | apply below_drew1) | exact HB.out)⟩⟩
            case round =>
              clear H'
              try clear c1
              try clear p2
              try clear c4
              try clear c6
              try clear c7
              try clear c7b0
              try clear c7b1
              try clear c8
              try clear c8b0
              try clear c8b1
              try clear c10
              try clear c15
              try clear c16
              try clear c16b0
              try clear c16b1
              try clear c16b2
              try clear c17
              try clear c17b0
              try clear c17b1
              try clear c17b2
              try clear p2
              obtain ⟨x6_2, x8_2, rfl, rfl, HA, HK2, HB⟩ := hrel
              cases gk with
              | zero => exact absurd HA.out (by simp [cooperagelaw1_TextPaths.l0])
              | succ k2 =>
                have H := HA.out
                clear HA
                simp only [cooperagelaw1_TextPaths.l0] at H
                by_cases c18 : x8_2 < (a0.size : Int)
                · rw [if_pos c18] at H
                  have c18b0 : decide (x8_2 < (a0.size : Int)) = true := decide_eq_true c18
                  clear c18
                  by_cases c19 : 0 ≤ x8_2
                  · rw [if_pos c19] at H
                    have c19b0 : decide (0 ≤ x8_2) = true := decide_eq_true c19
                    clear c19
                    by_cases c21 : (bt a0 x8_2) = 47
                    · rw [if_pos c21] at H
                      have c21b0 : ((bt a0 x8_2) == 47) = true := beq_iff_eq.mpr c21
                      have c21b1 : ((bt a0 x8_2) != 47) = false := bne_eq_false_iff_eq.mpr c21
                      clear c21
                      have H' := Aside0.mk H
                      clear H
                      have p20 : 0 ≤ (x8_2 : Int) := of_decide_eq_true (by first | (with_reducible assumption) | assumption)
                      have q20 : x8_2 < (a0.size : Int) := of_decide_eq_true (by first | (with_reducible assumption) | assumption)
                      have hx20 := bt_at a0 x8_2
                      replace p20 := eq_true p20
                      replace q20 := eq_true q20
                      go_wp2
                      go_roundg k2
                      case measure => have := HJ3.out; have := HK2.out; omega
                      case rel => exact ⟨(wrap64 (x6_2 + 1)), (wrap64 (x8_2 + 1)), (by first | rfl | (simp; done) | (simp [*]; done)), (by first | rfl | (simp; done) | (simp [*]; done)), H', ⟨by have := HJ3.out; have := HK2.out; omega⟩, ⟨by repeat (first | (with_reducible first | exact HB.out | apply below_alloc | apply pw_below_drewN | apply below_drew1) | exact HB.out)⟩⟩
                    · rw [if_neg c21] at H
                      have c21b0 : ((bt a0 x8_2) == 47) = false := beq_eq_false_iff_ne.mpr c21
                      have c21b1 : ((bt a0 x8_2) != 47) = true := bne_iff_ne.mpr c21
                      have H' := Aside0.mk H
                      clear H
                      have p20 : 0 ≤ (x8_2 : Int) := of_decide_eq_true (by first | (with_reducible assumption) | assumption)
                      have q20 : x8_2 < (a0.size : Int) := of_decide_eq_true (by first | (with_reducible assumption) | assumption)
                      have hx20 := bt_at a0 x8_2
                      replace p20 := eq_true p20
                      replace q20 := eq_true q20
                      go_wp2
                      go_roundg k2
                      case measure => have := HJ3.out; have := HK2.out; omega
                      case rel => exact ⟨(x6_2), (wrap64 (x8_2 + 1)), (by first | rfl | (simp; done) | (simp [*]; done)), (by first | rfl | (simp; done) | (simp [*]; done)), H', ⟨by have := HJ3.out; have := HK2.out; omega⟩, ⟨by repeat (first | (with_reducible first | exact HB.out | apply below_alloc | apply pw_below_drewN | apply below_drew1) | exact HB.out)⟩⟩
                  · rw [if_neg c19] at H
                    exact absurd H (by simp)
                · rw [if_neg c18] at H
                  have c18b0 : decide (x8_2 < (a0.size : Int)) = false := decide_eq_false c18
                  clear c18
                  have H' := Aside0.mk H
                  clear H
                  go_wp2
                  go_loopg [6, 9] k2 (fun kq v6 v9 w' => ∃ (x6_3 : Int) (x9_3 : Int), v6 = .int .i64 x6_3 ∧ v9 = .int .i64 x9_3 ∧ Aside0 (cooperagelaw1_TextPaths.l1 kq a0 a1 x6_3 ((a0 ++ (⟨#[47]⟩ : ByteArray)) ++ a1) x9_3 = some r) ∧ Aside0 (kq ≤ k2) ∧ Aside0 (Below w.heap.size w w'))
                  case atStart => exact ⟨(x6_2), (0), (by first | rfl | (simp; done) | (simp [*]; done)), (by first | rfl | (simp; done) | (simp [*]; done)), H', ⟨Nat.le_refl _⟩, ⟨by repeat (first | (with_reducible first | exact HB.out | apply below_alloc | apply pw_below_drewN | apply below_drew1) | exact HB.out)⟩⟩
                  case round =>
                    clear H'
                    try clear c1
                    try clear c2
                    try clear p2
                    try clear q2
                    try clear hx2
                    try clear c4
                    try clear c6
                    try clear p6
                    try clear c7
                    try clear c7b0
                    try clear c7b1
                    try clear c8
                    try clear c8b0
                    try clear c8b1
                    try clear c10
                    try clear c15
                    try clear c16
                    try clear c16b0
                    try clear c16b1
                    try clear c16b2
                    try clear c17
                    try clear c17b0
                    try clear c17b1
                    try clear c17b2
                    try clear c18
                    try clear c18b0
                    try clear c19
                    try clear c19b0
                    try clear p20
                    try clear q20
                    try clear hx20
                    try clear c21
                    try clear c21b0
                    try clear c21b1
                    try clear p2
                    try clear p20
                    try clear q20
                    obtain ⟨x6_3, x9_3, rfl, rfl, HA, HK3, HB⟩ := hrel
                    cases gk with
                    | zero => exact absurd HA.out (by simp [cooperagelaw1_TextPaths.l1])
                    | succ k3 =>
                      have H := HA.out
                      clear HA
                      simp only [cooperagelaw1_TextPaths.l1] at H
                      by_cases c22 : x9_3 < (a1.size : Int)
                      · rw [if_pos c22] at H
                        have c22b0 : decide (x9_3 < (a1.size : Int)) = true := decide_eq_true c22
                        clear c22
                        by_cases c23 : 0 ≤ x9_3
                        · rw [if_pos c23] at H
                          have c23b0 : decide (0 ≤ x9_3) = true := decide_eq_true c23
                          clear c23
                          by_cases c25 : (bt a1 x9_3) = 47
                          · rw [if_pos c25] at H
                            have c25b0 : ((bt a1 x9_3) == 47) = true := beq_iff_eq.mpr c25
                            have c25b1 : ((bt a1 x9_3) != 47) = false := bne_eq_false_iff_eq.mpr c25
                            clear c25
                            have H' := Aside0.mk H
                            clear H
                            have p24 : 0 ≤ (x9_3 : Int) := of_decide_eq_true (by first | (with_reducible assumption) | assumption)
                            have q24 : x9_3 < (a1.size : Int) := of_decide_eq_true (by first | (with_reducible assumption) | assumption)
                            have hx24 := bt_at a1 x9_3
                            replace p24 := eq_true p24
                            replace q24 := eq_true q24
                            go_wp2
                            go_roundg k3
                            case measure => have := HJ3.out; have := HK2.out; have := HK3.out; omega
                            case rel => exact ⟨(wrap64 (x6_3 + 1)), (wrap64 (x9_3 + 1)), (by first | rfl | (simp; done) | (simp [*]; done)), (by first | rfl | (simp; done) | (simp [*]; done)), H', ⟨by have := HJ3.out; have := HK2.out; have := HK3.out; omega⟩, ⟨by repeat (first | (with_reducible first | exact HB.out | apply below_alloc | apply pw_below_drewN | apply below_drew1) | exact HB.out)⟩⟩
                          · rw [if_neg c25] at H
                            have c25b0 : ((bt a1 x9_3) == 47) = false := beq_eq_false_iff_ne.mpr c25
                            have c25b1 : ((bt a1 x9_3) != 47) = true := bne_iff_ne.mpr c25
                            have H' := Aside0.mk H
                            clear H
                            have p24 : 0 ≤ (x9_3 : Int) := of_decide_eq_true (by first | (with_reducible assumption) | assumption)
                            have q24 : x9_3 < (a1.size : Int) := of_decide_eq_true (by first | (with_reducible assumption) | assumption)
                            have hx24 := bt_at a1 x9_3
                            replace p24 := eq_true p24
                            replace q24 := eq_true q24
                            go_wp2
                            go_roundg k3
                            case measure => have := HJ3.out; have := HK2.out; have := HK3.out; omega
                            case rel => exact ⟨(x6_3), (wrap64 (x9_3 + 1)), (by first | rfl | (simp; done) | (simp [*]; done)), (by first | rfl | (simp; done) | (simp [*]; done)), H', ⟨by have := HJ3.out; have := HK2.out; have := HK3.out; omega⟩, ⟨by repeat (first | (with_reducible first | exact HB.out | apply below_alloc | apply pw_below_drewN | apply below_drew1) | exact HB.out)⟩⟩
                        · rw [if_neg c23] at H
                          exact absurd H (by simp)
                      · rw [if_neg c22] at H
                        have c22b0 : decide (x9_3 < (a1.size : Int)) = false := decide_eq_false c22
                        clear c22
                        replace H := Option.bind_eq_some_iff.mp H
                        obtain ⟨t132, A260, H⟩ := H
                        replace H : (if t132.toList = a0.toList then ((text_Words.f a0).bind fun t133 => ((cooperagelaw1_same.f k3 t133 (([a0] : List ByteArray))).bind fun t139 => (if t139 = true then ((text_Path.f ((a0 ++ (⟨#[47]⟩ : ByteArray)) ++ a1)).bind fun t140 => (if (((a0 ++ (⟨#[47]⟩ : ByteArray)) ++ a1).size : Int) ≤ 100 then (if (t140 == (decide (x6_3 ≤ 8))) = true then (if a0.size + 1 ≤ 9223372036854775807 then ((text_Path.f (a0 ++ (⟨#[47]⟩ : ByteArray))).bind fun t141 => (if t141 = true then (some false) else (if 1 + a0.size ≤ 9223372036854775807 then ((text_Path.f ((⟨#[47]⟩ : ByteArray) ++ a0)).bind fun t142 => (if t142 = true then (some false) else (if a0.size + 4 ≤ 9223372036854775807 then (if (a0 ++ (⟨#[47, 46, 46, 47]⟩ : ByteArray)).size + a1.size ≤ 9223372036854775807 then ((text_Path.f ((a0 ++ (⟨#[47, 46, 46, 47]⟩ : ByteArray)) ++ a1)).bind fun t143 => (some (!t143))) else (none)) else (none)))) else (none)))) else (none)) else (some false)) else (if (t140 == false) = true then (if a0.size + 1 ≤ 9223372036854775807 then ((text_Path.f (a0 ++ (⟨#[47]⟩ : ByteArray))).bind fun t144 => (if t144 = true then (some false) else (if 1 + a0.size ≤ 9223372036854775807 then ((text_Path.f ((⟨#[47]⟩ : ByteArray) ++ a0)).bind fun t145 => (if t145 = true then (some false) else (if a0.size + 4 ≤ 9223372036854775807 then (if (a0 ++ (⟨#[47, 46, 46, 47]⟩ : ByteArray)).size + a1.size ≤ 9223372036854775807 then ((text_Path.f ((a0 ++ (⟨#[47, 46, 46, 47]⟩ : ByteArray)) ++ a1)).bind fun t146 => (some (!t146))) else (none)) else (none)))) else (none)))) else (none)) else (some false)))) else (some false)))) else (some false)) = some r := H
                        have A26 := Aside0.mk A260
                        clear A260
                        by_cases c27 : t132.toList = a0.toList
                        · rw [if_pos c27] at H
                          have c27b0 : (t132.toList == a0.toList) = true := beq_iff_eq.mpr c27
                          have c27b1 : (t132.toList != a0.toList) = false := bne_eq_false_iff_eq.mpr c27
                          clear c27
                          replace H := Option.bind_eq_some_iff.mp H
                          obtain ⟨t133, A280, H⟩ := H
                          replace H : ((cooperagelaw1_same.f k3 t133 (([a0] : List ByteArray))).bind fun t139 => (if t139 = true then ((text_Path.f ((a0 ++ (⟨#[47]⟩ : ByteArray)) ++ a1)).bind fun t140 => (if (((a0 ++ (⟨#[47]⟩ : ByteArray)) ++ a1).size : Int) ≤ 100 then (if (t140 == (decide (x6_3 ≤ 8))) = true then (if a0.size + 1 ≤ 9223372036854775807 then ((text_Path.f (a0 ++ (⟨#[47]⟩ : ByteArray))).bind fun t141 => (if t141 = true then (some false) else (if 1 + a0.size ≤ 9223372036854775807 then ((text_Path.f ((⟨#[47]⟩ : ByteArray) ++ a0)).bind fun t142 => (if t142 = true then (some false) else (if a0.size + 4 ≤ 9223372036854775807 then (if (a0 ++ (⟨#[47, 46, 46, 47]⟩ : ByteArray)).size + a1.size ≤ 9223372036854775807 then ((text_Path.f ((a0 ++ (⟨#[47, 46, 46, 47]⟩ : ByteArray)) ++ a1)).bind fun t143 => (some (!t143))) else (none)) else (none)))) else (none)))) else (none)) else (some false)) else (if (t140 == false) = true then (if a0.size + 1 ≤ 9223372036854775807 then ((text_Path.f (a0 ++ (⟨#[47]⟩ : ByteArray))).bind fun t144 => (if t144 = true then (some false) else (if 1 + a0.size ≤ 9223372036854775807 then ((text_Path.f ((⟨#[47]⟩ : ByteArray) ++ a0)).bind fun t145 => (if t145 = true then (some false) else (if a0.size + 4 ≤ 9223372036854775807 then (if (a0 ++ (⟨#[47, 46, 46, 47]⟩ : ByteArray)).size + a1.size ≤ 9223372036854775807 then ((text_Path.f ((a0 ++ (⟨#[47, 46, 46, 47]⟩ : ByteArray)) ++ a1)).bind fun t146 => (some (!t146))) else (none)) else (none)))) else (none)))) else (none)) else (some false)))) else (some false))) = some r := H
                          have A28 := Aside0.mk A280
                          clear A280
                          obtain ⟨y136, hy136⟩ : ∃ y_ : List ByteArray, y_ = (([a0] : List ByteArray)) := ⟨_, rfl⟩
                          replace H : ((cooperagelaw1_same.f k3 t133 y136).bind fun t139 => (if t139 = true then ((text_Path.f ((a0 ++ (⟨#[47]⟩ : ByteArray)) ++ a1)).bind fun t140 => (if (((a0 ++ (⟨#[47]⟩ : ByteArray)) ++ a1).size : Int) ≤ 100 then (if (t140 == (decide (x6_3 ≤ 8))) = true then (if a0.size + 1 ≤ 9223372036854775807 then ((text_Path.f (a0 ++ (⟨#[47]⟩ : ByteArray))).bind fun t141 => (if t141 = true then (some false) else (if 1 + a0.size ≤ 9223372036854775807 then ((text_Path.f ((⟨#[47]⟩ : ByteArray) ++ a0)).bind fun t142 => (if t142 = true then (some false) else (if a0.size + 4 ≤ 9223372036854775807 then (if (a0 ++ (⟨#[47, 46, 46, 47]⟩ : ByteArray)).size + a1.size ≤ 9223372036854775807 then ((text_Path.f ((a0 ++ (⟨#[47, 46, 46, 47]⟩ : ByteArray)) ++ a1)).bind fun t143 => (some (!t143))) else (none)) else (none)))) else (none)))) else (none)) else (some false)) else (if (t140 == false) = true then (if a0.size + 1 ≤ 9223372036854775807 then ((text_Path.f (a0 ++ (⟨#[47]⟩ : ByteArray))).bind fun t144 => (if t144 = true then (some false) else (if 1 + a0.size ≤ 9223372036854775807 then ((text_Path.f ((⟨#[47]⟩ : ByteArray) ++ a0)).bind fun t145 => (if t145 = true then (some false) else (if a0.size + 4 ≤ 9223372036854775807 then (if (a0 ++ (⟨#[47, 46, 46, 47]⟩ : ByteArray)).size + a1.size ≤ 9223372036854775807 then ((text_Path.f ((a0 ++ (⟨#[47, 46, 46, 47]⟩ : ByteArray)) ++ a1)).bind fun t146 => (some (!t146))) else (none)) else (none)))) else (none)))) else (none)) else (some false)))) else (some false))) = some r := by first | (rw [hy136]; with_reducible exact H) | (have H2_ := (Option.bind_some _ _).symm.trans H; rw [hy136]; with_reducible exact H2_) | (have H2_ := (Option.bind_some _ _).symm.trans H; with_reducible exact H2_) | with_reducible exact H | (rw [hy136]; exact H) | exact H
                          have Ny136 := Aside0.mk hy136
                          clear hy136
                          replace H := Option.bind_eq_some_iff.mp H
                          obtain ⟨t139, A290, H⟩ := H
                          replace H : (if t139 = true then ((text_Path.f ((a0 ++ (⟨#[47]⟩ : ByteArray)) ++ a1)).bind fun t140 => (if (((a0 ++ (⟨#[47]⟩ : ByteArray)) ++ a1).size : Int) ≤ 100 then (if (t140 == (decide (x6_3 ≤ 8))) = true then (if a0.size + 1 ≤ 9223372036854775807 then ((text_Path.f (a0 ++ (⟨#[47]⟩ : ByteArray))).bind fun t141 => (if t141 = true then (some false) else (if 1 + a0.size ≤ 9223372036854775807 then ((text_Path.f ((⟨#[47]⟩ : ByteArray) ++ a0)).bind fun t142 => (if t142 = true then (some false) else (if a0.size + 4 ≤ 9223372036854775807 then (if (a0 ++ (⟨#[47, 46, 46, 47]⟩ : ByteArray)).size + a1.size ≤ 9223372036854775807 then ((text_Path.f ((a0 ++ (⟨#[47, 46, 46, 47]⟩ : ByteArray)) ++ a1)).bind fun t143 => (some (!t143))) else (none)) else (none)))) else (none)))) else (none)) else (some false)) else (if (t140 == false) = true then (if a0.size + 1 ≤ 9223372036854775807 then ((text_Path.f (a0 ++ (⟨#[47]⟩ : ByteArray))).bind fun t144 => (if t144 = true then (some false) else (if 1 + a0.size ≤ 9223372036854775807 then ((text_Path.f ((⟨#[47]⟩ : ByteArray) ++ a0)).bind fun t145 => (if t145 = true then (some false) else (if a0.size + 4 ≤ 9223372036854775807 then (if (a0 ++ (⟨#[47, 46, 46, 47]⟩ : ByteArray)).size + a1.size ≤ 9223372036854775807 then ((text_Path.f ((a0 ++ (⟨#[47, 46, 46, 47]⟩ : ByteArray)) ++ a1)).bind fun t146 => (some (!t146))) else (none)) else (none)))) else (none)))) else (none)) else (some false)))) else (some false)) = some r := H
                          have A29 := Aside0.mk A290
                          clear A290
                          by_cases c30 : t139 = true
                          · subst c30
                            have H1 : ((text_Path.f ((a0 ++ (⟨#[47]⟩ : ByteArray)) ++ a1)).bind fun t140 => (if (((a0 ++ (⟨#[47]⟩ : ByteArray)) ++ a1).size : Int) ≤ 100 then (if (t140 == (decide (x6_3 ≤ 8))) = true then (if a0.size + 1 ≤ 9223372036854775807 then ((text_Path.f (a0 ++ (⟨#[47]⟩ : ByteArray))).bind fun t141 => (if t141 = true then (some false) else (if 1 + a0.size ≤ 9223372036854775807 then ((text_Path.f ((⟨#[47]⟩ : ByteArray) ++ a0)).bind fun t142 => (if t142 = true then (some false) else (if a0.size + 4 ≤ 9223372036854775807 then (if (a0 ++ (⟨#[47, 46, 46, 47]⟩ : ByteArray)).size + a1.size ≤ 9223372036854775807 then ((text_Path.f ((a0 ++ (⟨#[47, 46, 46, 47]⟩ : ByteArray)) ++ a1)).bind fun t143 => (some (!t143))) else (none)) else (none)))) else (none)))) else (none)) else (some false)) else (if (t140 == false) = true then (if a0.size + 1 ≤ 9223372036854775807 then ((text_Path.f (a0 ++ (⟨#[47]⟩ : ByteArray))).bind fun t144 => (if t144 = true then (some false) else (if 1 + a0.size ≤ 9223372036854775807 then ((text_Path.f ((⟨#[47]⟩ : ByteArray) ++ a0)).bind fun t145 => (if t145 = true then (some false) else (if a0.size + 4 ≤ 9223372036854775807 then (if (a0 ++ (⟨#[47, 46, 46, 47]⟩ : ByteArray)).size + a1.size ≤ 9223372036854775807 then ((text_Path.f ((a0 ++ (⟨#[47, 46, 46, 47]⟩ : ByteArray)) ++ a1)).bind fun t146 => (some (!t146))) else (none)) else (none)))) else (none)))) else (none)) else (some false)))) = some r := by rw [if_pos rfl] at H; exact H
                            clear H
                            have H := H1
                            clear H1
                            replace H := Option.bind_eq_some_iff.mp H
                            obtain ⟨t140, A310, H⟩ := H
                            replace H : (if (((a0 ++ (⟨#[47]⟩ : ByteArray)) ++ a1).size : Int) ≤ 100 then (if (t140 == (decide (x6_3 ≤ 8))) = true then (if a0.size + 1 ≤ 9223372036854775807 then ((text_Path.f (a0 ++ (⟨#[47]⟩ : ByteArray))).bind fun t141 => (if t141 = true then (some false) else (if 1 + a0.size ≤ 9223372036854775807 then ((text_Path.f ((⟨#[47]⟩ : ByteArray) ++ a0)).bind fun t142 => (if t142 = true then (some false) else (if a0.size + 4 ≤ 9223372036854775807 then (if (a0 ++ (⟨#[47, 46, 46, 47]⟩ : ByteArray)).size + a1.size ≤ 9223372036854775807 then ((text_Path.f ((a0 ++ (⟨#[47, 46, 46, 47]⟩ : ByteArray)) ++ a1)).bind fun t143 => (some (!t143))) else (none)) else (none)))) else (none)))) else (none)) else (some false)) else (if (t140 == false) = true then (if a0.size + 1 ≤ 9223372036854775807 then ((text_Path.f (a0 ++ (⟨#[47]⟩ : ByteArray))).bind fun t144 => (if t144 = true then (some false) else (if 1 + a0.size ≤ 9223372036854775807 then ((text_Path.f ((⟨#[47]⟩ : ByteArray) ++ a0)).bind fun t145 => (if t145 = true then (some false) else (if a0.size + 4 ≤ 9223372036854775807 then (if (a0 ++ (⟨#[47, 46, 46, 47]⟩ : ByteArray)).size + a1.size ≤ 9223372036854775807 then ((text_Path.f ((a0 ++ (⟨#[47, 46, 46, 47]⟩ : ByteArray)) ++ a1)).bind fun t146 => (some (!t146))) else (none)) else (none)))) else (none)))) else (none)) else (some false))) = some r := H
                            have A31 := Aside0.mk A310
                            clear A310
                            by_cases c32 : (((a0 ++ (⟨#[47]⟩ : ByteArray)) ++ a1).size : Int) ≤ 100
                            · rw [if_pos c32] at H
                              have c32b0 : decide ((((a0 ++ (⟨#[47]⟩ : ByteArray)) ++ a1).size : Int) ≤ 100) = true := decide_eq_true c32
                              try (have c32p := of_decide_eq_true c32b0; simp only [ByteArray.size_append, (show ((⟨#[47]⟩ : ByteArray)).size = 1 from rfl)] at c32p; push_cast at c32p)
                              have c32b1 : decide (((a0 ++ (⟨#[47]⟩ : ByteArray)) ++ a1).size ≤ 100) = true := decide_eq_true (by omega)
                              clear c32
                              by_cases c33 : (t140 == (decide (x6_3 ≤ 8))) = true
                              · rw [if_pos c33] at H
                                have c33b0 : (t140 == (decide (x6_3 ≤ 8))) = true := c33
                                (try (have c33b1 : decide (t140 = (decide (x6_3 ≤ 8))) = true := by simpa using c33))
                                (try (have c33b2 : (t140 == (decide (x6_3 ≤ 8))) = true := by simpa using c33))
                                clear c33
                                by_cases c34 : a0.size + 1 ≤ 9223372036854775807
                                · rw [if_pos c34] at H
                                  have c34b0 := eq_true c34
                                  have c34b1 : decide (a0.size + 1 ≤ 9223372036854775807) = true := decide_eq_true c34
                                  try have c34b2 : (9223372036854775807 < a0.size + 1) = False := eq_false (Nat.not_lt.2 c34)
                                  replace H := Option.bind_eq_some_iff.mp H
                                  obtain ⟨t141, A350, H⟩ := H
                                  replace H : (if t141 = true then (some false) else (if 1 + a0.size ≤ 9223372036854775807 then ((text_Path.f ((⟨#[47]⟩ : ByteArray) ++ a0)).bind fun t142 => (if t142 = true then (some false) else (if a0.size + 4 ≤ 9223372036854775807 then (if (a0 ++ (⟨#[47, 46, 46, 47]⟩ : ByteArray)).size + a1.size ≤ 9223372036854775807 then ((text_Path.f ((a0 ++ (⟨#[47, 46, 46, 47]⟩ : ByteArray)) ++ a1)).bind fun t143 => (some (!t143))) else (none)) else (none)))) else (none))) = some r := H
                                  have A35 := Aside0.mk A350
                                  clear A350
                                  by_cases c36 : t141 = true
                                  · subst c36
                                    have H1 : (some false) = some r := by rw [if_pos rfl] at H; exact H
                                    clear H
                                    have H := H1
                                    clear H1
                                    obtain rfl := Option.some.inj H
                                    go_wp2_with (first | ((with_reducible refine gate_callee (f := 22) rfl ?_); refine goesL_ (some 63) rfl rfl Tryd.func22 (by kernel_rfl) rfl #[.string a0] rfl (by (try simp only [List.map_toArray, List.map_cons, List.map_nil]); first | done | rfl | (simp only [List.length_drop, List.length_take]; rfl)) ?_; (with_reducible refine (text_Quote.calls a0 t132 _ A26.out).mono ?_); rintro e w37 ⟨rfl, hb⟩; refine ⟨_, rfl, ?_⟩; have n0_ := Aside0.mk (below_step (by repeat (first | (with_reducible first | exact HB.out | apply below_alloc | apply pw_below_drewN | apply below_drew1) | exact HB.out)) hb); clear HB; have HB := n0_; clear n0_; (try clear hb); (try clear hb2); (try clear hk); (try clear hi)) | (go_at_call 24; (with_reducible refine (text_Words.calls a0 t133 _ A28.out).mono ?_); rintro e w38 ⟨v134, rfl, ho0, hb⟩; have n0_ := Aside0.mk (Kd.R_lower ho0 (below_size (by repeat (first | (with_reducible first | exact HB.out | apply below_alloc | apply pw_below_drewN | apply below_drew1) | exact HB.out)))); have n1_ := Aside0.mk (below_step (by repeat (first | (with_reducible first | exact HB.out | apply below_alloc | apply pw_below_drewN | apply below_drew1) | exact HB.out)) hb); clear HB; have HO135 := n0_; have HB := n1_; clear n0_ n1_; (try clear hb); (try clear hb2); (try clear hk); (try clear hi); (try clear ho0)) | ((with_reducible refine gate_dst (N := 70) rfl ?_); (try (refine gate_guard (by rfl) ?_; dsimp only)); refine Kd.R_lit Kd.string _ 9 ?hg (N := 70) ?hd (xs := ([a0] : List ByteArray)) (inner := [.string a0]) (ok := fun _ => True) (okp := fun _ => True) ?hr ?hp (fun _ hk => hk) trivial (Below.refl _ _) (Nat.le_refl _) (by simp) ?_; (case hd => rfl); (case hg => rfl); (case hr => first | (go_simp; done) | (go_simp; rfl)); (case hp => exact (Reps.one (show Kd.M Kd.string _ _ _ a0 [.string a0] from rfl) (Reps.none _ _))); intro v137 w39 ho40 hb hg_ hnew_; clear hg_ hnew_; (first | rw [← Ny136.out] at ho40 | (simp only [Int.reduceToNat] at ho40; rw [← Ny136.out] at ho40)); have n0_ := Aside0.mk (Kd.R_elder' (by (with_reducible repeat (first | apply Kd.R_alloc | apply Kd.R_drewN | apply Kd.R_drew)); exact HO135.out) (Kd.R_base ho40) hb); have n1_ := Aside0.mk (Kd.R_lower (Kd.R_new' ho40 (Kd.R_lt (by (with_reducible repeat (first | apply Kd.R_alloc | apply Kd.R_drewN | apply Kd.R_drew)); exact HO135.out))) (below_size (by repeat (first | (with_reducible first | exact HB.out | apply below_alloc | apply pw_below_drewN | apply below_drew1) | exact HB.out)))); have n2_ := Aside0.mk (below_step (by repeat (first | (with_reducible first | exact HB.out | apply below_alloc | apply pw_below_drewN | apply below_drew1) | exact HB.out)) hb); clear HO135; clear HB; have HO135 := n0_; have HO138 := n1_; have HB := n2_; clear n0_ n1_ n2_; clear hb ho40; obtain ⟨Ao41, co41, eo41⟩ := Kd.R_slice HO135.out; subst eo41; obtain ⟨Ao42, co42, eo42⟩ := Kd.R_slice HO138.out; subst eo42) | (go_at_call 23; (with_reducible refine (cooperagelaw1_same.calls k3 _ _ t133 _ _ y136 true _ ?side1 ?side2 ?side3 ?side4 A29.out).mono ?_); (case side1 => repeat (first | exact (Kd.R_reads' HO135.out).2.2 | (with_reducible refine Kd.C_alloc ?_ _) | (with_reducible refine Kd.C_drewN ?_ _) | (with_reducible refine Kd.C_drew ?_))); (case side2 => exact (Kd.R_reads' HO135.out).2.1); (case side3 => repeat (first | exact (Kd.R_reads' HO138.out).2.2 | (with_reducible refine Kd.C_alloc ?_ _) | (with_reducible refine Kd.C_drewN ?_ _) | (with_reducible refine Kd.C_drew ?_))); (case side4 => exact (Kd.R_reads' HO138.out).2.1); rintro e w' ⟨rfl, ⟨nd, rfl⟩⟩) | (go_at_call 21; (with_reducible refine (text_Path.calls ((a0 ++ (⟨#[47]⟩ : ByteArray)) ++ a1) t140 _ ?side1 A31.out).mono ?_); (case side1 => exact Hand.Glob.below hG (by repeat (first | (with_reducible first | exact HB.out | apply below_alloc | apply pw_below_drewN | apply below_drew1) | exact HB.out))); rintro e w43 ⟨rfl, hb⟩; have n0_ := Aside0.mk (Kd.R_below (by (with_reducible repeat (first | apply Kd.R_alloc | apply Kd.R_drewN | apply Kd.R_drew)); exact HO135.out) hb); have n1_ := Aside0.mk (Kd.R_below (by (with_reducible repeat (first | apply Kd.R_alloc | apply Kd.R_drewN | apply Kd.R_drew)); exact HO138.out) hb); have n2_ := Aside0.mk (below_step (by repeat (first | (with_reducible first | exact HB.out | apply below_alloc | apply pw_below_drewN | apply below_drew1) | exact HB.out)) hb); clear HO135; clear HO138; clear HB; have HO135 := n0_; have HO138 := n1_; have HB := n2_; clear n0_ n1_ n2_; (try clear hb); (try clear hb2); (try clear hk); (try clear hi)) | (go_at_call 21; (with_reducible refine (text_Path.calls (a0 ++ (⟨#[47]⟩ : ByteArray)) true _ ?side1 A35.out).mono ?_); (case side1 => exact Hand.Glob.below hG (by repeat (first | (with_reducible first | exact HB.out | apply below_alloc | apply pw_below_drewN | apply below_drew1) | exact HB.out))); rintro e w44 ⟨rfl, hb⟩; have n0_ := Aside0.mk (Kd.R_below (by (with_reducible repeat (first | apply Kd.R_alloc | apply Kd.R_drewN | apply Kd.R_drew)); exact HO135.out) hb); have n1_ := Aside0.mk (Kd.R_below (by (with_reducible repeat (first | apply Kd.R_alloc | apply Kd.R_drewN | apply Kd.R_drew)); exact HO138.out) hb); have n2_ := Aside0.mk (below_step (by repeat (first | (with_reducible first | exact HB.out | apply below_alloc | apply pw_below_drewN | apply below_drew1) | exact HB.out)) hb); clear HO135; clear HO138; clear HB; have HO135 := n0_; have HO138 := n1_; have HB := n2_; clear n0_ n1_ n2_; (try clear hb); (try clear hb2); (try clear hk); (try clear hi)))
                                    go_ret
                                    exact ⟨by first | rfl | (simp [errW_none, errW_some] <;> rfl) | (simp [*, errW_none, errW_some] <;> rfl) | (simp [errW_none, errW_some]; cases a0.toList <;> rfl), by repeat (first | (with_reducible first | exact HB.out | apply below_alloc | apply pw_below_drewN | apply below_drew1) | exact HB.out)⟩
                                  · replace c36 := Bool.eq_false_iff.mpr c36
                                    subst c36
                                    have H1 : (if 1 + a0.size ≤ 9223372036854775807 then ((text_Path.f ((⟨#[47]⟩ : ByteArray) ++ a0)).bind fun t142 => (if t142 = true then (some false) else (if a0.size + 4 ≤ 9223372036854775807 then (if (a0 ++ (⟨#[47, 46, 46, 47]⟩ : ByteArray)).size + a1.size ≤ 9223372036854775807 then ((text_Path.f ((a0 ++ (⟨#[47, 46, 46, 47]⟩ : ByteArray)) ++ a1)).bind fun t143 => (some (!t143))) else (none)) else (none)))) else (none)) = some r := by rw [if_neg (show ¬ (false = true) by decide)] at H; exact H
                                    clear H
                                    have H := H1
                                    clear H1
                                    by_cases c45 : 1 + a0.size ≤ 9223372036854775807
                                    · rw [if_pos c45] at H
                                      have c45b0 := eq_true c45
                                      have c45b1 : decide (1 + a0.size ≤ 9223372036854775807) = true := decide_eq_true c45
                                      try have c45b2 : (9223372036854775807 < 1 + a0.size) = False := eq_false (Nat.not_lt.2 c45)
                                      replace H := Option.bind_eq_some_iff.mp H
                                      obtain ⟨t142, A460, H⟩ := H
                                      replace H : (if t142 = true then (some false) else (if a0.size + 4 ≤ 9223372036854775807 then (if (a0 ++ (⟨#[47, 46, 46, 47]⟩ : ByteArray)).size + a1.size ≤ 9223372036854775807 then ((text_Path.f ((a0 ++ (⟨#[47, 46, 46, 47]⟩ : ByteArray)) ++ a1)).bind fun t143 => (some (!t143))) else (none)) else (none))) = some r := H
                                      have A46 := Aside0.mk A460
                                      clear A460
                                      by_cases c47 : t142 = true
                                      · subst c47
                                        have H1 : (some false) = some r := by rw [if_pos rfl] at H; exact H
                                        clear H
                                        have H := H1
                                        clear H1
                                        obtain rfl := Option.some.inj H
                                        go_wp2_with (first | ((with_reducible refine gate_callee (f := 22) rfl ?_); refine goesL_ (some 63) rfl rfl Tryd.func22 (by kernel_rfl) rfl #[.string a0] rfl (by (try simp only [List.map_toArray, List.map_cons, List.map_nil]); first | done | rfl | (simp only [List.length_drop, List.length_take]; rfl)) ?_; (with_reducible refine (text_Quote.calls a0 t132 _ A26.out).mono ?_); rintro e w48 ⟨rfl, hb⟩; refine ⟨_, rfl, ?_⟩; have n0_ := Aside0.mk (below_step (by repeat (first | (with_reducible first | exact HB.out | apply below_alloc | apply pw_below_drewN | apply below_drew1) | exact HB.out)) hb); clear HB; have HB := n0_; clear n0_; (try clear hb); (try clear hb2); (try clear hk); (try clear hi)) | (go_at_call 24; (with_reducible refine (text_Words.calls a0 t133 _ A28.out).mono ?_); rintro e w49 ⟨v134, rfl, ho0, hb⟩; have n0_ := Aside0.mk (Kd.R_lower ho0 (below_size (by repeat (first | (with_reducible first | exact HB.out | apply below_alloc | apply pw_below_drewN | apply below_drew1) | exact HB.out)))); have n1_ := Aside0.mk (below_step (by repeat (first | (with_reducible first | exact HB.out | apply below_alloc | apply pw_below_drewN | apply below_drew1) | exact HB.out)) hb); clear HB; have HO135 := n0_; have HB := n1_; clear n0_ n1_; (try clear hb); (try clear hb2); (try clear hk); (try clear hi); (try clear ho0)) | ((with_reducible refine gate_dst (N := 70) rfl ?_); (try (refine gate_guard (by rfl) ?_; dsimp only)); refine Kd.R_lit Kd.string _ 9 ?hg (N := 70) ?hd (xs := ([a0] : List ByteArray)) (inner := [.string a0]) (ok := fun _ => True) (okp := fun _ => True) ?hr ?hp (fun _ hk => hk) trivial (Below.refl _ _) (Nat.le_refl _) (by simp) ?_; (case hd => rfl); (case hg => rfl); (case hr => first | (go_simp; done) | (go_simp; rfl)); (case hp => exact (Reps.one (show Kd.M Kd.string _ _ _ a0 [.string a0] from rfl) (Reps.none _ _))); intro v137 w50 ho51 hb hg_ hnew_; clear hg_ hnew_; (first | rw [← Ny136.out] at ho51 | (simp only [Int.reduceToNat] at ho51; rw [← Ny136.out] at ho51)); have n0_ := Aside0.mk (Kd.R_elder' (by (with_reducible repeat (first | apply Kd.R_alloc | apply Kd.R_drewN | apply Kd.R_drew)); exact HO135.out) (Kd.R_base ho51) hb); have n1_ := Aside0.mk (Kd.R_lower (Kd.R_new' ho51 (Kd.R_lt (by (with_reducible repeat (first | apply Kd.R_alloc | apply Kd.R_drewN | apply Kd.R_drew)); exact HO135.out))) (below_size (by repeat (first | (with_reducible first | exact HB.out | apply below_alloc | apply pw_below_drewN | apply below_drew1) | exact HB.out)))); have n2_ := Aside0.mk (below_step (by repeat (first | (with_reducible first | exact HB.out | apply below_alloc | apply pw_below_drewN | apply below_drew1) | exact HB.out)) hb); clear HO135; clear HB; have HO135 := n0_; have HO138 := n1_; have HB := n2_; clear n0_ n1_ n2_; clear hb ho51; obtain ⟨Ao52, co52, eo52⟩ := Kd.R_slice HO135.out; subst eo52; obtain ⟨Ao53, co53, eo53⟩ := Kd.R_slice HO138.out; subst eo53) | (go_at_call 23; (with_reducible refine (cooperagelaw1_same.calls k3 _ _ t133 _ _ y136 true _ ?side1 ?side2 ?side3 ?side4 A29.out).mono ?_); (case side1 => repeat (first | exact (Kd.R_reads' HO135.out).2.2 | (with_reducible refine Kd.C_alloc ?_ _) | (with_reducible refine Kd.C_drewN ?_ _) | (with_reducible refine Kd.C_drew ?_))); (case side2 => exact (Kd.R_reads' HO135.out).2.1); (case side3 => repeat (first | exact (Kd.R_reads' HO138.out).2.2 | (with_reducible refine Kd.C_alloc ?_ _) | (with_reducible refine Kd.C_drewN ?_ _) | (with_reducible refine Kd.C_drew ?_))); (case side4 => exact (Kd.R_reads' HO138.out).2.1); rintro e w' ⟨rfl, ⟨nd, rfl⟩⟩) | (go_at_call 21; (with_reducible refine (text_Path.calls ((a0 ++ (⟨#[47]⟩ : ByteArray)) ++ a1) t140 _ ?side1 A31.out).mono ?_); (case side1 => exact Hand.Glob.below hG (by repeat (first | (with_reducible first | exact HB.out | apply below_alloc | apply pw_below_drewN | apply below_drew1) | exact HB.out))); rintro e w54 ⟨rfl, hb⟩; have n0_ := Aside0.mk (Kd.R_below (by (with_reducible repeat (first | apply Kd.R_alloc | apply Kd.R_drewN | apply Kd.R_drew)); exact HO135.out) hb); have n1_ := Aside0.mk (Kd.R_below (by (with_reducible repeat (first | apply Kd.R_alloc | apply Kd.R_drewN | apply Kd.R_drew)); exact HO138.out) hb); have n2_ := Aside0.mk (below_step (by repeat (first | (with_reducible first | exact HB.out | apply below_alloc | apply pw_below_drewN | apply below_drew1) | exact HB.out)) hb); clear HO135; clear HO138; clear HB; have HO135 := n0_; have HO138 := n1_; have HB := n2_; clear n0_ n1_ n2_; (try clear hb); (try clear hb2); (try clear hk); (try clear hi)) | (go_at_call 21; (with_reducible refine (text_Path.calls (a0 ++ (⟨#[47]⟩ : ByteArray)) false _ ?side1 A35.out).mono ?_); (case side1 => exact Hand.Glob.below hG (by repeat (first | (with_reducible first | exact HB.out | apply below_alloc | apply pw_below_drewN | apply below_drew1) | exact HB.out))); rintro e w55 ⟨rfl, hb⟩; have n0_ := Aside0.mk (Kd.R_below (by (with_reducible repeat (first | apply Kd.R_alloc | apply Kd.R_drewN | apply Kd.R_drew)); exact HO135.out) hb); have n1_ := Aside0.mk (Kd.R_below (by (with_reducible repeat (first | apply Kd.R_alloc | apply Kd.R_drewN | apply Kd.R_drew)); exact HO138.out) hb); have n2_ := Aside0.mk (below_step (by repeat (first | (with_reducible first | exact HB.out | apply below_alloc | apply pw_below_drewN | apply below_drew1) | exact HB.out)) hb); clear HO135; clear HO138; clear HB; have HO135 := n0_; have HO138 := n1_; have HB := n2_; clear n0_ n1_ n2_; (try clear hb); (try clear hb2); (try clear hk); (try clear hi)) | (go_at_call 21; (with_reducible refine (text_Path.calls ((⟨#[47]⟩ : ByteArray) ++ a0) true _ ?side1 A46.out).mono ?_); (case side1 => exact Hand.Glob.below hG (by repeat (first | (with_reducible first | exact HB.out | apply below_alloc | apply pw_below_drewN | apply below_drew1) | exact HB.out))); rintro e w56 ⟨rfl, hb⟩; have n0_ := Aside0.mk (Kd.R_below (by (with_reducible repeat (first | apply Kd.R_alloc | apply Kd.R_drewN | apply Kd.R_drew)); exact HO135.out) hb); have n1_ := Aside0.mk (Kd.R_below (by (with_reducible repeat (first | apply Kd.R_alloc | apply Kd.R_drewN | apply Kd.R_drew)); exact HO138.out) hb); have n2_ := Aside0.mk (below_step (by repeat (first | (with_reducible first | exact HB.out | apply below_alloc | apply pw_below_drewN | apply below_drew1) | exact HB.out)) hb); clear HO135; clear HO138; clear HB; have HO135 := n0_; have HO138 := n1_; have HB := n2_; clear n0_ n1_ n2_; (try clear hb); (try clear hb2); (try clear hk); (try clear hi)))
                                        go_ret
                                        exact ⟨by first | rfl | (simp [errW_none, errW_some] <;> rfl) | (simp [*, errW_none, errW_some] <;> rfl) | (simp [errW_none, errW_some]; cases a0.toList <;> rfl), by repeat (first | (with_reducible first | exact HB.out | apply below_alloc | apply pw_below_drewN | apply below_drew1) | exact HB.out)⟩
                                      · replace c47 := Bool.eq_false_iff.mpr c47
                                        subst c47
                                        have H1 : (if a0.size + 4 ≤ 9223372036854775807 then (if (a0 ++ (⟨#[47, 46, 46, 47]⟩ : ByteArray)).size + a1.size ≤ 9223372036854775807 then ((text_Path.f ((a0 ++ (⟨#[47, 46, 46, 47]⟩ : ByteArray)) ++ a1)).bind fun t143 => (some (!t143))) else (none)) else (none)) = some r := by rw [if_neg (show ¬ (false = true) by decide)] at H; exact H
                                        clear H
                                        have H := H1
                                        clear H1
                                        by_cases c57 : a0.size + 4 ≤ 9223372036854775807
                                        · rw [if_pos c57] at H
                                          have c57b0 := eq_true c57
                                          have c57b1 : decide (a0.size + 4 ≤ 9223372036854775807) = true := decide_eq_true c57
                                          try have c57b2 : (9223372036854775807 < a0.size + 4) = False := eq_false (Nat.not_lt.2 c57)
                                          by_cases c58 : (a0 ++ (⟨#[47, 46, 46, 47]⟩ : ByteArray)).size + a1.size ≤ 9223372036854775807
                                          · rw [if_pos c58] at H
                                            have c58b0 := eq_true c58
                                            have c58b1 : decide ((a0 ++ (⟨#[47, 46, 46, 47]⟩ : ByteArray)).size + a1.size ≤ 9223372036854775807) = true := decide_eq_true c58
                                            try have c58b2 : (9223372036854775807 < (a0 ++ (⟨#[47, 46, 46, 47]⟩ : ByteArray)).size + a1.size) = False := eq_false (Nat.not_lt.2 c58)
                                            try (have c58sb0 := c58b0; simp only [ByteArray.size_append] at c58sb0)
                                            try (have c58sb1 := c58b1; simp only [ByteArray.size_append] at c58sb1)
                                            try (have c58sb2 := c58b2; simp only [ByteArray.size_append] at c58sb2)
                                            replace H := Option.bind_eq_some_iff.mp H
                                            obtain ⟨t143, A590, H⟩ := H
                                            replace H : (some (!t143)) = some r := H
                                            have A59 := Aside0.mk A590
                                            clear A590
                                            obtain rfl := Option.some.inj H
                                            go_wp2_with (first | ((with_reducible refine gate_callee (f := 22) rfl ?_); refine goesL_ (some 63) rfl rfl Tryd.func22 (by kernel_rfl) rfl #[.string a0] rfl (by (try simp only [List.map_toArray, List.map_cons, List.map_nil]); first | done | rfl | (simp only [List.length_drop, List.length_take]; rfl)) ?_; (with_reducible refine (text_Quote.calls a0 t132 _ A26.out).mono ?_); rintro e w60 ⟨rfl, hb⟩; refine ⟨_, rfl, ?_⟩; have n0_ := Aside0.mk (below_step (by repeat (first | (with_reducible first | exact HB.out | apply below_alloc | apply pw_below_drewN | apply below_drew1) | exact HB.out)) hb); clear HB; have HB := n0_; clear n0_; (try clear hb); (try clear hb2); (try clear hk); (try clear hi)) | (go_at_call 24; (with_reducible refine (text_Words.calls a0 t133 _ A28.out).mono ?_); rintro e w61 ⟨v134, rfl, ho0, hb⟩; have n0_ := Aside0.mk (Kd.R_lower ho0 (below_size (by repeat (first | (with_reducible first | exact HB.out | apply below_alloc | apply pw_below_drewN | apply below_drew1) | exact HB.out)))); have n1_ := Aside0.mk (below_step (by repeat (first | (with_reducible first | exact HB.out | apply below_alloc | apply pw_below_drewN | apply below_drew1) | exact HB.out)) hb); clear HB; have HO135 := n0_; have HB := n1_; clear n0_ n1_; (try clear hb); (try clear hb2); (try clear hk); (try clear hi); (try clear ho0)) | ((with_reducible refine gate_dst (N := 70) rfl ?_); (try (refine gate_guard (by rfl) ?_; dsimp only)); refine Kd.R_lit Kd.string _ 9 ?hg (N := 70) ?hd (xs := ([a0] : List ByteArray)) (inner := [.string a0]) (ok := fun _ => True) (okp := fun _ => True) ?hr ?hp (fun _ hk => hk) trivial (Below.refl _ _) (Nat.le_refl _) (by simp) ?_; (case hd => rfl); (case hg => rfl); (case hr => first | (go_simp; done) | (go_simp; rfl)); (case hp => exact (Reps.one (show Kd.M Kd.string _ _ _ a0 [.string a0] from rfl) (Reps.none _ _))); intro v137 w62 ho63 hb hg_ hnew_; clear hg_ hnew_; (first | rw [← Ny136.out] at ho63 | (simp only [Int.reduceToNat] at ho63; rw [← Ny136.out] at ho63)); have n0_ := Aside0.mk (Kd.R_elder' (by (with_reducible repeat (first | apply Kd.R_alloc | apply Kd.R_drewN | apply Kd.R_drew)); exact HO135.out) (Kd.R_base ho63) hb); have n1_ := Aside0.mk (Kd.R_lower (Kd.R_new' ho63 (Kd.R_lt (by (with_reducible repeat (first | apply Kd.R_alloc | apply Kd.R_drewN | apply Kd.R_drew)); exact HO135.out))) (below_size (by repeat (first | (with_reducible first | exact HB.out | apply below_alloc | apply pw_below_drewN | apply below_drew1) | exact HB.out)))); have n2_ := Aside0.mk (below_step (by repeat (first | (with_reducible first | exact HB.out | apply below_alloc | apply pw_below_drewN | apply below_drew1) | exact HB.out)) hb); clear HO135; clear HB; have HO135 := n0_; have HO138 := n1_; have HB := n2_; clear n0_ n1_ n2_; clear hb ho63; obtain ⟨Ao64, co64, eo64⟩ := Kd.R_slice HO135.out; subst eo64; obtain ⟨Ao65, co65, eo65⟩ := Kd.R_slice HO138.out; subst eo65) | (go_at_call 23; (with_reducible refine (cooperagelaw1_same.calls k3 _ _ t133 _ _ y136 true _ ?side1 ?side2 ?side3 ?side4 A29.out).mono ?_); (case side1 => repeat (first | exact (Kd.R_reads' HO135.out).2.2 | (with_reducible refine Kd.C_alloc ?_ _) | (with_reducible refine Kd.C_drewN ?_ _) | (with_reducible refine Kd.C_drew ?_))); (case side2 => exact (Kd.R_reads' HO135.out).2.1); (case side3 => repeat (first | exact (Kd.R_reads' HO138.out).2.2 | (with_reducible refine Kd.C_alloc ?_ _) | (with_reducible refine Kd.C_drewN ?_ _) | (with_reducible refine Kd.C_drew ?_))); (case side4 => exact (Kd.R_reads' HO138.out).2.1); rintro e w' ⟨rfl, ⟨nd, rfl⟩⟩) | (go_at_call 21; (with_reducible refine (text_Path.calls ((a0 ++ (⟨#[47]⟩ : ByteArray)) ++ a1) t140 _ ?side1 A31.out).mono ?_); (case side1 => exact Hand.Glob.below hG (by repeat (first | (with_reducible first | exact HB.out | apply below_alloc | apply pw_below_drewN | apply below_drew1) | exact HB.out))); rintro e w66 ⟨rfl, hb⟩; have n0_ := Aside0.mk (Kd.R_below (by (with_reducible repeat (first | apply Kd.R_alloc | apply Kd.R_drewN | apply Kd.R_drew)); exact HO135.out) hb); have n1_ := Aside0.mk (Kd.R_below (by (with_reducible repeat (first | apply Kd.R_alloc | apply Kd.R_drewN | apply Kd.R_drew)); exact HO138.out) hb); have n2_ := Aside0.mk (below_step (by repeat (first | (with_reducible first | exact HB.out | apply below_alloc | apply pw_below_drewN | apply below_drew1) | exact HB.out)) hb); clear HO135; clear HO138; clear HB; have HO135 := n0_; have HO138 := n1_; have HB := n2_; clear n0_ n1_ n2_; (try clear hb); (try clear hb2); (try clear hk); (try clear hi)) | (go_at_call 21; (with_reducible refine (text_Path.calls (a0 ++ (⟨#[47]⟩ : ByteArray)) false _ ?side1 A35.out).mono ?_); (case side1 => exact Hand.Glob.below hG (by repeat (first | (with_reducible first | exact HB.out | apply below_alloc | apply pw_below_drewN | apply below_drew1) | exact HB.out))); rintro e w67 ⟨rfl, hb⟩; have n0_ := Aside0.mk (Kd.R_below (by (with_reducible repeat (first | apply Kd.R_alloc | apply Kd.R_drewN | apply Kd.R_drew)); exact HO135.out) hb); have n1_ := Aside0.mk (Kd.R_below (by (with_reducible repeat (first | apply Kd.R_alloc | apply Kd.R_drewN | apply Kd.R_drew)); exact HO138.out) hb); have n2_ := Aside0.mk (below_step (by repeat (first | (with_reducible first | exact HB.out | apply below_alloc | apply pw_below_drewN | apply below_drew1) | exact HB.out)) hb); clear HO135; clear HO138; clear HB; have HO135 := n0_; have HO138 := n1_; have HB := n2_; clear n0_ n1_ n2_; (try clear hb); (try clear hb2); (try clear hk); (try clear hi)) | (go_at_call 21; (with_reducible refine (text_Path.calls ((⟨#[47]⟩ : ByteArray) ++ a0) false _ ?side1 A46.out).mono ?_); (case side1 => exact Hand.Glob.below hG (by repeat (first | (with_reducible first | exact HB.out | apply below_alloc | apply pw_below_drewN | apply below_drew1) | exact HB.out))); rintro e w68 ⟨rfl, hb⟩; have n0_ := Aside0.mk (Kd.R_below (by (with_reducible repeat (first | apply Kd.R_alloc | apply Kd.R_drewN | apply Kd.R_drew)); exact HO135.out) hb); have n1_ := Aside0.mk (Kd.R_below (by (with_reducible repeat (first | apply Kd.R_alloc | apply Kd.R_drewN | apply Kd.R_drew)); exact HO138.out) hb); have n2_ := Aside0.mk (below_step (by repeat (first | (with_reducible first | exact HB.out | apply below_alloc | apply pw_below_drewN | apply below_drew1) | exact HB.out)) hb); clear HO135; clear HO138; clear HB; have HO135 := n0_; have HO138 := n1_; have HB := n2_; clear n0_ n1_ n2_; (try clear hb); (try clear hb2); (try clear hk); (try clear hi)) | (go_at_call 21; (with_reducible refine (text_Path.calls ((a0 ++ (⟨#[47, 46, 46, 47]⟩ : ByteArray)) ++ a1) t143 _ ?side1 A59.out).mono ?_); (case side1 => exact Hand.Glob.below hG (by repeat (first | (with_reducible first | exact HB.out | apply below_alloc | apply pw_below_drewN | apply below_drew1) | exact HB.out))); rintro e w69 ⟨rfl, hb⟩; have n0_ := Aside0.mk (Kd.R_below (by (with_reducible repeat (first | apply Kd.R_alloc | apply Kd.R_drewN | apply Kd.R_drew)); exact HO135.out) hb); have n1_ := Aside0.mk (Kd.R_below (by (with_reducible repeat (first | apply Kd.R_alloc | apply Kd.R_drewN | apply Kd.R_drew)); exact HO138.out) hb); have n2_ := Aside0.mk (below_step (by repeat (first | (with_reducible first | exact HB.out | apply below_alloc | apply pw_below_drewN | apply below_drew1) | exact HB.out)) hb); clear HO135; clear HO138; clear HB; have HO135 := n0_; have HO138 := n1_; have HB := n2_; clear n0_ n1_ n2_; (try clear hb); (try clear hb2); (try clear hk); (try clear hi)))
                                            go_ret
                                            exact ⟨by first | rfl | (simp [errW_none, errW_some] <;> rfl) | (simp [*, errW_none, errW_some] <;> rfl) | (simp [errW_none, errW_some]; cases a0.toList <;> rfl), by repeat (first | (with_reducible first | exact HB.out | apply below_alloc | apply pw_below_drewN | apply below_drew1) | exact HB.out)⟩
                                          · rw [if_neg c58] at H
                                            exact absurd H (by simp)
                                        · rw [if_neg c57] at H
                                          exact absurd H (by simp)
                                    · rw [if_neg c45] at H
                                      exact absurd H (by simp)
                                · rw [if_neg c34] at H
                                  exact absurd H (by simp)
                              · rw [if_neg c33] at H
                                have c33b0 : (t140 == (decide (x6_3 ≤ 8))) = false := by simpa using c33
                                (try (have c33b1 : decide (t140 = (decide (x6_3 ≤ 8))) = false := by simpa using c33))
                                (try (have c33b2 : (t140 == (decide (x6_3 ≤ 8))) = false := by simpa using c33))
                                (try (have c33b3 : ¬ (t140 = (decide (x6_3 ≤ 8))) := by simpa using c33))
                                clear c33
                                obtain rfl := Option.some.inj H
                                go_wp2_with (first | ((with_reducible refine gate_callee (f := 22) rfl ?_); refine goesL_ (some 63) rfl rfl Tryd.func22 (by kernel_rfl) rfl #[.string a0] rfl (by (try simp only [List.map_toArray, List.map_cons, List.map_nil]); first | done | rfl | (simp only [List.length_drop, List.length_take]; rfl)) ?_; (with_reducible refine (text_Quote.calls a0 t132 _ A26.out).mono ?_); rintro e w70 ⟨rfl, hb⟩; refine ⟨_, rfl, ?_⟩; have n0_ := Aside0.mk (below_step (by repeat (first | (with_reducible first | exact HB.out | apply below_alloc | apply pw_below_drewN | apply below_drew1) | exact HB.out)) hb); clear HB; have HB := n0_; clear n0_; (try clear hb); (try clear hb2); (try clear hk); (try clear hi)) | (go_at_call 24; (with_reducible refine (text_Words.calls a0 t133 _ A28.out).mono ?_); rintro e w71 ⟨v134, rfl, ho0, hb⟩; have n0_ := Aside0.mk (Kd.R_lower ho0 (below_size (by repeat (first | (with_reducible first | exact HB.out | apply below_alloc | apply pw_below_drewN | apply below_drew1) | exact HB.out)))); have n1_ := Aside0.mk (below_step (by repeat (first | (with_reducible first | exact HB.out | apply below_alloc | apply pw_below_drewN | apply below_drew1) | exact HB.out)) hb); clear HB; have HO135 := n0_; have HB := n1_; clear n0_ n1_; (try clear hb); (try clear hb2); (try clear hk); (try clear hi); (try clear ho0)) | ((with_reducible refine gate_dst (N := 70) rfl ?_); (try (refine gate_guard (by rfl) ?_; dsimp only)); refine Kd.R_lit Kd.string _ 9 ?hg (N := 70) ?hd (xs := ([a0] : List ByteArray)) (inner := [.string a0]) (ok := fun _ => True) (okp := fun _ => True) ?hr ?hp (fun _ hk => hk) trivial (Below.refl _ _) (Nat.le_refl _) (by simp) ?_; (case hd => rfl); (case hg => rfl); (case hr => first | (go_simp; done) | (go_simp; rfl)); (case hp => exact (Reps.one (show Kd.M Kd.string _ _ _ a0 [.string a0] from rfl) (Reps.none _ _))); intro v137 w72 ho73 hb hg_ hnew_; clear hg_ hnew_; (first | rw [← Ny136.out] at ho73 | (simp only [Int.reduceToNat] at ho73; rw [← Ny136.out] at ho73)); have n0_ := Aside0.mk (Kd.R_elder' (by (with_reducible repeat (first | apply Kd.R_alloc | apply Kd.R_drewN | apply Kd.R_drew)); exact HO135.out) (Kd.R_base ho73) hb); have n1_ := Aside0.mk (Kd.R_lower (Kd.R_new' ho73 (Kd.R_lt (by (with_reducible repeat (first | apply Kd.R_alloc | apply Kd.R_drewN | apply Kd.R_drew)); exact HO135.out))) (below_size (by repeat (first | (with_reducible first | exact HB.out | apply below_alloc | apply pw_below_drewN | apply below_drew1) | exact HB.out)))); have n2_ := Aside0.mk (below_step (by repeat (first | (with_reducible first | exact HB.out | apply below_alloc | apply pw_below_drewN | apply below_drew1) | exact HB.out)) hb); clear HO135; clear HB; have HO135 := n0_; have HO138 := n1_; have HB := n2_; clear n0_ n1_ n2_; clear hb ho73; obtain ⟨Ao74, co74, eo74⟩ := Kd.R_slice HO135.out; subst eo74; obtain ⟨Ao75, co75, eo75⟩ := Kd.R_slice HO138.out; subst eo75) | (go_at_call 23; (with_reducible refine (cooperagelaw1_same.calls k3 _ _ t133 _ _ y136 true _ ?side1 ?side2 ?side3 ?side4 A29.out).mono ?_); (case side1 => repeat (first | exact (Kd.R_reads' HO135.out).2.2 | (with_reducible refine Kd.C_alloc ?_ _) | (with_reducible refine Kd.C_drewN ?_ _) | (with_reducible refine Kd.C_drew ?_))); (case side2 => exact (Kd.R_reads' HO135.out).2.1); (case side3 => repeat (first | exact (Kd.R_reads' HO138.out).2.2 | (with_reducible refine Kd.C_alloc ?_ _) | (with_reducible refine Kd.C_drewN ?_ _) | (with_reducible refine Kd.C_drew ?_))); (case side4 => exact (Kd.R_reads' HO138.out).2.1); rintro e w' ⟨rfl, ⟨nd, rfl⟩⟩) | (go_at_call 21; (with_reducible refine (text_Path.calls ((a0 ++ (⟨#[47]⟩ : ByteArray)) ++ a1) t140 _ ?side1 A31.out).mono ?_); (case side1 => exact Hand.Glob.below hG (by repeat (first | (with_reducible first | exact HB.out | apply below_alloc | apply pw_below_drewN | apply below_drew1) | exact HB.out))); rintro e w76 ⟨rfl, hb⟩; have n0_ := Aside0.mk (Kd.R_below (by (with_reducible repeat (first | apply Kd.R_alloc | apply Kd.R_drewN | apply Kd.R_drew)); exact HO135.out) hb); have n1_ := Aside0.mk (Kd.R_below (by (with_reducible repeat (first | apply Kd.R_alloc | apply Kd.R_drewN | apply Kd.R_drew)); exact HO138.out) hb); have n2_ := Aside0.mk (below_step (by repeat (first | (with_reducible first | exact HB.out | apply below_alloc | apply pw_below_drewN | apply below_drew1) | exact HB.out)) hb); clear HO135; clear HO138; clear HB; have HO135 := n0_; have HO138 := n1_; have HB := n2_; clear n0_ n1_ n2_; (try clear hb); (try clear hb2); (try clear hk); (try clear hi)))
                                go_ret
                                exact ⟨by first | rfl | (simp [errW_none, errW_some] <;> rfl) | (simp [*, errW_none, errW_some] <;> rfl) | (simp [errW_none, errW_some]; cases a0.toList <;> rfl), by repeat (first | (with_reducible first | exact HB.out | apply below_alloc | apply pw_below_drewN | apply below_drew1) | exact HB.out)⟩
                            · rw [if_neg c32] at H
                              have c32b0 : decide ((((a0 ++ (⟨#[47]⟩ : ByteArray)) ++ a1).size : Int) ≤ 100) = false := decide_eq_false c32
                              try (have c32p := of_decide_eq_false c32b0; simp only [ByteArray.size_append, (show ((⟨#[47]⟩ : ByteArray)).size = 1 from rfl)] at c32p; push_cast at c32p)
                              try (replace c32p := Int.not_le.1 c32p)
                              have c32b1 : decide (((a0 ++ (⟨#[47]⟩ : ByteArray)) ++ a1).size ≤ 100) = false := decide_eq_false (by omega)
                              clear c32
                              by_cases c77 : (t140 == false) = true
                              · rw [if_pos c77] at H
                                have c77b0 : (t140 == false) = true := c77
                                (try (have c77b1 : decide (t140 = false) = true := by simpa using c77))
                                (try (have c77b2 : (t140 == false) = true := by simpa using c77))
                                clear c77
                                by_cases c78 : a0.size + 1 ≤ 9223372036854775807
                                · rw [if_pos c78] at H
                                  have c78b0 := eq_true c78
                                  have c78b1 : decide (a0.size + 1 ≤ 9223372036854775807) = true := decide_eq_true c78
                                  try have c78b2 : (9223372036854775807 < a0.size + 1) = False := eq_false (Nat.not_lt.2 c78)
                                  replace H := Option.bind_eq_some_iff.mp H
                                  obtain ⟨t144, A790, H⟩ := H
                                  replace H : (if t144 = true then (some false) else (if 1 + a0.size ≤ 9223372036854775807 then ((text_Path.f ((⟨#[47]⟩ : ByteArray) ++ a0)).bind fun t145 => (if t145 = true then (some false) else (if a0.size + 4 ≤ 9223372036854775807 then (if (a0 ++ (⟨#[47, 46, 46, 47]⟩ : ByteArray)).size + a1.size ≤ 9223372036854775807 then ((text_Path.f ((a0 ++ (⟨#[47, 46, 46, 47]⟩ : ByteArray)) ++ a1)).bind fun t146 => (some (!t146))) else (none)) else (none)))) else (none))) = some r := H
                                  have A79 := Aside0.mk A790
                                  clear A790
                                  by_cases c80 : t144 = true
                                  · subst c80
                                    have H1 : (some false) = some r := by rw [if_pos rfl] at H; exact H
                                    clear H
                                    have H := H1
                                    clear H1
                                    obtain rfl := Option.some.inj H
                                    go_wp2_with (first | ((with_reducible refine gate_callee (f := 22) rfl ?_); refine goesL_ (some 63) rfl rfl Tryd.func22 (by kernel_rfl) rfl #[.string a0] rfl (by (try simp only [List.map_toArray, List.map_cons, List.map_nil]); first | done | rfl | (simp only [List.length_drop, List.length_take]; rfl)) ?_; (with_reducible refine (text_Quote.calls a0 t132 _ A26.out).mono ?_); rintro e w81 ⟨rfl, hb⟩; refine ⟨_, rfl, ?_⟩; have n0_ := Aside0.mk (below_step (by repeat (first | (with_reducible first | exact HB.out | apply below_alloc | apply pw_below_drewN | apply below_drew1) | exact HB.out)) hb); clear HB; have HB := n0_; clear n0_; (try clear hb); (try clear hb2); (try clear hk); (try clear hi)) | (go_at_call 24; (with_reducible refine (text_Words.calls a0 t133 _ A28.out).mono ?_); rintro e w82 ⟨v134, rfl, ho0, hb⟩; have n0_ := Aside0.mk (Kd.R_lower ho0 (below_size (by repeat (first | (with_reducible first | exact HB.out | apply below_alloc | apply pw_below_drewN | apply below_drew1) | exact HB.out)))); have n1_ := Aside0.mk (below_step (by repeat (first | (with_reducible first | exact HB.out | apply below_alloc | apply pw_below_drewN | apply below_drew1) | exact HB.out)) hb); clear HB; have HO135 := n0_; have HB := n1_; clear n0_ n1_; (try clear hb); (try clear hb2); (try clear hk); (try clear hi); (try clear ho0)) | ((with_reducible refine gate_dst (N := 70) rfl ?_); (try (refine gate_guard (by rfl) ?_; dsimp only)); refine Kd.R_lit Kd.string _ 9 ?hg (N := 70) ?hd (xs := ([a0] : List ByteArray)) (inner := [.string a0]) (ok := fun _ => True) (okp := fun _ => True) ?hr ?hp (fun _ hk => hk) trivial (Below.refl _ _) (Nat.le_refl _) (by simp) ?_; (case hd => rfl); (case hg => rfl); (case hr => first | (go_simp; done) | (go_simp; rfl)); (case hp => exact (Reps.one (show Kd.M Kd.string _ _ _ a0 [.string a0] from rfl) (Reps.none _ _))); intro v137 w83 ho84 hb hg_ hnew_; clear hg_ hnew_; (first | rw [← Ny136.out] at ho84 | (simp only [Int.reduceToNat] at ho84; rw [← Ny136.out] at ho84)); have n0_ := Aside0.mk (Kd.R_elder' (by (with_reducible repeat (first | apply Kd.R_alloc | apply Kd.R_drewN | apply Kd.R_drew)); exact HO135.out) (Kd.R_base ho84) hb); have n1_ := Aside0.mk (Kd.R_lower (Kd.R_new' ho84 (Kd.R_lt (by (with_reducible repeat (first | apply Kd.R_alloc | apply Kd.R_drewN | apply Kd.R_drew)); exact HO135.out))) (below_size (by repeat (first | (with_reducible first | exact HB.out | apply below_alloc | apply pw_below_drewN | apply below_drew1) | exact HB.out)))); have n2_ := Aside0.mk (below_step (by repeat (first | (with_reducible first | exact HB.out | apply below_alloc | apply pw_below_drewN | apply below_drew1) | exact HB.out)) hb); clear HO135; clear HB; have HO135 := n0_; have HO138 := n1_; have HB := n2_; clear n0_ n1_ n2_; clear hb ho84; obtain ⟨Ao85, co85, eo85⟩ := Kd.R_slice HO135.out; subst eo85; obtain ⟨Ao86, co86, eo86⟩ := Kd.R_slice HO138.out; subst eo86) | (go_at_call 23; (with_reducible refine (cooperagelaw1_same.calls k3 _ _ t133 _ _ y136 true _ ?side1 ?side2 ?side3 ?side4 A29.out).mono ?_); (case side1 => repeat (first | exact (Kd.R_reads' HO135.out).2.2 | (with_reducible refine Kd.C_alloc ?_ _) | (with_reducible refine Kd.C_drewN ?_ _) | (with_reducible refine Kd.C_drew ?_))); (case side2 => exact (Kd.R_reads' HO135.out).2.1); (case side3 => repeat (first | exact (Kd.R_reads' HO138.out).2.2 | (with_reducible refine Kd.C_alloc ?_ _) | (with_reducible refine Kd.C_drewN ?_ _) | (with_reducible refine Kd.C_drew ?_))); (case side4 => exact (Kd.R_reads' HO138.out).2.1); rintro e w' ⟨rfl, ⟨nd, rfl⟩⟩) | (go_at_call 21; (with_reducible refine (text_Path.calls ((a0 ++ (⟨#[47]⟩ : ByteArray)) ++ a1) t140 _ ?side1 A31.out).mono ?_); (case side1 => exact Hand.Glob.below hG (by repeat (first | (with_reducible first | exact HB.out | apply below_alloc | apply pw_below_drewN | apply below_drew1) | exact HB.out))); rintro e w87 ⟨rfl, hb⟩; have n0_ := Aside0.mk (Kd.R_below (by (with_reducible repeat (first | apply Kd.R_alloc | apply Kd.R_drewN | apply Kd.R_drew)); exact HO135.out) hb); have n1_ := Aside0.mk (Kd.R_below (by (with_reducible repeat (first | apply Kd.R_alloc | apply Kd.R_drewN | apply Kd.R_drew)); exact HO138.out) hb); have n2_ := Aside0.mk (below_step (by repeat (first | (with_reducible first | exact HB.out | apply below_alloc | apply pw_below_drewN | apply below_drew1) | exact HB.out)) hb); clear HO135; clear HO138; clear HB; have HO135 := n0_; have HO138 := n1_; have HB := n2_; clear n0_ n1_ n2_; (try clear hb); (try clear hb2); (try clear hk); (try clear hi)) | (go_at_call 21; (with_reducible refine (text_Path.calls (a0 ++ (⟨#[47]⟩ : ByteArray)) true _ ?side1 A79.out).mono ?_); (case side1 => exact Hand.Glob.below hG (by repeat (first | (with_reducible first | exact HB.out | apply below_alloc | apply pw_below_drewN | apply below_drew1) | exact HB.out))); rintro e w88 ⟨rfl, hb⟩; have n0_ := Aside0.mk (Kd.R_below (by (with_reducible repeat (first | apply Kd.R_alloc | apply Kd.R_drewN | apply Kd.R_drew)); exact HO135.out) hb); have n1_ := Aside0.mk (Kd.R_below (by (with_reducible repeat (first | apply Kd.R_alloc | apply Kd.R_drewN | apply Kd.R_drew)); exact HO138.out) hb); have n2_ := Aside0.mk (below_step (by repeat (first | (with_reducible first | exact HB.out | apply below_alloc | apply pw_below_drewN | apply below_drew1) | exact HB.out)) hb); clear HO135; clear HO138; clear HB; have HO135 := n0_; have HO138 := n1_; have HB := n2_; clear n0_ n1_ n2_; (try clear hb); (try clear hb2); (try clear hk); (try clear hi)))
                                    go_ret
                                    exact ⟨by first | rfl | (simp [errW_none, errW_some] <;> rfl) | (simp [*, errW_none, errW_some] <;> rfl) | (simp [errW_none, errW_some]; cases a0.toList <;> rfl), by repeat (first | (with_reducible first | exact HB.out | apply below_alloc | apply pw_below_drewN | apply below_drew1) | exact HB.out)⟩
                                  · replace c80 := Bool.eq_false_iff.mpr c80
                                    subst c80
                                    have H1 : (if 1 + a0.size ≤ 9223372036854775807 then ((text_Path.f ((⟨#[47]⟩ : ByteArray) ++ a0)).bind fun t145 => (if t145 = true then (some false) else (if a0.size + 4 ≤ 9223372036854775807 then (if (a0 ++ (⟨#[47, 46, 46, 47]⟩ : ByteArray)).size + a1.size ≤ 9223372036854775807 then ((text_Path.f ((a0 ++ (⟨#[47, 46, 46, 47]⟩ : ByteArray)) ++ a1)).bind fun t146 => (some (!t146))) else (none)) else (none)))) else (none)) = some r := by rw [if_neg (show ¬ (false = true) by decide)] at H; exact H
                                    clear H
                                    have H := H1
                                    clear H1
                                    by_cases c89 : 1 + a0.size ≤ 9223372036854775807
                                    · rw [if_pos c89] at H
                                      have c89b0 := eq_true c89
                                      have c89b1 : decide (1 + a0.size ≤ 9223372036854775807) = true := decide_eq_true c89
                                      try have c89b2 : (9223372036854775807 < 1 + a0.size) = False := eq_false (Nat.not_lt.2 c89)
                                      replace H := Option.bind_eq_some_iff.mp H
                                      obtain ⟨t145, A900, H⟩ := H
                                      replace H : (if t145 = true then (some false) else (if a0.size + 4 ≤ 9223372036854775807 then (if (a0 ++ (⟨#[47, 46, 46, 47]⟩ : ByteArray)).size + a1.size ≤ 9223372036854775807 then ((text_Path.f ((a0 ++ (⟨#[47, 46, 46, 47]⟩ : ByteArray)) ++ a1)).bind fun t146 => (some (!t146))) else (none)) else (none))) = some r := H
                                      have A90 := Aside0.mk A900
                                      clear A900
                                      by_cases c91 : t145 = true
                                      · subst c91
                                        have H1 : (some false) = some r := by rw [if_pos rfl] at H; exact H
                                        clear H
                                        have H := H1
                                        clear H1
                                        obtain rfl := Option.some.inj H
                                        go_wp2_with (first | ((with_reducible refine gate_callee (f := 22) rfl ?_); refine goesL_ (some 63) rfl rfl Tryd.func22 (by kernel_rfl) rfl #[.string a0] rfl (by (try simp only [List.map_toArray, List.map_cons, List.map_nil]); first | done | rfl | (simp only [List.length_drop, List.length_take]; rfl)) ?_; (with_reducible refine (text_Quote.calls a0 t132 _ A26.out).mono ?_); rintro e w92 ⟨rfl, hb⟩; refine ⟨_, rfl, ?_⟩; have n0_ := Aside0.mk (below_step (by repeat (first | (with_reducible first | exact HB.out | apply below_alloc | apply pw_below_drewN | apply below_drew1) | exact HB.out)) hb); clear HB; have HB := n0_; clear n0_; (try clear hb); (try clear hb2); (try clear hk); (try clear hi)) | (go_at_call 24; (with_reducible refine (text_Words.calls a0 t133 _ A28.out).mono ?_); rintro e w93 ⟨v134, rfl, ho0, hb⟩; have n0_ := Aside0.mk (Kd.R_lower ho0 (below_size (by repeat (first | (with_reducible first | exact HB.out | apply below_alloc | apply pw_below_drewN | apply below_drew1) | exact HB.out)))); have n1_ := Aside0.mk (below_step (by repeat (first | (with_reducible first | exact HB.out | apply below_alloc | apply pw_below_drewN | apply below_drew1) | exact HB.out)) hb); clear HB; have HO135 := n0_; have HB := n1_; clear n0_ n1_; (try clear hb); (try clear hb2); (try clear hk); (try clear hi); (try clear ho0)) | ((with_reducible refine gate_dst (N := 70) rfl ?_); (try (refine gate_guard (by rfl) ?_; dsimp only)); refine Kd.R_lit Kd.string _ 9 ?hg (N := 70) ?hd (xs := ([a0] : List ByteArray)) (inner := [.string a0]) (ok := fun _ => True) (okp := fun _ => True) ?hr ?hp (fun _ hk => hk) trivial (Below.refl _ _) (Nat.le_refl _) (by simp) ?_; (case hd => rfl); (case hg => rfl); (case hr => first | (go_simp; done) | (go_simp; rfl)); (case hp => exact (Reps.one (show Kd.M Kd.string _ _ _ a0 [.string a0] from rfl) (Reps.none _ _))); intro v137 w94 ho95 hb hg_ hnew_; clear hg_ hnew_; (first | rw [← Ny136.out] at ho95 | (simp only [Int.reduceToNat] at ho95; rw [← Ny136.out] at ho95)); have n0_ := Aside0.mk (Kd.R_elder' (by (with_reducible repeat (first | apply Kd.R_alloc | apply Kd.R_drewN | apply Kd.R_drew)); exact HO135.out) (Kd.R_base ho95) hb); have n1_ := Aside0.mk (Kd.R_lower (Kd.R_new' ho95 (Kd.R_lt (by (with_reducible repeat (first | apply Kd.R_alloc | apply Kd.R_drewN | apply Kd.R_drew)); exact HO135.out))) (below_size (by repeat (first | (with_reducible first | exact HB.out | apply below_alloc | apply pw_below_drewN | apply below_drew1) | exact HB.out)))); have n2_ := Aside0.mk (below_step (by repeat (first | (with_reducible first | exact HB.out | apply below_alloc | apply pw_below_drewN | apply below_drew1) | exact HB.out)) hb); clear HO135; clear HB; have HO135 := n0_; have HO138 := n1_; have HB := n2_; clear n0_ n1_ n2_; clear hb ho95; obtain ⟨Ao96, co96, eo96⟩ := Kd.R_slice HO135.out; subst eo96; obtain ⟨Ao97, co97, eo97⟩ := Kd.R_slice HO138.out; subst eo97) | (go_at_call 23; (with_reducible refine (cooperagelaw1_same.calls k3 _ _ t133 _ _ y136 true _ ?side1 ?side2 ?side3 ?side4 A29.out).mono ?_); (case side1 => repeat (first | exact (Kd.R_reads' HO135.out).2.2 | (with_reducible refine Kd.C_alloc ?_ _) | (with_reducible refine Kd.C_drewN ?_ _) | (with_reducible refine Kd.C_drew ?_))); (case side2 => exact (Kd.R_reads' HO135.out).2.1); (case side3 => repeat (first | exact (Kd.R_reads' HO138.out).2.2 | (with_reducible refine Kd.C_alloc ?_ _) | (with_reducible refine Kd.C_drewN ?_ _) | (with_reducible refine Kd.C_drew ?_))); (case side4 => exact (Kd.R_reads' HO138.out).2.1); rintro e w' ⟨rfl, ⟨nd, rfl⟩⟩) | (go_at_call 21; (with_reducible refine (text_Path.calls ((a0 ++ (⟨#[47]⟩ : ByteArray)) ++ a1) t140 _ ?side1 A31.out).mono ?_); (case side1 => exact Hand.Glob.below hG (by repeat (first | (with_reducible first | exact HB.out | apply below_alloc | apply pw_below_drewN | apply below_drew1) | exact HB.out))); rintro e w98 ⟨rfl, hb⟩; have n0_ := Aside0.mk (Kd.R_below (by (with_reducible repeat (first | apply Kd.R_alloc | apply Kd.R_drewN | apply Kd.R_drew)); exact HO135.out) hb); have n1_ := Aside0.mk (Kd.R_below (by (with_reducible repeat (first | apply Kd.R_alloc | apply Kd.R_drewN | apply Kd.R_drew)); exact HO138.out) hb); have n2_ := Aside0.mk (below_step (by repeat (first | (with_reducible first | exact HB.out | apply below_alloc | apply pw_below_drewN | apply below_drew1) | exact HB.out)) hb); clear HO135; clear HO138; clear HB; have HO135 := n0_; have HO138 := n1_; have HB := n2_; clear n0_ n1_ n2_; (try clear hb); (try clear hb2); (try clear hk); (try clear hi)) | (go_at_call 21; (with_reducible refine (text_Path.calls (a0 ++ (⟨#[47]⟩ : ByteArray)) false _ ?side1 A79.out).mono ?_); (case side1 => exact Hand.Glob.below hG (by repeat (first | (with_reducible first | exact HB.out | apply below_alloc | apply pw_below_drewN | apply below_drew1) | exact HB.out))); rintro e w99 ⟨rfl, hb⟩; have n0_ := Aside0.mk (Kd.R_below (by (with_reducible repeat (first | apply Kd.R_alloc | apply Kd.R_drewN | apply Kd.R_drew)); exact HO135.out) hb); have n1_ := Aside0.mk (Kd.R_below (by (with_reducible repeat (first | apply Kd.R_alloc | apply Kd.R_drewN | apply Kd.R_drew)); exact HO138.out) hb); have n2_ := Aside0.mk (below_step (by repeat (first | (with_reducible first | exact HB.out | apply below_alloc | apply pw_below_drewN | apply below_drew1) | exact HB.out)) hb); clear HO135; clear HO138; clear HB; have HO135 := n0_; have HO138 := n1_; have HB := n2_; clear n0_ n1_ n2_; (try clear hb); (try clear hb2); (try clear hk); (try clear hi)) | (go_at_call 21; (with_reducible refine (text_Path.calls ((⟨#[47]⟩ : ByteArray) ++ a0) true _ ?side1 A90.out).mono ?_); (case side1 => exact Hand.Glob.below hG (by repeat (first | (with_reducible first | exact HB.out | apply below_alloc | apply pw_below_drewN | apply below_drew1) | exact HB.out))); rintro e w100 ⟨rfl, hb⟩; have n0_ := Aside0.mk (Kd.R_below (by (with_reducible repeat (first | apply Kd.R_alloc | apply Kd.R_drewN | apply Kd.R_drew)); exact HO135.out) hb); have n1_ := Aside0.mk (Kd.R_below (by (with_reducible repeat (first | apply Kd.R_alloc | apply Kd.R_drewN | apply Kd.R_drew)); exact HO138.out) hb); have n2_ := Aside0.mk (below_step (by repeat (first | (with_reducible first | exact HB.out | apply below_alloc | apply pw_below_drewN | apply below_drew1) | exact HB.out)) hb); clear HO135; clear HO138; clear HB; have HO135 := n0_; have HO138 := n1_; have HB := n2_; clear n0_ n1_ n2_; (try clear hb); (try clear hb2); (try clear hk); (try clear hi)))
                                        go_ret
                                        exact ⟨by first | rfl | (simp [errW_none, errW_some] <;> rfl) | (simp [*, errW_none, errW_some] <;> rfl) | (simp [errW_none, errW_some]; cases a0.toList <;> rfl), by repeat (first | (with_reducible first | exact HB.out | apply below_alloc | apply pw_below_drewN | apply below_drew1) | exact HB.out)⟩
                                      · replace c91 := Bool.eq_false_iff.mpr c91
                                        subst c91
                                        have H1 : (if a0.size + 4 ≤ 9223372036854775807 then (if (a0 ++ (⟨#[47, 46, 46, 47]⟩ : ByteArray)).size + a1.size ≤ 9223372036854775807 then ((text_Path.f ((a0 ++ (⟨#[47, 46, 46, 47]⟩ : ByteArray)) ++ a1)).bind fun t146 => (some (!t146))) else (none)) else (none)) = some r := by rw [if_neg (show ¬ (false = true) by decide)] at H; exact H
                                        clear H
                                        have H := H1
                                        clear H1
                                        by_cases c101 : a0.size + 4 ≤ 9223372036854775807
                                        · rw [if_pos c101] at H
                                          have c101b0 := eq_true c101
                                          have c101b1 : decide (a0.size + 4 ≤ 9223372036854775807) = true := decide_eq_true c101
                                          try have c101b2 : (9223372036854775807 < a0.size + 4) = False := eq_false (Nat.not_lt.2 c101)
                                          by_cases c102 : (a0 ++ (⟨#[47, 46, 46, 47]⟩ : ByteArray)).size + a1.size ≤ 9223372036854775807
                                          · rw [if_pos c102] at H
                                            have c102b0 := eq_true c102
                                            have c102b1 : decide ((a0 ++ (⟨#[47, 46, 46, 47]⟩ : ByteArray)).size + a1.size ≤ 9223372036854775807) = true := decide_eq_true c102
                                            try have c102b2 : (9223372036854775807 < (a0 ++ (⟨#[47, 46, 46, 47]⟩ : ByteArray)).size + a1.size) = False := eq_false (Nat.not_lt.2 c102)
                                            try (have c102sb0 := c102b0; simp only [ByteArray.size_append] at c102sb0)
                                            try (have c102sb1 := c102b1; simp only [ByteArray.size_append] at c102sb1)
                                            try (have c102sb2 := c102b2; simp only [ByteArray.size_append] at c102sb2)
                                            replace H := Option.bind_eq_some_iff.mp H
                                            obtain ⟨t146, A1030, H⟩ := H
                                            replace H : (some (!t146)) = some r := H
                                            have A103 := Aside0.mk A1030
                                            clear A1030
                                            obtain rfl := Option.some.inj H
                                            go_wp2_with (first | ((with_reducible refine gate_callee (f := 22) rfl ?_); refine goesL_ (some 63) rfl rfl Tryd.func22 (by kernel_rfl) rfl #[.string a0] rfl (by (try simp only [List.map_toArray, List.map_cons, List.map_nil]); first | done | rfl | (simp only [List.length_drop, List.length_take]; rfl)) ?_; (with_reducible refine (text_Quote.calls a0 t132 _ A26.out).mono ?_); rintro e w104 ⟨rfl, hb⟩; refine ⟨_, rfl, ?_⟩; have n0_ := Aside0.mk (below_step (by repeat (first | (with_reducible first | exact HB.out | apply below_alloc | apply pw_below_drewN | apply below_drew1) | exact HB.out)) hb); clear HB; have HB := n0_; clear n0_; (try clear hb); (try clear hb2); (try clear hk); (try clear hi)) | (go_at_call 24; (with_reducible refine (text_Words.calls a0 t133 _ A28.out).mono ?_); rintro e w105 ⟨v134, rfl, ho0, hb⟩; have n0_ := Aside0.mk (Kd.R_lower ho0 (below_size (by repeat (first | (with_reducible first | exact HB.out | apply below_alloc | apply pw_below_drewN | apply below_drew1) | exact HB.out)))); have n1_ := Aside0.mk (below_step (by repeat (first | (with_reducible first | exact HB.out | apply below_alloc | apply pw_below_drewN | apply below_drew1) | exact HB.out)) hb); clear HB; have HO135 := n0_; have HB := n1_; clear n0_ n1_; (try clear hb); (try clear hb2); (try clear hk); (try clear hi); (try clear ho0)) | ((with_reducible refine gate_dst (N := 70) rfl ?_); (try (refine gate_guard (by rfl) ?_; dsimp only)); refine Kd.R_lit Kd.string _ 9 ?hg (N := 70) ?hd (xs := ([a0] : List ByteArray)) (inner := [.string a0]) (ok := fun _ => True) (okp := fun _ => True) ?hr ?hp (fun _ hk => hk) trivial (Below.refl _ _) (Nat.le_refl _) (by simp) ?_; (case hd => rfl); (case hg => rfl); (case hr => first | (go_simp; done) | (go_simp; rfl)); (case hp => exact (Reps.one (show Kd.M Kd.string _ _ _ a0 [.string a0] from rfl) (Reps.none _ _))); intro v137 w106 ho107 hb hg_ hnew_; clear hg_ hnew_; (first | rw [← Ny136.out] at ho107 | (simp only [Int.reduceToNat] at ho107; rw [← Ny136.out] at ho107)); have n0_ := Aside0.mk (Kd.R_elder' (by (with_reducible repeat (first | apply Kd.R_alloc | apply Kd.R_drewN | apply Kd.R_drew)); exact HO135.out) (Kd.R_base ho107) hb); have n1_ := Aside0.mk (Kd.R_lower (Kd.R_new' ho107 (Kd.R_lt (by (with_reducible repeat (first | apply Kd.R_alloc | apply Kd.R_drewN | apply Kd.R_drew)); exact HO135.out))) (below_size (by repeat (first | (with_reducible first | exact HB.out | apply below_alloc | apply pw_below_drewN | apply below_drew1) | exact HB.out)))); have n2_ := Aside0.mk (below_step (by repeat (first | (with_reducible first | exact HB.out | apply below_alloc | apply pw_below_drewN | apply below_drew1) | exact HB.out)) hb); clear HO135; clear HB; have HO135 := n0_; have HO138 := n1_; have HB := n2_; clear n0_ n1_ n2_; clear hb ho107; obtain ⟨Ao108, co108, eo108⟩ := Kd.R_slice HO135.out; subst eo108; obtain ⟨Ao109, co109, eo109⟩ := Kd.R_slice HO138.out; subst eo109) | (go_at_call 23; (with_reducible refine (cooperagelaw1_same.calls k3 _ _ t133 _ _ y136 true _ ?side1 ?side2 ?side3 ?side4 A29.out).mono ?_); (case side1 => repeat (first | exact (Kd.R_reads' HO135.out).2.2 | (with_reducible refine Kd.C_alloc ?_ _) | (with_reducible refine Kd.C_drewN ?_ _) | (with_reducible refine Kd.C_drew ?_))); (case side2 => exact (Kd.R_reads' HO135.out).2.1); (case side3 => repeat (first | exact (Kd.R_reads' HO138.out).2.2 | (with_reducible refine Kd.C_alloc ?_ _) | (with_reducible refine Kd.C_drewN ?_ _) | (with_reducible refine Kd.C_drew ?_))); (case side4 => exact (Kd.R_reads' HO138.out).2.1); rintro e w' ⟨rfl, ⟨nd, rfl⟩⟩) | (go_at_call 21; (with_reducible refine (text_Path.calls ((a0 ++ (⟨#[47]⟩ : ByteArray)) ++ a1) t140 _ ?side1 A31.out).mono ?_); (case side1 => exact Hand.Glob.below hG (by repeat (first | (with_reducible first | exact HB.out | apply below_alloc | apply pw_below_drewN | apply below_drew1) | exact HB.out))); rintro e w110 ⟨rfl, hb⟩; have n0_ := Aside0.mk (Kd.R_below (by (with_reducible repeat (first | apply Kd.R_alloc | apply Kd.R_drewN | apply Kd.R_drew)); exact HO135.out) hb); have n1_ := Aside0.mk (Kd.R_below (by (with_reducible repeat (first | apply Kd.R_alloc | apply Kd.R_drewN | apply Kd.R_drew)); exact HO138.out) hb); have n2_ := Aside0.mk (below_step (by repeat (first | (with_reducible first | exact HB.out | apply below_alloc | apply pw_below_drewN | apply below_drew1) | exact HB.out)) hb); clear HO135; clear HO138; clear HB; have HO135 := n0_; have HO138 := n1_; have HB := n2_; clear n0_ n1_ n2_; (try clear hb); (try clear hb2); (try clear hk); (try clear hi)) | (go_at_call 21; (with_reducible refine (text_Path.calls (a0 ++ (⟨#[47]⟩ : ByteArray)) false _ ?side1 A79.out).mono ?_); (case side1 => exact Hand.Glob.below hG (by repeat (first | (with_reducible first | exact HB.out | apply below_alloc | apply pw_below_drewN | apply below_drew1) | exact HB.out))); rintro e w111 ⟨rfl, hb⟩; have n0_ := Aside0.mk (Kd.R_below (by (with_reducible repeat (first | apply Kd.R_alloc | apply Kd.R_drewN | apply Kd.R_drew)); exact HO135.out) hb); have n1_ := Aside0.mk (Kd.R_below (by (with_reducible repeat (first | apply Kd.R_alloc | apply Kd.R_drewN | apply Kd.R_drew)); exact HO138.out) hb); have n2_ := Aside0.mk (below_step (by repeat (first | (with_reducible first | exact HB.out | apply below_alloc | apply pw_below_drewN | apply below_drew1) | exact HB.out)) hb); clear HO135; clear HO138; clear HB; have HO135 := n0_; have HO138 := n1_; have HB := n2_; clear n0_ n1_ n2_; (try clear hb); (try clear hb2); (try clear hk); (try clear hi)) | (go_at_call 21; (with_reducible refine (text_Path.calls ((⟨#[47]⟩ : ByteArray) ++ a0) false _ ?side1 A90.out).mono ?_); (case side1 => exact Hand.Glob.below hG (by repeat (first | (with_reducible first | exact HB.out | apply below_alloc | apply pw_below_drewN | apply below_drew1) | exact HB.out))); rintro e w112 ⟨rfl, hb⟩; have n0_ := Aside0.mk (Kd.R_below (by (with_reducible repeat (first | apply Kd.R_alloc | apply Kd.R_drewN | apply Kd.R_drew)); exact HO135.out) hb); have n1_ := Aside0.mk (Kd.R_below (by (with_reducible repeat (first | apply Kd.R_alloc | apply Kd.R_drewN | apply Kd.R_drew)); exact HO138.out) hb); have n2_ := Aside0.mk (below_step (by repeat (first | (with_reducible first | exact HB.out | apply below_alloc | apply pw_below_drewN | apply below_drew1) | exact HB.out)) hb); clear HO135; clear HO138; clear HB; have HO135 := n0_; have HO138 := n1_; have HB := n2_; clear n0_ n1_ n2_; (try clear hb); (try clear hb2); (try clear hk); (try clear hi)) | (go_at_call 21; (with_reducible refine (text_Path.calls ((a0 ++ (⟨#[47, 46, 46, 47]⟩ : ByteArray)) ++ a1) t146 _ ?side1 A103.out).mono ?_); (case side1 => exact Hand.Glob.below hG (by repeat (first | (with_reducible first | exact HB.out | apply below_alloc | apply pw_below_drewN | apply below_drew1) | exact HB.out))); rintro e w113 ⟨rfl, hb⟩; have n0_ := Aside0.mk (Kd.R_below (by (with_reducible repeat (first | apply Kd.R_alloc | apply Kd.R_drewN | apply Kd.R_drew)); exact HO135.out) hb); have n1_ := Aside0.mk (Kd.R_below (by (with_reducible repeat (first | apply Kd.R_alloc | apply Kd.R_drewN | apply Kd.R_drew)); exact HO138.out) hb); have n2_ := Aside0.mk (below_step (by repeat (first | (with_reducible first | exact HB.out | apply below_alloc | apply pw_below_drewN | apply below_drew1) | exact HB.out)) hb); clear HO135; clear HO138; clear HB; have HO135 := n0_; have HO138 := n1_; have HB := n2_; clear n0_ n1_ n2_; (try clear hb); (try clear hb2); (try clear hk); (try clear hi)))
                                            go_ret
                                            exact ⟨by first | rfl | (simp [errW_none, errW_some] <;> rfl) | (simp [*, errW_none, errW_some] <;> rfl) | (simp [errW_none, errW_some]; cases a0.toList <;> rfl), by repeat (first | (with_reducible first | exact HB.out | apply below_alloc | apply pw_below_drewN | apply below_drew1) | exact HB.out)⟩
                                          · rw [if_neg c102] at H
                                            exact absurd H (by simp)
                                        · rw [if_neg c101] at H
                                          exact absurd H (by simp)
                                    · rw [if_neg c89] at H
                                      exact absurd H (by simp)
                                · rw [if_neg c78] at H
                                  exact absurd H (by simp)
                              · rw [if_neg c77] at H
                                have c77b0 : (t140 == false) = false := by simpa using c77
                                (try (have c77b1 : decide (t140 = false) = false := by simpa using c77))
                                (try (have c77b2 : (t140 == false) = false := by simpa using c77))
                                (try (have c77b3 : ¬ (t140 = false) := by simpa using c77))
                                clear c77
                                obtain rfl := Option.some.inj H
                                go_wp2_with (first | ((with_reducible refine gate_callee (f := 22) rfl ?_); refine goesL_ (some 63) rfl rfl Tryd.func22 (by kernel_rfl) rfl #[.string a0] rfl (by (try simp only [List.map_toArray, List.map_cons, List.map_nil]); first | done | rfl | (simp only [List.length_drop, List.length_take]; rfl)) ?_; (with_reducible refine (text_Quote.calls a0 t132 _ A26.out).mono ?_); rintro e w114 ⟨rfl, hb⟩; refine ⟨_, rfl, ?_⟩; have n0_ := Aside0.mk (below_step (by repeat (first | (with_reducible first | exact HB.out | apply below_alloc | apply pw_below_drewN | apply below_drew1) | exact HB.out)) hb); clear HB; have HB := n0_; clear n0_; (try clear hb); (try clear hb2); (try clear hk); (try clear hi)) | (go_at_call 24; (with_reducible refine (text_Words.calls a0 t133 _ A28.out).mono ?_); rintro e w115 ⟨v134, rfl, ho0, hb⟩; have n0_ := Aside0.mk (Kd.R_lower ho0 (below_size (by repeat (first | (with_reducible first | exact HB.out | apply below_alloc | apply pw_below_drewN | apply below_drew1) | exact HB.out)))); have n1_ := Aside0.mk (below_step (by repeat (first | (with_reducible first | exact HB.out | apply below_alloc | apply pw_below_drewN | apply below_drew1) | exact HB.out)) hb); clear HB; have HO135 := n0_; have HB := n1_; clear n0_ n1_; (try clear hb); (try clear hb2); (try clear hk); (try clear hi); (try clear ho0)) | ((with_reducible refine gate_dst (N := 70) rfl ?_); (try (refine gate_guard (by rfl) ?_; dsimp only)); refine Kd.R_lit Kd.string _ 9 ?hg (N := 70) ?hd (xs := ([a0] : List ByteArray)) (inner := [.string a0]) (ok := fun _ => True) (okp := fun _ => True) ?hr ?hp (fun _ hk => hk) trivial (Below.refl _ _) (Nat.le_refl _) (by simp) ?_; (case hd => rfl); (case hg => rfl); (case hr => first | (go_simp; done) | (go_simp; rfl)); (case hp => exact (Reps.one (show Kd.M Kd.string _ _ _ a0 [.string a0] from rfl) (Reps.none _ _))); intro v137 w116 ho117 hb hg_ hnew_; clear hg_ hnew_; (first | rw [← Ny136.out] at ho117 | (simp only [Int.reduceToNat] at ho117; rw [← Ny136.out] at ho117)); have n0_ := Aside0.mk (Kd.R_elder' (by (with_reducible repeat (first | apply Kd.R_alloc | apply Kd.R_drewN | apply Kd.R_drew)); exact HO135.out) (Kd.R_base ho117) hb); have n1_ := Aside0.mk (Kd.R_lower (Kd.R_new' ho117 (Kd.R_lt (by (with_reducible repeat (first | apply Kd.R_alloc | apply Kd.R_drewN | apply Kd.R_drew)); exact HO135.out))) (below_size (by repeat (first | (with_reducible first | exact HB.out | apply below_alloc | apply pw_below_drewN | apply below_drew1) | exact HB.out)))); have n2_ := Aside0.mk (below_step (by repeat (first | (with_reducible first | exact HB.out | apply below_alloc | apply pw_below_drewN | apply below_drew1) | exact HB.out)) hb); clear HO135; clear HB; have HO135 := n0_; have HO138 := n1_; have HB := n2_; clear n0_ n1_ n2_; clear hb ho117; obtain ⟨Ao118, co118, eo118⟩ := Kd.R_slice HO135.out; subst eo118; obtain ⟨Ao119, co119, eo119⟩ := Kd.R_slice HO138.out; subst eo119) | (go_at_call 23; (with_reducible refine (cooperagelaw1_same.calls k3 _ _ t133 _ _ y136 true _ ?side1 ?side2 ?side3 ?side4 A29.out).mono ?_); (case side1 => repeat (first | exact (Kd.R_reads' HO135.out).2.2 | (with_reducible refine Kd.C_alloc ?_ _) | (with_reducible refine Kd.C_drewN ?_ _) | (with_reducible refine Kd.C_drew ?_))); (case side2 => exact (Kd.R_reads' HO135.out).2.1); (case side3 => repeat (first | exact (Kd.R_reads' HO138.out).2.2 | (with_reducible refine Kd.C_alloc ?_ _) | (with_reducible refine Kd.C_drewN ?_ _) | (with_reducible refine Kd.C_drew ?_))); (case side4 => exact (Kd.R_reads' HO138.out).2.1); rintro e w' ⟨rfl, ⟨nd, rfl⟩⟩) | (go_at_call 21; (with_reducible refine (text_Path.calls ((a0 ++ (⟨#[47]⟩ : ByteArray)) ++ a1) t140 _ ?side1 A31.out).mono ?_); (case side1 => exact Hand.Glob.below hG (by repeat (first | (with_reducible first | exact HB.out | apply below_alloc | apply pw_below_drewN | apply below_drew1) | exact HB.out))); rintro e w120 ⟨rfl, hb⟩; have n0_ := Aside0.mk (Kd.R_below (by (with_reducible repeat (first | apply Kd.R_alloc | apply Kd.R_drewN | apply Kd.R_drew)); exact HO135.out) hb); have n1_ := Aside0.mk (Kd.R_below (by (with_reducible repeat (first | apply Kd.R_alloc | apply Kd.R_drewN | apply Kd.R_drew)); exact HO138.out) hb); have n2_ := Aside0.mk (below_step (by repeat (first | (with_reducible first | exact HB.out | apply below_alloc | apply pw_below_drewN | apply below_drew1) | exact HB.out)) hb); clear HO135; clear HO138; clear HB; have HO135 := n0_; have HO138 := n1_; have HB := n2_; clear n0_ n1_ n2_; (try clear hb); (try clear hb2); (try clear hk); (try clear hi)))
                                go_ret
                                exact ⟨by first | rfl | (simp [errW_none, errW_some] <;> rfl) | (simp [*, errW_none, errW_some] <;> rfl) | (simp [errW_none, errW_some]; cases a0.toList <;> rfl), by repeat (first | (with_reducible first | exact HB.out | apply below_alloc | apply pw_below_drewN | apply below_drew1) | exact HB.out)⟩
                          · replace c30 := Bool.eq_false_iff.mpr c30
                            subst c30
                            have H1 : (some false) = some r := by rw [if_neg (show ¬ (false = true) by decide)] at H; exact H
                            clear H
                            have H := H1
                            clear H1
                            obtain rfl := Option.some.inj H
                            go_wp2_with (first | ((with_reducible refine gate_callee (f := 22) rfl ?_); refine goesL_ (some 63) rfl rfl Tryd.func22 (by kernel_rfl) rfl #[.string a0] rfl (by (try simp only [List.map_toArray, List.map_cons, List.map_nil]); first | done | rfl | (simp only [List.length_drop, List.length_take]; rfl)) ?_; (with_reducible refine (text_Quote.calls a0 t132 _ A26.out).mono ?_); rintro e w121 ⟨rfl, hb⟩; refine ⟨_, rfl, ?_⟩; have n0_ := Aside0.mk (below_step (by repeat (first | (with_reducible first | exact HB.out | apply below_alloc | apply pw_below_drewN | apply below_drew1) | exact HB.out)) hb); clear HB; have HB := n0_; clear n0_; (try clear hb); (try clear hb2); (try clear hk); (try clear hi)) | (go_at_call 24; (with_reducible refine (text_Words.calls a0 t133 _ A28.out).mono ?_); rintro e w122 ⟨v134, rfl, ho0, hb⟩; have n0_ := Aside0.mk (Kd.R_lower ho0 (below_size (by repeat (first | (with_reducible first | exact HB.out | apply below_alloc | apply pw_below_drewN | apply below_drew1) | exact HB.out)))); have n1_ := Aside0.mk (below_step (by repeat (first | (with_reducible first | exact HB.out | apply below_alloc | apply pw_below_drewN | apply below_drew1) | exact HB.out)) hb); clear HB; have HO135 := n0_; have HB := n1_; clear n0_ n1_; (try clear hb); (try clear hb2); (try clear hk); (try clear hi); (try clear ho0)) | ((with_reducible refine gate_dst (N := 70) rfl ?_); (try (refine gate_guard (by rfl) ?_; dsimp only)); refine Kd.R_lit Kd.string _ 9 ?hg (N := 70) ?hd (xs := ([a0] : List ByteArray)) (inner := [.string a0]) (ok := fun _ => True) (okp := fun _ => True) ?hr ?hp (fun _ hk => hk) trivial (Below.refl _ _) (Nat.le_refl _) (by simp) ?_; (case hd => rfl); (case hg => rfl); (case hr => first | (go_simp; done) | (go_simp; rfl)); (case hp => exact (Reps.one (show Kd.M Kd.string _ _ _ a0 [.string a0] from rfl) (Reps.none _ _))); intro v137 w123 ho124 hb hg_ hnew_; clear hg_ hnew_; (first | rw [← Ny136.out] at ho124 | (simp only [Int.reduceToNat] at ho124; rw [← Ny136.out] at ho124)); have n0_ := Aside0.mk (Kd.R_elder' (by (with_reducible repeat (first | apply Kd.R_alloc | apply Kd.R_drewN | apply Kd.R_drew)); exact HO135.out) (Kd.R_base ho124) hb); have n1_ := Aside0.mk (Kd.R_lower (Kd.R_new' ho124 (Kd.R_lt (by (with_reducible repeat (first | apply Kd.R_alloc | apply Kd.R_drewN | apply Kd.R_drew)); exact HO135.out))) (below_size (by repeat (first | (with_reducible first | exact HB.out | apply below_alloc | apply pw_below_drewN | apply below_drew1) | exact HB.out)))); have n2_ := Aside0.mk (below_step (by repeat (first | (with_reducible first | exact HB.out | apply below_alloc | apply pw_below_drewN | apply below_drew1) | exact HB.out)) hb); clear HO135; clear HB; have HO135 := n0_; have HO138 := n1_; have HB := n2_; clear n0_ n1_ n2_; clear hb ho124; obtain ⟨Ao125, co125, eo125⟩ := Kd.R_slice HO135.out; subst eo125; obtain ⟨Ao126, co126, eo126⟩ := Kd.R_slice HO138.out; subst eo126) | (go_at_call 23; (with_reducible refine (cooperagelaw1_same.calls k3 _ _ t133 _ _ y136 false _ ?side1 ?side2 ?side3 ?side4 A29.out).mono ?_); (case side1 => repeat (first | exact (Kd.R_reads' HO135.out).2.2 | (with_reducible refine Kd.C_alloc ?_ _) | (with_reducible refine Kd.C_drewN ?_ _) | (with_reducible refine Kd.C_drew ?_))); (case side2 => exact (Kd.R_reads' HO135.out).2.1); (case side3 => repeat (first | exact (Kd.R_reads' HO138.out).2.2 | (with_reducible refine Kd.C_alloc ?_ _) | (with_reducible refine Kd.C_drewN ?_ _) | (with_reducible refine Kd.C_drew ?_))); (case side4 => exact (Kd.R_reads' HO138.out).2.1); rintro e w' ⟨rfl, ⟨nd, rfl⟩⟩))
                            go_ret
                            exact ⟨by first | rfl | (simp [errW_none, errW_some] <;> rfl) | (simp [*, errW_none, errW_some] <;> rfl) | (simp [errW_none, errW_some]; cases a0.toList <;> rfl), by repeat (first | (with_reducible first | exact HB.out | apply below_alloc | apply pw_below_drewN | apply below_drew1) | exact HB.out)⟩
                        · rw [if_neg c27] at H
                          have c27b0 : (t132.toList == a0.toList) = false := beq_eq_false_iff_ne.mpr c27
                          have c27b1 : (t132.toList != a0.toList) = true := bne_iff_ne.mpr c27
                          obtain rfl := Option.some.inj H
                          go_wp2_with (first | ((with_reducible refine gate_callee (f := 22) rfl ?_); refine goesL_ (some 63) rfl rfl Tryd.func22 (by kernel_rfl) rfl #[.string a0] rfl (by (try simp only [List.map_toArray, List.map_cons, List.map_nil]); first | done | rfl | (simp only [List.length_drop, List.length_take]; rfl)) ?_; (with_reducible refine (text_Quote.calls a0 t132 _ A26.out).mono ?_); rintro e w127 ⟨rfl, hb⟩; refine ⟨_, rfl, ?_⟩; have n0_ := Aside0.mk (below_step (by repeat (first | (with_reducible first | exact HB.out | apply below_alloc | apply pw_below_drewN | apply below_drew1) | exact HB.out)) hb); clear HB; have HB := n0_; clear n0_; (try clear hb); (try clear hb2); (try clear hk); (try clear hi)))
                          go_ret
                          exact ⟨by first | rfl | (simp [errW_none, errW_some] <;> rfl) | (simp [*, errW_none, errW_some] <;> rfl) | (simp [errW_none, errW_some]; cases a0.toList <;> rfl), by repeat (first | (with_reducible first | exact HB.out | apply below_alloc | apply pw_below_drewN | apply below_drew1) | exact HB.out)⟩
          · rw [if_neg c17] at H
            exact absurd H (by simp)
        · rw [if_neg c16] at H
          exact absurd H (by simp)

end Go.Proofs.YtocpfgdajomjiaaDoor.P
