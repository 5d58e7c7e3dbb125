-- fixed by fix_text.py. Written by a program of this session (hprint.py over the kit's print).
import Derived.Test.YtocpfgdajomjiaaDoorP0
import Derived.Test.YtocpfgdajomjiaaDoorP2
import Derived.Test.YtocpfgdajomjiaaDoorHandText
namespace Go.Proofs.YtocpfgdajomjiaaDoor.P
open Go.Proofs.YtocpfgdajomjiaaDoor.Hand
open Go.Proofs.YtocpfgdajomjiaaDoor
open Go.RowKit Go.Proofs.YtocpfgdajomjiaaDoorW.PrintWords Go.Proofs.YtocpfgdajomjiaaDoorW.PrintLast Go.Proofs.YtocpfgdajomjiaaDoorW.PrintMore
attribute [local go_sem] max2_int min2_int max_two min_two max_three min_three max_four min_four   -- for this text's walks alone
set_option linter.unusedVariables false
set_option linter.unusedSimpArgs false

/-! ### cooperagelaw1_TextSigns: function 5 -/
mutual
def cooperagelaw1_TextSigns.j0 : Nat → ByteArray → ByteArray → Bool → Bool → Option (Bool)
  | 0, _, _, _, _ => none
  | k + 1, x0, x1, x5, x21 => if x21 = true then (some x5) else ((text_Quote.f x0).bind fun t148 => (cooperagelaw1_TextSigns.l0 k x0 x1 t148 0))
def cooperagelaw1_TextSigns.l0 : Nat → ByteArray → ByteArray → ByteArray → Int → Option (Bool)
  | 0, _, _, _, _ => none
  | k + 1, x0, x1, x6, x7 => if x7 < (x6.size : Int) then (if 0 ≤ x7 then (if (bt x6 x7) ≥ 65 then (if (bt x6 x7) ≤ 90 then (cooperagelaw1_TextSigns.l0 k x0 x1 x6 (wrap64 (x7 + 1))) else (if (bt x6 x7) ≥ 97 then (if (bt x6 x7) ≤ 122 then (cooperagelaw1_TextSigns.l0 k x0 x1 x6 (wrap64 (x7 + 1))) else (if (bt x6 x7) ≥ 48 then (if (bt x6 x7) ≤ 57 then (cooperagelaw1_TextSigns.l0 k x0 x1 x6 (wrap64 (x7 + 1))) else (if (bt x6 x7) = 95 then (cooperagelaw1_TextSigns.l0 k x0 x1 x6 (wrap64 (x7 + 1))) else (if (bt x6 x7) = 45 then (cooperagelaw1_TextSigns.l0 k x0 x1 x6 (wrap64 (x7 + 1))) else (if (bt x6 x7) = 46 then (cooperagelaw1_TextSigns.l0 k x0 x1 x6 (wrap64 (x7 + 1))) else (if (bt x6 x7) = 47 then (cooperagelaw1_TextSigns.l0 k x0 x1 x6 (wrap64 (x7 + 1))) else (if (bt x6 x7) = 43 then (cooperagelaw1_TextSigns.l0 k x0 x1 x6 (wrap64 (x7 + 1))) else (if ((bt x6 x7) = 37) then (cooperagelaw1_TextSigns.l0 k x0 x1 x6 (wrap64 (x7 + 1))) else (some false)))))))) else (if (bt x6 x7) = 95 then (cooperagelaw1_TextSigns.l0 k x0 x1 x6 (wrap64 (x7 + 1))) else (if (bt x6 x7) = 45 then (cooperagelaw1_TextSigns.l0 k x0 x1 x6 (wrap64 (x7 + 1))) else (if (bt x6 x7) = 46 then (cooperagelaw1_TextSigns.l0 k x0 x1 x6 (wrap64 (x7 + 1))) else (if (bt x6 x7) = 47 then (cooperagelaw1_TextSigns.l0 k x0 x1 x6 (wrap64 (x7 + 1))) else (if (bt x6 x7) = 43 then (cooperagelaw1_TextSigns.l0 k x0 x1 x6 (wrap64 (x7 + 1))) else (if ((bt x6 x7) = 37) then (cooperagelaw1_TextSigns.l0 k x0 x1 x6 (wrap64 (x7 + 1))) else (some false))))))))) else (if (bt x6 x7) ≥ 48 then (if (bt x6 x7) ≤ 57 then (cooperagelaw1_TextSigns.l0 k x0 x1 x6 (wrap64 (x7 + 1))) else (if (bt x6 x7) = 95 then (cooperagelaw1_TextSigns.l0 k x0 x1 x6 (wrap64 (x7 + 1))) else (if (bt x6 x7) = 45 then (cooperagelaw1_TextSigns.l0 k x0 x1 x6 (wrap64 (x7 + 1))) else (if (bt x6 x7) = 46 then (cooperagelaw1_TextSigns.l0 k x0 x1 x6 (wrap64 (x7 + 1))) else (if (bt x6 x7) = 47 then (cooperagelaw1_TextSigns.l0 k x0 x1 x6 (wrap64 (x7 + 1))) else (if (bt x6 x7) = 43 then (cooperagelaw1_TextSigns.l0 k x0 x1 x6 (wrap64 (x7 + 1))) else (if ((bt x6 x7) = 37) then (cooperagelaw1_TextSigns.l0 k x0 x1 x6 (wrap64 (x7 + 1))) else (some false)))))))) else (if (bt x6 x7) = 95 then (cooperagelaw1_TextSigns.l0 k x0 x1 x6 (wrap64 (x7 + 1))) else (if (bt x6 x7) = 45 then (cooperagelaw1_TextSigns.l0 k x0 x1 x6 (wrap64 (x7 + 1))) else (if (bt x6 x7) = 46 then (cooperagelaw1_TextSigns.l0 k x0 x1 x6 (wrap64 (x7 + 1))) else (if (bt x6 x7) = 47 then (cooperagelaw1_TextSigns.l0 k x0 x1 x6 (wrap64 (x7 + 1))) else (if (bt x6 x7) = 43 then (cooperagelaw1_TextSigns.l0 k x0 x1 x6 (wrap64 (x7 + 1))) else (if ((bt x6 x7) = 37) then (cooperagelaw1_TextSigns.l0 k x0 x1 x6 (wrap64 (x7 + 1))) else (some false)))))))))) else (if (bt x6 x7) ≥ 97 then (if (bt x6 x7) ≤ 122 then (cooperagelaw1_TextSigns.l0 k x0 x1 x6 (wrap64 (x7 + 1))) else (if (bt x6 x7) ≥ 48 then (if (bt x6 x7) ≤ 57 then (cooperagelaw1_TextSigns.l0 k x0 x1 x6 (wrap64 (x7 + 1))) else (if (bt x6 x7) = 95 then (cooperagelaw1_TextSigns.l0 k x0 x1 x6 (wrap64 (x7 + 1))) else (if (bt x6 x7) = 45 then (cooperagelaw1_TextSigns.l0 k x0 x1 x6 (wrap64 (x7 + 1))) else (if (bt x6 x7) = 46 then (cooperagelaw1_TextSigns.l0 k x0 x1 x6 (wrap64 (x7 + 1))) else (if (bt x6 x7) = 47 then (cooperagelaw1_TextSigns.l0 k x0 x1 x6 (wrap64 (x7 + 1))) else (if (bt x6 x7) = 43 then (cooperagelaw1_TextSigns.l0 k x0 x1 x6 (wrap64 (x7 + 1))) else (if ((bt x6 x7) = 37) then (cooperagelaw1_TextSigns.l0 k x0 x1 x6 (wrap64 (x7 + 1))) else (some false)))))))) else (if (bt x6 x7) = 95 then (cooperagelaw1_TextSigns.l0 k x0 x1 x6 (wrap64 (x7 + 1))) else (if (bt x6 x7) = 45 then (cooperagelaw1_TextSigns.l0 k x0 x1 x6 (wrap64 (x7 + 1))) else (if (bt x6 x7) = 46 then (cooperagelaw1_TextSigns.l0 k x0 x1 x6 (wrap64 (x7 + 1))) else (if (bt x6 x7) = 47 then (cooperagelaw1_TextSigns.l0 k x0 x1 x6 (wrap64 (x7 + 1))) else (if (bt x6 x7) = 43 then (cooperagelaw1_TextSigns.l0 k x0 x1 x6 (wrap64 (x7 + 1))) else (if ((bt x6 x7) = 37) then (cooperagelaw1_TextSigns.l0 k x0 x1 x6 (wrap64 (x7 + 1))) else (some false))))))))) else (if (bt x6 x7) ≥ 48 then (if (bt x6 x7) ≤ 57 then (cooperagelaw1_TextSigns.l0 k x0 x1 x6 (wrap64 (x7 + 1))) else (if (bt x6 x7) = 95 then (cooperagelaw1_TextSigns.l0 k x0 x1 x6 (wrap64 (x7 + 1))) else (if (bt x6 x7) = 45 then (cooperagelaw1_TextSigns.l0 k x0 x1 x6 (wrap64 (x7 + 1))) else (if (bt x6 x7) = 46 then (cooperagelaw1_TextSigns.l0 k x0 x1 x6 (wrap64 (x7 + 1))) else (if (bt x6 x7) = 47 then (cooperagelaw1_TextSigns.l0 k x0 x1 x6 (wrap64 (x7 + 1))) else (if (bt x6 x7) = 43 then (cooperagelaw1_TextSigns.l0 k x0 x1 x6 (wrap64 (x7 + 1))) else (if ((bt x6 x7) = 37) then (cooperagelaw1_TextSigns.l0 k x0 x1 x6 (wrap64 (x7 + 1))) else (some false)))))))) else (if (bt x6 x7) = 95 then (cooperagelaw1_TextSigns.l0 k x0 x1 x6 (wrap64 (x7 + 1))) else (if (bt x6 x7) = 45 then (cooperagelaw1_TextSigns.l0 k x0 x1 x6 (wrap64 (x7 + 1))) else (if (bt x6 x7) = 46 then (cooperagelaw1_TextSigns.l0 k x0 x1 x6 (wrap64 (x7 + 1))) else (if (bt x6 x7) = 47 then (cooperagelaw1_TextSigns.l0 k x0 x1 x6 (wrap64 (x7 + 1))) else (if (bt x6 x7) = 43 then (cooperagelaw1_TextSigns.l0 k x0 x1 x6 (wrap64 (x7 + 1))) else (if ((bt x6 x7) = 37) then (cooperagelaw1_TextSigns.l0 k x0 x1 x6 (wrap64 (x7 + 1))) else (some false)))))))))) else (none)) else (if (x6.size : Int) ≥ (x0.size : Int) then (if (x6.size : Int) ≤ (mx 1 (wrap64 (3 * (x0.size : Int)))) then ((text_Quote.f x1).bind fun t149 => (if ((x6.toList == t149.toList) == (x0.toList == x1.toList)) = true then ((text_Path.f x0).bind fun t150 => (if t150 = true then (some (x6.toList == x0.toList)) else (some true))) else (some false))) else (some false)) else (some false))
end
def cooperagelaw1_TextSigns.f (k : Nat) (a0 : ByteArray) (a1 : ByteArray) : Option (Bool) := (cooperagelaw1_shown.f k).bind fun t147 => (if t147 = true then (if (a0.size : Int) > 400 then (cooperagelaw1_TextSigns.j0 k a0 a1 t147 true) else (cooperagelaw1_TextSigns.j0 k a0 a1 t147 (decide ((a1.size : Int) > 400)))) else (cooperagelaw1_TextSigns.j0 k a0 a1 t147 true))
theorem cooperagelaw1_TextSigns.mono_l : ∀ k, (∀ y0 y1 y2 y3, LeO (cooperagelaw1_TextSigns.j0 k y0 y1 y2 y3) (cooperagelaw1_TextSigns.j0 (k + 1) y0 y1 y2 y3)) ∧ (∀ y0 y1 y2 y3, LeO (cooperagelaw1_TextSigns.l0 k y0 y1 y2 y3) (cooperagelaw1_TextSigns.l0 (k + 1) y0 y1 y2 y3))
  | 0 => ⟨fun _ _ _ _ r h => by simp [cooperagelaw1_TextSigns.j0] at h, fun _ _ _ _ r h => by simp [cooperagelaw1_TextSigns.l0] at h⟩
  | k + 1 => by
    obtain ⟨ih0, ih1⟩ := cooperagelaw1_TextSigns.mono_l k
    refine ⟨?_, ?_⟩
    · intro y0 y1 y2 y3
      unfold cooperagelaw1_TextSigns.j0
      repeat' first
      | (with_reducible exact ih0 _ _ _ _)
      | (with_reducible exact ih1 _ _ _ _)
      | (with_reducible exact cooperagelaw1_shown.mono _)
      | (with_reducible exact LeO.refl _)
      | (with_reducible exact LeO.none _)
      | (with_reducible refine LeO.ite ?_ ?_)
      | (with_reducible refine LeO.bind ?_ (fun _ => ?_))
      | exact ih0 _ _ _ _
      | exact ih1 _ _ _ _
      | exact cooperagelaw1_shown.mono _
      | exact LeO.none _
      | refine LeO.ite ?_ ?_
      | refine LeO.bind ?_ (fun _ => ?_)
    · intro y0 y1 y2 y3
      unfold cooperagelaw1_TextSigns.l0
      repeat' first
      | (with_reducible exact ih0 _ _ _ _)
      | (with_reducible exact ih1 _ _ _ _)
      | (with_reducible exact cooperagelaw1_shown.mono _)
      | (with_reducible exact LeO.refl _)
      | (with_reducible exact LeO.none _)
      | (with_reducible refine LeO.ite ?_ ?_)
      | (with_reducible refine LeO.bind ?_ (fun _ => ?_))
      | exact ih0 _ _ _ _
      | exact ih1 _ _ _ _
      | exact cooperagelaw1_shown.mono _
      | exact LeO.none _
      | refine LeO.ite ?_ ?_
      | refine LeO.bind ?_ (fun _ => ?_)
theorem cooperagelaw1_TextSigns.mono : ∀ a0 a1 k, LeO (cooperagelaw1_TextSigns.f k a0 a1) (cooperagelaw1_TextSigns.f (k + 1) a0 a1) := by
  intro a0 a1 k
  obtain ⟨ih0, ih1⟩ := cooperagelaw1_TextSigns.mono_l k
  unfold cooperagelaw1_TextSigns.f
  repeat' first
      | (with_reducible exact ih0 _ _ _ _)
      | (with_reducible exact ih1 _ _ _ _)
      | (with_reducible exact cooperagelaw1_shown.mono _)
      | (with_reducible exact LeO.refl _)
      | (with_reducible exact LeO.none _)
      | (with_reducible refine LeO.ite ?_ ?_)
      | (with_reducible refine LeO.bind ?_ (fun _ => ?_))
      | exact ih0 _ _ _ _
      | exact ih1 _ _ _ _
      | exact cooperagelaw1_shown.mono _
      | exact LeO.none _
      | refine LeO.ite ?_ ?_
      | refine LeO.bind ?_ (fun _ => ?_)
set_option maxHeartbeats 8000000 in
set_option maxRecDepth 100000 in
theorem cooperagelaw1_TextSigns.calls (k : Nat) (a0 : ByteArray) (a1 : ByteArray) (r : Bool) (w : World) (hG : Hand.Glob w) (h : cooperagelaw1_TextSigns.f k a0 a1 = some r) :
    Calls Tryd.prog 5 #[.string a0, .string a1] w fun e w' => e = .returned (.bool r) ∧ Below w.heap.size w w' := by
  have HB := Aside0.mk (Below.refl w.heap.size w)
  have H : ((cooperagelaw1_shown.f k).bind fun t147 => (if t147 = true then (if (a0.size : Int) > 400 then (cooperagelaw1_TextSigns.j0 k a0 a1 t147 true) else (cooperagelaw1_TextSigns.j0 k a0 a1 t147 (decide ((a1.size : Int) > 400)))) else (cooperagelaw1_TextSigns.j0 k a0 a1 t147 true))) = some r := h
  clear h
  replace H := Option.bind_eq_some_iff.mp H
  obtain ⟨t147, A30, H⟩ := H
  replace H : (if t147 = true then (if (a0.size : Int) > 400 then (cooperagelaw1_TextSigns.j0 k a0 a1 t147 true) else (cooperagelaw1_TextSigns.j0 k a0 a1 t147 (decide ((a1.size : Int) > 400)))) else (cooperagelaw1_TextSigns.j0 k a0 a1 t147 true)) = some r := H
  have A3 := Aside0.mk A30
  clear A30
  have HC4 := Aside0.mk H
  clear H
  go_enter Tryd.func5, Tryd.ntmps5
  go_upto_region 2 with (first | ((with_reducible refine gate_callee (f := 19) rfl ?_); refine goesL_ (some 9) rfl rfl Tryd.func19 (by kernel_rfl) rfl #[] rfl (by (try simp only [List.map_toArray, List.map_cons, List.map_nil]); first | done | rfl | (simp only [List.length_drop, List.length_take]; rfl)) ?_; (with_reducible refine (cooperagelaw1_shown.calls k  t147 _ ?side1 A3.out).mono ?_); (case side1 => exact Hand.Glob.below hG (by repeat (first | (with_reducible first | exact HB.out | apply below_alloc | apply pw_below_drewN | apply below_drew1) | exact HB.out))); rintro e w5 ⟨rfl, hb⟩; refine ⟨_, rfl, ?_⟩; have n0_ := Aside0.mk (below_step (by repeat (first | (with_reducible first | exact HB.out | apply below_alloc | apply pw_below_drewN | apply below_drew1) | exact HB.out)) hb); clear HB; have HB := n0_; clear n0_; (try clear hb); (try clear hb2); (try clear hk); (try clear hi)))
  (try simp only [Act.put, List.setIfInBounds_toArray, List.set_cons_zero, List.set_cons_succ])
  go_cut [21] (fun v21 wc => ∃ (kq : Nat) (x21_3 : Bool), v21 = .bool x21_3 ∧ Aside0 (cooperagelaw1_TextSigns.j0 kq a0 a1 t147 x21_3 = some r) ∧ Aside0 (kq ≤ k) ∧ Aside0 (Below w.heap.size w wc))
  case first =>
    have H := HC4.out
    clear HC4
    by_cases c6 : t147 = true
    · subst c6
      have H1 : (if (a0.size : Int) > 400 then (cooperagelaw1_TextSigns.j0 k a0 a1 true true) else (cooperagelaw1_TextSigns.j0 k a0 a1 true (decide ((a1.size : Int) > 400)))) = some r := by rw [if_pos rfl] at H; exact H
      clear H
      have H := H1
      clear H1
      by_cases c7 : (a0.size : Int) > 400
      · rw [if_pos c7] at H
        have c7b0 : decide (400 < (a0.size : Int)) = true := decide_eq_true c7
        have c7b1 : decide (400 < a0.size) = true := decide_eq_true (by omega)
        clear c7
        (first | rw [c7b0] | (simp only [i64_w, i32_w]; rw [c7b0]) | skip)
        have H' := Aside0.mk H
        clear H
        go_wp2
        go_meet
        case rel => exact ⟨_, (true), (by first | rfl | (simp; done) | (simp [*]; done)), H', ⟨by first | omega | exact Nat.le_refl _⟩, ⟨by repeat (first | (with_reducible first | exact HB.out | apply below_alloc | apply pw_below_drewN | apply below_drew1) | exact HB.out)⟩⟩
      · rw [if_neg c7] at H
        have c7b0 : decide (400 < (a0.size : Int)) = false := decide_eq_false c7
        have c7b1 : decide (400 < a0.size) = false := decide_eq_false (by omega)
        clear c7
        (first | rw [c7b0] | (simp only [i64_w, i32_w]; rw [c7b0]) | skip)
        have H' := Aside0.mk H
        clear H
        go_wp2
        go_meet
        case rel => exact ⟨_, (decide ((a1.size : Int) > 400)), (by first | rfl | (simp; done) | (simp [*]; done)), H', ⟨by first | omega | exact Nat.le_refl _⟩, ⟨by repeat (first | (with_reducible first | exact HB.out | apply below_alloc | apply pw_below_drewN | apply below_drew1) | exact HB.out)⟩⟩
    · replace c6 := Bool.eq_false_iff.mpr c6
      subst c6
      have H1 : (cooperagelaw1_TextSigns.j0 k a0 a1 false true) = some r := by rw [if_neg (show ¬ (false = true) by decide)] at H; exact H
      clear H
      have H := H1
      clear H1
      have H' := Aside0.mk H
      clear H
      go_wp2
      go_meet
      case rel => exact ⟨_, (true), (by first | rfl | (simp; done) | (simp [*]; done)), H', ⟨by first | omega | exact Nat.le_refl _⟩, ⟨by repeat (first | (with_reducible first | exact HB.out | apply below_alloc | apply pw_below_drewN | apply below_drew1) | exact HB.out)⟩⟩
  case rest =>
    clear HC4
    try clear c1
    try clear p2
    try clear c5
    try clear c6
    try clear c7
    try clear c7b0
    try clear c7b1
    obtain ⟨kq, x21_3, rfl, HA, HJ3, HB⟩ := hcut
    cases kq with
    | zero => exact absurd HA.out (by simp [cooperagelaw1_TextSigns.j0])
    | succ kj3 =>
      have H := HA.out
      clear HA
      simp only [cooperagelaw1_TextSigns.j0] at H
      by_cases c8 : x21_3 = true
      · subst c8
        have H1 : (some t147) = some r := by rw [if_pos rfl] at H; exact H
        clear H
        have H := H1
        clear H1
        obtain rfl := Option.some.inj H
        go_wp2
        go_ret
        exact ⟨by first | rfl | (simp [errW_none, errW_some] <;> rfl) | (simp [*, errW_none, errW_some] <;> rfl) | (simp [errW_none, errW_some]; cases a0.toList <;> rfl), by repeat (first | (with_reducible first | exact HB.out | apply below_alloc | apply pw_below_drewN | apply below_drew1) | exact HB.out)⟩
      · replace c8 := Bool.eq_false_iff.mpr c8
        subst c8
        have H1 : ((text_Quote.f a0).bind fun t148 => (cooperagelaw1_TextSigns.l0 kj3 a0 a1 t148 0)) = some r := by rw [if_neg (show ¬ (false = true) by decide)] at H; exact H
        clear H
        have H := H1
        clear H1
        replace H := Option.bind_eq_some_iff.mp H
        obtain ⟨t148, A90, H⟩ := H
        replace H : (cooperagelaw1_TextSigns.l0 kj3 a0 a1 t148 0) = some r := H
        have A9 := Aside0.mk A90
        clear A90
        have H' := Aside0.mk H
        clear H
        go_wp2_with (first | ((with_reducible refine gate_callee (f := 22) rfl ?_); refine goesL_ (some 24) rfl rfl Tryd.func22 (by kernel_rfl) rfl #[.string a0] rfl (by (try simp only [List.map_toArray, List.map_cons, List.map_nil]); first | done | rfl | (simp only [List.length_drop, List.length_take]; rfl)) ?_; (with_reducible refine (text_Quote.calls a0 t148 _ A9.out).mono ?_); rintro e w10 ⟨rfl, hb⟩; refine ⟨_, rfl, ?_⟩; have n0_ := Aside0.mk (below_step (by repeat (first | (with_reducible first | exact HB.out | apply below_alloc | apply pw_below_drewN | apply below_drew1) | exact HB.out)) hb); clear HB; have HB := n0_; clear n0_; (try clear hb); (try clear hb2); (try clear hk); (try clear hi)))
        go_loopg [7] kj3 (fun kq v7 w' => ∃ (x7_2 : Int), v7 = .int .i64 x7_2 ∧ Aside0 (cooperagelaw1_TextSigns.l0 kq a0 a1 t148 x7_2 = some r) ∧ Aside0 (kq ≤ kj3) ∧ Aside0 (Below w.heap.size w w'))
        case atStart => exact ⟨(0), (by first | rfl | (simp; done) | (simp [*]; done)), H', ⟨Nat.le_refl _⟩, ⟨by repeat (first | (with_reducible first | exact HB.out | apply below_alloc | apply pw_below_drewN | apply below_drew1) | exact HB.out)⟩⟩
        case round =>
          clear H'
          try clear c1
          try clear c2
          try clear p2
          try clear c5
          try clear c6
          try clear c7
          try clear c7b0
          try clear c7b1
          try clear c8
          try clear p2
          obtain ⟨x7_2, rfl, HA, HK2, HB⟩ := hrel
          cases gk with
          | zero => exact absurd HA.out (by simp [cooperagelaw1_TextSigns.l0])
          | succ k2 =>
            have H := HA.out
            clear HA
            simp only [cooperagelaw1_TextSigns.l0] at H
            by_cases c11 : x7_2 < (t148.size : Int)
            · rw [if_pos c11] at H
              have c11b0 : decide (x7_2 < (t148.size : Int)) = true := decide_eq_true c11
              clear c11
              by_cases c12 : 0 ≤ x7_2
              · rw [if_pos c12] at H
                have c12b0 : decide (0 ≤ x7_2) = true := decide_eq_true c12
                clear c12
                by_cases c14 : (bt t148 x7_2) ≥ 65
                · rw [if_pos c14] at H
                  have c14b0 : decide (65 ≤ (bt t148 x7_2)) = true := decide_eq_true c14
                  clear c14
                  by_cases c15 : (bt t148 x7_2) ≤ 90
                  · rw [if_pos c15] at H
                    have c15b0 : decide ((bt t148 x7_2) ≤ 90) = true := decide_eq_true c15
                    clear c15
                    have H' := Aside0.mk H
                    clear H
                    have p13 : 0 ≤ (x7_2 : Int) := of_decide_eq_true (by first | (with_reducible assumption) | assumption)
                    have q13 : x7_2 < (t148.size : Int) := of_decide_eq_true (by first | (with_reducible assumption) | assumption)
                    have hx13 := bt_at t148 x7_2
                    replace p13 := eq_true p13
                    replace q13 := eq_true q13
                    go_wp2
                    go_roundg k2
                    case measure => have := HJ3.out; have := HK2.out; omega
                    case rel => exact ⟨(wrap64 (x7_2 + 1)), (by first | rfl | (simp; done) | (simp [*]; done)), H', ⟨by have := HJ3.out; have := HK2.out; omega⟩, ⟨by repeat (first | (with_reducible first | exact HB.out | apply below_alloc | apply pw_below_drewN | apply below_drew1) | exact HB.out)⟩⟩
                  · rw [if_neg c15] at H
                    have c15b0 : decide ((bt t148 x7_2) ≤ 90) = false := decide_eq_false c15
                    clear c15
                    by_cases c16 : (bt t148 x7_2) ≥ 97
                    · rw [if_pos c16] at H
                      have c16b0 : decide (97 ≤ (bt t148 x7_2)) = true := decide_eq_true c16
                      clear c16
                      by_cases c17 : (bt t148 x7_2) ≤ 122
                      · rw [if_pos c17] at H
                        have c17b0 : decide ((bt t148 x7_2) ≤ 122) = true := decide_eq_true c17
                        clear c17
                        have H' := Aside0.mk H
                        clear H
                        have p13 : 0 ≤ (x7_2 : Int) := of_decide_eq_true (by first | (with_reducible assumption) | assumption)
                        have q13 : x7_2 < (t148.size : Int) := of_decide_eq_true (by first | (with_reducible assumption) | assumption)
                        have hx13 := bt_at t148 x7_2
                        replace p13 := eq_true p13
                        replace q13 := eq_true q13
                        go_wp2
                        go_roundg k2
                        case measure => have := HJ3.out; have := HK2.out; omega
                        case rel => exact ⟨(wrap64 (x7_2 + 1)), (by first | rfl | (simp; done) | (simp [*]; done)), H', ⟨by have := HJ3.out; have := HK2.out; omega⟩, ⟨by repeat (first | (with_reducible first | exact HB.out | apply below_alloc | apply pw_below_drewN | apply below_drew1) | exact HB.out)⟩⟩
                      · rw [if_neg c17] at H
                        have c17b0 : decide ((bt t148 x7_2) ≤ 122) = false := decide_eq_false c17
                        clear c17
                        by_cases c18 : (bt t148 x7_2) ≥ 48
                        · rw [if_pos c18] at H
                          have c18b0 : decide (48 ≤ (bt t148 x7_2)) = true := decide_eq_true c18
                          clear c18
                          by_cases c19 : (bt t148 x7_2) ≤ 57
                          · rw [if_pos c19] at H
                            have c19b0 : decide ((bt t148 x7_2) ≤ 57) = true := decide_eq_true c19
                            clear c19
                            have H' := Aside0.mk H
                            clear H
                            have p13 : 0 ≤ (x7_2 : Int) := of_decide_eq_true (by first | (with_reducible assumption) | assumption)
                            have q13 : x7_2 < (t148.size : Int) := of_decide_eq_true (by first | (with_reducible assumption) | assumption)
                            have hx13 := bt_at t148 x7_2
                            replace p13 := eq_true p13
                            replace q13 := eq_true q13
                            go_wp2
                            go_roundg k2
                            case measure => have := HJ3.out; have := HK2.out; omega
                            case rel => exact ⟨(wrap64 (x7_2 + 1)), (by first | rfl | (simp; done) | (simp [*]; done)), H', ⟨by have := HJ3.out; have := HK2.out; omega⟩, ⟨by repeat (first | (with_reducible first | exact HB.out | apply below_alloc | apply pw_below_drewN | apply below_drew1) | exact HB.out)⟩⟩
                          · rw [if_neg c19] at H
                            have c19b0 : decide ((bt t148 x7_2) ≤ 57) = false := decide_eq_false c19
                            clear c19
                            by_cases c20 : (bt t148 x7_2) = 95
                            · rw [if_pos c20] at H
                              have c20b0 : ((bt t148 x7_2) == 95) = true := beq_iff_eq.mpr c20
                              have c20b1 : ((bt t148 x7_2) != 95) = false := bne_eq_false_iff_eq.mpr c20
                              clear c20
                              have H' := Aside0.mk H
                              clear H
                              have p13 : 0 ≤ (x7_2 : Int) := of_decide_eq_true (by first | (with_reducible assumption) | assumption)
                              have q13 : x7_2 < (t148.size : Int) := of_decide_eq_true (by first | (with_reducible assumption) | assumption)
                              have hx13 := bt_at t148 x7_2
                              replace p13 := eq_true p13
                              replace q13 := eq_true q13
                              go_wp2
                              go_roundg k2
                              case measure => have := HJ3.out; have := HK2.out; omega
                              case rel => exact ⟨(wrap64 (x7_2 + 1)), (by first | rfl | (simp; done) | (simp [*]; done)), H', ⟨by have := HJ3.out; have := HK2.out; omega⟩, ⟨by repeat (first | (with_reducible first | exact HB.out | apply below_alloc | apply pw_below_drewN | apply below_drew1) | exact HB.out)⟩⟩
                            · rw [if_neg c20] at H
                              have c20b0 : ((bt t148 x7_2) == 95) = false := beq_eq_false_iff_ne.mpr c20
                              have c20b1 : ((bt t148 x7_2) != 95) = true := bne_iff_ne.mpr c20
                              by_cases c21 : (bt t148 x7_2) = 45
                              · rw [if_pos c21] at H
                                have c21b0 : ((bt t148 x7_2) == 45) = true := beq_iff_eq.mpr c21
                                have c21b1 : ((bt t148 x7_2) != 45) = false := bne_eq_false_iff_eq.mpr c21
                                clear c21
                                have H' := Aside0.mk H
                                clear H
                                have p13 : 0 ≤ (x7_2 : Int) := of_decide_eq_true (by first | (with_reducible assumption) | assumption)
                                have q13 : x7_2 < (t148.size : Int) := of_decide_eq_true (by first | (with_reducible assumption) | assumption)
                                have hx13 := bt_at t148 x7_2
                                replace p13 := eq_true p13
                                replace q13 := eq_true q13
                                go_wp2
                                go_roundg k2
                                case measure => have := HJ3.out; have := HK2.out; omega
                                case rel => exact ⟨(wrap64 (x7_2 + 1)), (by first | rfl | (simp; done) | (simp [*]; done)), H', ⟨by have := HJ3.out; have := HK2.out; omega⟩, ⟨by repeat (first | (with_reducible first | exact HB.out | apply below_alloc | apply pw_below_drewN | apply below_drew1) | exact HB.out)⟩⟩
                              · rw [if_neg c21] at H
                                have c21b0 : ((bt t148 x7_2) == 45) = false := beq_eq_false_iff_ne.mpr c21
                                have c21b1 : ((bt t148 x7_2) != 45) = true := bne_iff_ne.mpr c21
                                by_cases c22 : (bt t148 x7_2) = 46
                                · rw [if_pos c22] at H
                                  have c22b0 : ((bt t148 x7_2) == 46) = true := beq_iff_eq.mpr c22
                                  have c22b1 : ((bt t148 x7_2) != 46) = false := bne_eq_false_iff_eq.mpr c22
                                  clear c22
                                  have H' := Aside0.mk H
                                  clear H
                                  have p13 : 0 ≤ (x7_2 : Int) := of_decide_eq_true (by first | (with_reducible assumption) | assumption)
                                  have q13 : x7_2 < (t148.size : Int) := of_decide_eq_true (by first | (with_reducible assumption) | assumption)
                                  have hx13 := bt_at t148 x7_2
                                  replace p13 := eq_true p13
                                  replace q13 := eq_true q13
                                  go_wp2
                                  go_roundg k2
                                  case measure => have := HJ3.out; have := HK2.out; omega
                                  case rel => exact ⟨(wrap64 (x7_2 + 1)), (by first | rfl | (simp; done) | (simp [*]; done)), H', ⟨by have := HJ3.out; have := HK2.out; omega⟩, ⟨by repeat (first | (with_reducible first | exact HB.out | apply below_alloc | apply pw_below_drewN | apply below_drew1) | exact HB.out)⟩⟩
                                · rw [if_neg c22] at H
                                  have c22b0 : ((bt t148 x7_2) == 46) = false := beq_eq_false_iff_ne.mpr c22
                                  have c22b1 : ((bt t148 x7_2) != 46) = true := bne_iff_ne.mpr c22
                                  by_cases c23 : (bt t148 x7_2) = 47
                                  · rw [if_pos c23] at H
                                    have c23b0 : ((bt t148 x7_2) == 47) = true := beq_iff_eq.mpr c23
                                    have c23b1 : ((bt t148 x7_2) != 47) = false := bne_eq_false_iff_eq.mpr c23
                                    clear c23
                                    have H' := Aside0.mk H
                                    clear H
                                    have p13 : 0 ≤ (x7_2 : Int) := of_decide_eq_true (by first | (with_reducible assumption) | assumption)
                                    have q13 : x7_2 < (t148.size : Int) := of_decide_eq_true (by first | (with_reducible assumption) | assumption)
                                    have hx13 := bt_at t148 x7_2
                                    replace p13 := eq_true p13
                                    replace q13 := eq_true q13
                                    go_wp2
                                    go_roundg k2
                                    case measure => have := HJ3.out; have := HK2.out; omega
                                    case rel => exact ⟨(wrap64 (x7_2 + 1)), (by first | rfl | (simp; done) | (simp [*]; done)), H', ⟨by have := HJ3.out; have := HK2.out; omega⟩, ⟨by repeat (first | (with_reducible first | exact HB.out | apply below_alloc | apply pw_below_drewN | apply below_drew1) | exact HB.out)⟩⟩
                                  · rw [if_neg c23] at H
                                    have c23b0 : ((bt t148 x7_2) == 47) = false := beq_eq_false_iff_ne.mpr c23
                                    have c23b1 : ((bt t148 x7_2) != 47) = true := bne_iff_ne.mpr c23
                                    by_cases c24 : (bt t148 x7_2) = 43
                                    · rw [if_pos c24] at H
                                      have c24b0 : ((bt t148 x7_2) == 43) = true := beq_iff_eq.mpr c24
                                      have c24b1 : ((bt t148 x7_2) != 43) = false := bne_eq_false_iff_eq.mpr c24
                                      clear c24
                                      have H' := Aside0.mk H
                                      clear H
                                      have p13 : 0 ≤ (x7_2 : Int) := of_decide_eq_true (by first | (with_reducible assumption) | assumption)
                                      have q13 : x7_2 < (t148.size : Int) := of_decide_eq_true (by first | (with_reducible assumption) | assumption)
                                      have hx13 := bt_at t148 x7_2
                                      replace p13 := eq_true p13
                                      replace q13 := eq_true q13
                                      go_wp2
                                      go_roundg k2
                                      case measure => have := HJ3.out; have := HK2.out; omega
                                      case rel => exact ⟨(wrap64 (x7_2 + 1)), (by first | rfl | (simp; done) | (simp [*]; done)), H', ⟨by have := HJ3.out; have := HK2.out; omega⟩, ⟨by repeat (first | (with_reducible first | exact HB.out | apply below_alloc | apply pw_below_drewN | apply below_drew1) | exact HB.out)⟩⟩
                                    · rw [if_neg c24] at H
                                      have c24b0 : ((bt t148 x7_2) == 43) = false := beq_eq_false_iff_ne.mpr c24
                                      have c24b1 : ((bt t148 x7_2) != 43) = true := bne_iff_ne.mpr c24
                                      by_cases c25 : ((bt t148 x7_2) = 37)
                                      · rw [if_pos c25] at H
                                        have c25b0 : ((bt t148 x7_2) == 37) = true := beq_iff_eq.mpr c25
                                        have c25b1 : ((bt t148 x7_2) != 37) = false := bne_eq_false_iff_eq.mpr c25
                                        clear c25
                                        have H' := Aside0.mk H
                                        clear H
                                        have p13 : 0 ≤ (x7_2 : Int) := of_decide_eq_true (by first | (with_reducible assumption) | assumption)
                                        have q13 : x7_2 < (t148.size : Int) := of_decide_eq_true (by first | (with_reducible assumption) | assumption)
                                        have hx13 := bt_at t148 x7_2
                                        replace p13 := eq_true p13
                                        replace q13 := eq_true q13
                                        go_wp2
                                        go_roundg k2
                                        case measure => have := HJ3.out; have := HK2.out; omega
                                        case rel => exact ⟨(wrap64 (x7_2 + 1)), (by first | rfl | (simp; done) | (simp [*]; done)), H', ⟨by have := HJ3.out; have := HK2.out; omega⟩, ⟨by repeat (first | (with_reducible first | exact HB.out | apply below_alloc | apply pw_below_drewN | apply below_drew1) | exact HB.out)⟩⟩
                                      · rw [if_neg c25] at H
                                        have c25b0 : ((bt t148 x7_2) == 37) = false := beq_eq_false_iff_ne.mpr c25
                                        have c25b1 : ((bt t148 x7_2) != 37) = true := bne_iff_ne.mpr c25
                                        obtain rfl := Option.some.inj H
                                        have p13 : 0 ≤ (x7_2 : Int) := of_decide_eq_true (by first | (with_reducible assumption) | assumption)
                                        have q13 : x7_2 < (t148.size : Int) := of_decide_eq_true (by first | (with_reducible assumption) | assumption)
                                        have hx13 := bt_at t148 x7_2
                                        replace p13 := eq_true p13
                                        replace q13 := eq_true q13
                                        go_wp2
                                        go_ret
                                        exact ⟨by first | rfl | (simp [errW_none, errW_some] <;> rfl) | (simp [*, errW_none, errW_some] <;> rfl) | (simp [errW_none, errW_some]; cases a0.toList <;> rfl), by repeat (first | (with_reducible first | exact HB.out | apply below_alloc | apply pw_below_drewN | apply below_drew1) | exact HB.out)⟩
                        · rw [if_neg c18] at H
                          have c18b0 : decide (48 ≤ (bt t148 x7_2)) = false := decide_eq_false c18
                          clear c18
                          by_cases c26 : (bt t148 x7_2) = 95
                          · rw [if_pos c26] at H
                            have c26b0 : ((bt t148 x7_2) == 95) = true := beq_iff_eq.mpr c26
                            have c26b1 : ((bt t148 x7_2) != 95) = false := bne_eq_false_iff_eq.mpr c26
                            clear c26
                            have H' := Aside0.mk H
                            clear H
                            have p13 : 0 ≤ (x7_2 : Int) := of_decide_eq_true (by first | (with_reducible assumption) | assumption)
                            have q13 : x7_2 < (t148.size : Int) := of_decide_eq_true (by first | (with_reducible assumption) | assumption)
                            have hx13 := bt_at t148 x7_2
                            replace p13 := eq_true p13
                            replace q13 := eq_true q13
                            go_wp2
                            go_roundg k2
                            case measure => have := HJ3.out; have := HK2.out; omega
                            case rel => exact ⟨(wrap64 (x7_2 + 1)), (by first | rfl | (simp; done) | (simp [*]; done)), H', ⟨by have := HJ3.out; have := HK2.out; omega⟩, ⟨by repeat (first | (with_reducible first | exact HB.out | apply below_alloc | apply pw_below_drewN | apply below_drew1) | exact HB.out)⟩⟩
                          · rw [if_neg c26] at H
                            have c26b0 : ((bt t148 x7_2) == 95) = false := beq_eq_false_iff_ne.mpr c26
                            have c26b1 : ((bt t148 x7_2) != 95) = true := bne_iff_ne.mpr c26
                            by_cases c27 : (bt t148 x7_2) = 45
                            · rw [if_pos c27] at H
                              have c27b0 : ((bt t148 x7_2) == 45) = true := beq_iff_eq.mpr c27
                              have c27b1 : ((bt t148 x7_2) != 45) = false := bne_eq_false_iff_eq.mpr c27
                              clear c27
                              have H' := Aside0.mk H
                              clear H
                              have p13 : 0 ≤ (x7_2 : Int) := of_decide_eq_true (by first | (with_reducible assumption) | assumption)
                              have q13 : x7_2 < (t148.size : Int) := of_decide_eq_true (by first | (with_reducible assumption) | assumption)
                              have hx13 := bt_at t148 x7_2
                              replace p13 := eq_true p13
                              replace q13 := eq_true q13
                              go_wp2
                              go_roundg k2
                              case measure => have := HJ3.out; have := HK2.out; omega
                              case rel => exact ⟨(wrap64 (x7_2 + 1)), (by first | rfl | (simp; done) | (simp [*]; done)), H', ⟨by have := HJ3.out; have := HK2.out; omega⟩, ⟨by repeat (first | (with_reducible first | exact HB.out | apply below_alloc | apply pw_below_drewN | apply below_drew1) | exact HB.out)⟩⟩
                            · rw [if_neg c27] at H
                              have c27b0 : ((bt t148 x7_2) == 45) = false := beq_eq_false_iff_ne.mpr c27
                              have c27b1 : ((bt t148 x7_2) != 45) = true := bne_iff_ne.mpr c27
                              by_cases c28 : (bt t148 x7_2) = 46
                              · rw [if_pos c28] at H
                                have c28b0 : ((bt t148 x7_2) == 46) = true := beq_iff_eq.mpr c28
                                have c28b1 : ((bt t148 x7_2) != 46) = false := bne_eq_false_iff_eq.mpr c28
                                clear c28
                                have H' := Aside0.mk H
                                clear H
                                have p13 : 0 ≤ (x7_2 : Int) := of_decide_eq_true (by first | (with_reducible assumption) | assumption)
                                have q13 : x7_2 < (t148.size : Int) := of_decide_eq_true (by first | (with_reducible assumption) | assumption)
                                have hx13 := bt_at t148 x7_2
                                replace p13 := eq_true p13
                                replace q13 := eq_true q13
                                go_wp2
                                go_roundg k2
                                case measure => have := HJ3.out; have := HK2.out; omega
                                case rel => exact ⟨(wrap64 (x7_2 + 1)), (by first | rfl | (simp; done) | (simp [*]; done)), H', ⟨by have := HJ3.out; have := HK2.out; omega⟩, ⟨by repeat (first | (with_reducible first | exact HB.out | apply below_alloc | apply pw_below_drewN | apply below_drew1) | exact HB.out)⟩⟩
                              · rw [if_neg c28] at H
                                have c28b0 : ((bt t148 x7_2) == 46) = false := beq_eq_false_iff_ne.mpr c28
                                have c28b1 : ((bt t148 x7_2) != 46) = true := bne_iff_ne.mpr c28
                                by_cases c29 : (bt t148 x7_2) = 47
                                · rw [if_pos c29] at H
                                  have c29b0 : ((bt t148 x7_2) == 47) = true := beq_iff_eq.mpr c29
                                  have c29b1 : ((bt t148 x7_2) != 47) = false := bne_eq_false_iff_eq.mpr c29
                                  clear c29
                                  have H' := Aside0.mk H
                                  clear H
                                  have p13 : 0 ≤ (x7_2 : Int) := of_decide_eq_true (by first | (with_reducible assumption) | assumption)
                                  have q13 : x7_2 < (t148.size : Int) := of_decide_eq_true (by first | (with_reducible assumption) | assumption)
                                  have hx13 := bt_at t148 x7_2
                                  replace p13 := eq_true p13
                                  replace q13 := eq_true q13
                                  go_wp2
                                  go_roundg k2
                                  case measure => have := HJ3.out; have := HK2.out; omega
                                  case rel => exact ⟨(wrap64 (x7_2 + 1)), (by first | rfl | (simp; done) | (simp [*]; done)), H', ⟨by have := HJ3.out; have := HK2.out; omega⟩, ⟨by repeat (first | (with_reducible first | exact HB.out | apply below_alloc | apply pw_below_drewN | apply below_drew1) | exact HB.out)⟩⟩
                                · rw [if_neg c29] at H
                                  have c29b0 : ((bt t148 x7_2) == 47) = false := beq_eq_false_iff_ne.mpr c29
                                  have c29b1 : ((bt t148 x7_2) != 47) = true := bne_iff_ne.mpr c29
                                  by_cases c30 : (bt t148 x7_2) = 43
                                  · rw [if_pos c30] at H
                                    have c30b0 : ((bt t148 x7_2) == 43) = true := beq_iff_eq.mpr c30
                                    have c30b1 : ((bt t148 x7_2) != 43) = false := bne_eq_false_iff_eq.mpr c30
                                    clear c30
                                    have H' := Aside0.mk H
                                    clear H
                                    have p13 : 0 ≤ (x7_2 : Int) := of_decide_eq_true (by first | (with_reducible assumption) | assumption)
                                    have q13 : x7_2 < (t148.size : Int) := of_decide_eq_true (by first | (with_reducible assumption) | assumption)
                                    have hx13 := bt_at t148 x7_2
                                    replace p13 := eq_true p13
                                    replace q13 := eq_true q13
                                    go_wp2
                                    go_roundg k2
                                    case measure => have := HJ3.out; have := HK2.out; omega
                                    case rel => exact ⟨(wrap64 (x7_2 + 1)), (by first | rfl | (simp; done) | (simp [*]; done)), H', ⟨by have := HJ3.out; have := HK2.out; omega⟩, ⟨by repeat (first | (with_reducible first | exact HB.out | apply below_alloc | apply pw_below_drewN | apply below_drew1) | exact HB.out)⟩⟩
                                  · rw [if_neg c30] at H
                                    have c30b0 : ((bt t148 x7_2) == 43) = false := beq_eq_false_iff_ne.mpr c30
                                    have c30b1 : ((bt t148 x7_2) != 43) = true := bne_iff_ne.mpr c30
                                    by_cases c31 : ((bt t148 x7_2) = 37)
                                    · rw [if_pos c31] at H
                                      have c31b0 : ((bt t148 x7_2) == 37) = true := beq_iff_eq.mpr c31
                                      have c31b1 : ((bt t148 x7_2) != 37) = false := bne_eq_false_iff_eq.mpr c31
                                      clear c31
                                      have H' := Aside0.mk H
                                      clear H
                                      have p13 : 0 ≤ (x7_2 : Int) := of_decide_eq_true (by first | (with_reducible assumption) | assumption)
                                      have q13 : x7_2 < (t148.size : Int) := of_decide_eq_true (by first | (with_reducible assumption) | assumption)
                                      have hx13 := bt_at t148 x7_2
                                      replace p13 := eq_true p13
                                      replace q13 := eq_true q13
                                      go_wp2
                                      go_roundg k2
                                      case measure => have := HJ3.out; have := HK2.out; omega
                                      case rel => exact ⟨(wrap64 (x7_2 + 1)), (by first | rfl | (simp; done) | (simp [*]; done)), H', ⟨by have := HJ3.out; have := HK2.out; omega⟩, ⟨by repeat (first | (with_reducible first | exact HB.out | apply below_alloc | apply pw_below_drewN | apply below_drew1) | exact HB.out)⟩⟩
                                    · rw [if_neg c31] at H
                                      have c31b0 : ((bt t148 x7_2) == 37) = false := beq_eq_false_iff_ne.mpr c31
                                      have c31b1 : ((bt t148 x7_2) != 37) = true := bne_iff_ne.mpr c31
                                      obtain rfl := Option.some.inj H
                                      have p13 : 0 ≤ (x7_2 : Int) := of_decide_eq_true (by first | (with_reducible assumption) | assumption)
                                      have q13 : x7_2 < (t148.size : Int) := of_decide_eq_true (by first | (with_reducible assumption) | assumption)
                                      have hx13 := bt_at t148 x7_2
                                      replace p13 := eq_true p13
                                      replace q13 := eq_true q13
                                      go_wp2
                                      go_ret
                                      exact ⟨by first | rfl | (simp [errW_none, errW_some] <;> rfl) | (simp [*, errW_none, errW_some] <;> rfl) | (simp [errW_none, errW_some]; cases a0.toList <;> rfl), by repeat (first | (with_reducible first | exact HB.out | apply below_alloc | apply pw_below_drewN | apply below_drew1) | exact HB.out)⟩
                    · rw [if_neg c16] at H
                      have c16b0 : decide (97 ≤ (bt t148 x7_2)) = false := decide_eq_false c16
                      clear c16
                      by_cases c32 : (bt t148 x7_2) ≥ 48
                      · rw [if_pos c32] at H
                        have c32b0 : decide (48 ≤ (bt t148 x7_2)) = true := decide_eq_true c32
                        clear c32
                        by_cases c33 : (bt t148 x7_2) ≤ 57
                        · rw [if_pos c33] at H
                          have c33b0 : decide ((bt t148 x7_2) ≤ 57) = true := decide_eq_true c33
                          clear c33
                          have H' := Aside0.mk H
                          clear H
                          have p13 : 0 ≤ (x7_2 : Int) := of_decide_eq_true (by first | (with_reducible assumption) | assumption)
                          have q13 : x7_2 < (t148.size : Int) := of_decide_eq_true (by first | (with_reducible assumption) | assumption)
                          have hx13 := bt_at t148 x7_2
                          replace p13 := eq_true p13
                          replace q13 := eq_true q13
                          go_wp2
                          go_roundg k2
                          case measure => have := HJ3.out; have := HK2.out; omega
                          case rel => exact ⟨(wrap64 (x7_2 + 1)), (by first | rfl | (simp; done) | (simp [*]; done)), H', ⟨by have := HJ3.out; have := HK2.out; omega⟩, ⟨by repeat (first | (with_reducible first | exact HB.out | apply below_alloc | apply pw_below_drewN | apply below_drew1) | exact HB.out)⟩⟩
                        · rw [if_neg c33] at H
                          have c33b0 : decide ((bt t148 x7_2) ≤ 57) = false := decide_eq_false c33
                          clear c33
                          by_cases c34 : (bt t148 x7_2) = 95
                          · rw [if_pos c34] at H
                            have c34b0 : ((bt t148 x7_2) == 95) = true := beq_iff_eq.mpr c34
                            have c34b1 : ((bt t148 x7_2) != 95) = false := bne_eq_false_iff_eq.mpr c34
                            clear c34
                            have H' := Aside0.mk H
                            clear H
                            have p13 : 0 ≤ (x7_2 : Int) := of_decide_eq_true (by first | (with_reducible assumption) | assumption)
                            have q13 : x7_2 < (t148.size : Int) := of_decide_eq_true (by first | (with_reducible assumption) | assumption)
                            have hx13 := bt_at t148 x7_2
                            replace p13 := eq_true p13
                            replace q13 := eq_true q13
                            go_wp2
                            go_roundg k2
                            case measure => have := HJ3.out; have := HK2.out; omega
                            case rel => exact ⟨(wrap64 (x7_2 + 1)), (by first | rfl | (simp; done) | (simp [*]; done)), H', ⟨by have := HJ3.out; have := HK2.out; omega⟩, ⟨by repeat (first | (with_reducible first | exact HB.out | apply below_alloc | apply pw_below_drewN | apply below_drew1) | exact HB.out)⟩⟩
                          · rw [if_neg c34] at H
                            have c34b0 : ((bt t148 x7_2) == 95) = false := beq_eq_false_iff_ne.mpr c34
                            have c34b1 : ((bt t148 x7_2) != 95) = true := bne_iff_ne.mpr c34
                            by_cases c35 : (bt t148 x7_2) = 45
                            · rw [if_pos c35] at H
                              have c35b0 : ((bt t148 x7_2) == 45) = true := beq_iff_eq.mpr c35
                              have c35b1 : ((bt t148 x7_2) != 45) = false := bne_eq_false_iff_eq.mpr c35
                              clear c35
                              have H' := Aside0.mk H
                              clear H
                              have p13 : 0 ≤ (x7_2 : Int) := of_decide_eq_true (by first | (with_reducible assumption) | assumption)
                              have q13 : x7_2 < (t148.size : Int) := of_decide_eq_true (by first | (with_reducible assumption) | assumption)
                              have hx13 := bt_at t148 x7_2
                              replace p13 := eq_true p13
                              replace q13 := eq_true q13
                              go_wp2
                              go_roundg k2
                              case measure => have := HJ3.out; have := HK2.out; omega
                              case rel => exact ⟨(wrap64 (x7_2 + 1)), (by first | rfl | (simp; done) | (simp [*]; done)), H', ⟨by have := HJ3.out; have := HK2.out; omega⟩, ⟨by repeat (first | (with_reducible first | exact HB.out | apply below_alloc | apply pw_below_drewN | apply below_drew1) | exact HB.out)⟩⟩
                            · rw [if_neg c35] at H
                              have c35b0 : ((bt t148 x7_2) == 45) = false := beq_eq_false_iff_ne.mpr c35
                              have c35b1 : ((bt t148 x7_2) != 45) = true := bne_iff_ne.mpr c35
                              by_cases c36 : (bt t148 x7_2) = 46
                              · rw [if_pos c36] at H
                                have c36b0 : ((bt t148 x7_2) == 46) = true := beq_iff_eq.mpr c36
                                have c36b1 : ((bt t148 x7_2) != 46) = false := bne_eq_false_iff_eq.mpr c36
                                clear c36
                                have H' := Aside0.mk H
                                clear H
                                have p13 : 0 ≤ (x7_2 : Int) := of_decide_eq_true (by first | (with_reducible assumption) | assumption)
                                have q13 : x7_2 < (t148.size : Int) := of_decide_eq_true (by first | (with_reducible assumption) | assumption)
                                have hx13 := bt_at t148 x7_2
                                replace p13 := eq_true p13
                                replace q13 := eq_true q13
                                go_wp2
                                go_roundg k2
                                case measure => have := HJ3.out; have := HK2.out; omega
                                case rel => exact ⟨(wrap64 (x7_2 + 1)), (by first | rfl | (simp; done) | (simp [*]; done)), H', ⟨by have := HJ3.out; have := HK2.out; omega⟩, ⟨by repeat (first | (with_reducible first | exact HB.out | apply below_alloc | apply pw_below_drewN | apply below_drew1) | exact HB.out)⟩⟩
                              · rw [if_neg c36] at H
                                have c36b0 : ((bt t148 x7_2) == 46) = false := beq_eq_false_iff_ne.mpr c36
                                have c36b1 : ((bt t148 x7_2) != 46) = true := bne_iff_ne.mpr c36
                                by_cases c37 : (bt t148 x7_2) = 47
                                · rw [if_pos c37] at H
                                  have c37b0 : ((bt t148 x7_2) == 47) = true := beq_iff_eq.mpr c37
                                  have c37b1 : ((bt t148 x7_2) != 47) = false := bne_eq_false_iff_eq.mpr c37
                                  clear c37
                                  have H' := Aside0.mk H
                                  clear H
                                  have p13 : 0 ≤ (x7_2 : Int) := of_decide_eq_true (by first | (with_reducible assumption) | assumption)
                                  have q13 : x7_2 < (t148.size : Int) := of_decide_eq_true (by first | (with_reducible assumption) | assumption)
                                  have hx13 := bt_at t148 x7_2
                                  replace p13 := eq_true p13
                                  replace q13 := eq_true q13
                                  go_wp2
                                  go_roundg k2
                                  case measure => have := HJ3.out; have := HK2.out; omega
                                  case rel => exact ⟨(wrap64 (x7_2 + 1)), (by first | rfl | (simp; done) | (simp [*]; done)), H', ⟨by have := HJ3.out; have := HK2.out; omega⟩, ⟨by repeat (first | (with_reducible first | exact HB.out | apply below_alloc | apply pw_below_drewN | apply below_drew1) | exact HB.out)⟩⟩
                                · rw [if_neg c37] at H
                                  have c37b0 : ((bt t148 x7_2) == 47) = false := beq_eq_false_iff_ne.mpr c37
                                  have c37b1 : ((bt t148 x7_2) != 47) = true := bne_iff_ne.mpr c37
                                  by_cases c38 : (bt t148 x7_2) = 43
                                  · rw [if_pos c38] at H
                                    have c38b0 : ((bt t148 x7_2) == 43) = true := beq_iff_eq.mpr c38
                                    have c38b1 : ((bt t148 x7_2) != 43) = false := bne_eq_false_iff_eq.mpr c38
                                    clear c38
                                    have H' := Aside0.mk H
                                    clear H
                                    have p13 : 0 ≤ (x7_2 : Int) := of_decide_eq_true (by first | (with_reducible assumption) | assumption)
                                    have q13 : x7_2 < (t148.size : Int) := of_decide_eq_true (by first | (with_reducible assumption) | assumption)
                                    have hx13 := bt_at t148 x7_2
                                    replace p13 := eq_true p13
                                    replace q13 := eq_true q13
                                    go_wp2
                                    go_roundg k2
                                    case measure => have := HJ3.out; have := HK2.out; omega
                                    case rel => exact ⟨(wrap64 (x7_2 + 1)), (by first | rfl | (simp; done) | (simp [*]; done)), H', ⟨by have := HJ3.out; have := HK2.out; omega⟩, ⟨by repeat (first | (with_reducible first | exact HB.out | apply below_alloc | apply pw_below_drewN | apply below_drew1) | exact HB.out)⟩⟩
                                  · rw [if_neg c38] at H
                                    have c38b0 : ((bt t148 x7_2) == 43) = false := beq_eq_false_iff_ne.mpr c38
                                    have c38b1 : ((bt t148 x7_2) != 43) = true := bne_iff_ne.mpr c38
                                    by_cases c39 : ((bt t148 x7_2) = 37)
                                    · rw [if_pos c39] at H
                                      have c39b0 : ((bt t148 x7_2) == 37) = true := beq_iff_eq.mpr c39
                                      have c39b1 : ((bt t148 x7_2) != 37) = false := bne_eq_false_iff_eq.mpr c39
                                      clear c39
                                      have H' := Aside0.mk H
                                      clear H
                                      have p13 : 0 ≤ (x7_2 : Int) := of_decide_eq_true (by first | (with_reducible assumption) | assumption)
                                      have q13 : x7_2 < (t148.size : Int) := of_decide_eq_true (by first | (with_reducible assumption) | assumption)
                                      have hx13 := bt_at t148 x7_2
                                      replace p13 := eq_true p13
                                      replace q13 := eq_true q13
                                      go_wp2
                                      go_roundg k2
                                      case measure => have := HJ3.out; have := HK2.out; omega
                                      case rel => exact ⟨(wrap64 (x7_2 + 1)), (by first | rfl | (simp; done) | (simp [*]; done)), H', ⟨by have := HJ3.out; have := HK2.out; omega⟩, ⟨by repeat (first | (with_reducible first | exact HB.out | apply below_alloc | apply pw_below_drewN | apply below_drew1) | exact HB.out)⟩⟩
                                    · rw [if_neg c39] at H
                                      have c39b0 : ((bt t148 x7_2) == 37) = false := beq_eq_false_iff_ne.mpr c39
                                      have c39b1 : ((bt t148 x7_2) != 37) = true := bne_iff_ne.mpr c39
                                      obtain rfl := Option.some.inj H
                                      have p13 : 0 ≤ (x7_2 : Int) := of_decide_eq_true (by first | (with_reducible assumption) | assumption)
                                      have q13 : x7_2 < (t148.size : Int) := of_decide_eq_true (by first | (with_reducible assumption) | assumption)
                                      have hx13 := bt_at t148 x7_2
                                      replace p13 := eq_true p13
                                      replace q13 := eq_true q13
                                      go_wp2
                                      go_ret
                                      exact ⟨by first | rfl | (simp [errW_none, errW_some] <;> rfl) | (simp [*, errW_none, errW_some] <;> rfl) | (simp [errW_none, errW_some]; cases a0.toList <;> rfl), by repeat (first | (with_reducible first | exact HB.out | apply below_alloc | apply pw_below_drewN | apply below_drew1) | exact HB.out)⟩
                      · rw [if_neg c32] at H
                        have c32b0 : decide (48 ≤ (bt t148 x7_2)) = false := decide_eq_false c32
                        clear c32
                        by_cases c40 : (bt t148 x7_2) = 95
                        · rw [if_pos c40] at H
                          have c40b0 : ((bt t148 x7_2) == 95) = true := beq_iff_eq.mpr c40
                          have c40b1 : ((bt t148 x7_2) != 95) = false := bne_eq_false_iff_eq.mpr c40
                          clear c40
                          have H' := Aside0.mk H
                          clear H
                          have p13 : 0 ≤ (x7_2 : Int) := of_decide_eq_true (by first | (with_reducible assumption) | assumption)
                          have q13 : x7_2 < (t148.size : Int) := of_decide_eq_true (by first | (with_reducible assumption) | assumption)
                          have hx13 := bt_at t148 x7_2
                          replace p13 := eq_true p13
                          replace q13 := eq_true q13
                          go_wp2
                          go_roundg k2
                          case measure => have := HJ3.out; have := HK2.out; omega
                          case rel => exact ⟨(wrap64 (x7_2 + 1)), (by first | rfl | (simp; done) | (simp [*]; done)), H', ⟨by have := HJ3.out; have := HK2.out; omega⟩, ⟨by repeat (first | (with_reducible first | exact HB.out | apply below_alloc | apply pw_below_drewN | apply below_drew1) | exact HB.out)⟩⟩
                        · rw [if_neg c40] at H
                          have c40b0 : ((bt t148 x7_2) == 95) = false := beq_eq_false_iff_ne.mpr c40
                          have c40b1 : ((bt t148 x7_2) != 95) = true := bne_iff_ne.mpr c40
                          by_cases c41 : (bt t148 x7_2) = 45
                          · rw [if_pos c41] at H
                            have c41b0 : ((bt t148 x7_2) == 45) = true := beq_iff_eq.mpr c41
                            have c41b1 : ((bt t148 x7_2) != 45) = false := bne_eq_false_iff_eq.mpr c41
                            clear c41
                            have H' := Aside0.mk H
                            clear H
                            have p13 : 0 ≤ (x7_2 : Int) := of_decide_eq_true (by first | (with_reducible assumption) | assumption)
                            have q13 : x7_2 < (t148.size : Int) := of_decide_eq_true (by first | (with_reducible assumption) | assumption)
                            have hx13 := bt_at t148 x7_2
                            replace p13 := eq_true p13
                            replace q13 := eq_true q13
                            go_wp2
                            go_roundg k2
                            case measure => have := HJ3.out; have := HK2.out; omega
                            case rel => exact ⟨(wrap64 (x7_2 + 1)), (by first | rfl | (simp; done) | (simp [*]; done)), H', ⟨by have := HJ3.out; have := HK2.out; omega⟩, ⟨by repeat (first | (with_reducible first | exact HB.out | apply below_alloc | apply pw_below_drewN | apply below_drew1) | exact HB.out)⟩⟩
                          · rw [if_neg c41] at H
                            have c41b0 : ((bt t148 x7_2) == 45) = false := beq_eq_false_iff_ne.mpr c41
                            have c41b1 : ((bt t148 x7_2) != 45) = true := bne_iff_ne.mpr c41
                            by_cases c42 : (bt t148 x7_2) = 46
                            · rw [if_pos c42] at H
                              have c42b0 : ((bt t148 x7_2) == 46) = true := beq_iff_eq.mpr c42
                              have c42b1 : ((bt t148 x7_2) != 46) = false := bne_eq_false_iff_eq.mpr c42
                              clear c42
                              have H' := Aside0.mk H
                              clear H
                              have p13 : 0 ≤ (x7_2 : Int) := of_decide_eq_true (by first | (with_reducible assumption) | assumption)
                              have q13 : x7_2 < (t148.size : Int) := of_decide_eq_true (by first | (with_reducible assumption) | assumption)
                              have hx13 := bt_at t148 x7_2
                              replace p13 := eq_true p13
                              replace q13 := eq_true q13
                              go_wp2
                              go_roundg k2
                              case measure => have := HJ3.out; have := HK2.out; omega
                              case rel => exact ⟨(wrap64 (x7_2 + 1)), (by first | rfl | (simp; done) | (simp [*]; done)), H', ⟨by have := HJ3.out; have := HK2.out; omega⟩, ⟨by repeat (first | (with_reducible first | exact HB.out | apply below_alloc | apply pw_below_drewN | apply below_drew1) | exact HB.out)⟩⟩
                            · rw [if_neg c42] at H
                              have c42b0 : ((bt t148 x7_2) == 46) = false := beq_eq_false_iff_ne.mpr c42
                              have c42b1 : ((bt t148 x7_2) != 46) = true := bne_iff_ne.mpr c42
                              by_cases c43 : (bt t148 x7_2) = 47
                              · rw [if_pos c43] at H
                                have c43b0 : ((bt t148 x7_2) == 47) = true := beq_iff_eq.mpr c43
                                have c43b1 : ((bt t148 x7_2) != 47) = false := bne_eq_false_iff_eq.mpr c43
                                clear c43
                                have H' := Aside0.mk H
                                clear H
                                have p13 : 0 ≤ (x7_2 : Int) := of_decide_eq_true (by first | (with_reducible assumption) | assumption)
                                have q13 : x7_2 < (t148.size : Int) := of_decide_eq_true (by first | (with_reducible assumption) | assumption)
                                have hx13 := bt_at t148 x7_2
                                replace p13 := eq_true p13
                                replace q13 := eq_true q13
                                go_wp2
                                go_roundg k2
                                case measure => have := HJ3.out; have := HK2.out; omega
                                case rel => exact ⟨(wrap64 (x7_2 + 1)), (by first | rfl | (simp; done) | (simp [*]; done)), H', ⟨by have := HJ3.out; have := HK2.out; omega⟩, ⟨by repeat (first | (with_reducible first | exact HB.out | apply below_alloc | apply pw_below_drewN | apply below_drew1) | exact HB.out)⟩⟩
                              · rw [if_neg c43] at H
                                have c43b0 : ((bt t148 x7_2) == 47) = false := beq_eq_false_iff_ne.mpr c43
                                have c43b1 : ((bt t148 x7_2) != 47) = true := bne_iff_ne.mpr c43
                                by_cases c44 : (bt t148 x7_2) = 43
                                · rw [if_pos c44] at H
                                  have c44b0 : ((bt t148 x7_2) == 43) = true := beq_iff_eq.mpr c44
                                  have c44b1 : ((bt t148 x7_2) != 43) = false := bne_eq_false_iff_eq.mpr c44
                                  clear c44
                                  have H' := Aside0.mk H
                                  clear H
                                  have p13 : 0 ≤ (x7_2 : Int) := of_decide_eq_true (by first | (with_reducible assumption) | assumption)
                                  have q13 : x7_2 < (t148.size : Int) := of_decide_eq_true (by first | (with_reducible assumption) | assumption)
                                  have hx13 := bt_at t148 x7_2
                                  replace p13 := eq_true p13
                                  replace q13 := eq_true q13
                                  go_wp2
                                  go_roundg k2
                                  case measure => have := HJ3.out; have := HK2.out; omega
                                  case rel => exact ⟨(wrap64 (x7_2 + 1)), (by first | rfl | (simp; done) | (simp [*]; done)), H', ⟨by have := HJ3.out; have := HK2.out; omega⟩, ⟨by repeat (first | (with_reducible first | exact HB.out | apply below_alloc | apply pw_below_drewN | apply below_drew1) | exact HB.out)⟩⟩
                                · rw [if_neg c44] at H
                                  have c44b0 : ((bt t148 x7_2) == 43) = false := beq_eq_false_iff_ne.mpr c44
                                  have c44b1 : ((bt t148 x7_2) != 43) = true := bne_iff_ne.mpr c44
                                  by_cases c45 : ((bt t148 x7_2) = 37)
                                  · rw [if_pos c45] at H
                                    have c45b0 : ((bt t148 x7_2) == 37) = true := beq_iff_eq.mpr c45
                                    have c45b1 : ((bt t148 x7_2) != 37) = false := bne_eq_false_iff_eq.mpr c45
                                    clear c45
                                    have H' := Aside0.mk H
                                    clear H
                                    have p13 : 0 ≤ (x7_2 : Int) := of_decide_eq_true (by first | (with_reducible assumption) | assumption)
                                    have q13 : x7_2 < (t148.size : Int) := of_decide_eq_true (by first | (with_reducible assumption) | assumption)
                                    have hx13 := bt_at t148 x7_2
                                    replace p13 := eq_true p13
                                    replace q13 := eq_true q13
                                    go_wp2
                                    go_roundg k2
                                    case measure => have := HJ3.out; have := HK2.out; omega
                                    case rel => exact ⟨(wrap64 (x7_2 + 1)), (by first | rfl | (simp; done) | (simp [*]; done)), H', ⟨by have := HJ3.out; have := HK2.out; omega⟩, ⟨by repeat (first | (with_reducible first | exact HB.out | apply below_alloc | apply pw_below_drewN | apply below_drew1) | exact HB.out)⟩⟩
                                  · rw [if_neg c45] at H
                                    have c45b0 : ((bt t148 x7_2) == 37) = false := beq_eq_false_iff_ne.mpr c45
                                    have c45b1 : ((bt t148 x7_2) != 37) = true := bne_iff_ne.mpr c45
                                    obtain rfl := Option.some.inj H
                                    have p13 : 0 ≤ (x7_2 : Int) := of_decide_eq_true (by first | (with_reducible assumption) | assumption)
                                    have q13 : x7_2 < (t148.size : Int) := of_decide_eq_true (by first | (with_reducible assumption) | assumption)
                                    have hx13 := bt_at t148 x7_2
                                    replace p13 := eq_true p13
                                    replace q13 := eq_true q13
                                    go_wp2
                                    go_ret
                                    exact ⟨by first | rfl | (simp [errW_none, errW_some] <;> rfl) | (simp [*, errW_none, errW_some] <;> rfl) | (simp [errW_none, errW_some]; cases a0.toList <;> rfl), by repeat (first | (with_reducible first | exact HB.out | apply below_alloc | apply pw_below_drewN | apply below_drew1) | exact HB.out)⟩
                · rw [if_neg c14] at H
                  have c14b0 : decide (65 ≤ (bt t148 x7_2)) = false := decide_eq_false c14
                  clear c14
                  by_cases c46 : (bt t148 x7_2) ≥ 97
                  · rw [if_pos c46] at H
                    have c46b0 : decide (97 ≤ (bt t148 x7_2)) = true := decide_eq_true c46
                    clear c46
                    by_cases c47 : (bt t148 x7_2) ≤ 122
                    · rw [if_pos c47] at H
                      have c47b0 : decide ((bt t148 x7_2) ≤ 122) = true := decide_eq_true c47
                      clear c47
                      have H' := Aside0.mk H
                      clear H
                      have p13 : 0 ≤ (x7_2 : Int) := of_decide_eq_true (by first | (with_reducible assumption) | assumption)
                      have q13 : x7_2 < (t148.size : Int) := of_decide_eq_true (by first | (with_reducible assumption) | assumption)
                      have hx13 := bt_at t148 x7_2
                      replace p13 := eq_true p13
                      replace q13 := eq_true q13
                      go_wp2
                      go_roundg k2
                      case measure => have := HJ3.out; have := HK2.out; omega
                      case rel => exact ⟨(wrap64 (x7_2 + 1)), (by first | rfl | (simp; done) | (simp [*]; done)), H', ⟨by have := HJ3.out; have := HK2.out; omega⟩, ⟨by repeat (first | (with_reducible first | exact HB.out | apply below_alloc | apply pw_below_drewN | apply below_drew1) | exact HB.out)⟩⟩
                    · rw [if_neg c47] at H
                      have c47b0 : decide ((bt t148 x7_2) ≤ 122) = false := decide_eq_false c47
                      clear c47
                      by_cases c48 : (bt t148 x7_2) ≥ 48
                      · rw [if_pos c48] at H
                        have c48b0 : decide (48 ≤ (bt t148 x7_2)) = true := decide_eq_true c48
                        clear c48
                        by_cases c49 : (bt t148 x7_2) ≤ 57
                        · rw [if_pos c49] at H
                          have c49b0 : decide ((bt t148 x7_2) ≤ 57) = true := decide_eq_true c49
                          clear c49
                          have H' := Aside0.mk H
                          clear H
                          have p13 : 0 ≤ (x7_2 : Int) := of_decide_eq_true (by first | (with_reducible assumption) | assumption)
                          have q13 : x7_2 < (t148.size : Int) := of_decide_eq_true (by first | (with_reducible assumption) | assumption)
                          have hx13 := bt_at t148 x7_2
                          replace p13 := eq_true p13
                          replace q13 := eq_true q13
                          go_wp2
                          go_roundg k2
                          case measure => have := HJ3.out; have := HK2.out; omega
                          case rel => exact ⟨(wrap64 (x7_2 + 1)), (by first | rfl | (simp; done) | (simp [*]; done)), H', ⟨by have := HJ3.out; have := HK2.out; omega⟩, ⟨by repeat (first | (with_reducible first | exact HB.out | apply below_alloc | apply pw_below_drewN | apply below_drew1) | exact HB.out)⟩⟩
                        · rw [if_neg c49] at H
                          have c49b0 : decide ((bt t148 x7_2) ≤ 57) = false := decide_eq_false c49
                          clear c49
                          by_cases c50 : (bt t148 x7_2) = 95
                          · rw [if_pos c50] at H
                            have c50b0 : ((bt t148 x7_2) == 95) = true := beq_iff_eq.mpr c50
                            have c50b1 : ((bt t148 x7_2) != 95) = false := bne_eq_false_iff_eq.mpr c50
                            clear c50
                            have H' := Aside0.mk H
                            clear H
                            have p13 : 0 ≤ (x7_2 : Int) := of_decide_eq_true (by first | (with_reducible assumption) | assumption)
                            have q13 : x7_2 < (t148.size : Int) := of_decide_eq_true (by first | (with_reducible assumption) | assumption)
                            have hx13 := bt_at t148 x7_2
                            replace p13 := eq_true p13
                            replace q13 := eq_true q13
                            go_wp2
                            go_roundg k2
                            case measure => have := HJ3.out; have := HK2.out; omega
                            case rel => exact ⟨(wrap64 (x7_2 + 1)), (by first | rfl | (simp; done) | (simp [*]; done)), H', ⟨by have := HJ3.out; have := HK2.out; omega⟩, ⟨by repeat (first | (with_reducible first | exact HB.out | apply below_alloc | apply pw_below_drewN | apply below_drew1) | exact HB.out)⟩⟩
                          · rw [if_neg c50] at H
                            have c50b0 : ((bt t148 x7_2) == 95) = false := beq_eq_false_iff_ne.mpr c50
                            have c50b1 : ((bt t148 x7_2) != 95) = true := bne_iff_ne.mpr c50
                            by_cases c51 : (bt t148 x7_2) = 45
                            · rw [if_pos c51] at H
                              have c51b0 : ((bt t148 x7_2) == 45) = true := beq_iff_eq.mpr c51
                              have c51b1 : ((bt t148 x7_2) != 45) = false := bne_eq_false_iff_eq.mpr c51
                              clear c51
                              have H' := Aside0.mk H
                              clear H
                              have p13 : 0 ≤ (x7_2 : Int) := of_decide_eq_true (by first | (with_reducible assumption) | assumption)
                              have q13 : x7_2 < (t148.size : Int) := of_decide_eq_true (by first | (with_reducible assumption) | assumption)
                              have hx13 := bt_at t148 x7_2
                              replace p13 := eq_true p13
                              replace q13 := eq_true q13
                              go_wp2
                              go_roundg k2
                              case measure => have := HJ3.out; have := HK2.out; omega
                              case rel => exact ⟨(wrap64 (x7_2 + 1)), (by first | rfl | (simp; done) | (simp [*]; done)), H', ⟨by have := HJ3.out; have := HK2.out; omega⟩, ⟨by repeat (first | (with_reducible first | exact HB.out | apply below_alloc | apply pw_below_drewN | apply below_drew1) | exact HB.out)⟩⟩
                            · rw [if_neg c51] at H
                              have c51b0 : ((bt t148 x7_2) == 45) = false := beq_eq_false_iff_ne.mpr c51
                              have c51b1 : ((bt t148 x7_2) != 45) = true := bne_iff_ne.mpr c51
                              by_cases c52 : (bt t148 x7_2) = 46
                              · rw [if_pos c52] at H
                                have c52b0 : ((bt t148 x7_2) == 46) = true := beq_iff_eq.mpr c52
                                have c52b1 : ((bt t148 x7_2) != 46) = false := bne_eq_false_iff_eq.mpr c52
                                clear c52
                                have H' := Aside0.mk H
                                clear H
                                have p13 : 0 ≤ (x7_2 : Int) := of_decide_eq_true (by first | (with_reducible assumption) | assumption)
                                have q13 : x7_2 < (t148.size : Int) := of_decide_eq_true (by first | (with_reducible assumption) | assumption)
                                have hx13 := bt_at t148 x7_2
                                replace p13 := eq_true p13
                                replace q13 := eq_true q13
                                go_wp2
                                go_roundg k2
                                case measure => have := HJ3.out; have := HK2.out; omega
                                case rel => exact ⟨(wrap64 (x7_2 + 1)), (by first | rfl | (simp; done) | (simp [*]; done)), H', ⟨by have := HJ3.out; have := HK2.out; omega⟩, ⟨by repeat (first | (with_reducible first | exact HB.out | apply below_alloc | apply pw_below_drewN | apply below_drew1) | exact HB.out)⟩⟩
                              · rw [if_neg c52] at H
                                have c52b0 : ((bt t148 x7_2) == 46) = false := beq_eq_false_iff_ne.mpr c52
                                have c52b1 : ((bt t148 x7_2) != 46) = true := bne_iff_ne.mpr c52
                                by_cases c53 : (bt t148 x7_2) = 47
                                · rw [if_pos c53] at H
                                  have c53b0 : ((bt t148 x7_2) == 47) = true := beq_iff_eq.mpr c53
                                  have c53b1 : ((bt t148 x7_2) != 47) = false := bne_eq_false_iff_eq.mpr c53
                                  clear c53
                                  have H' := Aside0.mk H
                                  clear H
                                  have p13 : 0 ≤ (x7_2 : Int) := of_decide_eq_true (by first | (with_reducible assumption) | assumption)
                                  have q13 : x7_2 < (t148.size : Int) := of_decide_eq_true (by first | (with_reducible assumption) | assumption)
                                  have hx13 := bt_at t148 x7_2
                                  replace p13 := eq_true p13
                                  replace q13 := eq_true q13
                                  go_wp2
                                  go_roundg k2
                                  case measure => have := HJ3.out; have := HK2.out; omega
                                  case rel => exact ⟨(wrap64 (x7_2 + 1)), (by first | rfl | (simp; done) | (simp [*]; done)), H', ⟨by have := HJ3.out; have := HK2.out; omega⟩, ⟨by repeat (first | (with_reducible first | exact HB.out | apply below_alloc | apply pw_below_drewN | apply below_drew1) | exact HB.out)⟩⟩
                                · rw [if_neg c53] at H
                                  have c53b0 : ((bt t148 x7_2) == 47) = false := beq_eq_false_iff_ne.mpr c53
                                  have c53b1 : ((bt t148 x7_2) != 47) = true := bne_iff_ne.mpr c53
                                  by_cases c54 : (bt t148 x7_2) = 43
                                  · rw [if_pos c54] at H
                                    have c54b0 : ((bt t148 x7_2) == 43) = true := beq_iff_eq.mpr c54
                                    have c54b1 : ((bt t148 x7_2) != 43) = false := bne_eq_false_iff_eq.mpr c54
                                    clear c54
                                    have H' := Aside0.mk H
                                    clear H
                                    have p13 : 0 ≤ (x7_2 : Int) := of_decide_eq_true (by first | (with_reducible assumption) | assumption)
                                    have q13 : x7_2 < (t148.size : Int) := of_decide_eq_true (by first | (with_reducible assumption) | assumption)
                                    have hx13 := bt_at t148 x7_2
                                    replace p13 := eq_true p13
                                    replace q13 := eq_true q13
                                    go_wp2
                                    go_roundg k2
                                    case measure => have := HJ3.out; have := HK2.out; omega
                                    case rel => exact ⟨(wrap64 (x7_2 + 1)), (by first | rfl | (simp; done) | (simp [*]; done)), H', ⟨by have := HJ3.out; have := HK2.out; omega⟩, ⟨by repeat (first | (with_reducible first | exact HB.out | apply below_alloc | apply pw_below_drewN | apply below_drew1) | exact HB.out)⟩⟩
                                  · rw [if_neg c54] at H
                                    have c54b0 : ((bt t148 x7_2) == 43) = false := beq_eq_false_iff_ne.mpr c54
                                    have c54b1 : ((bt t148 x7_2) != 43) = true := bne_iff_ne.mpr c54
                                    by_cases c55 : ((bt t148 x7_2) = 37)
                                    · rw [if_pos c55] at H
                                      have c55b0 : ((bt t148 x7_2) == 37) = true := beq_iff_eq.mpr c55
                                      have c55b1 : ((bt t148 x7_2) != 37) = false := bne_eq_false_iff_eq.mpr c55
                                      clear c55
                                      have H' := Aside0.mk H
                                      clear H
                                      have p13 : 0 ≤ (x7_2 : Int) := of_decide_eq_true (by first | (with_reducible assumption) | assumption)
                                      have q13 : x7_2 < (t148.size : Int) := of_decide_eq_true (by first | (with_reducible assumption) | assumption)
                                      have hx13 := bt_at t148 x7_2
                                      replace p13 := eq_true p13
                                      replace q13 := eq_true q13
                                      go_wp2
                                      go_roundg k2
                                      case measure => have := HJ3.out; have := HK2.out; omega
                                      case rel => exact ⟨(wrap64 (x7_2 + 1)), (by first | rfl | (simp; done) | (simp [*]; done)), H', ⟨by have := HJ3.out; have := HK2.out; omega⟩, ⟨by repeat (first | (with_reducible first | exact HB.out | apply below_alloc | apply pw_below_drewN | apply below_drew1) | exact HB.out)⟩⟩
                                    · rw [if_neg c55] at H
                                      have c55b0 : ((bt t148 x7_2) == 37) = false := beq_eq_false_iff_ne.mpr c55
                                      have c55b1 : ((bt t148 x7_2) != 37) = true := bne_iff_ne.mpr c55
                                      obtain rfl := Option.some.inj H
                                      have p13 : 0 ≤ (x7_2 : Int) := of_decide_eq_true (by first | (with_reducible assumption) | assumption)
                                      have q13 : x7_2 < (t148.size : Int) := of_decide_eq_true (by first | (with_reducible assumption) | assumption)
                                      have hx13 := bt_at t148 x7_2
                                      replace p13 := eq_true p13
                                      replace q13 := eq_true q13
                                      go_wp2
                                      go_ret
                                      exact ⟨by first | rfl | (simp [errW_none, errW_some] <;> rfl) | (simp [*, errW_none, errW_some] <;> rfl) | (simp [errW_none, errW_some]; cases a0.toList <;> rfl), by repeat (first | (with_reducible first | exact HB.out | apply below_alloc | apply pw_below_drewN | apply below_drew1) | exact HB.out)⟩
                      · rw [if_neg c48] at H
                        have c48b0 : decide (48 ≤ (bt t148 x7_2)) = false := decide_eq_false c48
                        clear c48
                        by_cases c56 : (bt t148 x7_2) = 95
                        · rw [if_pos c56] at H
                          have c56b0 : ((bt t148 x7_2) == 95) = true := beq_iff_eq.mpr c56
                          have c56b1 : ((bt t148 x7_2) != 95) = false := bne_eq_false_iff_eq.mpr c56
                          clear c56
                          have H' := Aside0.mk H
                          clear H
                          have p13 : 0 ≤ (x7_2 : Int) := of_decide_eq_true (by first | (with_reducible assumption) | assumption)
                          have q13 : x7_2 < (t148.size : Int) := of_decide_eq_true (by first | (with_reducible assumption) | assumption)
                          have hx13 := bt_at t148 x7_2
                          replace p13 := eq_true p13
                          replace q13 := eq_true q13
                          go_wp2
                          go_roundg k2
                          case measure => have := HJ3.out; have := HK2.out; omega
                          case rel => exact ⟨(wrap64 (x7_2 + 1)), (by first | rfl | (simp; done) | (simp [*]; done)), H', ⟨by have := HJ3.out; have := HK2.out; omega⟩, ⟨by repeat (first | (with_reducible first | exact HB.out | apply below_alloc | apply pw_below_drewN | apply below_drew1) | exact HB.out)⟩⟩
                        · rw [if_neg c56] at H
                          have c56b0 : ((bt t148 x7_2) == 95) = false := beq_eq_false_iff_ne.mpr c56
                          have c56b1 : ((bt t148 x7_2) != 95) = true := bne_iff_ne.mpr c56
                          by_cases c57 : (bt t148 x7_2) = 45
                          · rw [if_pos c57] at H
                            have c57b0 : ((bt t148 x7_2) == 45) = true := beq_iff_eq.mpr c57
                            have c57b1 : ((bt t148 x7_2) != 45) = false := bne_eq_false_iff_eq.mpr c57
                            clear c57
                            have H' := Aside0.mk H
                            clear H
                            have p13 : 0 ≤ (x7_2 : Int) := of_decide_eq_true (by first | (with_reducible assumption) | assumption)
                            have q13 : x7_2 < (t148.size : Int) := of_decide_eq_true (by first | (with_reducible assumption) | assumption)
                            have hx13 := bt_at t148 x7_2
                            replace p13 := eq_true p13
                            replace q13 := eq_true q13
                            go_wp2
                            go_roundg k2
                            case measure => have := HJ3.out; have := HK2.out; omega
                            case rel => exact ⟨(wrap64 (x7_2 + 1)), (by first | rfl | (simp; done) | (simp [*]; done)), H', ⟨by have := HJ3.out; have := HK2.out; omega⟩, ⟨by repeat (first | (with_reducible first | exact HB.out | apply below_alloc | apply pw_below_drewN | apply below_drew1) | exact HB.out)⟩⟩
                          · rw [if_neg c57] at H
                            have c57b0 : ((bt t148 x7_2) == 45) = false := beq_eq_false_iff_ne.mpr c57
                            have c57b1 : ((bt t148 x7_2) != 45) = true := bne_iff_ne.mpr c57
                            by_cases c58 : (bt t148 x7_2) = 46
                            · rw [if_pos c58] at H
                              have c58b0 : ((bt t148 x7_2) == 46) = true := beq_iff_eq.mpr c58
                              have c58b1 : ((bt t148 x7_2) != 46) = false := bne_eq_false_iff_eq.mpr c58
                              clear c58
                              have H' := Aside0.mk H
                              clear H
                              have p13 : 0 ≤ (x7_2 : Int) := of_decide_eq_true (by first | (with_reducible assumption) | assumption)
                              have q13 : x7_2 < (t148.size : Int) := of_decide_eq_true (by first | (with_reducible assumption) | assumption)
                              have hx13 := bt_at t148 x7_2
                              replace p13 := eq_true p13
                              replace q13 := eq_true q13
                              go_wp2
                              go_roundg k2
                              case measure => have := HJ3.out; have := HK2.out; omega
                              case rel => exact ⟨(wrap64 (x7_2 + 1)), (by first | rfl | (simp; done) | (simp [*]; done)), H', ⟨by have := HJ3.out; have := HK2.out; omega⟩, ⟨by repeat (first | (with_reducible first | exact HB.out | apply below_alloc | apply pw_below_drewN | apply below_drew1) | exact HB.out)⟩⟩
                            · rw [if_neg c58] at H
                              have c58b0 : ((bt t148 x7_2) == 46) = false := beq_eq_false_iff_ne.mpr c58
                              have c58b1 : ((bt t148 x7_2) != 46) = true := bne_iff_ne.mpr c58
                              by_cases c59 : (bt t148 x7_2) = 47
                              · rw [if_pos c59] at H
                                have c59b0 : ((bt t148 x7_2) == 47) = true := beq_iff_eq.mpr c59
                                have c59b1 : ((bt t148 x7_2) != 47) = false := bne_eq_false_iff_eq.mpr c59
                                clear c59
                                have H' := Aside0.mk H
                                clear H
                                have p13 : 0 ≤ (x7_2 : Int) := of_decide_eq_true (by first | (with_reducible assumption) | assumption)
                                have q13 : x7_2 < (t148.size : Int) := of_decide_eq_true (by first | (with_reducible assumption) | assumption)
                                have hx13 := bt_at t148 x7_2
                                replace p13 := eq_true p13
                                replace q13 := eq_true q13
                                go_wp2
                                go_roundg k2
                                case measure => have := HJ3.out; have := HK2.out; omega
                                case rel => exact ⟨(wrap64 (x7_2 + 1)), (by first | rfl | (simp; done) | (simp [*]; done)), H', ⟨by have := HJ3.out; have := HK2.out; omega⟩, ⟨by repeat (first | (with_reducible first | exact HB.out | apply below_alloc | apply pw_below_drewN | apply below_drew1) | exact HB.out)⟩⟩
                              · rw [if_neg c59] at H
                                have c59b0 : ((bt t148 x7_2) == 47) = false := beq_eq_false_iff_ne.mpr c59
                                have c59b1 : ((bt t148 x7_2) != 47) = true := bne_iff_ne.mpr c59
                                by_cases c60 : (bt t148 x7_2) = 43
                                · rw [if_pos c60] at H
                                  have c60b0 : ((bt t148 x7_2) == 43) = true := beq_iff_eq.mpr c60
                                  have c60b1 : ((bt t148 x7_2) != 43) = false := bne_eq_false_iff_eq.mpr c60
                                  clear c60
                                  have H' := Aside0.mk H
                                  clear H
                                  have p13 : 0 ≤ (x7_2 : Int) := of_decide_eq_true (by first | (with_reducible assumption) | assumption)
                                  have q13 : x7_2 < (t148.size : Int) := of_decide_eq_true (by first | (with_reducible assumption) | assumption)
                                  have hx13 := bt_at t148 x7_2
                                  replace p13 := eq_true p13
                                  replace q13 := eq_true q13
                                  go_wp2
                                  go_roundg k2
                                  case measure => have := HJ3.out; have := HK2.out; omega
                                  case rel => exact ⟨(wrap64 (x7_2 + 1)), (by first | rfl | (simp; done) | (simp [*]; done)), H', ⟨by have := HJ3.out; have := HK2.out; omega⟩, ⟨by repeat (first | (with_reducible first | exact HB.out | apply below_alloc | apply pw_below_drewN | apply below_drew1) | exact HB.out)⟩⟩
                                · rw [if_neg c60] at H
                                  have c60b0 : ((bt t148 x7_2) == 43) = false := beq_eq_false_iff_ne.mpr c60
                                  have c60b1 : ((bt t148 x7_2) != 43) = true := bne_iff_ne.mpr c60
                                  by_cases c61 : ((bt t148 x7_2) = 37)
                                  · rw [if_pos c61] at H
                                    have c61b0 : ((bt t148 x7_2) == 37) = true := beq_iff_eq.mpr c61
                                    have c61b1 : ((bt t148 x7_2) != 37) = false := bne_eq_false_iff_eq.mpr c61
                                    clear c61
                                    have H' := Aside0.mk H
                                    clear H
                                    have p13 : 0 ≤ (x7_2 : Int) := of_decide_eq_true (by first | (with_reducible assumption) | assumption)
                                    have q13 : x7_2 < (t148.size : Int) := of_decide_eq_true (by first | (with_reducible assumption) | assumption)
                                    have hx13 := bt_at t148 x7_2
                                    replace p13 := eq_true p13
                                    replace q13 := eq_true q13
                                    go_wp2
                                    go_roundg k2
                                    case measure => have := HJ3.out; have := HK2.out; omega
                                    case rel => exact ⟨(wrap64 (x7_2 + 1)), (by first | rfl | (simp; done) | (simp [*]; done)), H', ⟨by have := HJ3.out; have := HK2.out; omega⟩, ⟨by repeat (first | (with_reducible first | exact HB.out | apply below_alloc | apply pw_below_drewN | apply below_drew1) | exact HB.out)⟩⟩
                                  · rw [if_neg c61] at H
                                    have c61b0 : ((bt t148 x7_2) == 37) = false := beq_eq_false_iff_ne.mpr c61
                                    have c61b1 : ((bt t148 x7_2) != 37) = true := bne_iff_ne.mpr c61
                                    obtain rfl := Option.some.inj H
                                    have p13 : 0 ≤ (x7_2 : Int) := of_decide_eq_true (by first | (with_reducible assumption) | assumption)
                                    have q13 : x7_2 < (t148.size : Int) := of_decide_eq_true (by first | (with_reducible assumption) | assumption)
                                    have hx13 := bt_at t148 x7_2
                                    replace p13 := eq_true p13
                                    replace q13 := eq_true q13
                                    go_wp2
                                    go_ret
                                    exact ⟨by first | rfl | (simp [errW_none, errW_some] <;> rfl) | (simp [*, errW_none, errW_some] <;> rfl) | (simp [errW_none, errW_some]; cases a0.toList <;> rfl), by repeat (first | (with_reducible first | exact HB.out | apply below_alloc | apply pw_below_drewN | apply below_drew1) | exact HB.out)⟩
                  · rw [if_neg c46] at H
                    have c46b0 : decide (97 ≤ (bt t148 x7_2)) = false := decide_eq_false c46
                    clear c46
                    by_cases c62 : (bt t148 x7_2) ≥ 48
                    · rw [if_pos c62] at H
                      have c62b0 : decide (48 ≤ (bt t148 x7_2)) = true := decide_eq_true c62
                      clear c62
                      by_cases c63 : (bt t148 x7_2) ≤ 57
                      · rw [if_pos c63] at H
                        have c63b0 : decide ((bt t148 x7_2) ≤ 57) = true := decide_eq_true c63
                        clear c63
                        have H' := Aside0.mk H
                        clear H
                        have p13 : 0 ≤ (x7_2 : Int) := of_decide_eq_true (by first | (with_reducible assumption) | assumption)
                        have q13 : x7_2 < (t148.size : Int) := of_decide_eq_true (by first | (with_reducible assumption) | assumption)
                        have hx13 := bt_at t148 x7_2
                        replace p13 := eq_true p13
                        replace q13 := eq_true q13
                        go_wp2
                        go_roundg k2
                        case measure => have := HJ3.out; have := HK2.out; omega
                        case rel => exact ⟨(wrap64 (x7_2 + 1)), (by first | rfl | (simp; done) | (simp [*]; done)), H', ⟨by have := HJ3.out; have := HK2.out; omega⟩, ⟨by repeat (first | (with_reducible first | exact HB.out | apply below_alloc | apply pw_below_drewN | apply below_drew1) | exact HB.out)⟩⟩
                      · rw [if_neg c63] at H
                        have c63b0 : decide ((bt t148 x7_2) ≤ 57) = false := decide_eq_false c63
                        clear c63
                        by_cases c64 : (bt t148 x7_2) = 95
                        · rw [if_pos c64] at H
                          have c64b0 : ((bt t148 x7_2) == 95) = true := beq_iff_eq.mpr c64
                          have c64b1 : ((bt t148 x7_2) != 95) = false := bne_eq_false_iff_eq.mpr c64
                          clear c64
                          have H' := Aside0.mk H
                          clear H
                          have p13 : 0 ≤ (x7_2 : Int) := of_decide_eq_true (by first | (with_reducible assumption) | assumption)
                          have q13 : x7_2 < (t148.size : Int) := of_decide_eq_true (by first | (with_reducible assumption) | assumption)
                          have hx13 := bt_at t148 x7_2
                          replace p13 := eq_true p13
                          replace q13 := eq_true q13
                          go_wp2
                          go_roundg k2
                          case measure => have := HJ3.out; have := HK2.out; omega
                          case rel => exact ⟨(wrap64 (x7_2 + 1)), (by first | rfl | (simp; done) | (simp [*]; done)), H', ⟨by have := HJ3.out; have := HK2.out; omega⟩, ⟨by repeat (first | (with_reducible first | exact HB.out | apply below_alloc | apply pw_below_drewN | apply below_drew1) | exact HB.out)⟩⟩
                        · rw [if_neg c64] at H
                          have c64b0 : ((bt t148 x7_2) == 95) = false := beq_eq_false_iff_ne.mpr c64
                          have c64b1 : ((bt t148 x7_2) != 95) = true := bne_iff_ne.mpr c64
                          by_cases c65 : (bt t148 x7_2) = 45
                          · rw [if_pos c65] at H
                            have c65b0 : ((bt t148 x7_2) == 45) = true := beq_iff_eq.mpr c65
                            have c65b1 : ((bt t148 x7_2) != 45) = false := bne_eq_false_iff_eq.mpr c65
                            clear c65
                            have H' := Aside0.mk H
                            clear H
                            have p13 : 0 ≤ (x7_2 : Int) := of_decide_eq_true (by first | (with_reducible assumption) | assumption)
                            have q13 : x7_2 < (t148.size : Int) := of_decide_eq_true (by first | (with_reducible assumption) | assumption)
                            have hx13 := bt_at t148 x7_2
                            replace p13 := eq_true p13
                            replace q13 := eq_true q13
                            go_wp2
                            go_roundg k2
                            case measure => have := HJ3.out; have := HK2.out; omega
                            case rel => exact ⟨(wrap64 (x7_2 + 1)), (by first | rfl | (simp; done) | (simp [*]; done)), H', ⟨by have := HJ3.out; have := HK2.out; omega⟩, ⟨by repeat (first | (with_reducible first | exact HB.out | apply below_alloc | apply pw_below_drewN | apply below_drew1) | exact HB.out)⟩⟩
                          · rw [if_neg c65] at H
                            have c65b0 : ((bt t148 x7_2) == 45) = false := beq_eq_false_iff_ne.mpr c65
                            have c65b1 : ((bt t148 x7_2) != 45) = true := bne_iff_ne.mpr c65
                            by_cases c66 : (bt t148 x7_2) = 46
                            · rw [if_pos c66] at H
                              have c66b0 : ((bt t148 x7_2) == 46) = true := beq_iff_eq.mpr c66
                              have c66b1 : ((bt t148 x7_2) != 46) = false := bne_eq_false_iff_eq.mpr c66
                              clear c66
                              have H' := Aside0.mk H
                              clear H
                              have p13 : 0 ≤ (x7_2 : Int) := of_decide_eq_true (by first | (with_reducible assumption) | assumption)
                              have q13 : x7_2 < (t148.size : Int) := of_decide_eq_true (by first | (with_reducible assumption) | assumption)
                              have hx13 := bt_at t148 x7_2
                              replace p13 := eq_true p13
                              replace q13 := eq_true q13
                              go_wp2
                              go_roundg k2
                              case measure => have := HJ3.out; have := HK2.out; omega
                              case rel => exact ⟨(wrap64 (x7_2 + 1)), (by first | rfl | (simp; done) | (simp [*]; done)), H', ⟨by have := HJ3.out; have := HK2.out; omega⟩, ⟨by repeat (first | (with_reducible first | exact HB.out | apply below_alloc | apply pw_below_drewN | apply below_drew1) | exact HB.out)⟩⟩
                            · rw [if_neg c66] at H
                              have c66b0 : ((bt t148 x7_2) == 46) = false := beq_eq_false_iff_ne.mpr c66
                              have c66b1 : ((bt t148 x7_2) != 46) = true := bne_iff_ne.mpr c66
                              by_cases c67 : (bt t148 x7_2) = 47
                              · rw [if_pos c67] at H
                                have c67b0 : ((bt t148 x7_2) == 47) = true := beq_iff_eq.mpr c67
                                have c67b1 : ((bt t148 x7_2) != 47) = false := bne_eq_false_iff_eq.mpr c67
                                clear c67
                                have H' := Aside0.mk H
                                clear H
                                have p13 : 0 ≤ (x7_2 : Int) := of_decide_eq_true (by first | (with_reducible assumption) | assumption)
                                have q13 : x7_2 < (t148.size : Int) := of_decide_eq_true (by first | (with_reducible assumption) | assumption)
                                have hx13 := bt_at t148 x7_2
                                replace p13 := eq_true p13
                                replace q13 := eq_true q13
                                go_wp2
                                go_roundg k2
                                case measure => have := HJ3.out; have := HK2.out; omega
                                case rel => exact ⟨(wrap64 (x7_2 + 1)), (by first | rfl | (simp; done) | (simp [*]; done)), H', ⟨by have := HJ3.out; have := HK2.out; omega⟩, ⟨by repeat (first | (with_reducible first | exact HB.out | apply below_alloc | apply pw_below_drewN | apply below_drew1) | exact HB.out)⟩⟩
                              · rw [if_neg c67] at H
                                have c67b0 : ((bt t148 x7_2) == 47) = false := beq_eq_false_iff_ne.mpr c67
                                have c67b1 : ((bt t148 x7_2) != 47) = true := bne_iff_ne.mpr c67
                                by_cases c68 : (bt t148 x7_2) = 43
                                · rw [if_pos c68] at H
                                  have c68b0 : ((bt t148 x7_2) == 43) = true := beq_iff_eq.mpr c68
                                  have c68b1 : ((bt t148 x7_2) != 43) = false := bne_eq_false_iff_eq.mpr c68
                                  clear c68
                                  have H' := Aside0.mk H
                                  clear H
                                  have p13 : 0 ≤ (x7_2 : Int) := of_decide_eq_true (by first | (with_reducible assumption) | assumption)
                                  have q13 : x7_2 < (t148.size : Int) := of_decide_eq_true (by first | (with_reducible assumption) | assumption)
                                  have hx13 := bt_at t148 x7_2
                                  replace p13 := eq_true p13
                                  replace q13 := eq_true q13
                                  go_wp2
                                  go_roundg k2
                                  case measure => have := HJ3.out; have := HK2.out; omega
                                  case rel => exact ⟨(wrap64 (x7_2 + 1)), (by first | rfl | (simp; done) | (simp [*]; done)), H', ⟨by have := HJ3.out; have := HK2.out; omega⟩, ⟨by repeat (first | (with_reducible first | exact HB.out | apply below_alloc | apply pw_below_drewN | apply below_drew1) | exact HB.out)⟩⟩
                                · rw [if_neg c68] at H
                                  have c68b0 : ((bt t148 x7_2) == 43) = false := beq_eq_false_iff_ne.mpr c68
                                  have c68b1 : ((bt t148 x7_2) != 43) = true := bne_iff_ne.mpr c68
                                  by_cases c69 : ((bt t148 x7_2) = 37)
                                  · rw [if_pos c69] at H
                                    have c69b0 : ((bt t148 x7_2) == 37) = true := beq_iff_eq.mpr c69
                                    have c69b1 : ((bt t148 x7_2) != 37) = false := bne_eq_false_iff_eq.mpr c69
                                    clear c69
                                    have H' := Aside0.mk H
                                    clear H
                                    have p13 : 0 ≤ (x7_2 : Int) := of_decide_eq_true (by first | (with_reducible assumption) | assumption)
                                    have q13 : x7_2 < (t148.size : Int) := of_decide_eq_true (by first | (with_reducible assumption) | assumption)
                                    have hx13 := bt_at t148 x7_2
                                    replace p13 := eq_true p13
                                    replace q13 := eq_true q13
                                    go_wp2
                                    go_roundg k2
                                    case measure => have := HJ3.out; have := HK2.out; omega
                                    case rel => exact ⟨(wrap64 (x7_2 + 1)), (by first | rfl | (simp; done) | (simp [*]; done)), H', ⟨by have := HJ3.out; have := HK2.out; omega⟩, ⟨by repeat (first | (with_reducible first | exact HB.out | apply below_alloc | apply pw_below_drewN | apply below_drew1) | exact HB.out)⟩⟩
                                  · rw [if_neg c69] at H
                                    have c69b0 : ((bt t148 x7_2) == 37) = false := beq_eq_false_iff_ne.mpr c69
                                    have c69b1 : ((bt t148 x7_2) != 37) = true := bne_iff_ne.mpr c69
                                    obtain rfl := Option.some.inj H
                                    have p13 : 0 ≤ (x7_2 : Int) := of_decide_eq_true (by first | (with_reducible assumption) | assumption)
                                    have q13 : x7_2 < (t148.size : Int) := of_decide_eq_true (by first | (with_reducible assumption) | assumption)
                                    have hx13 := bt_at t148 x7_2
                                    replace p13 := eq_true p13
                                    replace q13 := eq_true q13
                                    go_wp2
                                    go_ret
                                    exact ⟨by first | rfl | (simp [errW_none, errW_some] <;> rfl) | (simp [*, errW_none, errW_some] <;> rfl) | (simp [errW_none, errW_some]; cases a0.toList <;> rfl), by repeat (first | (with_reducible first | exact HB.out | apply below_alloc | apply pw_below_drewN | apply below_drew1) | exact HB.out)⟩
                    · rw [if_neg c62] at H
                      have c62b0 : decide (48 ≤ (bt t148 x7_2)) = false := decide_eq_false c62
                      clear c62
                      by_cases c70 : (bt t148 x7_2) = 95
                      · rw [if_pos c70] at H
                        have c70b0 : ((bt t148 x7_2) == 95) = true := beq_iff_eq.mpr c70
                        have c70b1 : ((bt t148 x7_2) != 95) = false := bne_eq_false_iff_eq.mpr c70
                        clear c70
                        have H' := Aside0.mk H
                        clear H
                        have p13 : 0 ≤ (x7_2 : Int) := of_decide_eq_true (by first | (with_reducible assumption) | assumption)
                        have q13 : x7_2 < (t148.size : Int) := of_decide_eq_true (by first | (with_reducible assumption) | assumption)
                        have hx13 := bt_at t148 x7_2
                        replace p13 := eq_true p13
                        replace q13 := eq_true q13
                        go_wp2
                        go_roundg k2
                        case measure => have := HJ3.out; have := HK2.out; omega
                        case rel => exact ⟨(wrap64 (x7_2 + 1)), (by first | rfl | (simp; done) | (simp [*]; done)), H', ⟨by have := HJ3.out; have := HK2.out; omega⟩, ⟨by repeat (first | (with_reducible first | exact HB.out | apply below_alloc | apply pw_below_drewN | apply below_drew1) | exact HB.out)⟩⟩
                      · rw [if_neg c70] at H
                        have c70b0 : ((bt t148 x7_2) == 95) = false := beq_eq_false_iff_ne.mpr c70
                        have c70b1 : ((bt t148 x7_2) != 95) = true := bne_iff_ne.mpr c70
                        by_cases c71 : (bt t148 x7_2) = 45
                        · rw [if_pos c71] at H
                          have c71b0 : ((bt t148 x7_2) == 45) = true := beq_iff_eq.mpr c71
                          have c71b1 : ((bt t148 x7_2) != 45) = false := bne_eq_false_iff_eq.mpr c71
                          clear c71
                          have H' := Aside0.mk H
                          clear H
                          have p13 : 0 ≤ (x7_2 : Int) := of_decide_eq_true (by first | (with_reducible assumption) | assumption)
                          have q13 : x7_2 < (t148.size : Int) := of_decide_eq_true (by first | (with_reducible assumption) | assumption)
                          have hx13 := bt_at t148 x7_2
                          replace p13 := eq_true p13
                          replace q13 := eq_true q13
                          go_wp2
                          go_roundg k2
                          case measure => have := HJ3.out; have := HK2.out; omega
                          case rel => exact ⟨(wrap64 (x7_2 + 1)), (by first | rfl | (simp; done) | (simp [*]; done)), H', ⟨by have := HJ3.out; have := HK2.out; omega⟩, ⟨by repeat (first | (with_reducible first | exact HB.out | apply below_alloc | apply pw_below_drewN | apply below_drew1) | exact HB.out)⟩⟩
                        · rw [if_neg c71] at H
                          have c71b0 : ((bt t148 x7_2) == 45) = false := beq_eq_false_iff_ne.mpr c71
                          have c71b1 : ((bt t148 x7_2) != 45) = true := bne_iff_ne.mpr c71
                          by_cases c72 : (bt t148 x7_2) = 46
                          · rw [if_pos c72] at H
                            have c72b0 : ((bt t148 x7_2) == 46) = true := beq_iff_eq.mpr c72
                            have c72b1 : ((bt t148 x7_2) != 46) = false := bne_eq_false_iff_eq.mpr c72
                            clear c72
                            have H' := Aside0.mk H
                            clear H
                            have p13 : 0 ≤ (x7_2 : Int) := of_decide_eq_true (by first | (with_reducible assumption) | assumption)
                            have q13 : x7_2 < (t148.size : Int) := of_decide_eq_true (by first | (with_reducible assumption) | assumption)
                            have hx13 := bt_at t148 x7_2
                            replace p13 := eq_true p13
                            replace q13 := eq_true q13
                            go_wp2
                            go_roundg k2
                            case measure => have := HJ3.out; have := HK2.out; omega
                            case rel => exact ⟨(wrap64 (x7_2 + 1)), (by first | rfl | (simp; done) | (simp [*]; done)), H', ⟨by have := HJ3.out; have := HK2.out; omega⟩, ⟨by repeat (first | (with_reducible first | exact HB.out | apply below_alloc | apply pw_below_drewN | apply below_drew1) | exact HB.out)⟩⟩
                          · rw [if_neg c72] at H
                            have c72b0 : ((bt t148 x7_2) == 46) = false := beq_eq_false_iff_ne.mpr c72
                            have c72b1 : ((bt t148 x7_2) != 46) = true := bne_iff_ne.mpr c72
                            by_cases c73 : (bt t148 x7_2) = 47
                            · rw [if_pos c73] at H
                              have c73b0 : ((bt t148 x7_2) == 47) = true := beq_iff_eq.mpr c73
                              have c73b1 : ((bt t148 x7_2) != 47) = false := bne_eq_false_iff_eq.mpr c73
                              clear c73
                              have H' := Aside0.mk H
                              clear H
                              have p13 : 0 ≤ (x7_2 : Int) := of_decide_eq_true (by first | (with_reducible assumption) | assumption)
                              have q13 : x7_2 < (t148.size : Int) := of_decide_eq_true (by first | (with_reducible assumption) | assumption)
                              have hx13 := bt_at t148 x7_2
                              replace p13 := eq_true p13
                              replace q13 := eq_true q13
                              go_wp2
                              go_roundg k2
                              case measure => have := HJ3.out; have := HK2.out; omega
                              case rel => exact ⟨(wrap64 (x7_2 + 1)), (by first | rfl | (simp; done) | (simp [*]; done)), H', ⟨by have := HJ3.out; have := HK2.out; omega⟩, ⟨by repeat (first | (with_reducible first | exact HB.out | apply below_alloc | apply pw_below_drewN | apply below_drew1) | exact HB.out)⟩⟩
                            · rw [if_neg c73] at H
                              have c73b0 : ((bt t148 x7_2) == 47) = false := beq_eq_false_iff_ne.mpr c73
                              have c73b1 : ((bt t148 x7_2) != 47) = true := bne_iff_ne.mpr c73
                              by_cases c74 : (bt t148 x7_2) = 43
                              · rw [if_pos c74] at H
                                have c74b0 : ((bt t148 x7_2) == 43) = true := beq_iff_eq.mpr c74
                                have c74b1 : ((bt t148 x7_2) != 43) = false := bne_eq_false_iff_eq.mpr c74
                                clear c74
                                have H' := Aside0.mk H
                                clear H
                                have p13 : 0 ≤ (x7_2 : Int) := of_decide_eq_true (by first | (with_reducible assumption) | assumption)
                                have q13 : x7_2 < (t148.size : Int) := of_decide_eq_true (by first | (with_reducible assumption) | assumption)
                                have hx13 := bt_at t148 x7_2
                                replace p13 := eq_true p13
                                replace q13 := eq_true q13
                                go_wp2
                                go_roundg k2
                                case measure => have := HJ3.out; have := HK2.out; omega
                                case rel => exact ⟨(wrap64 (x7_2 + 1)), (by first | rfl | (simp; done) | (simp [*]; done)), H', ⟨by have := HJ3.out; have := HK2.out; omega⟩, ⟨by repeat (first | (with_reducible first | exact HB.out | apply below_alloc | apply pw_below_drewN | apply below_drew1) | exact HB.out)⟩⟩
                              · rw [if_neg c74] at H
                                have c74b0 : ((bt t148 x7_2) == 43) = false := beq_eq_false_iff_ne.mpr c74
                                have c74b1 : ((bt t148 x7_2) != 43) = true := bne_iff_ne.mpr c74
                                by_cases c75 : ((bt t148 x7_2) = 37)
                                · rw [if_pos c75] at H
                                  have c75b0 : ((bt t148 x7_2) == 37) = true := beq_iff_eq.mpr c75
                                  have c75b1 : ((bt t148 x7_2) != 37) = false := bne_eq_false_iff_eq.mpr c75
                                  clear c75
                                  have H' := Aside0.mk H
                                  clear H
                                  have p13 : 0 ≤ (x7_2 : Int) := of_decide_eq_true (by first | (with_reducible assumption) | assumption)
                                  have q13 : x7_2 < (t148.size : Int) := of_decide_eq_true (by first | (with_reducible assumption) | assumption)
                                  have hx13 := bt_at t148 x7_2
                                  replace p13 := eq_true p13
                                  replace q13 := eq_true q13
                                  go_wp2
                                  go_roundg k2
                                  case measure => have := HJ3.out; have := HK2.out; omega
                                  case rel => exact ⟨(wrap64 (x7_2 + 1)), (by first | rfl | (simp; done) | (simp [*]; done)), H', ⟨by have := HJ3.out; have := HK2.out; omega⟩, ⟨by repeat (first | (with_reducible first | exact HB.out | apply below_alloc | apply pw_below_drewN | apply below_drew1) | exact HB.out)⟩⟩
                                · rw [if_neg c75] at H
                                  have c75b0 : ((bt t148 x7_2) == 37) = false := beq_eq_false_iff_ne.mpr c75
                                  have c75b1 : ((bt t148 x7_2) != 37) = true := bne_iff_ne.mpr c75
                                  obtain rfl := Option.some.inj H
                                  have p13 : 0 ≤ (x7_2 : Int) := of_decide_eq_true (by first | (with_reducible assumption) | assumption)
                                  have q13 : x7_2 < (t148.size : Int) := of_decide_eq_true (by first | (with_reducible assumption) | assumption)
                                  have hx13 := bt_at t148 x7_2
                                  replace p13 := eq_true p13
                                  replace q13 := eq_true q13
                                  go_wp2
                                  go_ret
                                  exact ⟨by first | rfl | (simp [errW_none, errW_some] <;> rfl) | (simp [*, errW_none, errW_some] <;> rfl) | (simp [errW_none, errW_some]; cases a0.toList <;> rfl), by repeat (first | (with_reducible first | exact HB.out | apply below_alloc | apply pw_below_drewN | apply below_drew1) | exact HB.out)⟩
              · rw [if_neg c12] at H
                exact absurd H (by simp)
            · rw [if_neg c11] at H
              have c11b0 : decide (x7_2 < (t148.size : Int)) = false := decide_eq_false c11
              clear c11
              by_cases c76 : (t148.size : Int) ≥ (a0.size : Int)
              · rw [if_pos c76] at H
                have c76b0 : decide ((a0.size : Int) ≤ (t148.size : Int)) = true := decide_eq_true c76
                have c76b1 : decide (a0.size ≤ t148.size) = true := decide_eq_true (Int.ofNat_le.mp c76)
                clear c76
                obtain ⟨ji77, hji77⟩ : ∃ j_ : Int, (mx 1 (wrap64 (3 * (a0.size : Int)))) = j_ := ⟨_, rfl⟩
                replace H : (if (t148.size : Int) ≤ (ji77) then ((text_Quote.f a1).bind fun t149 => (if ((t148.toList == t149.toList) == (a0.toList == a1.toList)) = true then ((text_Path.f a0).bind fun t150 => (if t150 = true then (some (t148.toList == a0.toList)) else (some true))) else (some false))) else (some false)) = some r := by first | (rw [hji77] at H; exact H) | (simp only [hji77] at H ⊢; exact H)
                have hji77_ : (if 1 < (wrap64 (3 * (a0.size : Int))) then (wrap64 (3 * (a0.size : Int))) else 1) = ji77 := hji77
                by_cases c78 : (t148.size : Int) ≤ (ji77)
                · rw [if_pos c78] at H
                  have c78b0 : decide ((t148.size : Int) ≤ (ji77)) = true := decide_eq_true c78
                  clear c78
                  replace H := Option.bind_eq_some_iff.mp H
                  obtain ⟨t149, A790, H⟩ := H
                  replace H : (if ((t148.toList == t149.toList) == (a0.toList == a1.toList)) = true then ((text_Path.f a0).bind fun t150 => (if t150 = true then (some (t148.toList == a0.toList)) else (some true))) else (some false)) = some r := H
                  have A79 := Aside0.mk A790
                  clear A790
                  by_cases c80 : ((t148.toList == t149.toList) == (a0.toList == a1.toList)) = true
                  · rw [if_pos c80] at H
                    have c80b0 : ((t148.toList == t149.toList) == (a0.toList == a1.toList)) = true := c80
                    (try (have c80b1 : decide ((t148.toList == t149.toList) = (a0.toList == a1.toList)) = true := by simpa using c80))
                    (try (have c80b2 : ((t148.toList == t149.toList) == (a0.toList == a1.toList)) = true := by simpa using c80))
                    clear c80
                    replace H := Option.bind_eq_some_iff.mp H
                    obtain ⟨t150, A810, H⟩ := H
                    replace H : (if t150 = true then (some (t148.toList == a0.toList)) else (some true)) = some r := H
                    have A81 := Aside0.mk A810
                    clear A810
                    by_cases c82 : t150 = true
                    · subst c82
                      have H1 : (some (t148.toList == a0.toList)) = some r := by rw [if_pos rfl] at H; exact H
                      clear H
                      have H := H1
                      clear H1
                      obtain rfl := Option.some.inj H
                      go_wp2_with (first | (go_at_call 22; (with_reducible refine (text_Quote.calls a1 t149 _ A79.out).mono ?_); rintro e w83 ⟨rfl, hb⟩; have n0_ := Aside0.mk (below_step (by repeat (first | (with_reducible first | exact HB.out | apply below_alloc | apply pw_below_drewN | apply below_drew1) | exact HB.out)) hb); clear HB; have HB := n0_; clear n0_; (try clear hb); (try clear hb2); (try clear hk); (try clear hi)) | (go_at_call 21; (with_reducible refine (text_Path.calls a0 true _ ?side1 A81.out).mono ?_); (case side1 => exact Hand.Glob.below hG (by repeat (first | (with_reducible first | exact HB.out | apply below_alloc | apply pw_below_drewN | apply below_drew1) | exact HB.out))); rintro e w84 ⟨rfl, hb⟩; have n0_ := Aside0.mk (below_step (by repeat (first | (with_reducible first | exact HB.out | apply below_alloc | apply pw_below_drewN | apply below_drew1) | exact HB.out)) hb); clear HB; have HB := n0_; clear n0_; (try clear hb); (try clear hb2); (try clear hk); (try clear hi)))
                      go_ret
                      exact ⟨by first | rfl | (simp [errW_none, errW_some] <;> rfl) | (simp only [← hji77]; first | rfl | (simp [errW_none, errW_some] <;> rfl)) | (simp [*, errW_none, errW_some] <;> rfl) | (simp [errW_none, errW_some]; cases a0.toList <;> rfl), by repeat (first | (with_reducible first | exact HB.out | apply below_alloc | apply pw_below_drewN | apply below_drew1) | exact HB.out)⟩
                    · replace c82 := Bool.eq_false_iff.mpr c82
                      subst c82
                      have H1 : (some true) = some r := by rw [if_neg (show ¬ (false = true) by decide)] at H; exact H
                      clear H
                      have H := H1
                      clear H1
                      obtain rfl := Option.some.inj H
                      go_wp2_with (first | (go_at_call 22; (with_reducible refine (text_Quote.calls a1 t149 _ A79.out).mono ?_); rintro e w85 ⟨rfl, hb⟩; have n0_ := Aside0.mk (below_step (by repeat (first | (with_reducible first | exact HB.out | apply below_alloc | apply pw_below_drewN | apply below_drew1) | exact HB.out)) hb); clear HB; have HB := n0_; clear n0_; (try clear hb); (try clear hb2); (try clear hk); (try clear hi)) | (go_at_call 21; (with_reducible refine (text_Path.calls a0 false _ ?side1 A81.out).mono ?_); (case side1 => exact Hand.Glob.below hG (by repeat (first | (with_reducible first | exact HB.out | apply below_alloc | apply pw_below_drewN | apply below_drew1) | exact HB.out))); rintro e w86 ⟨rfl, hb⟩; have n0_ := Aside0.mk (below_step (by repeat (first | (with_reducible first | exact HB.out | apply below_alloc | apply pw_below_drewN | apply below_drew1) | exact HB.out)) hb); clear HB; have HB := n0_; clear n0_; (try clear hb); (try clear hb2); (try clear hk); (try clear hi)))
                      go_ret
                      exact ⟨by first | rfl | (simp [errW_none, errW_some] <;> rfl) | (simp only [← hji77]; first | rfl | (simp [errW_none, errW_some] <;> rfl)) | (simp [*, errW_none, errW_some] <;> rfl) | (simp [errW_none, errW_some]; cases a0.toList <;> rfl), by repeat (first | (with_reducible first | exact HB.out | apply below_alloc | apply pw_below_drewN | apply below_drew1) | exact HB.out)⟩
                  · rw [if_neg c80] at H
                    have c80b0 : ((t148.toList == t149.toList) == (a0.toList == a1.toList)) = false := by simpa using c80
                    (try (have c80b1 : decide ((t148.toList == t149.toList) = (a0.toList == a1.toList)) = false := by simpa using c80))
                    (try (have c80b2 : ((t148.toList == t149.toList) == (a0.toList == a1.toList)) = false := by simpa using c80))
                    (try (have c80b3 : ¬ ((t148.toList == t149.toList) = (a0.toList == a1.toList)) := by simpa using c80))
                    clear c80
                    obtain rfl := Option.some.inj H
                    go_wp2_with (first | (go_at_call 22; (with_reducible refine (text_Quote.calls a1 t149 _ A79.out).mono ?_); rintro e w87 ⟨rfl, hb⟩; have n0_ := Aside0.mk (below_step (by repeat (first | (with_reducible first | exact HB.out | apply below_alloc | apply pw_below_drewN | apply below_drew1) | exact HB.out)) hb); clear HB; have HB := n0_; clear n0_; (try clear hb); (try clear hb2); (try clear hk); (try clear hi)))
                    go_ret
                    exact ⟨by first | rfl | (simp [errW_none, errW_some] <;> rfl) | (simp only [← hji77]; first | rfl | (simp [errW_none, errW_some] <;> rfl)) | (simp [*, errW_none, errW_some] <;> rfl) | (simp [errW_none, errW_some]; cases a0.toList <;> rfl), by repeat (first | (with_reducible first | exact HB.out | apply below_alloc | apply pw_below_drewN | apply below_drew1) | exact HB.out)⟩
                · rw [if_neg c78] at H
                  have c78b0 : decide ((t148.size : Int) ≤ (ji77)) = false := decide_eq_false c78
                  clear c78
                  obtain rfl := Option.some.inj H
                  go_wp2
                  go_ret
                  exact ⟨by first | rfl | (simp [errW_none, errW_some] <;> rfl) | (simp only [← hji77]; first | rfl | (simp [errW_none, errW_some] <;> rfl)) | (simp [*, errW_none, errW_some] <;> rfl) | (simp [errW_none, errW_some]; cases a0.toList <;> rfl), by repeat (first | (with_reducible first | exact HB.out | apply below_alloc | apply pw_below_drewN | apply below_drew1) | exact HB.out)⟩
              · rw [if_neg c76] at H
                have c76b0 : decide ((a0.size : Int) ≤ (t148.size : Int)) = false := decide_eq_false c76
                have c76b1 : decide (a0.size ≤ t148.size) = false := decide_eq_false (fun h => c76 (Int.ofNat_le.mpr h))
                clear c76
                obtain rfl := Option.some.inj H
                go_wp2
                go_ret
                exact ⟨by first | rfl | (simp [errW_none, errW_some] <;> rfl) | (simp [*, errW_none, errW_some] <;> rfl) | (simp [errW_none, errW_some]; cases a0.toList <;> rfl), by repeat (first | (with_reducible first | exact HB.out | apply below_alloc | apply pw_below_drewN | apply below_drew1) | exact HB.out)⟩

end Go.Proofs.YtocpfgdajomjiaaDoor.P
