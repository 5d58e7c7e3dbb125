-- fixed by fix_text.py. Written by a program of this session (hprint.py over the kit's print).
import Derived.Test.YtocpfgdajomjiaaDoorR0
import Derived.Test.YtocpfgdajomjiaaDoorR2
import Derived.Test.YtocpfgdajomjiaaDoorR3
import Derived.Test.YtocpfgdajomjiaaDoorR5
import Derived.Test.YtocpfgdajomjiaaDoorTextB
namespace Go.Proofs.YtocpfgdajomjiaaDoor.R
open Go.Proofs.YtocpfgdajomjiaaDoor.Hand2
open Go.Proofs.YtocpfgdajomjiaaDoor
open Go.RowKit Go.Proofs.YtocpfgdajomjiaaDoorW.PrintWords Go.Proofs.YtocpfgdajomjiaaDoorW.PrintLast Go.Proofs.YtocpfgdajomjiaaDoorW.PrintMore
attribute [local go_sem] max2_int min2_int max_two min_two max_three min_three max_four min_four   -- for this text's walks alone
set_option linter.unusedVariables false
set_option linter.unusedSimpArgs false

/-! ### cooperagelaw1_TextTells: function 8 -/
def cooperagelaw1_TextTells.j0 : Nat → ByteArray → Bool → Bool → Option (Bool)
  | 0, _, _, _ => none
  | k + 1, x0, x3, x15 => if x15 = true then (some x3) else ((text_Number.f x0).bind fun bt129 => ((cooperageref1_Number.f k x0).bind fun bt131 => (if bt129.1 = bt131.1 then (if (bt129.2 == bt131.2) = true then ((text_Path.f x0).bind fun t133 => ((cooperageref1_Path.f k x0).bind fun t134 => (some (t133 == t134)))) else (some false)) else (some false))))
def cooperagelaw1_TextTells.f (k : Nat) (a0 : ByteArray) : Option (Bool) := (cooperagelaw1_shown.f k).bind fun t128 => (if t128 = true then (cooperagelaw1_TextTells.j0 k a0 t128 (decide ((a0.size : Int) > 1000))) else (cooperagelaw1_TextTells.j0 k a0 t128 true))
theorem cooperagelaw1_TextTells.mono_l : ∀ k, (∀ y0 y1 y2, LeO (cooperagelaw1_TextTells.j0 k y0 y1 y2) (cooperagelaw1_TextTells.j0 (k + 1) y0 y1 y2))
  | 0 => fun _ _ _ r h => by simp [cooperagelaw1_TextTells.j0] at h
  | k + 1 => by
    have ih0 := cooperagelaw1_TextTells.mono_l k
    · intro y0 y1 y2
      unfold cooperagelaw1_TextTells.j0
      repeat' first
      | (with_reducible exact ih0 _ _ _)
      | (with_reducible exact cooperagelaw1_shown.mono _)
      | (with_reducible exact cooperageref1_Number.mono _ _)
      | (with_reducible exact cooperageref1_Path.mono _ _)
      | (with_reducible exact LeO.refl _)
      | (with_reducible exact LeO.none _)
      | (with_reducible refine LeO.ite ?_ ?_)
      | (with_reducible refine LeO.bind ?_ (fun _ => ?_))
      | exact ih0 _ _ _
      | exact cooperagelaw1_shown.mono _
      | exact cooperageref1_Number.mono _ _
      | exact cooperageref1_Path.mono _ _
      | exact LeO.none _
      | refine LeO.ite ?_ ?_
      | refine LeO.bind ?_ (fun _ => ?_)
theorem cooperagelaw1_TextTells.mono : ∀ a0 k, LeO (cooperagelaw1_TextTells.f k a0) (cooperagelaw1_TextTells.f (k + 1) a0) := by
  intro a0 k
  have ih0 := cooperagelaw1_TextTells.mono_l k
  unfold cooperagelaw1_TextTells.f
  repeat' first
      | (with_reducible exact ih0 _ _ _)
      | (with_reducible exact cooperagelaw1_shown.mono _)
      | (with_reducible exact cooperageref1_Number.mono _ _)
      | (with_reducible exact cooperageref1_Path.mono _ _)
      | (with_reducible exact LeO.refl _)
      | (with_reducible exact LeO.none _)
      | (with_reducible refine LeO.ite ?_ ?_)
      | (with_reducible refine LeO.bind ?_ (fun _ => ?_))
      | exact ih0 _ _ _
      | exact cooperagelaw1_shown.mono _
      | exact cooperageref1_Number.mono _ _
      | exact cooperageref1_Path.mono _ _
      | exact LeO.none _
      | refine LeO.ite ?_ ?_
      | refine LeO.bind ?_ (fun _ => ?_)
set_option maxHeartbeats 8000000 in
set_option maxRecDepth 100000 in
theorem cooperagelaw1_TextTells.calls (k : Nat) (a0 : ByteArray) (r : Bool) (w : World) (hG : Hand2.Glob w) (h : cooperagelaw1_TextTells.f k a0 = some r) :
    Calls Tryd.prog 8 #[.string a0] w fun e w' => e = .returned (.bool r) ∧ Below w.heap.size w w' := by
  have HB := Aside0.mk (Below.refl w.heap.size w)
  have H : ((cooperagelaw1_shown.f k).bind fun t128 => (if t128 = true then (cooperagelaw1_TextTells.j0 k a0 t128 (decide ((a0.size : Int) > 1000))) else (cooperagelaw1_TextTells.j0 k a0 t128 true))) = some r := h
  clear h
  replace H := Option.bind_eq_some_iff.mp H
  obtain ⟨t128, A20, H⟩ := H
  replace H : (if t128 = true then (cooperagelaw1_TextTells.j0 k a0 t128 (decide ((a0.size : Int) > 1000))) else (cooperagelaw1_TextTells.j0 k a0 t128 true)) = some r := H
  have A2 := Aside0.mk A20
  clear A20
  have HC3 := Aside0.mk H
  clear H
  go_enter Tryd.func8, Tryd.ntmps8
  go_upto_region 2 with (first | ((with_reducible refine gate_callee (f := 19) rfl ?_); refine goesL_ (some 8) rfl rfl Tryd.func19 (by kernel_rfl) rfl #[] rfl (by (try simp only [List.map_toArray, List.map_cons, List.map_nil]); first | done | rfl | (simp only [List.length_drop, List.length_take]; rfl)) ?_; (with_reducible refine (cooperagelaw1_shown.calls k  t128 _ ?side1 A2.out).mono ?_); (case side1 => exact Hand2.Glob.below hG (by repeat (first | (with_reducible first | exact HB.out | apply below_alloc | apply pw_below_drewN | apply below_drew1) | exact HB.out))); rintro e w4 ⟨rfl, hb⟩; refine ⟨_, rfl, ?_⟩; have n0_ := Aside0.mk (below_step (by repeat (first | (with_reducible first | exact HB.out | apply below_alloc | apply pw_below_drewN | apply below_drew1) | exact HB.out)) hb); clear HB; have HB := n0_; clear n0_; (try clear hb); (try clear hb2); (try clear hk); (try clear hi)))
  (try simp only [Act.put, List.setIfInBounds_toArray, List.set_cons_zero, List.set_cons_succ])
  go_cut [15] (fun v15 wc => ∃ (kq : Nat) (x15_2 : Bool), v15 = .bool x15_2 ∧ Aside0 (cooperagelaw1_TextTells.j0 kq a0 t128 x15_2 = some r) ∧ Aside0 (kq ≤ k) ∧ Aside0 (Below w.heap.size w wc))
  case first =>
    have H := HC3.out
    clear HC3
    by_cases c5 : t128 = true
    · subst c5
      have H1 : (cooperagelaw1_TextTells.j0 k a0 true (decide ((a0.size : Int) > 1000))) = some r := by rw [if_pos rfl] at H; exact H
      clear H
      have H := H1
      clear H1
      have H' := Aside0.mk H
      clear H
      go_wp2
      go_meet
      case rel => exact ⟨_, (decide ((a0.size : Int) > 1000)), (by first | rfl | (simp; done) | (simp [*]; done)), H', ⟨by first | omega | exact Nat.le_refl _⟩, ⟨by repeat (first | (with_reducible first | exact HB.out | apply below_alloc | apply pw_below_drewN | apply below_drew1) | exact HB.out)⟩⟩
    · replace c5 := Bool.eq_false_iff.mpr c5
      subst c5
      have H1 : (cooperagelaw1_TextTells.j0 k a0 false true) = some r := by rw [if_neg (show ¬ (false = true) by decide)] at H; exact H
      clear H
      have H := H1
      clear H1
      have H' := Aside0.mk H
      clear H
      go_wp2
      go_meet
      case rel => exact ⟨_, (true), (by first | rfl | (simp; done) | (simp [*]; done)), H', ⟨by first | omega | exact Nat.le_refl _⟩, ⟨by repeat (first | (with_reducible first | exact HB.out | apply below_alloc | apply pw_below_drewN | apply below_drew1) | exact HB.out)⟩⟩
  case rest =>
    clear HC3
    try clear c1
    try clear p2
    try clear c5
    obtain ⟨kq, x15_2, rfl, HA, HJ2, HB⟩ := hcut
    cases kq with
    | zero => exact absurd HA.out (by simp [cooperagelaw1_TextTells.j0])
    | succ kj2 =>
      have H := HA.out
      clear HA
      simp only [cooperagelaw1_TextTells.j0] at H
      by_cases c6 : x15_2 = true
      · subst c6
        have H1 : (some t128) = some r := by rw [if_pos rfl] at H; exact H
        clear H
        have H := H1
        clear H1
        obtain rfl := Option.some.inj H
        go_wp2
        go_ret
        exact ⟨by first | rfl | (simp [errW_none, errW_some] <;> rfl) | (simp [*, errW_none, errW_some] <;> rfl) | (simp [errW_none, errW_some]; cases a0.toList <;> rfl), by repeat (first | (with_reducible first | exact HB.out | apply below_alloc | apply pw_below_drewN | apply below_drew1) | exact HB.out)⟩
      · replace c6 := Bool.eq_false_iff.mpr c6
        subst c6
        have H1 : ((text_Number.f a0).bind fun bt129 => ((cooperageref1_Number.f kj2 a0).bind fun bt131 => (if bt129.1 = bt131.1 then (if (bt129.2 == bt131.2) = true then ((text_Path.f a0).bind fun t133 => ((cooperageref1_Path.f kj2 a0).bind fun t134 => (some (t133 == t134)))) else (some false)) else (some false)))) = some r := by rw [if_neg (show ¬ (false = true) by decide)] at H; exact H
        clear H
        have H := H1
        clear H1
        replace H := Option.bind_eq_some_iff.mp H
        obtain ⟨⟨t129, t130⟩, A70, H⟩ := H
        replace H : ((cooperageref1_Number.f kj2 a0).bind fun bt131 => (if t129 = bt131.1 then (if (t130 == bt131.2) = true then ((text_Path.f a0).bind fun t133 => ((cooperageref1_Path.f kj2 a0).bind fun t134 => (some (t133 == t134)))) else (some false)) else (some false))) = some r := H
        have A7 := Aside0.mk A70
        clear A70
        replace H := Option.bind_eq_some_iff.mp H
        obtain ⟨⟨t131, t132⟩, A80, H⟩ := H
        replace H : (if t129 = t131 then (if (t130 == t132) = true then ((text_Path.f a0).bind fun t133 => ((cooperageref1_Path.f kj2 a0).bind fun t134 => (some (t133 == t134)))) else (some false)) else (some false)) = some r := H
        have A8 := Aside0.mk A80
        clear A80
        by_cases c9 : t129 = t131
        · rw [if_pos c9] at H
          have c9b0 : (t129 == t131) = true := beq_iff_eq.mpr c9
          have c9b1 : (t129 != t131) = false := bne_eq_false_iff_eq.mpr c9
          clear c9
          by_cases c10 : (t130 == t132) = true
          · rw [if_pos c10] at H
            have c10b0 : (t130 == t132) = true := c10
            (try (have c10b1 : decide (t130 = t132) = true := by simpa using c10))
            (try (have c10b2 : (t130 == t132) = true := by simpa using c10))
            clear c10
            replace H := Option.bind_eq_some_iff.mp H
            obtain ⟨t133, A110, H⟩ := H
            replace H : ((cooperageref1_Path.f kj2 a0).bind fun t134 => (some (t133 == t134))) = some r := H
            have A11 := Aside0.mk A110
            clear A110
            replace H := Option.bind_eq_some_iff.mp H
            obtain ⟨t134, A120, H⟩ := H
            replace H : (some (t133 == t134)) = some r := H
            have A12 := Aside0.mk A120
            clear A120
            obtain rfl := Option.some.inj H
            go_wp2_with (first | ((with_reducible refine gate_callee (f := 32) rfl ?_); refine goesL_ (some 19) rfl rfl Tryd.func32 (by kernel_rfl) rfl #[.string a0] rfl (by (try simp only [List.map_toArray, List.map_cons, List.map_nil]); first | done | rfl | (simp only [List.length_drop, List.length_take]; rfl)) ?_; (with_reducible refine (text_Number.calls a0 t129 t130 _ ?side1 A7.out).mono ?_); (case side1 => exact Hand2.Glob.below hG (by repeat (first | (with_reducible first | exact HB.out | apply below_alloc | apply pw_below_drewN | apply below_drew1) | exact HB.out))); rintro e w13 ⟨rfl, hb⟩; refine ⟨_, rfl, ?_⟩; have n0_ := Aside0.mk (below_step (by repeat (first | (with_reducible first | exact HB.out | apply below_alloc | apply pw_below_drewN | apply below_drew1) | exact HB.out)) hb); clear HB; have HB := n0_; clear n0_; (try clear hb); (try clear hb2); (try clear hk); (try clear hi)) | ((with_reducible refine gate_callee (f := 33) rfl ?_); refine goesL_ (some 24) rfl rfl Tryd.func33 (by kernel_rfl) rfl #[.string a0] rfl (by (try simp only [List.map_toArray, List.map_cons, List.map_nil]); first | done | rfl | (simp only [List.length_drop, List.length_take]; rfl)) ?_; (with_reducible refine (cooperageref1_Number.calls kj2 a0 t131 t132 _ A8.out).mono ?_); rintro e w' ⟨rfl, ⟨nd, rfl⟩⟩; refine ⟨_, rfl, ?_⟩) | (go_at_call 21; (with_reducible refine (text_Path.calls a0 t133 _ ?side1 A11.out).mono ?_); (case side1 => exact Hand2.Glob.below hG (by repeat (first | (with_reducible first | exact HB.out | apply below_alloc | apply pw_below_drewN | apply below_drew1) | exact HB.out))); rintro e w14 ⟨rfl, hb⟩; have n0_ := Aside0.mk (below_step (by repeat (first | (with_reducible first | exact HB.out | apply below_alloc | apply pw_below_drewN | apply below_drew1) | exact HB.out)) hb); clear HB; have HB := n0_; clear n0_; (try clear hb); (try clear hb2); (try clear hk); (try clear hi)) | (go_at_call 34; (with_reducible refine (cooperageref1_Path.calls kj2 a0 t134 _ A12.out).mono ?_); rintro e w' ⟨rfl, ⟨nd, rfl⟩⟩))
            go_ret
            exact ⟨by first | rfl | (simp [errW_none, errW_some] <;> rfl) | (simp [*, errW_none, errW_some] <;> rfl) | (simp [errW_none, errW_some]; cases a0.toList <;> rfl), by repeat (first | (with_reducible first | exact HB.out | apply below_alloc | apply pw_below_drewN | apply below_drew1) | exact HB.out)⟩
          · rw [if_neg c10] at H
            have c10b0 : (t130 == t132) = false := by simpa using c10
            (try (have c10b1 : decide (t130 = t132) = false := by simpa using c10))
            (try (have c10b2 : (t130 == t132) = false := by simpa using c10))
            (try (have c10b3 : ¬ (t130 = t132) := by simpa using c10))
            clear c10
            obtain rfl := Option.some.inj H
            go_wp2_with (first | ((with_reducible refine gate_callee (f := 32) rfl ?_); refine goesL_ (some 19) rfl rfl Tryd.func32 (by kernel_rfl) rfl #[.string a0] rfl (by (try simp only [List.map_toArray, List.map_cons, List.map_nil]); first | done | rfl | (simp only [List.length_drop, List.length_take]; rfl)) ?_; (with_reducible refine (text_Number.calls a0 t129 t130 _ ?side1 A7.out).mono ?_); (case side1 => exact Hand2.Glob.below hG (by repeat (first | (with_reducible first | exact HB.out | apply below_alloc | apply pw_below_drewN | apply below_drew1) | exact HB.out))); rintro e w15 ⟨rfl, hb⟩; refine ⟨_, rfl, ?_⟩; have n0_ := Aside0.mk (below_step (by repeat (first | (with_reducible first | exact HB.out | apply below_alloc | apply pw_below_drewN | apply below_drew1) | exact HB.out)) hb); clear HB; have HB := n0_; clear n0_; (try clear hb); (try clear hb2); (try clear hk); (try clear hi)) | ((with_reducible refine gate_callee (f := 33) rfl ?_); refine goesL_ (some 24) rfl rfl Tryd.func33 (by kernel_rfl) rfl #[.string a0] rfl (by (try simp only [List.map_toArray, List.map_cons, List.map_nil]); first | done | rfl | (simp only [List.length_drop, List.length_take]; rfl)) ?_; (with_reducible refine (cooperageref1_Number.calls kj2 a0 t131 t132 _ A8.out).mono ?_); rintro e w' ⟨rfl, ⟨nd, rfl⟩⟩; refine ⟨_, rfl, ?_⟩))
            go_ret
            exact ⟨by first | rfl | (simp [errW_none, errW_some] <;> rfl) | (simp [*, errW_none, errW_some] <;> rfl) | (simp [errW_none, errW_some]; cases a0.toList <;> rfl), by repeat (first | (with_reducible first | exact HB.out | apply below_alloc | apply pw_below_drewN | apply below_drew1) | exact HB.out)⟩
        · rw [if_neg c9] at H
          have c9b0 : (t129 == t131) = false := beq_eq_false_iff_ne.mpr c9
          have c9b1 : (t129 != t131) = true := bne_iff_ne.mpr c9
          obtain rfl := Option.some.inj H
          go_wp2_with (first | ((with_reducible refine gate_callee (f := 32) rfl ?_); refine goesL_ (some 19) rfl rfl Tryd.func32 (by kernel_rfl) rfl #[.string a0] rfl (by (try simp only [List.map_toArray, List.map_cons, List.map_nil]); first | done | rfl | (simp only [List.length_drop, List.length_take]; rfl)) ?_; (with_reducible refine (text_Number.calls a0 t129 t130 _ ?side1 A7.out).mono ?_); (case side1 => exact Hand2.Glob.below hG (by repeat (first | (with_reducible first | exact HB.out | apply below_alloc | apply pw_below_drewN | apply below_drew1) | exact HB.out))); rintro e w16 ⟨rfl, hb⟩; refine ⟨_, rfl, ?_⟩; have n0_ := Aside0.mk (below_step (by repeat (first | (with_reducible first | exact HB.out | apply below_alloc | apply pw_below_drewN | apply below_drew1) | exact HB.out)) hb); clear HB; have HB := n0_; clear n0_; (try clear hb); (try clear hb2); (try clear hk); (try clear hi)) | ((with_reducible refine gate_callee (f := 33) rfl ?_); refine goesL_ (some 24) rfl rfl Tryd.func33 (by kernel_rfl) rfl #[.string a0] rfl (by (try simp only [List.map_toArray, List.map_cons, List.map_nil]); first | done | rfl | (simp only [List.length_drop, List.length_take]; rfl)) ?_; (with_reducible refine (cooperageref1_Number.calls kj2 a0 t131 t132 _ A8.out).mono ?_); rintro e w' ⟨rfl, ⟨nd, rfl⟩⟩; refine ⟨_, rfl, ?_⟩))
          go_ret
          exact ⟨by first | rfl | (simp [errW_none, errW_some] <;> rfl) | (simp [*, errW_none, errW_some] <;> rfl) | (simp [errW_none, errW_some]; cases a0.toList <;> rfl), by repeat (first | (with_reducible first | exact HB.out | apply below_alloc | apply pw_below_drewN | apply below_drew1) | exact HB.out)⟩

end Go.Proofs.YtocpfgdajomjiaaDoor.R
