-- fixed by fix_text2.py, fixed by fix_text.py. Written by a program of this session (hprint.py over the kit's print).
import Derived.Test.YtocpfgdajomjiaaDoorL0
import Derived.Test.YtocpfgdajomjiaaDoorL3
import Derived.Test.YtocpfgdajomjiaaDoorL4
import Derived.Test.YtocpfgdajomjiaaDoorHandLine
namespace Go.Proofs.YtocpfgdajomjiaaDoor.L
open Go.Proofs.YtocpfgdajomjiaaDoor.Hand3
open Go.Proofs.YtocpfgdajomjiaaDoor
open Go.RowKit Go.Proofs.YtocpfgdajomjiaaDoorW.PrintWords Go.Proofs.YtocpfgdajomjiaaDoorW.PrintLast Go.Proofs.YtocpfgdajomjiaaDoorW.PrintMore
attribute [local go_sem] max2_int min2_int max_two min_two max_three min_three max_four min_four   -- for this text's walks alone
set_option linter.unusedVariables false
set_option linter.unusedSimpArgs false

/-! ### cooperagelaw4_LineBounds: function 17 -/
mutual
def cooperagelaw4_LineBounds.j0 : Nat → List ByteArray → Bool → Bool → Option (Bool)
  | 0, _, _, _ => none
  | k + 1, x0, x3, x18 => if x18 = true then (some x3) else ((line_Put.f x0).bind fun bt247 => (cooperagelaw4_LineBounds.l0 k x0 bt247.1 bt247.2 9 0))
def cooperagelaw4_LineBounds.l0 : Nat → List ByteArray → ByteArray → Int → Int → Int → Option (Bool)
  | 0, _, _, _, _, _ => none
  | k + 1, x0, x5, x6, x7, x8 => if x8 < (x0.length : Int) then (if 0 ≤ x8 then ((text_Quote.f (rdOf ByteArray.empty x0 x8)).bind fun t250 => (cooperagelaw4_LineBounds.l0 k x0 x5 x6 (wrap64 ((wrap64 (x7 + (t250.size : Int))) + 1)) (wrap64 (x8 + 1)))) else (none)) else (if x6 = 0 then (cooperagelaw4_LineBounds.l1 k x0 x5 x7 0) else (if x5.toList = ([] : List UInt8) then (if (((x0.length : Int) == 0) == (x6 == 1)) = true then (if (x0.length : Int) = 0 then (some true) else (if (x0.length : Int) > 40 then (some true) else (some (decide (x7 > 13000))))) else (some false)) else (some false)))
def cooperagelaw4_LineBounds.l1 : Nat → List ByteArray → ByteArray → Int → Int → Option (Bool)
  | 0, _, _, _, _ => none
  | k + 1, x0, x5, x7, x9 => if x9 < (wrap64 ((x5.size : Int) - 1)) then (if 0 ≤ x9 then (if x9 < (x5.size : Int) then (if (bt x5 x9) = 10 then (some false) else (cooperagelaw4_LineBounds.l1 k x0 x5 x7 (wrap64 (x9 + 1)))) else (none)) else (none)) else (if 0 ≤ (wrap64 ((x5.size : Int) - 1)) then (if (wrap64 ((x5.size : Int) - 1)) < (x5.size : Int) then (if (bt x5 (wrap64 ((x5.size : Int) - 1))) = 10 then (if (x5.size : Int) = x7 then (if x7 ≤ 13000 then (if (x0.length : Int) ≥ 1 then (some (decide ((x0.length : Int) ≤ 40))) else (some false)) else (some false)) else (some false)) else (some false)) else (none)) else (none))
end
def cooperagelaw4_LineBounds.f (k : Nat) (l0 : List ByteArray) : Option (Bool) := (cooperagelaw4_shown.f k).bind fun t245 => ((cooperagelaw4_small.f k l0).bind fun t246 => (if t245 = true then (cooperagelaw4_LineBounds.j0 k l0 t245 (!t246)) else (cooperagelaw4_LineBounds.j0 k l0 t245 true)))
theorem cooperagelaw4_LineBounds.mono_l : ∀ k, (∀ y0 y1 y2, LeO (cooperagelaw4_LineBounds.j0 k y0 y1 y2) (cooperagelaw4_LineBounds.j0 (k + 1) y0 y1 y2)) ∧ (∀ y0 y1 y2 y3 y4, LeO (cooperagelaw4_LineBounds.l0 k y0 y1 y2 y3 y4) (cooperagelaw4_LineBounds.l0 (k + 1) y0 y1 y2 y3 y4)) ∧ (∀ y0 y1 y2 y3, LeO (cooperagelaw4_LineBounds.l1 k y0 y1 y2 y3) (cooperagelaw4_LineBounds.l1 (k + 1) y0 y1 y2 y3))
  | 0 => ⟨fun _ _ _ r h => by simp [cooperagelaw4_LineBounds.j0] at h, fun _ _ _ _ _ r h => by simp [cooperagelaw4_LineBounds.l0] at h, fun _ _ _ _ r h => by simp [cooperagelaw4_LineBounds.l1] at h⟩
  | k + 1 => by
    obtain ⟨ih0, ih1, ih2⟩ := cooperagelaw4_LineBounds.mono_l k
    refine ⟨?_, ?_, ?_⟩
    · intro y0 y1 y2
      unfold cooperagelaw4_LineBounds.j0
      repeat' first
      | (with_reducible exact ih0 _ _ _)
      | (with_reducible exact ih1 _ _ _ _ _)
      | (with_reducible exact ih2 _ _ _ _)
      | (with_reducible exact cooperagelaw4_shown.mono _)
      | (with_reducible exact cooperagelaw4_small.mono _ _)
      | (with_reducible exact LeO.refl _)
      | (with_reducible exact LeO.none _)
      | (with_reducible refine LeO.ite ?_ ?_)
      | (with_reducible refine LeO.bind ?_ (fun _ => ?_))
      | exact ih0 _ _ _
      | exact ih1 _ _ _ _ _
      | exact ih2 _ _ _ _
      | exact cooperagelaw4_shown.mono _
      | exact cooperagelaw4_small.mono _ _
      | exact LeO.none _
      | refine LeO.ite ?_ ?_
      | refine LeO.bind ?_ (fun _ => ?_)
    · intro y0 y1 y2 y3 y4
      unfold cooperagelaw4_LineBounds.l0
      repeat' first
      | (with_reducible exact ih0 _ _ _)
      | (with_reducible exact ih1 _ _ _ _ _)
      | (with_reducible exact ih2 _ _ _ _)
      | (with_reducible exact cooperagelaw4_shown.mono _)
      | (with_reducible exact cooperagelaw4_small.mono _ _)
      | (with_reducible exact LeO.refl _)
      | (with_reducible exact LeO.none _)
      | (with_reducible refine LeO.ite ?_ ?_)
      | (with_reducible refine LeO.bind ?_ (fun _ => ?_))
      | exact ih0 _ _ _
      | exact ih1 _ _ _ _ _
      | exact ih2 _ _ _ _
      | exact cooperagelaw4_shown.mono _
      | exact cooperagelaw4_small.mono _ _
      | exact LeO.none _
      | refine LeO.ite ?_ ?_
      | refine LeO.bind ?_ (fun _ => ?_)
    · intro y0 y1 y2 y3
      unfold cooperagelaw4_LineBounds.l1
      repeat' first
      | (with_reducible exact ih0 _ _ _)
      | (with_reducible exact ih1 _ _ _ _ _)
      | (with_reducible exact ih2 _ _ _ _)
      | (with_reducible exact cooperagelaw4_shown.mono _)
      | (with_reducible exact cooperagelaw4_small.mono _ _)
      | (with_reducible exact LeO.refl _)
      | (with_reducible exact LeO.none _)
      | (with_reducible refine LeO.ite ?_ ?_)
      | (with_reducible refine LeO.bind ?_ (fun _ => ?_))
      | exact ih0 _ _ _
      | exact ih1 _ _ _ _ _
      | exact ih2 _ _ _ _
      | exact cooperagelaw4_shown.mono _
      | exact cooperagelaw4_small.mono _ _
      | exact LeO.none _
      | refine LeO.ite ?_ ?_
      | refine LeO.bind ?_ (fun _ => ?_)
theorem cooperagelaw4_LineBounds.mono : ∀ a0 k, LeO (cooperagelaw4_LineBounds.f k a0) (cooperagelaw4_LineBounds.f (k + 1) a0) := by
  intro a0 k
  obtain ⟨ih0, ih1, ih2⟩ := cooperagelaw4_LineBounds.mono_l k
  unfold cooperagelaw4_LineBounds.f
  repeat' first
      | (with_reducible exact ih0 _ _ _)
      | (with_reducible exact ih1 _ _ _ _ _)
      | (with_reducible exact ih2 _ _ _ _)
      | (with_reducible exact cooperagelaw4_shown.mono _)
      | (with_reducible exact cooperagelaw4_small.mono _ _)
      | (with_reducible exact LeO.refl _)
      | (with_reducible exact LeO.none _)
      | (with_reducible refine LeO.ite ?_ ?_)
      | (with_reducible refine LeO.bind ?_ (fun _ => ?_))
      | exact ih0 _ _ _
      | exact ih1 _ _ _ _ _
      | exact ih2 _ _ _ _
      | exact cooperagelaw4_shown.mono _
      | exact cooperagelaw4_small.mono _ _
      | exact LeO.none _
      | refine LeO.ite ?_ ?_
      | refine LeO.bind ?_ (fun _ => ?_)
set_option maxHeartbeats 8000000 in
set_option maxRecDepth 100000 in
theorem cooperagelaw4_LineBounds.calls (k : Nat) (A0 : Option Addr) (c0 : Nat) (l0 : List ByteArray) (r : Bool) (w : World) (hG : Hand3.Glob w) (hr0 : Kd.C Kd.string w A0 l0.length l0) (hc0 : l0.length ≤ c0) (h : cooperagelaw4_LineBounds.f k l0 = some r) :
    Calls Tryd.prog 17 #[.slice A0 l0.length c0] w fun e w' => e = .returned (.bool r) ∧ Below w.heap.size w w' := by
  have HR0 := Aside0.mk hr0
  have HC0 := Aside0.mk hc0
  clear hr0 hc0
  have HB := Aside0.mk (Below.refl w.heap.size w)
  have H : ((cooperagelaw4_shown.f k).bind fun t245 => ((cooperagelaw4_small.f k l0).bind fun t246 => (if t245 = true then (cooperagelaw4_LineBounds.j0 k l0 t245 (!t246)) else (cooperagelaw4_LineBounds.j0 k l0 t245 true)))) = some r := h
  clear h
  replace H := Option.bind_eq_some_iff.mp H
  obtain ⟨t245, A20, H⟩ := H
  replace H : ((cooperagelaw4_small.f k l0).bind fun t246 => (if t245 = true then (cooperagelaw4_LineBounds.j0 k l0 t245 (!t246)) else (cooperagelaw4_LineBounds.j0 k l0 t245 true))) = some r := H
  have A2 := Aside0.mk A20
  clear A20
  replace H := Option.bind_eq_some_iff.mp H
  obtain ⟨t246, A30, H⟩ := H
  replace H : (if t245 = true then (cooperagelaw4_LineBounds.j0 k l0 t245 (!t246)) else (cooperagelaw4_LineBounds.j0 k l0 t245 true)) = some r := H
  have A3 := Aside0.mk A30
  clear A30
  have HC4 := Aside0.mk H
  clear H
  go_enter Tryd.func17, Tryd.ntmps17
  go_upto_region 3 with (first | ((with_reducible refine gate_callee (f := 38) rfl ?_); refine goesL_ (some 10) rfl rfl Tryd.func38 (by kernel_rfl) rfl #[] rfl (by (try simp only [List.map_toArray, List.map_cons, List.map_nil]); first | done | rfl | (simp only [List.length_drop, List.length_take]; rfl)) ?_; (with_reducible refine (cooperagelaw4_shown.calls k  t245 _ ?side1 A2.out).mono ?_); (case side1 => exact Hand3.Glob.below hG (by repeat (first | (with_reducible first | exact HB.out | apply below_alloc | apply pw_below_drewN | apply below_drew1) | exact HB.out))); rintro e w5 ⟨rfl, hb⟩; refine ⟨_, rfl, ?_⟩; have n0_ := Aside0.mk (below_step (by repeat (first | (with_reducible first | exact HB.out | apply below_alloc | apply pw_below_drewN | apply below_drew1) | exact HB.out)) hb); clear HB; have HB := n0_; clear n0_; (try clear hb); (try clear hb2); (try clear hk); (try clear hi)) | ((with_reducible refine gate_callee (f := 39) rfl ?_); refine goesL_ (some 12) rfl rfl Tryd.func39 (by kernel_rfl) rfl #[.slice A0 l0.length c0] rfl (by (try simp only [List.map_toArray, List.map_cons, List.map_nil]); first | done | rfl | (simp only [List.length_drop, List.length_take]; rfl)) ?_; (with_reducible refine (cooperagelaw4_small.calls k _ _ l0 t246 _ ?side1 ?side2 A3.out).mono ?_); (case side1 => repeat (first | exact (Kd.C_below HR0.out HB.out) | (with_reducible refine Kd.C_alloc ?_ _) | (with_reducible refine Kd.C_drewN ?_ _) | (with_reducible refine Kd.C_drew ?_))); (case side2 => exact HC0.out); rintro e w6 ⟨rfl, hb⟩; refine ⟨_, rfl, ?_⟩; have n0_ := Aside0.mk (below_step (by repeat (first | (with_reducible first | exact HB.out | apply below_alloc | apply pw_below_drewN | apply below_drew1) | exact HB.out)) hb); clear HB; have HB := n0_; clear n0_; (try clear hb); (try clear hb2); (try clear hk); (try clear hi)))
  (try simp only [Act.put, List.setIfInBounds_toArray, List.set_cons_zero, List.set_cons_succ])
  go_cut [18] (fun v18 wc => ∃ (kq : Nat) (x18_3 : Bool), v18 = .bool x18_3 ∧ Aside0 (cooperagelaw4_LineBounds.j0 kq l0 t245 x18_3 = some r) ∧ Aside0 (kq ≤ k) ∧ Aside0 (Below w.heap.size w wc))
  case first =>
    have H := HC4.out
    clear HC4
    by_cases c7 : t245 = true
    · subst c7
      have H1 : (cooperagelaw4_LineBounds.j0 k l0 true (!t246)) = some r := by rw [if_pos rfl] at H; exact H
      clear H
      have H := H1
      clear H1
      have H' := Aside0.mk H
      clear H
      go_wp2
      go_meet
      case rel => exact ⟨_, (!t246), (by first | rfl | (simp; done) | (simp [*]; done)), H', ⟨by first | omega | exact Nat.le_refl _⟩, ⟨by repeat (first | (with_reducible first | exact HB.out | apply below_alloc | apply pw_below_drewN | apply below_drew1) | exact HB.out)⟩⟩
    · replace c7 := Bool.eq_false_iff.mpr c7
      subst c7
      have H1 : (cooperagelaw4_LineBounds.j0 k l0 false true) = some r := by rw [if_neg (show ¬ (false = true) by decide)] at H; exact H
      clear H
      have H := H1
      clear H1
      have H' := Aside0.mk H
      clear H
      go_wp2
      go_meet
      case rel => exact ⟨_, (true), (by first | rfl | (simp; done) | (simp [*]; done)), H', ⟨by first | omega | exact Nat.le_refl _⟩, ⟨by repeat (first | (with_reducible first | exact HB.out | apply below_alloc | apply pw_below_drewN | apply below_drew1) | exact HB.out)⟩⟩
  case rest =>
    clear HC4
    try clear c1
    try clear p2
    try clear c3
    try clear c7
    obtain ⟨kq, x18_3, rfl, HA, HJ3, HB⟩ := hcut
    cases kq with
    | zero => exact absurd HA.out (by simp [cooperagelaw4_LineBounds.j0])
    | succ kj3 =>
      have H := HA.out
      clear HA
      simp only [cooperagelaw4_LineBounds.j0] at H
      by_cases c8 : x18_3 = true
      · subst c8
        have H1 : (some t245) = some r := by rw [if_pos rfl] at H; exact H
        clear H
        have H := H1
        clear H1
        obtain rfl := Option.some.inj H
        go_wp2
        go_ret
        exact ⟨by first | rfl | (simp [errW_none, errW_some] <;> rfl) | (simp [*, errW_none, errW_some] <;> rfl) | (simp [errW_none, errW_some]; cases t247.toList <;> rfl), by repeat (first | (with_reducible first | exact HB.out | apply below_alloc | apply pw_below_drewN | apply below_drew1) | exact HB.out)⟩
      · replace c8 := Bool.eq_false_iff.mpr c8
        subst c8
        have H1 : ((line_Put.f l0).bind fun bt247 => (cooperagelaw4_LineBounds.l0 kj3 l0 bt247.1 bt247.2 9 0)) = some r := by rw [if_neg (show ¬ (false = true) by decide)] at H; exact H
        clear H
        have H := H1
        clear H1
        replace H := Option.bind_eq_some_iff.mp H
        obtain ⟨⟨t247, t248⟩, A90, H⟩ := H
        replace H : (cooperagelaw4_LineBounds.l0 kj3 l0 t247 t248 9 0) = some r := H
        have A9 := Aside0.mk A90
        clear A90
        have H' := Aside0.mk H
        clear H
        go_wp2_with (first | ((with_reducible refine gate_callee (f := 40) rfl ?_); refine goesL_ (some 22) rfl rfl Tryd.func40 (by kernel_rfl) rfl #[.slice A0 l0.length c0] rfl (by (try simp only [List.map_toArray, List.map_cons, List.map_nil]); first | done | rfl | (simp only [List.length_drop, List.length_take]; rfl)) ?_; (with_reducible refine (line_Put.calls _ _ l0 t247 t248 _ ?side1 ?side2 ?side3 A9.out).mono ?_); (case side1 => exact Hand3.Glob.below hG (by repeat (first | (with_reducible first | exact HB.out | apply below_alloc | apply pw_below_drewN | apply below_drew1) | exact HB.out))); (case side2 => repeat (first | exact (Kd.C_below HR0.out HB.out) | (with_reducible refine Kd.C_alloc ?_ _) | (with_reducible refine Kd.C_drewN ?_ _) | (with_reducible refine Kd.C_drew ?_))); (case side3 => exact HC0.out); rintro e w10 ⟨rfl, hb⟩; refine ⟨_, rfl, ?_⟩; have n0_ := Aside0.mk (below_step (by repeat (first | (with_reducible first | exact HB.out | apply below_alloc | apply pw_below_drewN | apply below_drew1) | exact HB.out)) hb); clear HB; have HB := n0_; clear n0_; (try clear hb); (try clear hb2); (try clear hk); (try clear hi)))
        go_loopg [7, 8] kj3 (fun kq v7 v8 w' => ∃ (x7_2 : Int) (x8_2 : Int), v7 = .int .i64 x7_2 ∧ v8 = .int .i64 x8_2 ∧ Aside0 (cooperagelaw4_LineBounds.l0 kq l0 t247 t248 x7_2 x8_2 = some r) ∧ Aside0 (kq ≤ kj3) ∧ Aside0 (Below w.heap.size w w'))
        case atStart => exact ⟨(9), (0), (by first | rfl | (simp; done) | (simp [*]; done)), (by first | rfl | (simp; done) | (simp [*]; done)), H', ⟨Nat.le_refl _⟩, ⟨by repeat (first | (with_reducible first | exact HB.out | apply below_alloc | apply pw_below_drewN | apply below_drew1) | exact HB.out)⟩⟩
        case round =>
          clear H'
          try clear c1
          try clear p2
          try clear c3
          try clear c4
          try clear c7
          try clear c8
          try clear p2
          obtain ⟨x7_2, x8_2, rfl, rfl, HA, HK2, HB⟩ := hrel
          cases gk with
          | zero => exact absurd HA.out (by simp [cooperagelaw4_LineBounds.l0])
          | succ k2 =>
            have H := HA.out
            clear HA
            simp only [cooperagelaw4_LineBounds.l0] at H
            by_cases c11 : x8_2 < (l0.length : Int)
            · rw [if_pos c11] at H
              have c11b0 : decide (x8_2 < (l0.length : Int)) = true := decide_eq_true c11
              clear c11
              by_cases c12 : 0 ≤ x8_2
              · rw [if_pos c12] at H
                have c12b0 : decide (0 ≤ x8_2) = true := decide_eq_true c12
                clear c12
                replace H := Option.bind_eq_some_iff.mp H
                obtain ⟨t250, A130, H⟩ := H
                replace H : (cooperagelaw4_LineBounds.l0 k2 l0 t247 t248 (wrap64 ((wrap64 (x7_2 + (t250.size : Int))) + 1)) (wrap64 (x8_2 + 1))) = some r := H
                have A13 := Aside0.mk A130
                clear A130
                have H' := Aside0.mk H
                clear H
                have p249 : 0 ≤ (x8_2 : Int) := of_decide_eq_true (by first | (with_reducible assumption) | assumption)
                have q249 : x8_2 < (l0.length : Int) := of_decide_eq_true (by first | (with_reducible assumption) | assumption)
                obtain ⟨ad249, e249, hx249_0⟩ := Kd.at_string HR0.out x8_2 p249 q249
                cases e249
                replace hx249_0 := (HB.out.cell (World.block_lt_of_cell? w _ hx249_0)).trans hx249_0
                replace p249 := eq_true p249
                replace q249 := eq_true q249
                go_wp2_with (first | ((with_reducible refine gate_callee (f := 22) rfl ?_); refine goesL_ (some 36) rfl rfl Tryd.func22 (by kernel_rfl) rfl #[.string (rdOf ByteArray.empty l0 x8_2)] rfl (by (try simp only [List.map_toArray, List.map_cons, List.map_nil]); first | done | rfl | (simp only [List.length_drop, List.length_take]; rfl)) ?_; (with_reducible refine (text_Quote.calls (rdOf ByteArray.empty l0 x8_2) t250 _ A13.out).mono ?_); rintro e w14 ⟨rfl, hb⟩; refine ⟨_, rfl, ?_⟩; have n0_ := Aside0.mk (below_step (by repeat (first | (with_reducible first | exact HB.out | apply below_alloc | apply pw_below_drewN | apply below_drew1) | exact HB.out)) hb); clear HB; have HB := n0_; clear n0_; (try clear hb); (try clear hb2); (try clear hk); (try clear hi)))
                go_roundg k2
                case measure => have := HJ3.out; have := HK2.out; omega
                case rel => exact ⟨(wrap64 ((wrap64 (x7_2 + (t250.size : Int))) + 1)), (wrap64 (x8_2 + 1)), (by first | rfl | (simp; done) | (simp [*]; done)), (by first | rfl | (simp; done) | (simp [*]; done)), H', ⟨by have := HJ3.out; have := HK2.out; omega⟩, ⟨by repeat (first | (with_reducible first | exact HB.out | apply below_alloc | apply pw_below_drewN | apply below_drew1) | exact HB.out)⟩⟩
              · rw [if_neg c12] at H
                exact absurd H (by simp)
            · rw [if_neg c11] at H
              have c11b0 : decide (x8_2 < (l0.length : Int)) = false := decide_eq_false c11
              clear c11
              by_cases c15 : t248 = 0
              · rw [if_pos c15] at H
                have c15b0 : (t248 == 0) = true := beq_iff_eq.mpr c15
                have c15b1 : (t248 != 0) = false := bne_eq_false_iff_eq.mpr c15
                clear c15
                have H' := Aside0.mk H
                clear H
                go_wp2
                go_loopg [9] k2 (fun kq v9 w' => ∃ (x9_3 : Int), v9 = .int .i64 x9_3 ∧ Aside0 (cooperagelaw4_LineBounds.l1 kq l0 t247 x7_2 x9_3 = some r) ∧ Aside0 (kq ≤ k2) ∧ Aside0 (Below w.heap.size w w'))
                case atStart => exact ⟨(0), (by first | rfl | (simp; done) | (simp [*]; done)), H', ⟨Nat.le_refl _⟩, ⟨by repeat (first | (with_reducible first | exact HB.out | apply below_alloc | apply pw_below_drewN | apply below_drew1) | exact HB.out)⟩⟩
                case round =>
                  clear H'
                  try clear c1
                  try clear c2
                  try clear p2
                  try clear q2
                  try clear hx2
                  try clear c3
                  try clear c4
                  try clear p6
                  try clear c7
                  try clear c8
                  try clear c11
                  try clear c11b0
                  try clear c12
                  try clear c12b0
                  try clear c15
                  try clear c15b0
                  try clear c15b1
                  try clear hx249_0
                  try clear p2
                  try clear p249
                  try clear q249
                  obtain ⟨x9_3, rfl, HA, HK3, HB⟩ := hrel
                  cases gk with
                  | zero => exact absurd HA.out (by simp [cooperagelaw4_LineBounds.l1])
                  | succ k3 =>
                    have H := HA.out
                    clear HA
                    simp only [cooperagelaw4_LineBounds.l1] at H
                    by_cases c16 : x9_3 < (wrap64 ((t247.size : Int) - 1))
                    · rw [if_pos c16] at H
                      have c16b0 : decide (x9_3 < (wrap64 ((t247.size : Int) - 1))) = true := decide_eq_true c16
                      clear c16
                      by_cases c17 : 0 ≤ x9_3
                      · rw [if_pos c17] at H
                        have c17b0 : decide (0 ≤ x9_3) = true := decide_eq_true c17
                        clear c17
                        by_cases c18 : x9_3 < (t247.size : Int)
                        · rw [if_pos c18] at H
                          have c18b0 : decide (x9_3 < (t247.size : Int)) = true := decide_eq_true c18
                          clear c18
                          by_cases c20 : (bt t247 x9_3) = 10
                          · rw [if_pos c20] at H
                            have c20b0 : ((bt t247 x9_3) == 10) = true := beq_iff_eq.mpr c20
                            have c20b1 : ((bt t247 x9_3) != 10) = false := bne_eq_false_iff_eq.mpr c20
                            clear c20
                            obtain rfl := Option.some.inj H
                            have p19 : 0 ≤ (x9_3 : Int) := of_decide_eq_true (by first | (with_reducible assumption) | assumption)
                            have q19 : x9_3 < (t247.size : Int) := of_decide_eq_true (by first | (with_reducible assumption) | assumption)
                            have hx19 := bt_at t247 x9_3
                            replace p19 := eq_true p19
                            replace q19 := eq_true q19
                            go_wp2
                            go_ret
                            exact ⟨by first | rfl | (simp [errW_none, errW_some] <;> rfl) | (simp [*, errW_none, errW_some] <;> rfl) | (simp [errW_none, errW_some]; cases t247.toList <;> rfl), by repeat (first | (with_reducible first | exact HB.out | apply below_alloc | apply pw_below_drewN | apply below_drew1) | exact HB.out)⟩
                          · rw [if_neg c20] at H
                            have c20b0 : ((bt t247 x9_3) == 10) = false := beq_eq_false_iff_ne.mpr c20
                            have c20b1 : ((bt t247 x9_3) != 10) = true := bne_iff_ne.mpr c20
                            have H' := Aside0.mk H
                            clear H
                            have p19 : 0 ≤ (x9_3 : Int) := of_decide_eq_true (by first | (with_reducible assumption) | assumption)
                            have q19 : x9_3 < (t247.size : Int) := of_decide_eq_true (by first | (with_reducible assumption) | assumption)
                            have hx19 := bt_at t247 x9_3
                            replace p19 := eq_true p19
                            replace q19 := eq_true q19
                            go_wp2
                            go_roundg k3
                            case measure => have := HJ3.out; have := HK2.out; have := HK3.out; omega
                            case rel => exact ⟨(wrap64 (x9_3 + 1)), (by first | rfl | (simp; done) | (simp [*]; done)), H', ⟨by have := HJ3.out; have := HK2.out; have := HK3.out; omega⟩, ⟨by repeat (first | (with_reducible first | exact HB.out | apply below_alloc | apply pw_below_drewN | apply below_drew1) | exact HB.out)⟩⟩
                        · rw [if_neg c18] at H
                          exact absurd H (by simp)
                      · rw [if_neg c17] at H
                        exact absurd H (by simp)
                    · rw [if_neg c16] at H
                      have c16b0 : decide (x9_3 < (wrap64 ((t247.size : Int) - 1))) = false := decide_eq_false c16
                      clear c16
                      obtain ⟨ji21, hji21⟩ : ∃ j_ : Int, (wrap64 ((t247.size : Int) - 1)) = j_ := ⟨_, rfl⟩
                      replace H : (if 0 ≤ (ji21) then (if (ji21) < (t247.size : Int) then (if (bt t247 (ji21)) = 10 then (if (t247.size : Int) = x7_2 then (if x7_2 ≤ 13000 then (if (l0.length : Int) ≥ 1 then (some (decide ((l0.length : Int) ≤ 40))) else (some false)) else (some false)) else (some false)) else (some false)) else (none)) else (none)) = some r := by first | (rw [hji21] at H; exact H) | (simp only [hji21] at H ⊢; exact H)
                      (try rw [hji21] at c16b0)
                      have hji21w : (IntKind.i64.wrap ((t247.size : Int) - 1)) = ji21 := (i64_w _).trans hji21
                      by_cases c22 : 0 ≤ (ji21)
                      · rw [if_pos c22] at H
                        have c22b0 : decide (0 ≤ (ji21)) = true := decide_eq_true c22
                        clear c22
                        by_cases c23 : (ji21) < (t247.size : Int)
                        · rw [if_pos c23] at H
                          have c23b0 : decide ((ji21) < (t247.size : Int)) = true := decide_eq_true c23
                          clear c23
                          by_cases c25 : (bt t247 (ji21)) = 10
                          · rw [if_pos c25] at H
                            have c25b0 : ((bt t247 (ji21)) == 10) = true := beq_iff_eq.mpr c25
                            have c25b1 : ((bt t247 (ji21)) != 10) = false := bne_eq_false_iff_eq.mpr c25
                            clear c25
                            by_cases c26 : (t247.size : Int) = x7_2
                            · rw [if_pos c26] at H
                              have c26b0 : ((t247.size : Int) == x7_2) = true := beq_iff_eq.mpr c26
                              have c26b1 : ((t247.size : Int) != x7_2) = false := bne_eq_false_iff_eq.mpr c26
                              clear c26
                              by_cases c27 : x7_2 ≤ 13000
                              · rw [if_pos c27] at H
                                have c27b0 : decide (x7_2 ≤ 13000) = true := decide_eq_true c27
                                clear c27
                                by_cases c28 : (l0.length : Int) ≥ 1
                                · rw [if_pos c28] at H
                                  have c28b0 : decide (1 ≤ (l0.length : Int)) = true := decide_eq_true c28
                                  have c28b1 : decide (1 ≤ l0.length) = true := decide_eq_true (by omega)
                                  clear c28
                                  obtain rfl := Option.some.inj H
                                  have p24 : 0 ≤ ((ji21) : Int) := of_decide_eq_true (by first | (with_reducible assumption) | assumption)
                                  have q24 : (ji21) < (t247.size : Int) := of_decide_eq_true (by first | (with_reducible assumption) | assumption)
                                  have hx24 := bt_at t247 (ji21)
                                  replace p24 := eq_true p24
                                  replace q24 := eq_true q24
                                  go_wp2
                                  go_ret
                                  exact ⟨by first | rfl | (simp [errW_none, errW_some] <;> rfl) | (simp only [← hji21]; first | rfl | (simp [errW_none, errW_some] <;> rfl)) | (simp [*, errW_none, errW_some] <;> rfl) | (simp [errW_none, errW_some]; cases t247.toList <;> rfl), by repeat (first | (with_reducible first | exact HB.out | apply below_alloc | apply pw_below_drewN | apply below_drew1) | exact HB.out)⟩
                                · rw [if_neg c28] at H
                                  have c28b0 : decide (1 ≤ (l0.length : Int)) = false := decide_eq_false c28
                                  have c28b1 : decide (1 ≤ l0.length) = false := decide_eq_false (by omega)
                                  clear c28
                                  obtain rfl := Option.some.inj H
                                  have p24 : 0 ≤ ((ji21) : Int) := of_decide_eq_true (by first | (with_reducible assumption) | assumption)
                                  have q24 : (ji21) < (t247.size : Int) := of_decide_eq_true (by first | (with_reducible assumption) | assumption)
                                  have hx24 := bt_at t247 (ji21)
                                  replace p24 := eq_true p24
                                  replace q24 := eq_true q24
                                  go_wp2
                                  go_ret
                                  exact ⟨by first | rfl | (simp [errW_none, errW_some] <;> rfl) | (simp only [← hji21]; first | rfl | (simp [errW_none, errW_some] <;> rfl)) | (simp [*, errW_none, errW_some] <;> rfl) | (simp [errW_none, errW_some]; cases t247.toList <;> rfl), by repeat (first | (with_reducible first | exact HB.out | apply below_alloc | apply pw_below_drewN | apply below_drew1) | exact HB.out)⟩
                              · rw [if_neg c27] at H
                                have c27b0 : decide (x7_2 ≤ 13000) = false := decide_eq_false c27
                                clear c27
                                obtain rfl := Option.some.inj H
                                have p24 : 0 ≤ ((ji21) : Int) := of_decide_eq_true (by first | (with_reducible assumption) | assumption)
                                have q24 : (ji21) < (t247.size : Int) := of_decide_eq_true (by first | (with_reducible assumption) | assumption)
                                have hx24 := bt_at t247 (ji21)
                                replace p24 := eq_true p24
                                replace q24 := eq_true q24
                                go_wp2
                                go_ret
                                exact ⟨by first | rfl | (simp [errW_none, errW_some] <;> rfl) | (simp only [← hji21]; first | rfl | (simp [errW_none, errW_some] <;> rfl)) | (simp [*, errW_none, errW_some] <;> rfl) | (simp [errW_none, errW_some]; cases t247.toList <;> rfl), by repeat (first | (with_reducible first | exact HB.out | apply below_alloc | apply pw_below_drewN | apply below_drew1) | exact HB.out)⟩
                            · rw [if_neg c26] at H
                              have c26b0 : ((t247.size : Int) == x7_2) = false := beq_eq_false_iff_ne.mpr c26
                              have c26b1 : ((t247.size : Int) != x7_2) = true := bne_iff_ne.mpr c26
                              obtain rfl := Option.some.inj H
                              have p24 : 0 ≤ ((ji21) : Int) := of_decide_eq_true (by first | (with_reducible assumption) | assumption)
                              have q24 : (ji21) < (t247.size : Int) := of_decide_eq_true (by first | (with_reducible assumption) | assumption)
                              have hx24 := bt_at t247 (ji21)
                              replace p24 := eq_true p24
                              replace q24 := eq_true q24
                              go_wp2
                              go_ret
                              exact ⟨by first | rfl | (simp [errW_none, errW_some] <;> rfl) | (simp only [← hji21]; first | rfl | (simp [errW_none, errW_some] <;> rfl)) | (simp [*, errW_none, errW_some] <;> rfl) | (simp [errW_none, errW_some]; cases t247.toList <;> rfl), by repeat (first | (with_reducible first | exact HB.out | apply below_alloc | apply pw_below_drewN | apply below_drew1) | exact HB.out)⟩
                          · rw [if_neg c25] at H
                            have c25b0 : ((bt t247 (ji21)) == 10) = false := beq_eq_false_iff_ne.mpr c25
                            have c25b1 : ((bt t247 (ji21)) != 10) = true := bne_iff_ne.mpr c25
                            obtain rfl := Option.some.inj H
                            have p24 : 0 ≤ ((ji21) : Int) := of_decide_eq_true (by first | (with_reducible assumption) | assumption)
                            have q24 : (ji21) < (t247.size : Int) := of_decide_eq_true (by first | (with_reducible assumption) | assumption)
                            have hx24 := bt_at t247 (ji21)
                            replace p24 := eq_true p24
                            replace q24 := eq_true q24
                            go_wp2
                            go_ret
                            exact ⟨by first | rfl | (simp [errW_none, errW_some] <;> rfl) | (simp only [← hji21]; first | rfl | (simp [errW_none, errW_some] <;> rfl)) | (simp [*, errW_none, errW_some] <;> rfl) | (simp [errW_none, errW_some]; cases t247.toList <;> rfl), by repeat (first | (with_reducible first | exact HB.out | apply below_alloc | apply pw_below_drewN | apply below_drew1) | exact HB.out)⟩
                        · rw [if_neg c23] at H
                          exact absurd H (by simp)
                      · rw [if_neg c22] at H
                        exact absurd H (by simp)
              · rw [if_neg c15] at H
                have c15b0 : (t248 == 0) = false := beq_eq_false_iff_ne.mpr c15
                have c15b1 : (t248 != 0) = true := bne_iff_ne.mpr c15
                by_cases c29 : t247.toList = ([] : List UInt8)
                · rw [if_pos c29] at H
                  have c29b0 : (t247.toList == ([] : List UInt8)) = true := beq_iff_eq.mpr c29
                  have c29b1 : (t247.toList != ([] : List UInt8)) = false := bne_eq_false_iff_eq.mpr c29
                  clear c29
                  by_cases c30 : (((l0.length : Int) == 0) == (t248 == 1)) = true
                  · rw [if_pos c30] at H
                    have c30b0 : (((l0.length : Int) == 0) == (t248 == 1)) = true := c30
                    (try (have c30b1 : decide (((l0.length : Int) == 0) = (t248 == 1)) = true := by simpa using c30))
                    (try (have c30b2 : (((l0.length : Int) == 0) == (t248 == 1)) = true := by simpa using c30))
                    clear c30
                    by_cases c31 : (l0.length : Int) = 0
                    · rw [if_pos c31] at H
                      have c31b0 : ((l0.length : Int) == 0) = true := beq_iff_eq.mpr c31
                      have c31b1 : ((l0.length : Int) != 0) = false := bne_eq_false_iff_eq.mpr c31
                      have c31t : (t248 == 1) = true := by have h_ := c30b0; rw [c31b0] at h_; simpa using h_
                      clear c31
                      obtain rfl := Option.some.inj H
                      go_wp2
                      go_ret
                      exact ⟨by first | rfl | (simp [errW_none, errW_some] <;> rfl) | (simp [*, errW_none, errW_some] <;> rfl) | (simp [errW_none, errW_some]; cases t247.toList <;> rfl), by repeat (first | (with_reducible first | exact HB.out | apply below_alloc | apply pw_below_drewN | apply below_drew1) | exact HB.out)⟩
                    · rw [if_neg c31] at H
                      have c31b0 : ((l0.length : Int) == 0) = false := beq_eq_false_iff_ne.mpr c31
                      have c31b1 : ((l0.length : Int) != 0) = true := bne_iff_ne.mpr c31
                      have c31t : (t248 == 1) = false := by have h_ := c30b0; rw [c31b0] at h_; simpa using h_
                      have c31b2 : ¬ (l0 = []) := fun h_ => c31 (by rw [h_]; rfl)
                      by_cases c32 : (l0.length : Int) > 40
                      · rw [if_pos c32] at H
                        have c32b0 : decide (40 < (l0.length : Int)) = true := decide_eq_true c32
                        have c32b1 : decide (40 < l0.length) = true := decide_eq_true (by omega)
                        clear c32
                        obtain rfl := Option.some.inj H
                        go_wp2
                        go_ret
                        exact ⟨by first | rfl | (simp [errW_none, errW_some] <;> rfl) | (simp [*, errW_none, errW_some] <;> rfl) | (simp [errW_none, errW_some]; cases t247.toList <;> rfl), by repeat (first | (with_reducible first | exact HB.out | apply below_alloc | apply pw_below_drewN | apply below_drew1) | exact HB.out)⟩
                      · rw [if_neg c32] at H
                        have c32b0 : decide (40 < (l0.length : Int)) = false := decide_eq_false c32
                        have c32b1 : decide (40 < l0.length) = false := decide_eq_false (by omega)
                        clear c32
                        obtain rfl := Option.some.inj H
                        go_wp2
                        go_ret
                        exact ⟨by first | rfl | (simp [errW_none, errW_some] <;> rfl) | (simp [*, errW_none, errW_some] <;> rfl) | (simp [errW_none, errW_some]; cases t247.toList <;> rfl), by repeat (first | (with_reducible first | exact HB.out | apply below_alloc | apply pw_below_drewN | apply below_drew1) | exact HB.out)⟩
                  · rw [if_neg c30] at H
                    have c30b0 : (((l0.length : Int) == 0) == (t248 == 1)) = false := by simpa using c30
                    (try (have c30b1 : decide (((l0.length : Int) == 0) = (t248 == 1)) = false := by simpa using c30))
                    (try (have c30b2 : (((l0.length : Int) == 0) == (t248 == 1)) = false := by simpa using c30))
                    (try (have c30b3 : ¬ (((l0.length : Int) == 0) = (t248 == 1)) := by simpa using c30))
                    clear c30
                    obtain rfl := Option.some.inj H
                    go_wp2
                    go_ret
                    exact ⟨by first | rfl | (simp [errW_none, errW_some] <;> rfl) | (simp [*, errW_none, errW_some] <;> rfl) | (simp [errW_none, errW_some]; cases t247.toList <;> rfl), by repeat (first | (with_reducible first | exact HB.out | apply below_alloc | apply pw_below_drewN | apply below_drew1) | exact HB.out)⟩
                · rw [if_neg c29] at H
                  have c29b0 : (t247.toList == ([] : List UInt8)) = false := beq_eq_false_iff_ne.mpr c29
                  have c29b1 : (t247.toList != ([] : List UInt8)) = true := bne_iff_ne.mpr c29
                  obtain rfl := Option.some.inj H
                  go_wp2
                  go_ret
                  exact ⟨by first | rfl | (simp [errW_none, errW_some] <;> rfl) | (simp [*, errW_none, errW_some] <;> rfl) | (simp [errW_none, errW_some]; cases t247.toList <;> rfl), by repeat (first | (with_reducible first | exact HB.out | apply below_alloc | apply pw_below_drewN | apply below_drew1) | exact HB.out)⟩

end Go.Proofs.YtocpfgdajomjiaaDoor.L
