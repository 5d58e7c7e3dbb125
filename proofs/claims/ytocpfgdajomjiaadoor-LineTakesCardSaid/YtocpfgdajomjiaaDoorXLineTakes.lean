import Derived.Test.YtocpfgdajomjiaaDoorL0
import Derived.Test.YtocpfgdajomjiaaDoorL8
import Derived.Test.YtocpfgdajomjiaaDoorHandLine
import Derived.Test.YtocpfgdajomjiaaDoorL1
import Derived.Test.YtocpfgdajomjiaaDoorL2
import Derived.Test.YtocpfgdajomjiaaDoorL3
import Derived.Test.YtocpfgdajomjiaaDoorL11
import Derived.Test.YtocpfgdajomjiaaDoorLineA
import Derived.Test.YtocpfgdajomjiaaDoorPureG
import Derived.Test.YtocpfgdajomjiaaDoorL5
/- Several texts of this session in one (merge.py): the walks of the functions that the laws reach. -/
namespace Go.Proofs.YtocpfgdajomjiaaDoor.L
open Go.Proofs.YtocpfgdajomjiaaDoor.Hand3
open Go.Proofs.YtocpfgdajomjiaaDoor
open Go.RowKit Go.Proofs.YtocpfgdajomjiaaDoorW.PrintWords Go.Proofs.YtocpfgdajomjiaaDoorW.PrintLast Go.Proofs.YtocpfgdajomjiaaDoorW.PrintMore
attribute [local go_sem] max2_int min2_int max_two min_two max_three min_three max_four min_four   -- for this text's walks alone
set_option linter.unusedVariables false
set_option linter.unusedSimpArgs false

/-! ### cooperageref4_Scan: function 45 -/
def cooperageref4_Scan.l0 : Nat → ByteArray → List (List ByteArray) → ByteArray → Option ((List (List ByteArray)) × Int)
  | 0, _, _, _ => none
  | k + 1, x0, x4, x5 => (cooperageref4_Take.f k x5).bind fun bt152 => (if bt152.2.2 = 0 then (if x4.length < 5864062014805 then (cooperageref4_Scan.l0 k x0 (x4 ++ [bt152.1]) bt152.2.1) else (none)) else (some (x4, wrap64 ((x0.size : Int) - (x5.size : Int)))))
def cooperageref4_Scan.f (k : Nat) (a0 : ByteArray) : Option ((List (List ByteArray)) × Int) := cooperageref4_Scan.l0 k a0 ([] : List (List ByteArray)) a0
set_option maxHeartbeats 8000000 in
set_option maxRecDepth 100000 in
theorem cooperageref4_Scan.calls (k : Nat) (a0 : ByteArray) (r1 : List (List ByteArray)) (r2 : Int) (w : World) (h : cooperageref4_Scan.f k a0 = some (r1, r2)) :
    Calls Tryd.prog 45 #[.string a0] w fun e w' => ∃ v0_ : Value, e = .returned (.tuple #[v0_, .int .i64 r2]) ∧ Kd.S (Kd.slice 9 Kd.string) 23 w' w.heap.size (fun _ => True) v0_ r1 ∧ Below w.heap.size w w' := by
  have HB := Aside0.mk (Below.refl w.heap.size w)
  have H : (cooperageref4_Scan.l0 k a0 ([] : List (List ByteArray)) a0) = some (r1, r2) := h
  clear h
  have H' := Aside0.mk H
  clear H
  go_enter Tryd.func45, Tryd.ntmps45
  go_wp2
  go_loopg [4, 5] k (fun kq v4 v5 w' => ∃ (x4_1 : List (List ByteArray)) (x5_1 : ByteArray), v5 = .string x5_1 ∧ Aside0 (cooperageref4_Scan.l0 kq a0 x4_1 x5_1 = some (r1, r2)) ∧ Aside0 (kq ≤ k) ∧ Aside0 (Kd.S (Kd.slice 9 Kd.string) 23 w' w.heap.size (fun _ => True) v4 x4_1) ∧ Aside0 (Below w.heap.size w w'))
  case atStart => exact ⟨(([] : List (List ByteArray))), (a0), (by first | rfl | (simp; done) | (simp [*]; done)), H', ⟨Nat.le_refl _⟩, ⟨by first | exact Kd.S_nil _ _ _ _ _ | exact Kd.N_nil _ _ _ _ _ | exact Kd.V_nil _ _ _ _ _ | exact Kd.Q_nil _ _ _ _ _ | exact Kd.R_nil _ _ _ _ _⟩, ⟨by repeat (first | (with_reducible first | exact HB.out | apply below_alloc | apply pw_below_drewN | apply below_drew1) | exact HB.out)⟩⟩
  case round =>
    clear H'
    obtain ⟨x4_1, x5_1, rfl, HA, HK1, HO_4, HB⟩ := hrel
    cases gk with
    | zero => exact absurd HA.out (by simp [cooperageref4_Scan.l0])
    | succ k1 =>
      have H := HA.out
      clear HA
      simp only [cooperageref4_Scan.l0] at H
      replace H := Option.bind_eq_some_iff.mp H
      obtain ⟨⟨t152, t153, t154⟩, A20, H⟩ := H
      replace H : (if t154 = 0 then (if x4_1.length < 5864062014805 then (cooperageref4_Scan.l0 k1 a0 (x4_1 ++ [t152]) t153) else (none)) else (some (x4_1, wrap64 ((a0.size : Int) - (x5_1.size : Int))))) = some (r1, r2) := H
      have A2 := Aside0.mk A20
      clear A20
      by_cases c3 : t154 = 0
      · rw [if_pos c3] at H
        have c3b0 : (t154 == 0) = true := beq_iff_eq.mpr c3
        have c3b1 : (t154 != 0) = false := bne_eq_false_iff_eq.mpr c3
        clear c3
        by_cases c4 : x4_1.length < 5864062014805
        · rw [if_pos c4] at H
          have LMc4 := Aside0.mk c4
          clear c4
          obtain ⟨y157, hy157⟩ : ∃ y_ : List (List ByteArray), y_ = (x4_1 ++ [t152]) := ⟨_, rfl⟩
          replace H : (cooperageref4_Scan.l0 k1 a0 y157 t153) = some (r1, r2) := by first | (rw [hy157]; with_reducible exact H) | (have H2_ := (Option.bind_some _ _).symm.trans H; rw [hy157]; with_reducible exact H2_) | (have H2_ := (Option.bind_some _ _).symm.trans H; with_reducible exact H2_) | with_reducible exact H | (rw [hy157]; exact H) | exact H
          have Ny157 := Aside0.mk hy157
          clear hy157
          have H' := Aside0.mk H
          clear H
          go_wp2_with (first | ((with_reducible refine gate_callee (f := 43) rfl ?_); refine goesL_ (some 12) rfl rfl Tryd.func43 (by kernel_rfl) rfl #[.string x5_1] rfl (by (try simp only [List.map_toArray, List.map_cons, List.map_nil]); first | done | rfl | (simp only [List.length_drop, List.length_take]; rfl)) ?_; (with_reducible refine (cooperageref4_Take.calls k1 x5_1 t152 t153 t154 _ A2.out).mono ?_); rintro e w5 ⟨v155, rfl, ho0, hb⟩; refine ⟨_, rfl, ?_⟩; have n0_ := Aside0.mk (Kd.S_elder' (by (with_reducible repeat (first | apply Kd.S_alloc | apply Kd.S_drewN | apply Kd.S_drew)); exact HO_4.out) (Kd.R_base ho0) hb); have n1_ := Aside0.mk (Kd.R_lower ho0 (below_size (by repeat (first | (with_reducible first | exact HB.out | apply below_alloc | apply pw_below_drewN | apply below_drew1) | exact HB.out)))); have n2_ := Aside0.mk (below_step (by repeat (first | (with_reducible first | exact HB.out | apply below_alloc | apply pw_below_drewN | apply below_drew1) | exact HB.out)) hb); clear HO_4; clear HB; have HO_4 := n0_; have HO156 := n1_; have HB := n2_; clear n0_ n1_ n2_; (try clear hb); (try clear hb2); (try clear hk); (try clear hi); (try clear ho0); obtain ⟨Ao7, co7, eo7⟩ := Kd.R_slice HO156.out; subst eo7) | ((with_reducible refine gate_builtin (b := .append) (xs := #[.tmp 24, .tmp 26]) rfl ?_); at_builtin; refine Kd.S_append (Kd.slice 9 Kd.string) (w0 := w) w.heap.size rfl (.tmp 24) (.tmp 26) 41 23 (.slice none 0 0) 24 rfl Tryd.underlying41 info23 rfl (by decide) (by omega) u4 x4_1 t152 [.slice Ao7 t152.length co7] (fun _ => True) (fun k_ => some k_ = (.slice Ao7 t152.length co7 : Value).ownBlock) rfl rfl ?aP (fun k_ hk_ => ((Kd.R_mono (ok' := fun k_ => ((fun _ => True)) k_ ∧ some k_ ≠ (u4 : Value).ownBlock) (Kd.R_apart' (HO156.out) (Kd.S_typed HO_4.out) (by decide)) (fun k_ hk => ⟨trivial, hk.2⟩))).1 k_ hk_.symm) ?aF ?aO ?aB ?aS ?aL ?_; (case aP => exact Kd.M_row (Kd.R_mono (Kd.R_tight rfl (Kd.R_mono (ok' := fun k_ => ((fun _ => True)) k_ ∧ some k_ ≠ (u4 : Value).ownBlock) (Kd.R_apart' (HO156.out) (Kd.S_typed HO_4.out) (by decide)) (fun k_ hk => ⟨trivial, hk.2⟩))) (fun _ h_ => h_))); (case aB => exact (by repeat (first | (with_reducible first | exact HB.out | apply below_alloc | apply pw_below_drewN | apply below_drew1) | exact HB.out))); (case aF => exact (fun _ _ => trivial)); (case aO => exact (by (with_reducible repeat (first | apply Kd.S_alloc | apply Kd.S_drewN | apply Kd.S_drew)); exact Kd.S_mono HO_4.out (fun k_ hk => ⟨trivial, fun e_ => hk.2 e_⟩))); (case aS => exact (below_size (by repeat (first | (with_reducible first | exact HB.out | apply below_alloc | apply pw_below_drewN | apply below_drew1) | exact HB.out)))); (case aL => have := LMc4.out; omega); intro v158 w6 ho hb hg hat; rw [← Ny157.out] at ho; have n0_ := Aside0.mk (hb); have n1_ := Aside0.mk (ho); clear HB; clear HO_4; clear HO156; have HB := n0_; have HO159 := n1_; clear n0_ n1_; clear ho hb hg hat))
          go_roundg k1
          case measure => have := HK1.out; omega
          case rel => exact ⟨(y157), (t153), (by first | rfl | (simp; done) | (simp [*]; done)), H', ⟨by have := HK1.out; omega⟩, ⟨by (with_reducible repeat (first | apply Kd.S_alloc | apply Kd.S_drewN | apply Kd.S_drew)); exact HO159.out⟩, ⟨by repeat (first | (with_reducible first | exact HB.out | apply below_alloc | apply pw_below_drewN | apply below_drew1) | exact HB.out)⟩⟩
        · rw [if_neg c4] at H
          exact absurd H (by simp)
      · rw [if_neg c3] at H
        have c3b0 : (t154 == 0) = false := beq_eq_false_iff_ne.mpr c3
        have c3b1 : (t154 != 0) = true := bne_iff_ne.mpr c3
        simp only [Option.some.injEq, Prod.mk.injEq] at H
        obtain ⟨rfl, rfl⟩ := H
        go_wp2_with (first | ((with_reducible refine gate_callee (f := 43) rfl ?_); refine goesL_ (some 12) rfl rfl Tryd.func43 (by kernel_rfl) rfl #[.string x5_1] rfl (by (try simp only [List.map_toArray, List.map_cons, List.map_nil]); first | done | rfl | (simp only [List.length_drop, List.length_take]; rfl)) ?_; (with_reducible refine (cooperageref4_Take.calls k1 x5_1 t152 t153 t154 _ A2.out).mono ?_); rintro e w8 ⟨v155, rfl, ho0, hb⟩; refine ⟨_, rfl, ?_⟩; have n0_ := Aside0.mk (Kd.S_elder' (by (with_reducible repeat (first | apply Kd.S_alloc | apply Kd.S_drewN | apply Kd.S_drew)); exact HO_4.out) (Kd.R_base ho0) hb); have n1_ := Aside0.mk (Kd.R_lower ho0 (below_size (by repeat (first | (with_reducible first | exact HB.out | apply below_alloc | apply pw_below_drewN | apply below_drew1) | exact HB.out)))); have n2_ := Aside0.mk (below_step (by repeat (first | (with_reducible first | exact HB.out | apply below_alloc | apply pw_below_drewN | apply below_drew1) | exact HB.out)) hb); clear HO_4; clear HB; have HO_4 := n0_; have HO156 := n1_; have HB := n2_; clear n0_ n1_ n2_; (try clear hb); (try clear hb2); (try clear hk); (try clear hi); (try clear ho0)))
        go_ret2
        exact ⟨_, by first | rfl | (simp [errW_none, errW_some] <;> rfl) | (simp [*, errW_none, errW_some] <;> rfl), by (with_reducible repeat (first | apply Kd.S_alloc | apply Kd.S_drewN | apply Kd.S_drew)); exact Kd.S_mono HO_4.out (fun _ hk => trivial), by repeat (first | (with_reducible first | exact HB.out | apply below_alloc | apply pw_below_drewN | apply below_drew1) | exact HB.out)⟩

end Go.Proofs.YtocpfgdajomjiaaDoor.L
namespace Go.Proofs.YtocpfgdajomjiaaDoor.L
open Go.Proofs.YtocpfgdajomjiaaDoor.Hand3
open Go.Proofs.YtocpfgdajomjiaaDoor
open Go.RowKit Go.Proofs.YtocpfgdajomjiaaDoorW.PrintWords Go.Proofs.YtocpfgdajomjiaaDoorW.PrintLast Go.Proofs.YtocpfgdajomjiaaDoorW.PrintMore
attribute [local go_sem] max2_int min2_int max_two min_two max_three min_three max_four min_four   -- for this text's walks alone
set_option linter.unusedVariables false
set_option linter.unusedSimpArgs false

/-! ### cooperagelaw4_LineTakes: function 13 -/
def cooperagelaw4_LineTakes.j0 : Nat → ByteArray → Bool → Bool → Option (Bool)
  | 0, _, _, _ => none
  | k + 1, x0, x3, x21 => if x21 = true then (some x3) else ((line_Take.f x0).bind fun bt161 => ((cooperageref4_Take.f k x0).bind fun bt166 => ((line_Scan.f x0).bind fun bt171 => ((cooperageref4_Scan.f k x0).bind fun bt175 => ((cooperagelaw4_same.f k bt161.1 bt166.1).bind fun t179 => (if t179 = true then (if bt161.2.1.toList = bt166.2.1.toList then (if bt161.2.2 = bt166.2.2 then ((cooperagelaw4_sameAll.f k bt171.1 bt175.1).bind fun t180 => (if t180 = true then (some (bt171.2 == bt175.2)) else (some false))) else (some false)) else (some false)) else (some false)))))))
def cooperagelaw4_LineTakes.f (k : Nat) (a0 : ByteArray) : Option (Bool) := (cooperagelaw4_shown.f k).bind fun t160 => (if t160 = true then (cooperagelaw4_LineTakes.j0 k a0 t160 (decide ((a0.size : Int) > 14000))) else (cooperagelaw4_LineTakes.j0 k a0 t160 true))
set_option maxHeartbeats 8000000 in
set_option maxRecDepth 100000 in
theorem cooperagelaw4_LineTakes.calls (k : Nat) (a0 : ByteArray) (r : Bool) (w : World) (hG : Hand3.Glob w) (h : cooperagelaw4_LineTakes.f k a0 = some r) :
    Calls Tryd.prog 13 #[.string a0] w fun e w' => e = .returned (.bool r) ∧ Below w.heap.size w w' := by
  have HB := Aside0.mk (Below.refl w.heap.size w)
  have H : ((cooperagelaw4_shown.f k).bind fun t160 => (if t160 = true then (cooperagelaw4_LineTakes.j0 k a0 t160 (decide ((a0.size : Int) > 14000))) else (cooperagelaw4_LineTakes.j0 k a0 t160 true))) = some r := h
  clear h
  replace H := Option.bind_eq_some_iff.mp H
  obtain ⟨t160, A20, H⟩ := H
  replace H : (if t160 = true then (cooperagelaw4_LineTakes.j0 k a0 t160 (decide ((a0.size : Int) > 14000))) else (cooperagelaw4_LineTakes.j0 k a0 t160 true)) = some r := H
  have A2 := Aside0.mk A20
  clear A20
  have HC3 := Aside0.mk H
  clear H
  go_enter Tryd.func13, Tryd.ntmps13
  go_upto_region 2 with (first | ((with_reducible refine gate_callee (f := 38) rfl ?_); refine goesL_ (some 14) rfl rfl Tryd.func38 (by kernel_rfl) rfl #[] rfl (by (try simp only [List.map_toArray, List.map_cons, List.map_nil]); first | done | rfl | (simp only [List.length_drop, List.length_take]; rfl)) ?_; (with_reducible refine (cooperagelaw4_shown.calls k  t160 _ ?side1 A2.out).mono ?_); (case side1 => exact Hand3.Glob.below hG (by repeat (first | (with_reducible first | exact HB.out | apply below_alloc | apply pw_below_drewN | apply below_drew1) | exact HB.out))); rintro e w4 ⟨rfl, hb⟩; refine ⟨_, rfl, ?_⟩; have n0_ := Aside0.mk (below_step (by repeat (first | (with_reducible first | exact HB.out | apply below_alloc | apply pw_below_drewN | apply below_drew1) | exact HB.out)) hb); clear HB; have HB := n0_; clear n0_; (try clear hb); (try clear hb2); (try clear hk); (try clear hi)))
  (try simp only [Act.put, List.setIfInBounds_toArray, List.set_cons_zero, List.set_cons_succ])
  go_cut [21] (fun v21 wc => ∃ (kq : Nat) (x21_2 : Bool), v21 = .bool x21_2 ∧ Aside0 (cooperagelaw4_LineTakes.j0 kq a0 t160 x21_2 = some r) ∧ Aside0 (kq ≤ k) ∧ Aside0 (Below w.heap.size w wc))
  case first =>
    have H := HC3.out
    clear HC3
    by_cases c5 : t160 = true
    · subst c5
      have H1 : (cooperagelaw4_LineTakes.j0 k a0 true (decide ((a0.size : Int) > 14000))) = some r := by rw [if_pos rfl] at H; exact H
      clear H
      have H := H1
      clear H1
      have H' := Aside0.mk H
      clear H
      go_wp2
      go_meet
      case rel => exact ⟨_, (decide ((a0.size : Int) > 14000)), (by first | rfl | (simp; done) | (simp [*]; done)), H', ⟨by first | omega | exact Nat.le_refl _⟩, ⟨by repeat (first | (with_reducible first | exact HB.out | apply below_alloc | apply pw_below_drewN | apply below_drew1) | exact HB.out)⟩⟩
    · replace c5 := Bool.eq_false_iff.mpr c5
      subst c5
      have H1 : (cooperagelaw4_LineTakes.j0 k a0 false true) = some r := by rw [if_neg (show ¬ (false = true) by decide)] at H; exact H
      clear H
      have H := H1
      clear H1
      have H' := Aside0.mk H
      clear H
      go_wp2
      go_meet
      case rel => exact ⟨_, (true), (by first | rfl | (simp; done) | (simp [*]; done)), H', ⟨by first | omega | exact Nat.le_refl _⟩, ⟨by repeat (first | (with_reducible first | exact HB.out | apply below_alloc | apply pw_below_drewN | apply below_drew1) | exact HB.out)⟩⟩
  case rest =>
    clear HC3
    try clear c1
    try clear p2
    try clear c3
    try clear c5
    obtain ⟨kq, x21_2, rfl, HA, HJ2, HB⟩ := hcut
    cases kq with
    | zero => exact absurd HA.out (by simp [cooperagelaw4_LineTakes.j0])
    | succ kj2 =>
      have H := HA.out
      clear HA
      simp only [cooperagelaw4_LineTakes.j0] at H
      by_cases c6 : x21_2 = true
      · subst c6
        have H1 : (some t160) = some r := by rw [if_pos rfl] at H; exact H
        clear H
        have H := H1
        clear H1
        obtain rfl := Option.some.inj H
        go_wp2
        go_ret
        exact ⟨by first | rfl | (simp [errW_none, errW_some] <;> rfl) | (simp [*, errW_none, errW_some] <;> rfl) | (simp [errW_none, errW_some]; cases a0.toList <;> rfl), by repeat (first | (with_reducible first | exact HB.out | apply below_alloc | apply pw_below_drewN | apply below_drew1) | exact HB.out)⟩
      · replace c6 := Bool.eq_false_iff.mpr c6
        subst c6
        have H1 : ((line_Take.f a0).bind fun bt161 => ((cooperageref4_Take.f kj2 a0).bind fun bt166 => ((line_Scan.f a0).bind fun bt171 => ((cooperageref4_Scan.f kj2 a0).bind fun bt175 => ((cooperagelaw4_same.f kj2 bt161.1 bt166.1).bind fun t179 => (if t179 = true then (if bt161.2.1.toList = bt166.2.1.toList then (if bt161.2.2 = bt166.2.2 then ((cooperagelaw4_sameAll.f kj2 bt171.1 bt175.1).bind fun t180 => (if t180 = true then (some (bt171.2 == bt175.2)) else (some false))) else (some false)) else (some false)) else (some false))))))) = some r := by rw [if_neg (show ¬ (false = true) by decide)] at H; exact H
        clear H
        have H := H1
        clear H1
        replace H := Option.bind_eq_some_iff.mp H
        obtain ⟨⟨t161, t162, t163⟩, A70, H⟩ := H
        replace H : ((cooperageref4_Take.f kj2 a0).bind fun bt166 => ((line_Scan.f a0).bind fun bt171 => ((cooperageref4_Scan.f kj2 a0).bind fun bt175 => ((cooperagelaw4_same.f kj2 t161 bt166.1).bind fun t179 => (if t179 = true then (if t162.toList = bt166.2.1.toList then (if t163 = bt166.2.2 then ((cooperagelaw4_sameAll.f kj2 bt171.1 bt175.1).bind fun t180 => (if t180 = true then (some (bt171.2 == bt175.2)) else (some false))) else (some false)) else (some false)) else (some false)))))) = some r := H
        have A7 := Aside0.mk A70
        clear A70
        replace H := Option.bind_eq_some_iff.mp H
        obtain ⟨⟨t166, t167, t168⟩, A80, H⟩ := H
        replace H : ((line_Scan.f a0).bind fun bt171 => ((cooperageref4_Scan.f kj2 a0).bind fun bt175 => ((cooperagelaw4_same.f kj2 t161 t166).bind fun t179 => (if t179 = true then (if t162.toList = t167.toList then (if t163 = t168 then ((cooperagelaw4_sameAll.f kj2 bt171.1 bt175.1).bind fun t180 => (if t180 = true then (some (bt171.2 == bt175.2)) else (some false))) else (some false)) else (some false)) else (some false))))) = some r := H
        have A8 := Aside0.mk A80
        clear A80
        replace H := Option.bind_eq_some_iff.mp H
        obtain ⟨⟨t171, t172⟩, A90, H⟩ := H
        replace H : ((cooperageref4_Scan.f kj2 a0).bind fun bt175 => ((cooperagelaw4_same.f kj2 t161 t166).bind fun t179 => (if t179 = true then (if t162.toList = t167.toList then (if t163 = t168 then ((cooperagelaw4_sameAll.f kj2 t171 bt175.1).bind fun t180 => (if t180 = true then (some (t172 == bt175.2)) else (some false))) else (some false)) else (some false)) else (some false)))) = some r := H
        have A9 := Aside0.mk A90
        clear A90
        replace H := Option.bind_eq_some_iff.mp H
        obtain ⟨⟨t175, t176⟩, A100, H⟩ := H
        replace H : ((cooperagelaw4_same.f kj2 t161 t166).bind fun t179 => (if t179 = true then (if t162.toList = t167.toList then (if t163 = t168 then ((cooperagelaw4_sameAll.f kj2 t171 t175).bind fun t180 => (if t180 = true then (some (t172 == t176)) else (some false))) else (some false)) else (some false)) else (some false))) = some r := H
        have A10 := Aside0.mk A100
        clear A100
        replace H := Option.bind_eq_some_iff.mp H
        obtain ⟨t179, A110, H⟩ := H
        replace H : (if t179 = true then (if t162.toList = t167.toList then (if t163 = t168 then ((cooperagelaw4_sameAll.f kj2 t171 t175).bind fun t180 => (if t180 = true then (some (t172 == t176)) else (some false))) else (some false)) else (some false)) else (some false)) = some r := H
        have A11 := Aside0.mk A110
        clear A110
        by_cases c12 : t179 = true
        · subst c12
          have H1 : (if t162.toList = t167.toList then (if t163 = t168 then ((cooperagelaw4_sameAll.f kj2 t171 t175).bind fun t180 => (if t180 = true then (some (t172 == t176)) else (some false))) else (some false)) else (some false)) = some r := by rw [if_pos rfl] at H; exact H
          clear H
          have H := H1
          clear H1
          by_cases c13 : t162.toList = t167.toList
          · rw [if_pos c13] at H
            have c13b0 : (t162.toList == t167.toList) = true := beq_iff_eq.mpr c13
            have c13b1 : (t162.toList != t167.toList) = false := bne_eq_false_iff_eq.mpr c13
            clear c13
            by_cases c14 : t163 = t168
            · rw [if_pos c14] at H
              have c14b0 : (t163 == t168) = true := beq_iff_eq.mpr c14
              have c14b1 : (t163 != t168) = false := bne_eq_false_iff_eq.mpr c14
              clear c14
              replace H := Option.bind_eq_some_iff.mp H
              obtain ⟨t180, A150, H⟩ := H
              replace H : (if t180 = true then (some (t172 == t176)) else (some false)) = some r := H
              have A15 := Aside0.mk A150
              clear A150
              by_cases c16 : t180 = true
              · subst c16
                have H1 : (some (t172 == t176)) = some r := by rw [if_pos rfl] at H; exact H
                clear H
                have H := H1
                clear H1
                obtain rfl := Option.some.inj H
                go_wp2_with (first | ((with_reducible refine gate_callee (f := 42) rfl ?_); refine goesL_ (some 25) rfl rfl Tryd.func42 (by kernel_rfl) rfl #[.string a0] rfl (by (try simp only [List.map_toArray, List.map_cons, List.map_nil]); first | done | rfl | (simp only [List.length_drop, List.length_take]; rfl)) ?_; (with_reducible refine (line_Take.calls a0 t161 t162 t163 _ ?side1 A7.out).mono ?_); (case side1 => exact Hand3.Glob.below hG (by repeat (first | (with_reducible first | exact HB.out | apply below_alloc | apply pw_below_drewN | apply below_drew1) | exact HB.out))); rintro e w17 ⟨v164, rfl, ho0, hb⟩; refine ⟨_, rfl, ?_⟩; have n0_ := Aside0.mk (Kd.R_lower ho0 (below_size (by repeat (first | (with_reducible first | exact HB.out | apply below_alloc | apply pw_below_drewN | apply below_drew1) | exact HB.out)))); have n1_ := Aside0.mk (below_step (by repeat (first | (with_reducible first | exact HB.out | apply below_alloc | apply pw_below_drewN | apply below_drew1) | exact HB.out)) hb); clear HB; have HO165 := n0_; have HB := n1_; clear n0_ n1_; (try clear hb); (try clear hb2); (try clear hk); (try clear hi); (try clear ho0)) | ((with_reducible refine gate_callee (f := 43) rfl ?_); refine goesL_ (some 31) rfl rfl Tryd.func43 (by kernel_rfl) rfl #[.string a0] rfl (by (try simp only [List.map_toArray, List.map_cons, List.map_nil]); first | done | rfl | (simp only [List.length_drop, List.length_take]; rfl)) ?_; (with_reducible refine (cooperageref4_Take.calls kj2 a0 t166 t167 t168 _ A8.out).mono ?_); rintro e w18 ⟨v169, rfl, ho0, hb⟩; refine ⟨_, rfl, ?_⟩; have n0_ := Aside0.mk (Kd.R_elder' (by (with_reducible repeat (first | apply Kd.R_alloc | apply Kd.R_drewN | apply Kd.R_drew)); exact HO165.out) (Kd.R_base ho0) hb); have n1_ := Aside0.mk (Kd.R_lower (Kd.R_new' ho0 (Kd.R_lt (by (with_reducible repeat (first | apply Kd.R_alloc | apply Kd.R_drewN | apply Kd.R_drew)); exact HO165.out))) (below_size (by repeat (first | (with_reducible first | exact HB.out | apply below_alloc | apply pw_below_drewN | apply below_drew1) | exact HB.out)))); have n2_ := Aside0.mk (below_step (by repeat (first | (with_reducible first | exact HB.out | apply below_alloc | apply pw_below_drewN | apply below_drew1) | exact HB.out)) hb); clear HO165; clear HB; have HO165 := n0_; have HO170 := n1_; have HB := n2_; clear n0_ n1_ n2_; (try clear hb); (try clear hb2); (try clear hk); (try clear hi); (try clear ho0)) | ((with_reducible refine gate_callee (f := 44) rfl ?_); refine goesL_ (some 37) rfl rfl Tryd.func44 (by kernel_rfl) rfl #[.string a0] rfl (by (try simp only [List.map_toArray, List.map_cons, List.map_nil]); first | done | rfl | (simp only [List.length_drop, List.length_take]; rfl)) ?_; (with_reducible refine (line_Scan.calls a0 t171 t172 _ ?side1 A9.out).mono ?_); (case side1 => exact Hand3.Glob.below hG (by repeat (first | (with_reducible first | exact HB.out | apply below_alloc | apply pw_below_drewN | apply below_drew1) | exact HB.out))); rintro e w19 ⟨v173, rfl, ho0, hb⟩; refine ⟨_, rfl, ?_⟩; have n0_ := Aside0.mk (Kd.R_below (by (with_reducible repeat (first | apply Kd.R_alloc | apply Kd.R_drewN | apply Kd.R_drew)); exact HO165.out) hb); have n1_ := Aside0.mk (Kd.R_below (by (with_reducible repeat (first | apply Kd.R_alloc | apply Kd.R_drewN | apply Kd.R_drew)); exact HO170.out) hb); have n2_ := Aside0.mk (Kd.S_lower (Kd.S_new' (Kd.S_new' ho0 (Kd.R_lt (by (with_reducible repeat (first | apply Kd.R_alloc | apply Kd.R_drewN | apply Kd.R_drew)); exact HO165.out))) (Kd.R_lt (by (with_reducible repeat (first | apply Kd.R_alloc | apply Kd.R_drewN | apply Kd.R_drew)); exact HO170.out))) (below_size (by repeat (first | (with_reducible first | exact HB.out | apply below_alloc | apply pw_below_drewN | apply below_drew1) | exact HB.out)))); have n3_ := Aside0.mk (below_step (by repeat (first | (with_reducible first | exact HB.out | apply below_alloc | apply pw_below_drewN | apply below_drew1) | exact HB.out)) hb); clear HO165; clear HO170; clear HB; have HO165 := n0_; have HO170 := n1_; have HO174 := n2_; have HB := n3_; clear n0_ n1_ n2_ n3_; (try clear hb); (try clear hb2); (try clear hk); (try clear hi); (try clear ho0)) | ((with_reducible refine gate_callee (f := 45) rfl ?_); refine goesL_ (some 42) rfl rfl Tryd.func45 (by kernel_rfl) rfl #[.string a0] rfl (by (try simp only [List.map_toArray, List.map_cons, List.map_nil]); first | done | rfl | (simp only [List.length_drop, List.length_take]; rfl)) ?_; (with_reducible refine (cooperageref4_Scan.calls kj2 a0 t175 t176 _ A10.out).mono ?_); rintro e w20 ⟨v177, rfl, ho0, hb⟩; refine ⟨_, rfl, ?_⟩; have n0_ := Aside0.mk (Kd.R_below (by (with_reducible repeat (first | apply Kd.R_alloc | apply Kd.R_drewN | apply Kd.R_drew)); exact HO165.out) hb); have n1_ := Aside0.mk (Kd.R_below (by (with_reducible repeat (first | apply Kd.R_alloc | apply Kd.R_drewN | apply Kd.R_drew)); exact HO170.out) hb); have n2_ := Aside0.mk (Kd.S_elder' (by (with_reducible repeat (first | apply Kd.S_alloc | apply Kd.S_drewN | apply Kd.S_drew)); exact HO174.out) (Kd.S_base ho0) hb); have n3_ := Aside0.mk (Kd.S_lower (Kd.S_new' (Kd.S_new' (Kd.S_new' ho0 (Kd.R_lt (by (with_reducible repeat (first | apply Kd.R_alloc | apply Kd.R_drewN | apply Kd.R_drew)); exact HO165.out))) (Kd.R_lt (by (with_reducible repeat (first | apply Kd.R_alloc | apply Kd.R_drewN | apply Kd.R_drew)); exact HO170.out))) (Kd.S_lt (by (with_reducible repeat (first | apply Kd.S_alloc | apply Kd.S_drewN | apply Kd.S_drew)); exact HO174.out))) (below_size (by repeat (first | (with_reducible first | exact HB.out | apply below_alloc | apply pw_below_drewN | apply below_drew1) | exact HB.out)))); have n4_ := Aside0.mk (below_step (by repeat (first | (with_reducible first | exact HB.out | apply below_alloc | apply pw_below_drewN | apply below_drew1) | exact HB.out)) hb); clear HO165; clear HO170; clear HO174; clear HB; have HO165 := n0_; have HO170 := n1_; have HO174 := n2_; have HO178 := n3_; have HB := n4_; clear n0_ n1_ n2_ n3_ n4_; (try clear hb); (try clear hb2); (try clear hk); (try clear hi); (try clear ho0); obtain ⟨Ao21, co21, eo21⟩ := Kd.R_slice HO165.out; subst eo21; obtain ⟨Ao22, co22, eo22⟩ := Kd.R_slice HO170.out; subst eo22) | ((with_reducible refine gate_callee (f := 46) rfl ?_); refine goesL_ (some 47) rfl rfl Tryd.func46 (by kernel_rfl) rfl #[.slice Ao21 t161.length co21, .slice Ao22 t166.length co22] rfl (by (try simp only [List.map_toArray, List.map_cons, List.map_nil]); first | done | rfl | (simp only [List.length_drop, List.length_take]; rfl)) ?_; (with_reducible refine (cooperagelaw4_same.calls kj2 _ _ t161 _ _ t166 true _ ?side1 ?side2 ?side3 ?side4 A11.out).mono ?_); (case side1 => repeat (first | exact (Kd.R_reads' HO165.out).2.2 | (with_reducible refine Kd.C_alloc ?_ _) | (with_reducible refine Kd.C_drewN ?_ _) | (with_reducible refine Kd.C_drew ?_))); (case side2 => exact (Kd.R_reads' HO165.out).2.1); (case side3 => repeat (first | exact (Kd.R_reads' HO170.out).2.2 | (with_reducible refine Kd.C_alloc ?_ _) | (with_reducible refine Kd.C_drewN ?_ _) | (with_reducible refine Kd.C_drew ?_))); (case side4 => exact (Kd.R_reads' HO170.out).2.1); rintro e w' ⟨rfl, ⟨nd, rfl⟩⟩; refine ⟨_, rfl, ?_⟩; obtain ⟨Ao23, co23, eo23⟩ := Kd.S_slice HO174.out; subst eo23; obtain ⟨Ao24, co24, eo24⟩ := Kd.S_slice HO178.out; subst eo24) | (go_at_call 47; (with_reducible refine (cooperagelaw4_sameAll.calls kj2 _ _ t171 _ _ t175 true _ ?side1 ?side2 ?side3 ?side4 A15.out).mono ?_); (case side1 => repeat (first | exact (Kd.S_reads' HO174.out).2.2 | (with_reducible refine Kd.C_alloc ?_ _) | (with_reducible refine Kd.C_drewN ?_ _) | (with_reducible refine Kd.C_drew ?_))); (case side2 => exact (Kd.S_reads' HO174.out).2.1); (case side3 => repeat (first | exact (Kd.S_reads' HO178.out).2.2 | (with_reducible refine Kd.C_alloc ?_ _) | (with_reducible refine Kd.C_drewN ?_ _) | (with_reducible refine Kd.C_drew ?_))); (case side4 => exact (Kd.S_reads' HO178.out).2.1); rintro e w' ⟨rfl, ⟨nd, rfl⟩⟩))
                go_ret
                exact ⟨by first | rfl | (simp [errW_none, errW_some] <;> rfl) | (simp [*, errW_none, errW_some] <;> rfl) | (simp [errW_none, errW_some]; cases a0.toList <;> rfl), by repeat (first | (with_reducible first | exact HB.out | apply below_alloc | apply pw_below_drewN | apply below_drew1) | exact HB.out)⟩
              · replace c16 := Bool.eq_false_iff.mpr c16
                subst c16
                have H1 : (some false) = some r := by rw [if_neg (show ¬ (false = true) by decide)] at H; exact H
                clear H
                have H := H1
                clear H1
                obtain rfl := Option.some.inj H
                go_wp2_with (first | ((with_reducible refine gate_callee (f := 42) rfl ?_); refine goesL_ (some 25) rfl rfl Tryd.func42 (by kernel_rfl) rfl #[.string a0] rfl (by (try simp only [List.map_toArray, List.map_cons, List.map_nil]); first | done | rfl | (simp only [List.length_drop, List.length_take]; rfl)) ?_; (with_reducible refine (line_Take.calls a0 t161 t162 t163 _ ?side1 A7.out).mono ?_); (case side1 => exact Hand3.Glob.below hG (by repeat (first | (with_reducible first | exact HB.out | apply below_alloc | apply pw_below_drewN | apply below_drew1) | exact HB.out))); rintro e w25 ⟨v164, rfl, ho0, hb⟩; refine ⟨_, rfl, ?_⟩; have n0_ := Aside0.mk (Kd.R_lower ho0 (below_size (by repeat (first | (with_reducible first | exact HB.out | apply below_alloc | apply pw_below_drewN | apply below_drew1) | exact HB.out)))); have n1_ := Aside0.mk (below_step (by repeat (first | (with_reducible first | exact HB.out | apply below_alloc | apply pw_below_drewN | apply below_drew1) | exact HB.out)) hb); clear HB; have HO165 := n0_; have HB := n1_; clear n0_ n1_; (try clear hb); (try clear hb2); (try clear hk); (try clear hi); (try clear ho0)) | ((with_reducible refine gate_callee (f := 43) rfl ?_); refine goesL_ (some 31) rfl rfl Tryd.func43 (by kernel_rfl) rfl #[.string a0] rfl (by (try simp only [List.map_toArray, List.map_cons, List.map_nil]); first | done | rfl | (simp only [List.length_drop, List.length_take]; rfl)) ?_; (with_reducible refine (cooperageref4_Take.calls kj2 a0 t166 t167 t168 _ A8.out).mono ?_); rintro e w26 ⟨v169, rfl, ho0, hb⟩; refine ⟨_, rfl, ?_⟩; have n0_ := Aside0.mk (Kd.R_elder' (by (with_reducible repeat (first | apply Kd.R_alloc | apply Kd.R_drewN | apply Kd.R_drew)); exact HO165.out) (Kd.R_base ho0) hb); have n1_ := Aside0.mk (Kd.R_lower (Kd.R_new' ho0 (Kd.R_lt (by (with_reducible repeat (first | apply Kd.R_alloc | apply Kd.R_drewN | apply Kd.R_drew)); exact HO165.out))) (below_size (by repeat (first | (with_reducible first | exact HB.out | apply below_alloc | apply pw_below_drewN | apply below_drew1) | exact HB.out)))); have n2_ := Aside0.mk (below_step (by repeat (first | (with_reducible first | exact HB.out | apply below_alloc | apply pw_below_drewN | apply below_drew1) | exact HB.out)) hb); clear HO165; clear HB; have HO165 := n0_; have HO170 := n1_; have HB := n2_; clear n0_ n1_ n2_; (try clear hb); (try clear hb2); (try clear hk); (try clear hi); (try clear ho0)) | ((with_reducible refine gate_callee (f := 44) rfl ?_); refine goesL_ (some 37) rfl rfl Tryd.func44 (by kernel_rfl) rfl #[.string a0] rfl (by (try simp only [List.map_toArray, List.map_cons, List.map_nil]); first | done | rfl | (simp only [List.length_drop, List.length_take]; rfl)) ?_; (with_reducible refine (line_Scan.calls a0 t171 t172 _ ?side1 A9.out).mono ?_); (case side1 => exact Hand3.Glob.below hG (by repeat (first | (with_reducible first | exact HB.out | apply below_alloc | apply pw_below_drewN | apply below_drew1) | exact HB.out))); rintro e w27 ⟨v173, rfl, ho0, hb⟩; refine ⟨_, rfl, ?_⟩; have n0_ := Aside0.mk (Kd.R_below (by (with_reducible repeat (first | apply Kd.R_alloc | apply Kd.R_drewN | apply Kd.R_drew)); exact HO165.out) hb); have n1_ := Aside0.mk (Kd.R_below (by (with_reducible repeat (first | apply Kd.R_alloc | apply Kd.R_drewN | apply Kd.R_drew)); exact HO170.out) hb); have n2_ := Aside0.mk (Kd.S_lower (Kd.S_new' (Kd.S_new' ho0 (Kd.R_lt (by (with_reducible repeat (first | apply Kd.R_alloc | apply Kd.R_drewN | apply Kd.R_drew)); exact HO165.out))) (Kd.R_lt (by (with_reducible repeat (first | apply Kd.R_alloc | apply Kd.R_drewN | apply Kd.R_drew)); exact HO170.out))) (below_size (by repeat (first | (with_reducible first | exact HB.out | apply below_alloc | apply pw_below_drewN | apply below_drew1) | exact HB.out)))); have n3_ := Aside0.mk (below_step (by repeat (first | (with_reducible first | exact HB.out | apply below_alloc | apply pw_below_drewN | apply below_drew1) | exact HB.out)) hb); clear HO165; clear HO170; clear HB; have HO165 := n0_; have HO170 := n1_; have HO174 := n2_; have HB := n3_; clear n0_ n1_ n2_ n3_; (try clear hb); (try clear hb2); (try clear hk); (try clear hi); (try clear ho0)) | ((with_reducible refine gate_callee (f := 45) rfl ?_); refine goesL_ (some 42) rfl rfl Tryd.func45 (by kernel_rfl) rfl #[.string a0] rfl (by (try simp only [List.map_toArray, List.map_cons, List.map_nil]); first | done | rfl | (simp only [List.length_drop, List.length_take]; rfl)) ?_; (with_reducible refine (cooperageref4_Scan.calls kj2 a0 t175 t176 _ A10.out).mono ?_); rintro e w28 ⟨v177, rfl, ho0, hb⟩; refine ⟨_, rfl, ?_⟩; have n0_ := Aside0.mk (Kd.R_below (by (with_reducible repeat (first | apply Kd.R_alloc | apply Kd.R_drewN | apply Kd.R_drew)); exact HO165.out) hb); have n1_ := Aside0.mk (Kd.R_below (by (with_reducible repeat (first | apply Kd.R_alloc | apply Kd.R_drewN | apply Kd.R_drew)); exact HO170.out) hb); have n2_ := Aside0.mk (Kd.S_elder' (by (with_reducible repeat (first | apply Kd.S_alloc | apply Kd.S_drewN | apply Kd.S_drew)); exact HO174.out) (Kd.S_base ho0) hb); have n3_ := Aside0.mk (Kd.S_lower (Kd.S_new' (Kd.S_new' (Kd.S_new' ho0 (Kd.R_lt (by (with_reducible repeat (first | apply Kd.R_alloc | apply Kd.R_drewN | apply Kd.R_drew)); exact HO165.out))) (Kd.R_lt (by (with_reducible repeat (first | apply Kd.R_alloc | apply Kd.R_drewN | apply Kd.R_drew)); exact HO170.out))) (Kd.S_lt (by (with_reducible repeat (first | apply Kd.S_alloc | apply Kd.S_drewN | apply Kd.S_drew)); exact HO174.out))) (below_size (by repeat (first | (with_reducible first | exact HB.out | apply below_alloc | apply pw_below_drewN | apply below_drew1) | exact HB.out)))); have n4_ := Aside0.mk (below_step (by repeat (first | (with_reducible first | exact HB.out | apply below_alloc | apply pw_below_drewN | apply below_drew1) | exact HB.out)) hb); clear HO165; clear HO170; clear HO174; clear HB; have HO165 := n0_; have HO170 := n1_; have HO174 := n2_; have HO178 := n3_; have HB := n4_; clear n0_ n1_ n2_ n3_ n4_; (try clear hb); (try clear hb2); (try clear hk); (try clear hi); (try clear ho0); obtain ⟨Ao29, co29, eo29⟩ := Kd.R_slice HO165.out; subst eo29; obtain ⟨Ao30, co30, eo30⟩ := Kd.R_slice HO170.out; subst eo30) | ((with_reducible refine gate_callee (f := 46) rfl ?_); refine goesL_ (some 47) rfl rfl Tryd.func46 (by kernel_rfl) rfl #[.slice Ao29 t161.length co29, .slice Ao30 t166.length co30] rfl (by (try simp only [List.map_toArray, List.map_cons, List.map_nil]); first | done | rfl | (simp only [List.length_drop, List.length_take]; rfl)) ?_; (with_reducible refine (cooperagelaw4_same.calls kj2 _ _ t161 _ _ t166 true _ ?side1 ?side2 ?side3 ?side4 A11.out).mono ?_); (case side1 => repeat (first | exact (Kd.R_reads' HO165.out).2.2 | (with_reducible refine Kd.C_alloc ?_ _) | (with_reducible refine Kd.C_drewN ?_ _) | (with_reducible refine Kd.C_drew ?_))); (case side2 => exact (Kd.R_reads' HO165.out).2.1); (case side3 => repeat (first | exact (Kd.R_reads' HO170.out).2.2 | (with_reducible refine Kd.C_alloc ?_ _) | (with_reducible refine Kd.C_drewN ?_ _) | (with_reducible refine Kd.C_drew ?_))); (case side4 => exact (Kd.R_reads' HO170.out).2.1); rintro e w' ⟨rfl, ⟨nd, rfl⟩⟩; refine ⟨_, rfl, ?_⟩; obtain ⟨Ao31, co31, eo31⟩ := Kd.S_slice HO174.out; subst eo31; obtain ⟨Ao32, co32, eo32⟩ := Kd.S_slice HO178.out; subst eo32) | (go_at_call 47; (with_reducible refine (cooperagelaw4_sameAll.calls kj2 _ _ t171 _ _ t175 false _ ?side1 ?side2 ?side3 ?side4 A15.out).mono ?_); (case side1 => repeat (first | exact (Kd.S_reads' HO174.out).2.2 | (with_reducible refine Kd.C_alloc ?_ _) | (with_reducible refine Kd.C_drewN ?_ _) | (with_reducible refine Kd.C_drew ?_))); (case side2 => exact (Kd.S_reads' HO174.out).2.1); (case side3 => repeat (first | exact (Kd.S_reads' HO178.out).2.2 | (with_reducible refine Kd.C_alloc ?_ _) | (with_reducible refine Kd.C_drewN ?_ _) | (with_reducible refine Kd.C_drew ?_))); (case side4 => exact (Kd.S_reads' HO178.out).2.1); rintro e w' ⟨rfl, ⟨nd, rfl⟩⟩))
                go_ret
                exact ⟨by first | rfl | (simp [errW_none, errW_some] <;> rfl) | (simp [*, errW_none, errW_some] <;> rfl) | (simp [errW_none, errW_some]; cases a0.toList <;> rfl), by repeat (first | (with_reducible first | exact HB.out | apply below_alloc | apply pw_below_drewN | apply below_drew1) | exact HB.out)⟩
            · rw [if_neg c14] at H
              have c14b0 : (t163 == t168) = false := beq_eq_false_iff_ne.mpr c14
              have c14b1 : (t163 != t168) = true := bne_iff_ne.mpr c14
              obtain rfl := Option.some.inj H
              go_wp2_with (first | ((with_reducible refine gate_callee (f := 42) rfl ?_); refine goesL_ (some 25) rfl rfl Tryd.func42 (by kernel_rfl) rfl #[.string a0] rfl (by (try simp only [List.map_toArray, List.map_cons, List.map_nil]); first | done | rfl | (simp only [List.length_drop, List.length_take]; rfl)) ?_; (with_reducible refine (line_Take.calls a0 t161 t162 t163 _ ?side1 A7.out).mono ?_); (case side1 => exact Hand3.Glob.below hG (by repeat (first | (with_reducible first | exact HB.out | apply below_alloc | apply pw_below_drewN | apply below_drew1) | exact HB.out))); rintro e w33 ⟨v164, rfl, ho0, hb⟩; refine ⟨_, rfl, ?_⟩; have n0_ := Aside0.mk (Kd.R_lower ho0 (below_size (by repeat (first | (with_reducible first | exact HB.out | apply below_alloc | apply pw_below_drewN | apply below_drew1) | exact HB.out)))); have n1_ := Aside0.mk (below_step (by repeat (first | (with_reducible first | exact HB.out | apply below_alloc | apply pw_below_drewN | apply below_drew1) | exact HB.out)) hb); clear HB; have HO165 := n0_; have HB := n1_; clear n0_ n1_; (try clear hb); (try clear hb2); (try clear hk); (try clear hi); (try clear ho0)) | ((with_reducible refine gate_callee (f := 43) rfl ?_); refine goesL_ (some 31) rfl rfl Tryd.func43 (by kernel_rfl) rfl #[.string a0] rfl (by (try simp only [List.map_toArray, List.map_cons, List.map_nil]); first | done | rfl | (simp only [List.length_drop, List.length_take]; rfl)) ?_; (with_reducible refine (cooperageref4_Take.calls kj2 a0 t166 t167 t168 _ A8.out).mono ?_); rintro e w34 ⟨v169, rfl, ho0, hb⟩; refine ⟨_, rfl, ?_⟩; have n0_ := Aside0.mk (Kd.R_elder' (by (with_reducible repeat (first | apply Kd.R_alloc | apply Kd.R_drewN | apply Kd.R_drew)); exact HO165.out) (Kd.R_base ho0) hb); have n1_ := Aside0.mk (Kd.R_lower (Kd.R_new' ho0 (Kd.R_lt (by (with_reducible repeat (first | apply Kd.R_alloc | apply Kd.R_drewN | apply Kd.R_drew)); exact HO165.out))) (below_size (by repeat (first | (with_reducible first | exact HB.out | apply below_alloc | apply pw_below_drewN | apply below_drew1) | exact HB.out)))); have n2_ := Aside0.mk (below_step (by repeat (first | (with_reducible first | exact HB.out | apply below_alloc | apply pw_below_drewN | apply below_drew1) | exact HB.out)) hb); clear HO165; clear HB; have HO165 := n0_; have HO170 := n1_; have HB := n2_; clear n0_ n1_ n2_; (try clear hb); (try clear hb2); (try clear hk); (try clear hi); (try clear ho0)) | ((with_reducible refine gate_callee (f := 44) rfl ?_); refine goesL_ (some 37) rfl rfl Tryd.func44 (by kernel_rfl) rfl #[.string a0] rfl (by (try simp only [List.map_toArray, List.map_cons, List.map_nil]); first | done | rfl | (simp only [List.length_drop, List.length_take]; rfl)) ?_; (with_reducible refine (line_Scan.calls a0 t171 t172 _ ?side1 A9.out).mono ?_); (case side1 => exact Hand3.Glob.below hG (by repeat (first | (with_reducible first | exact HB.out | apply below_alloc | apply pw_below_drewN | apply below_drew1) | exact HB.out))); rintro e w35 ⟨v173, rfl, ho0, hb⟩; refine ⟨_, rfl, ?_⟩; have n0_ := Aside0.mk (Kd.R_below (by (with_reducible repeat (first | apply Kd.R_alloc | apply Kd.R_drewN | apply Kd.R_drew)); exact HO165.out) hb); have n1_ := Aside0.mk (Kd.R_below (by (with_reducible repeat (first | apply Kd.R_alloc | apply Kd.R_drewN | apply Kd.R_drew)); exact HO170.out) hb); have n2_ := Aside0.mk (Kd.S_lower (Kd.S_new' (Kd.S_new' ho0 (Kd.R_lt (by (with_reducible repeat (first | apply Kd.R_alloc | apply Kd.R_drewN | apply Kd.R_drew)); exact HO165.out))) (Kd.R_lt (by (with_reducible repeat (first | apply Kd.R_alloc | apply Kd.R_drewN | apply Kd.R_drew)); exact HO170.out))) (below_size (by repeat (first | (with_reducible first | exact HB.out | apply below_alloc | apply pw_below_drewN | apply below_drew1) | exact HB.out)))); have n3_ := Aside0.mk (below_step (by repeat (first | (with_reducible first | exact HB.out | apply below_alloc | apply pw_below_drewN | apply below_drew1) | exact HB.out)) hb); clear HO165; clear HO170; clear HB; have HO165 := n0_; have HO170 := n1_; have HO174 := n2_; have HB := n3_; clear n0_ n1_ n2_ n3_; (try clear hb); (try clear hb2); (try clear hk); (try clear hi); (try clear ho0)) | ((with_reducible refine gate_callee (f := 45) rfl ?_); refine goesL_ (some 42) rfl rfl Tryd.func45 (by kernel_rfl) rfl #[.string a0] rfl (by (try simp only [List.map_toArray, List.map_cons, List.map_nil]); first | done | rfl | (simp only [List.length_drop, List.length_take]; rfl)) ?_; (with_reducible refine (cooperageref4_Scan.calls kj2 a0 t175 t176 _ A10.out).mono ?_); rintro e w36 ⟨v177, rfl, ho0, hb⟩; refine ⟨_, rfl, ?_⟩; have n0_ := Aside0.mk (Kd.R_below (by (with_reducible repeat (first | apply Kd.R_alloc | apply Kd.R_drewN | apply Kd.R_drew)); exact HO165.out) hb); have n1_ := Aside0.mk (Kd.R_below (by (with_reducible repeat (first | apply Kd.R_alloc | apply Kd.R_drewN | apply Kd.R_drew)); exact HO170.out) hb); have n2_ := Aside0.mk (Kd.S_elder' (by (with_reducible repeat (first | apply Kd.S_alloc | apply Kd.S_drewN | apply Kd.S_drew)); exact HO174.out) (Kd.S_base ho0) hb); have n3_ := Aside0.mk (Kd.S_lower (Kd.S_new' (Kd.S_new' (Kd.S_new' ho0 (Kd.R_lt (by (with_reducible repeat (first | apply Kd.R_alloc | apply Kd.R_drewN | apply Kd.R_drew)); exact HO165.out))) (Kd.R_lt (by (with_reducible repeat (first | apply Kd.R_alloc | apply Kd.R_drewN | apply Kd.R_drew)); exact HO170.out))) (Kd.S_lt (by (with_reducible repeat (first | apply Kd.S_alloc | apply Kd.S_drewN | apply Kd.S_drew)); exact HO174.out))) (below_size (by repeat (first | (with_reducible first | exact HB.out | apply below_alloc | apply pw_below_drewN | apply below_drew1) | exact HB.out)))); have n4_ := Aside0.mk (below_step (by repeat (first | (with_reducible first | exact HB.out | apply below_alloc | apply pw_below_drewN | apply below_drew1) | exact HB.out)) hb); clear HO165; clear HO170; clear HO174; clear HB; have HO165 := n0_; have HO170 := n1_; have HO174 := n2_; have HO178 := n3_; have HB := n4_; clear n0_ n1_ n2_ n3_ n4_; (try clear hb); (try clear hb2); (try clear hk); (try clear hi); (try clear ho0); obtain ⟨Ao37, co37, eo37⟩ := Kd.R_slice HO165.out; subst eo37; obtain ⟨Ao38, co38, eo38⟩ := Kd.R_slice HO170.out; subst eo38) | ((with_reducible refine gate_callee (f := 46) rfl ?_); refine goesL_ (some 47) rfl rfl Tryd.func46 (by kernel_rfl) rfl #[.slice Ao37 t161.length co37, .slice Ao38 t166.length co38] rfl (by (try simp only [List.map_toArray, List.map_cons, List.map_nil]); first | done | rfl | (simp only [List.length_drop, List.length_take]; rfl)) ?_; (with_reducible refine (cooperagelaw4_same.calls kj2 _ _ t161 _ _ t166 true _ ?side1 ?side2 ?side3 ?side4 A11.out).mono ?_); (case side1 => repeat (first | exact (Kd.R_reads' HO165.out).2.2 | (with_reducible refine Kd.C_alloc ?_ _) | (with_reducible refine Kd.C_drewN ?_ _) | (with_reducible refine Kd.C_drew ?_))); (case side2 => exact (Kd.R_reads' HO165.out).2.1); (case side3 => repeat (first | exact (Kd.R_reads' HO170.out).2.2 | (with_reducible refine Kd.C_alloc ?_ _) | (with_reducible refine Kd.C_drewN ?_ _) | (with_reducible refine Kd.C_drew ?_))); (case side4 => exact (Kd.R_reads' HO170.out).2.1); rintro e w' ⟨rfl, ⟨nd, rfl⟩⟩; refine ⟨_, rfl, ?_⟩))
              go_ret
              exact ⟨by first | rfl | (simp [errW_none, errW_some] <;> rfl) | (simp [*, errW_none, errW_some] <;> rfl) | (simp [errW_none, errW_some]; cases a0.toList <;> rfl), by repeat (first | (with_reducible first | exact HB.out | apply below_alloc | apply pw_below_drewN | apply below_drew1) | exact HB.out)⟩
          · rw [if_neg c13] at H
            have c13b0 : (t162.toList == t167.toList) = false := beq_eq_false_iff_ne.mpr c13
            have c13b1 : (t162.toList != t167.toList) = true := bne_iff_ne.mpr c13
            obtain rfl := Option.some.inj H
            go_wp2_with (first | ((with_reducible refine gate_callee (f := 42) rfl ?_); refine goesL_ (some 25) rfl rfl Tryd.func42 (by kernel_rfl) rfl #[.string a0] rfl (by (try simp only [List.map_toArray, List.map_cons, List.map_nil]); first | done | rfl | (simp only [List.length_drop, List.length_take]; rfl)) ?_; (with_reducible refine (line_Take.calls a0 t161 t162 t163 _ ?side1 A7.out).mono ?_); (case side1 => exact Hand3.Glob.below hG (by repeat (first | (with_reducible first | exact HB.out | apply below_alloc | apply pw_below_drewN | apply below_drew1) | exact HB.out))); rintro e w39 ⟨v164, rfl, ho0, hb⟩; refine ⟨_, rfl, ?_⟩; have n0_ := Aside0.mk (Kd.R_lower ho0 (below_size (by repeat (first | (with_reducible first | exact HB.out | apply below_alloc | apply pw_below_drewN | apply below_drew1) | exact HB.out)))); have n1_ := Aside0.mk (below_step (by repeat (first | (with_reducible first | exact HB.out | apply below_alloc | apply pw_below_drewN | apply below_drew1) | exact HB.out)) hb); clear HB; have HO165 := n0_; have HB := n1_; clear n0_ n1_; (try clear hb); (try clear hb2); (try clear hk); (try clear hi); (try clear ho0)) | ((with_reducible refine gate_callee (f := 43) rfl ?_); refine goesL_ (some 31) rfl rfl Tryd.func43 (by kernel_rfl) rfl #[.string a0] rfl (by (try simp only [List.map_toArray, List.map_cons, List.map_nil]); first | done | rfl | (simp only [List.length_drop, List.length_take]; rfl)) ?_; (with_reducible refine (cooperageref4_Take.calls kj2 a0 t166 t167 t168 _ A8.out).mono ?_); rintro e w40 ⟨v169, rfl, ho0, hb⟩; refine ⟨_, rfl, ?_⟩; have n0_ := Aside0.mk (Kd.R_elder' (by (with_reducible repeat (first | apply Kd.R_alloc | apply Kd.R_drewN | apply Kd.R_drew)); exact HO165.out) (Kd.R_base ho0) hb); have n1_ := Aside0.mk (Kd.R_lower (Kd.R_new' ho0 (Kd.R_lt (by (with_reducible repeat (first | apply Kd.R_alloc | apply Kd.R_drewN | apply Kd.R_drew)); exact HO165.out))) (below_size (by repeat (first | (with_reducible first | exact HB.out | apply below_alloc | apply pw_below_drewN | apply below_drew1) | exact HB.out)))); have n2_ := Aside0.mk (below_step (by repeat (first | (with_reducible first | exact HB.out | apply below_alloc | apply pw_below_drewN | apply below_drew1) | exact HB.out)) hb); clear HO165; clear HB; have HO165 := n0_; have HO170 := n1_; have HB := n2_; clear n0_ n1_ n2_; (try clear hb); (try clear hb2); (try clear hk); (try clear hi); (try clear ho0)) | ((with_reducible refine gate_callee (f := 44) rfl ?_); refine goesL_ (some 37) rfl rfl Tryd.func44 (by kernel_rfl) rfl #[.string a0] rfl (by (try simp only [List.map_toArray, List.map_cons, List.map_nil]); first | done | rfl | (simp only [List.length_drop, List.length_take]; rfl)) ?_; (with_reducible refine (line_Scan.calls a0 t171 t172 _ ?side1 A9.out).mono ?_); (case side1 => exact Hand3.Glob.below hG (by repeat (first | (with_reducible first | exact HB.out | apply below_alloc | apply pw_below_drewN | apply below_drew1) | exact HB.out))); rintro e w41 ⟨v173, rfl, ho0, hb⟩; refine ⟨_, rfl, ?_⟩; have n0_ := Aside0.mk (Kd.R_below (by (with_reducible repeat (first | apply Kd.R_alloc | apply Kd.R_drewN | apply Kd.R_drew)); exact HO165.out) hb); have n1_ := Aside0.mk (Kd.R_below (by (with_reducible repeat (first | apply Kd.R_alloc | apply Kd.R_drewN | apply Kd.R_drew)); exact HO170.out) hb); have n2_ := Aside0.mk (Kd.S_lower (Kd.S_new' (Kd.S_new' ho0 (Kd.R_lt (by (with_reducible repeat (first | apply Kd.R_alloc | apply Kd.R_drewN | apply Kd.R_drew)); exact HO165.out))) (Kd.R_lt (by (with_reducible repeat (first | apply Kd.R_alloc | apply Kd.R_drewN | apply Kd.R_drew)); exact HO170.out))) (below_size (by repeat (first | (with_reducible first | exact HB.out | apply below_alloc | apply pw_below_drewN | apply below_drew1) | exact HB.out)))); have n3_ := Aside0.mk (below_step (by repeat (first | (with_reducible first | exact HB.out | apply below_alloc | apply pw_below_drewN | apply below_drew1) | exact HB.out)) hb); clear HO165; clear HO170; clear HB; have HO165 := n0_; have HO170 := n1_; have HO174 := n2_; have HB := n3_; clear n0_ n1_ n2_ n3_; (try clear hb); (try clear hb2); (try clear hk); (try clear hi); (try clear ho0)) | ((with_reducible refine gate_callee (f := 45) rfl ?_); refine goesL_ (some 42) rfl rfl Tryd.func45 (by kernel_rfl) rfl #[.string a0] rfl (by (try simp only [List.map_toArray, List.map_cons, List.map_nil]); first | done | rfl | (simp only [List.length_drop, List.length_take]; rfl)) ?_; (with_reducible refine (cooperageref4_Scan.calls kj2 a0 t175 t176 _ A10.out).mono ?_); rintro e w42 ⟨v177, rfl, ho0, hb⟩; refine ⟨_, rfl, ?_⟩; have n0_ := Aside0.mk (Kd.R_below (by (with_reducible repeat (first | apply Kd.R_alloc | apply Kd.R_drewN | apply Kd.R_drew)); exact HO165.out) hb); have n1_ := Aside0.mk (Kd.R_below (by (with_reducible repeat (first | apply Kd.R_alloc | apply Kd.R_drewN | apply Kd.R_drew)); exact HO170.out) hb); have n2_ := Aside0.mk (Kd.S_elder' (by (with_reducible repeat (first | apply Kd.S_alloc | apply Kd.S_drewN | apply Kd.S_drew)); exact HO174.out) (Kd.S_base ho0) hb); have n3_ := Aside0.mk (Kd.S_lower (Kd.S_new' (Kd.S_new' (Kd.S_new' ho0 (Kd.R_lt (by (with_reducible repeat (first | apply Kd.R_alloc | apply Kd.R_drewN | apply Kd.R_drew)); exact HO165.out))) (Kd.R_lt (by (with_reducible repeat (first | apply Kd.R_alloc | apply Kd.R_drewN | apply Kd.R_drew)); exact HO170.out))) (Kd.S_lt (by (with_reducible repeat (first | apply Kd.S_alloc | apply Kd.S_drewN | apply Kd.S_drew)); exact HO174.out))) (below_size (by repeat (first | (with_reducible first | exact HB.out | apply below_alloc | apply pw_below_drewN | apply below_drew1) | exact HB.out)))); have n4_ := Aside0.mk (below_step (by repeat (first | (with_reducible first | exact HB.out | apply below_alloc | apply pw_below_drewN | apply below_drew1) | exact HB.out)) hb); clear HO165; clear HO170; clear HO174; clear HB; have HO165 := n0_; have HO170 := n1_; have HO174 := n2_; have HO178 := n3_; have HB := n4_; clear n0_ n1_ n2_ n3_ n4_; (try clear hb); (try clear hb2); (try clear hk); (try clear hi); (try clear ho0); obtain ⟨Ao43, co43, eo43⟩ := Kd.R_slice HO165.out; subst eo43; obtain ⟨Ao44, co44, eo44⟩ := Kd.R_slice HO170.out; subst eo44) | ((with_reducible refine gate_callee (f := 46) rfl ?_); refine goesL_ (some 47) rfl rfl Tryd.func46 (by kernel_rfl) rfl #[.slice Ao43 t161.length co43, .slice Ao44 t166.length co44] rfl (by (try simp only [List.map_toArray, List.map_cons, List.map_nil]); first | done | rfl | (simp only [List.length_drop, List.length_take]; rfl)) ?_; (with_reducible refine (cooperagelaw4_same.calls kj2 _ _ t161 _ _ t166 true _ ?side1 ?side2 ?side3 ?side4 A11.out).mono ?_); (case side1 => repeat (first | exact (Kd.R_reads' HO165.out).2.2 | (with_reducible refine Kd.C_alloc ?_ _) | (with_reducible refine Kd.C_drewN ?_ _) | (with_reducible refine Kd.C_drew ?_))); (case side2 => exact (Kd.R_reads' HO165.out).2.1); (case side3 => repeat (first | exact (Kd.R_reads' HO170.out).2.2 | (with_reducible refine Kd.C_alloc ?_ _) | (with_reducible refine Kd.C_drewN ?_ _) | (with_reducible refine Kd.C_drew ?_))); (case side4 => exact (Kd.R_reads' HO170.out).2.1); rintro e w' ⟨rfl, ⟨nd, rfl⟩⟩; refine ⟨_, rfl, ?_⟩))
            go_ret
            exact ⟨by first | rfl | (simp [errW_none, errW_some] <;> rfl) | (simp [*, errW_none, errW_some] <;> rfl) | (simp [errW_none, errW_some]; cases a0.toList <;> rfl), by repeat (first | (with_reducible first | exact HB.out | apply below_alloc | apply pw_below_drewN | apply below_drew1) | exact HB.out)⟩
        · replace c12 := Bool.eq_false_iff.mpr c12
          subst c12
          have H1 : (some false) = some r := by rw [if_neg (show ¬ (false = true) by decide)] at H; exact H
          clear H
          have H := H1
          clear H1
          obtain rfl := Option.some.inj H
          go_wp2_with (first | ((with_reducible refine gate_callee (f := 42) rfl ?_); refine goesL_ (some 25) rfl rfl Tryd.func42 (by kernel_rfl) rfl #[.string a0] rfl (by (try simp only [List.map_toArray, List.map_cons, List.map_nil]); first | done | rfl | (simp only [List.length_drop, List.length_take]; rfl)) ?_; (with_reducible refine (line_Take.calls a0 t161 t162 t163 _ ?side1 A7.out).mono ?_); (case side1 => exact Hand3.Glob.below hG (by repeat (first | (with_reducible first | exact HB.out | apply below_alloc | apply pw_below_drewN | apply below_drew1) | exact HB.out))); rintro e w45 ⟨v164, rfl, ho0, hb⟩; refine ⟨_, rfl, ?_⟩; have n0_ := Aside0.mk (Kd.R_lower ho0 (below_size (by repeat (first | (with_reducible first | exact HB.out | apply below_alloc | apply pw_below_drewN | apply below_drew1) | exact HB.out)))); have n1_ := Aside0.mk (below_step (by repeat (first | (with_reducible first | exact HB.out | apply below_alloc | apply pw_below_drewN | apply below_drew1) | exact HB.out)) hb); clear HB; have HO165 := n0_; have HB := n1_; clear n0_ n1_; (try clear hb); (try clear hb2); (try clear hk); (try clear hi); (try clear ho0)) | ((with_reducible refine gate_callee (f := 43) rfl ?_); refine goesL_ (some 31) rfl rfl Tryd.func43 (by kernel_rfl) rfl #[.string a0] rfl (by (try simp only [List.map_toArray, List.map_cons, List.map_nil]); first | done | rfl | (simp only [List.length_drop, List.length_take]; rfl)) ?_; (with_reducible refine (cooperageref4_Take.calls kj2 a0 t166 t167 t168 _ A8.out).mono ?_); rintro e w46 ⟨v169, rfl, ho0, hb⟩; refine ⟨_, rfl, ?_⟩; have n0_ := Aside0.mk (Kd.R_elder' (by (with_reducible repeat (first | apply Kd.R_alloc | apply Kd.R_drewN | apply Kd.R_drew)); exact HO165.out) (Kd.R_base ho0) hb); have n1_ := Aside0.mk (Kd.R_lower (Kd.R_new' ho0 (Kd.R_lt (by (with_reducible repeat (first | apply Kd.R_alloc | apply Kd.R_drewN | apply Kd.R_drew)); exact HO165.out))) (below_size (by repeat (first | (with_reducible first | exact HB.out | apply below_alloc | apply pw_below_drewN | apply below_drew1) | exact HB.out)))); have n2_ := Aside0.mk (below_step (by repeat (first | (with_reducible first | exact HB.out | apply below_alloc | apply pw_below_drewN | apply below_drew1) | exact HB.out)) hb); clear HO165; clear HB; have HO165 := n0_; have HO170 := n1_; have HB := n2_; clear n0_ n1_ n2_; (try clear hb); (try clear hb2); (try clear hk); (try clear hi); (try clear ho0)) | ((with_reducible refine gate_callee (f := 44) rfl ?_); refine goesL_ (some 37) rfl rfl Tryd.func44 (by kernel_rfl) rfl #[.string a0] rfl (by (try simp only [List.map_toArray, List.map_cons, List.map_nil]); first | done | rfl | (simp only [List.length_drop, List.length_take]; rfl)) ?_; (with_reducible refine (line_Scan.calls a0 t171 t172 _ ?side1 A9.out).mono ?_); (case side1 => exact Hand3.Glob.below hG (by repeat (first | (with_reducible first | exact HB.out | apply below_alloc | apply pw_below_drewN | apply below_drew1) | exact HB.out))); rintro e w47 ⟨v173, rfl, ho0, hb⟩; refine ⟨_, rfl, ?_⟩; have n0_ := Aside0.mk (Kd.R_below (by (with_reducible repeat (first | apply Kd.R_alloc | apply Kd.R_drewN | apply Kd.R_drew)); exact HO165.out) hb); have n1_ := Aside0.mk (Kd.R_below (by (with_reducible repeat (first | apply Kd.R_alloc | apply Kd.R_drewN | apply Kd.R_drew)); exact HO170.out) hb); have n2_ := Aside0.mk (Kd.S_lower (Kd.S_new' (Kd.S_new' ho0 (Kd.R_lt (by (with_reducible repeat (first | apply Kd.R_alloc | apply Kd.R_drewN | apply Kd.R_drew)); exact HO165.out))) (Kd.R_lt (by (with_reducible repeat (first | apply Kd.R_alloc | apply Kd.R_drewN | apply Kd.R_drew)); exact HO170.out))) (below_size (by repeat (first | (with_reducible first | exact HB.out | apply below_alloc | apply pw_below_drewN | apply below_drew1) | exact HB.out)))); have n3_ := Aside0.mk (below_step (by repeat (first | (with_reducible first | exact HB.out | apply below_alloc | apply pw_below_drewN | apply below_drew1) | exact HB.out)) hb); clear HO165; clear HO170; clear HB; have HO165 := n0_; have HO170 := n1_; have HO174 := n2_; have HB := n3_; clear n0_ n1_ n2_ n3_; (try clear hb); (try clear hb2); (try clear hk); (try clear hi); (try clear ho0)) | ((with_reducible refine gate_callee (f := 45) rfl ?_); refine goesL_ (some 42) rfl rfl Tryd.func45 (by kernel_rfl) rfl #[.string a0] rfl (by (try simp only [List.map_toArray, List.map_cons, List.map_nil]); first | done | rfl | (simp only [List.length_drop, List.length_take]; rfl)) ?_; (with_reducible refine (cooperageref4_Scan.calls kj2 a0 t175 t176 _ A10.out).mono ?_); rintro e w48 ⟨v177, rfl, ho0, hb⟩; refine ⟨_, rfl, ?_⟩; have n0_ := Aside0.mk (Kd.R_below (by (with_reducible repeat (first | apply Kd.R_alloc | apply Kd.R_drewN | apply Kd.R_drew)); exact HO165.out) hb); have n1_ := Aside0.mk (Kd.R_below (by (with_reducible repeat (first | apply Kd.R_alloc | apply Kd.R_drewN | apply Kd.R_drew)); exact HO170.out) hb); have n2_ := Aside0.mk (Kd.S_elder' (by (with_reducible repeat (first | apply Kd.S_alloc | apply Kd.S_drewN | apply Kd.S_drew)); exact HO174.out) (Kd.S_base ho0) hb); have n3_ := Aside0.mk (Kd.S_lower (Kd.S_new' (Kd.S_new' (Kd.S_new' ho0 (Kd.R_lt (by (with_reducible repeat (first | apply Kd.R_alloc | apply Kd.R_drewN | apply Kd.R_drew)); exact HO165.out))) (Kd.R_lt (by (with_reducible repeat (first | apply Kd.R_alloc | apply Kd.R_drewN | apply Kd.R_drew)); exact HO170.out))) (Kd.S_lt (by (with_reducible repeat (first | apply Kd.S_alloc | apply Kd.S_drewN | apply Kd.S_drew)); exact HO174.out))) (below_size (by repeat (first | (with_reducible first | exact HB.out | apply below_alloc | apply pw_below_drewN | apply below_drew1) | exact HB.out)))); have n4_ := Aside0.mk (below_step (by repeat (first | (with_reducible first | exact HB.out | apply below_alloc | apply pw_below_drewN | apply below_drew1) | exact HB.out)) hb); clear HO165; clear HO170; clear HO174; clear HB; have HO165 := n0_; have HO170 := n1_; have HO174 := n2_; have HO178 := n3_; have HB := n4_; clear n0_ n1_ n2_ n3_ n4_; (try clear hb); (try clear hb2); (try clear hk); (try clear hi); (try clear ho0); obtain ⟨Ao49, co49, eo49⟩ := Kd.R_slice HO165.out; subst eo49; obtain ⟨Ao50, co50, eo50⟩ := Kd.R_slice HO170.out; subst eo50) | ((with_reducible refine gate_callee (f := 46) rfl ?_); refine goesL_ (some 47) rfl rfl Tryd.func46 (by kernel_rfl) rfl #[.slice Ao49 t161.length co49, .slice Ao50 t166.length co50] rfl (by (try simp only [List.map_toArray, List.map_cons, List.map_nil]); first | done | rfl | (simp only [List.length_drop, List.length_take]; rfl)) ?_; (with_reducible refine (cooperagelaw4_same.calls kj2 _ _ t161 _ _ t166 false _ ?side1 ?side2 ?side3 ?side4 A11.out).mono ?_); (case side1 => repeat (first | exact (Kd.R_reads' HO165.out).2.2 | (with_reducible refine Kd.C_alloc ?_ _) | (with_reducible refine Kd.C_drewN ?_ _) | (with_reducible refine Kd.C_drew ?_))); (case side2 => exact (Kd.R_reads' HO165.out).2.1); (case side3 => repeat (first | exact (Kd.R_reads' HO170.out).2.2 | (with_reducible refine Kd.C_alloc ?_ _) | (with_reducible refine Kd.C_drewN ?_ _) | (with_reducible refine Kd.C_drew ?_))); (case side4 => exact (Kd.R_reads' HO170.out).2.1); rintro e w' ⟨rfl, ⟨nd, rfl⟩⟩; refine ⟨_, rfl, ?_⟩))
          go_ret
          exact ⟨by first | rfl | (simp [errW_none, errW_some] <;> rfl) | (simp [*, errW_none, errW_some] <;> rfl) | (simp [errW_none, errW_some]; cases a0.toList <;> rfl), by repeat (first | (with_reducible first | exact HB.out | apply below_alloc | apply pw_below_drewN | apply below_drew1) | exact HB.out)⟩

end Go.Proofs.YtocpfgdajomjiaaDoor.L
/- Plain facts of lines. -/
namespace Go.Proofs.YtocpfgdajomjiaaDoor.PureL
open Go.RowKit Go.Proofs.YtocpfgdajomjiaaDoor.PureR Go.Proofs.YtocpfgdajomjiaaDoor.Spl
open Go.Proofs.YtocpfgdajomjiaaDoor.Hand hiding text_Lines.f text_Words.f text_Trim.f text_Join.f text_Path.f text_Quote.f text_Lines.calls text_Words.calls text_Trim.calls text_Join.calls text_Path.calls text_Quote.calls Glob
set_option linter.unusedVariables false
set_option linter.unusedSimpArgs false
theorem quoteV_empty {s : ByteArray} (h : s.data.toList = []) : quoteV s = ⟨#[37]⟩ := by
  unfold quoteV
  rw [if_pos]
  rw [← len_data, h]
  rfl
theorem quoteV_full {s : ByteArray} (h : s.data.toList ≠ []) : (quoteV s).data.toList = s.data.toList.flatMap quoteB := quoteV_data (t := s.data.toList) h
theorem quoteV_ne (s : ByteArray) : (quoteV s).data.toList ≠ [] := by
  by_cases h : s.data.toList = []
  · rw [quoteV_empty h]
    simp
  · rw [quoteV_full h]
    cases hd : s.data.toList with
    | nil => exact absurd hd h
    | cons c t =>
      intro e
      rw [List.flatMap_cons, List.append_eq_nil_iff] at e
      have := quoteB_pos c
      rw [e.1] at this
      simp at this
theorem quoteV_sign (s : ByteArray) : ∀ c ∈ (quoteV s).data.toList, plainI c.toNat = true ∨ c = 37 := by
  intro c hc
  by_cases h : s.data.toList = []
  · rw [quoteV_empty h] at hc
    exact .inr (by simpa using hc)
  · rw [quoteV_full h] at hc
    obtain ⟨d, -, hd⟩ := List.mem_flatMap.1 hc
    exact quoteB_sign d c hd
theorem sign_ne {c : UInt8} (h : plainI c.toNat = true ∨ c = 37) : c ≠ 32 ∧ c ≠ 10 := by
  constructor <;> (rintro rfl; rcases h with h | h <;> exact absurd h (by decide))
theorem unq_quote (s : ByteArray) : unqV (quoteV s) = some s := by
  by_cases h : s.data.toList = []
  · rw [quoteV_empty h]
    have : s = (⟨#[]⟩ : ByteArray) := ba_ext h
    rw [this]
    rfl
  · have hf := quoteV_full h
    have hne : (quoteV s).data.toList ≠ [37] := by
      rw [hf]
      cases hd : s.data.toList with
      | nil => exact absurd hd h
      | cons c t =>
        intro e
        rw [List.flatMap_cons, quoteB] at e
        split at e
        next hp =>
          rw [List.singleton_append] at e
          injection e with e1 e2
          exact plain_no37 hp e1
        next => simp at e
    rw [unqV_of hne (congrArg decG hf), decG_quote]
    show (if s.data.toList ≠ [] ∧ quoteV ⟨s.data.toList.toArray⟩ = quoteV s then some (⟨s.data.toList.toArray⟩ : ByteArray) else none) = some s
    have hs : (⟨s.data.toList.toArray⟩ : ByteArray) = s := ba_ext rfl
    rw [hs, if_pos ⟨h, rfl⟩]
theorem unq_inv {x t : ByteArray} (h : unqV x = some t) : quoteV t = x := by
  unfold unqV at h
  split at h
  next hx =>
    injection h with h
    subst h
    exact ba_ext hx.symm
  next hx =>
    cases hd : decG x.data.toList with
    | none => rw [hd] at h; cases h
    | some l =>
      rw [hd] at h
      have h' : (if l ≠ [] ∧ quoteV ⟨l.toArray⟩ = x then some (⟨l.toArray⟩ : ByteArray) else none) = some t := h
      by_cases hc : l ≠ [] ∧ quoteV ⟨l.toArray⟩ = x
      · rw [if_pos hc] at h'
        injection h' with h'
        subst h'
        exact hc.2
      · rw [if_neg hc] at h'
        cases h'
theorem body_sign (l : List ByteArray) : ∀ c ∈ bodyL l, (plainI c.toNat = true ∨ c = 37) ∨ c = 32 := by
  intro c hc
  obtain ⟨x, -, hx⟩ := List.mem_flatMap.1 hc
  rcases List.mem_append.1 hx with h | h
  · exact .inl (quoteV_sign x c h)
  · exact .inr (by simpa using h)
theorem body_no10 (l : List ByteArray) : ∀ c ∈ bodyL l, c ≠ 10 := by
  intro c hc
  rcases body_sign l c hc with h | h
  · exact (sign_ne h).2
  · rw [h]; decide
theorem body_cons (x : ByteArray) (r : List ByteArray) : bodyL (x :: r) = (quoteV x).data.toList ++ 32 :: bodyL r := by simp [bodyL]
theorem body_map (l : List ByteArray) : bodyL l = ((l.map quoteV).map (·.data.toList)).flatMap (· ++ [32]) := by
  induction l with
  | nil => rfl
  | cons x r ih => rw [body_cons, ih]; simp
theorem body_ne {l : List ByteArray} (h : l ≠ []) : bodyL l ≠ [] := by
  cases l with
  | nil => exact absurd rfl h
  | cons x r => rw [body_cons]; simp
theorem body_split : ∀ l : List ByteArray, l ≠ [] → splG 32 [] (bodyL l).dropLast = l.map (fun x => (quoteV x).data.toList) ∧ (bodyL l).dropLast ++ [32] = bodyL l := by
  intro l
  induction l with
  | nil => intro h; exact absurd rfl h
  | cons x r ih =>
    intro _
    have hq : splG 32 [] (quoteV x).data.toList = [(quoteV x).data.toList] := by
      rw [splG_none 32 _ [] (fun c hc => (sign_ne (quoteV_sign x c hc)).1)]
      rfl
    rw [body_cons]
    cases r with
    | nil =>
      have e : (quoteV x).data.toList ++ 32 :: bodyL [] = (quoteV x).data.toList ++ [32] := rfl
      rw [e, List.dropLast_concat]
      exact ⟨hq, rfl⟩
    | cons y r' =>
      obtain ⟨i1, i2⟩ := ih (by simp)
      have hne := body_ne (l := y :: r') (by simp)
      have e : ((quoteV x).data.toList ++ 32 :: bodyL (y :: r')).dropLast = (quoteV x).data.toList ++ 32 :: (bodyL (y :: r')).dropLast := by
        rw [List.dropLast_append_of_ne_nil (by simp), List.dropLast_cons_of_ne_nil hne]
      rw [e, splG_app, hq, i1]
      refine ⟨rfl, ?_⟩
      rw [List.append_assoc, List.cons_append, i2]
theorem hexd_hex : ∀ d : Fin 16, hexL.contains (SumW.hexd d.val) = true := by decide +kernel
theorem hexList_hex : ∀ n : Nat, ∀ c ∈ SumW.hexList n, hexL.contains c = true := by
  intro n
  induction n using Nat.strongRecOn with
  | ind n ih =>
    intro c hc
    by_cases h : n < 16
    · rw [SumW.hexList_lt h, List.mem_singleton] at hc
      rw [hc]
      exact hexd_hex ⟨n, h⟩
    · rw [SumW.hexList_ge (by omega)] at hc
      rcases List.mem_append.1 hc with hc | hc
      · exact ih (n / 16) (by omega) c hc
      · rw [List.mem_singleton] at hc
        rw [hc]
        exact hexd_hex ⟨n % 16, Nat.mod_lt _ (by decide)⟩
theorem hex8_hex (n : Nat) : ∀ c ∈ (SumW.hex8 n).data.toList, hexL.contains c = true := by
  intro c hc
  exact hexList_hex (n + 4294967296) c (List.mem_of_mem_drop hc)
theorem hex_no10 {c : UInt8} (h : hexL.contains c = true) : c ≠ 10 := by
  rintro rfl
  exact absurd h (by decide)
theorem hex8_len {n : Nat} (h : n < 4294967296) : (SumW.hex8 n).data.toList.length = 8 := by rw [len_data]; exact hex8_size n h
theorem line_len (l : List ByteArray) : (lineL l).length = (bodyL l).length + 9 := by
  unfold lineL
  rw [List.length_append, List.length_append, hex8_len (adlOf_lt _)]
  rfl
theorem index_app (c : UInt8) (r : List UInt8) : ∀ l : List UInt8, c ∉ l → Lib.index (l ++ c :: r) [c] = l.length := by
  intro l
  induction l with
  | nil => intro _; rw [List.nil_append, Lib.index]; simp [List.isPrefixOf]
  | cons b t ih =>
    intro h
    rw [List.mem_cons, not_or] at h
    have hp : ([c] : List UInt8).isPrefixOf (b :: (t ++ c :: r)) = false := by simp [List.isPrefixOf, h.1]
    rw [List.cons_append, Lib.index, hp, ih h.2]
    simp
theorem cut_app (c : UInt8) (l r : List UInt8) (h : c ∉ l) : Lib.cut (l ++ c :: r) [c] = (l, r, true) := by
  unfold Lib.cut
  rw [index_app c r l h, if_pos (by omega)]
  simp
theorem bytes_map (l : List ByteArray) : (l.map (·.data.toList)).map (fun x => (⟨x.toArray⟩ : ByteArray)) = l := by
  rw [List.map_map]
  have : ((fun x : List UInt8 => (⟨x.toArray⟩ : ByteArray)) ∘ fun x : ByteArray => x.data.toList) = id := by
    funext x
    rfl
  rw [this, List.map_id]
theorem put_ok {l : List ByteArray} (h : (putV l).2 = 0) : 1 ≤ l.length ∧ l.length ≤ 40 ∧ (lineL l).length ≤ 13000 ∧ putV l = (⟨(lineL l).toArray⟩, 0) := by
  unfold putV at h ⊢
  split at h
  · exact absurd h (by decide)
  · split at h
    · exact absurd h (by decide)
    · split at h
      · exact absurd h (by decide)
      · next h1 h2 h3 => exact ⟨by omega, by omega, by omega, by rw [if_neg h1, if_neg h2, if_neg h3]⟩
theorem put_of {l : List ByteArray} (h1 : 1 ≤ l.length) (h2 : l.length ≤ 40) (h3 : (lineL l).length ≤ 13000) : putV l = (⟨(lineL l).toArray⟩, 0) := by
  unfold putV
  rw [if_neg (by omega), if_neg (by omega), if_neg (by omega)]
/-- What was put is taken. -/
theorem take_line {l : List ByteArray} (h : (putV l).2 = 0) (r : ByteArray) : takeV ((putV l).1 ++ r) = (l, r, 0) := by
  obtain ⟨h1, h2, h3, h4⟩ := put_ok h
  have hne : l ≠ [] := by intro e; subst e; simp at h1
  obtain ⟨s1, s2⟩ := body_split l hne
  have hll := line_len l
  obtain ⟨D, hD⟩ : ∃ D, (bodyL l).dropLast = D := ⟨_, rfl⟩
  rw [hD] at s1 s2
  clear hD
  have hbl : D.length + 1 = (bodyL l).length := by
    have := congrArg List.length s2
    rw [List.length_append] at this
    exact this
  have h8 := hex8_len (adlOf_lt (bodyL l))
  have hno : (10 : UInt8) ∉ bodyL l ++ (SumW.hex8 (adlOf (bodyL l))).data.toList := by
    intro hm
    rcases List.mem_append.1 hm with hm | hm
    · exact body_no10 l _ hm rfl
    · exact hex_no10 (hex8_hex _ _ hm) rfl
  have hd : ((putV l).1 ++ r).data.toList = (bodyL l ++ (SumW.hex8 (adlOf (bodyL l))).data.toList) ++ 10 :: r.data.toList := by
    rw [h4, data_app2]
    show lineL l ++ r.data.toList = _
    unfold lineL
    simp
  unfold takeV
  rw [hd, cut_app 10 _ _ hno, if_neg (show ¬ (true = false) by decide)]
  show takeB ⟨(bodyL l ++ (SumW.hex8 (adlOf (bodyL l))).data.toList).toArray⟩ ⟨r.data.toList.toArray⟩ = _
  have hr : (⟨r.data.toList.toArray⟩ : ByteArray) = r := rfl
  rw [hr]
  obtain ⟨a, ha⟩ : ∃ a : ByteArray, a = ⟨(bodyL l ++ (SumW.hex8 (adlOf (bodyL l))).data.toList).toArray⟩ := ⟨_, rfl⟩
  rw [← ha]
  have had : a.data.toList = bodyL l ++ (SumW.hex8 (adlOf (bodyL l))).data.toList := by rw [ha]
  have has : a.size = (bodyL l).length + 8 := by rw [← len_data, had, List.length_append, h8]
  have hs9 : a.size - 9 = D.length := by omega
  have hs8 : a.size - 8 = (bodyL l).length := by omega
  have ht9 : a.data.toList.take (a.size - 9) = D := by
    rw [hs9, had]
    rw [← s2, List.append_assoc, List.take_left]
  have ht8 : a.data.toList.take (a.size - 8) = bodyL l := by rw [hs8, had, List.take_left]
  have hd8 : a.data.toList.drop (a.size - 8) = (SumW.hex8 (adlOf (bodyL l))).data.toList := by rw [hs8, had, List.drop_left]
  have h32 : a.data.toList[a.size - 9]? = some 32 := by
    rw [hs9, had]
    rw [← s2, List.append_assoc, List.getElem?_append_right (Nat.le_refl _), Nat.sub_self]
    rfl
  have hform : formB a = true := by
    unfold formB
    rw [h32, hd8]
    simp only [Bool.and_eq_true, decide_eq_true_eq, List.all_eq_true]
    exact ⟨⟨⟨by omega, by omega⟩, trivial⟩, hex8_hex _⟩
  have hw : wordsB a = l.map quoteV := by
    have hwd := words_data a
    rw [show (a.extract 0 (a.size - 9)).data.toList = a.data.toList.take (a.size - 9) by rw [← ext_take], ht9, s1] at hwd
    rw [← bytes_map (wordsB a), hwd, List.map_map]
    rfl
  have hsum : SumW.hex8 (adlOf (a.data.toList.take (a.size - 8))) = a.extract (a.size - 8) a.size := by
    rw [ht8, ← ext_drop, hd8]
  unfold takeB
  rw [hform, if_neg (by decide), hw, if_neg (by rw [List.length_map]; omega), if_neg, if_pos hsum]
  · rw [List.map_map]
    have : ((fun x => (unqV x).getD ⟨#[]⟩) ∘ quoteV) = id := by
      funext x
      rw [Function.comp_apply, unq_quote]
      rfl
    rw [this, List.map_id]
  · rw [List.all_map]
    have : ((fun x => (unqV x).isSome) ∘ quoteV) = fun _ => true := by
      funext x
      rw [Function.comp_apply, unq_quote]
      rfl
    rw [this]
    simp
theorem splG_join (c : UInt8) : ∀ l cur : List UInt8, (splG c cur l).flatMap (· ++ [c]) = cur.reverse ++ l ++ [c] := by
  intro l
  induction l with
  | nil => intro cur; simp [splG]
  | cons b t ih =>
    intro cur
    rw [splG]
    split
    next h =>
      subst h
      rw [List.flatMap_cons, ih]
      simp
    next h =>
      rw [ih]
      simp
theorem takeB_err {a r : ByteArray} (h : (takeB a r).2.2 ≠ 0) : (takeB a r).1 = [] ∧ (takeB a r).2.1 = ⟨#[]⟩ := by
  unfold takeB at h ⊢
  split
  · exact ⟨rfl, rfl⟩
  · split
    · exact ⟨rfl, rfl⟩
    · split
      · exact ⟨rfl, rfl⟩
      · split
        · next h1 h2 h3 h4 =>
          rw [if_neg h1, if_neg h2, if_neg h3, if_pos h4] at h
          exact absurd rfl h
        · exact ⟨rfl, rfl⟩
theorem take_err {s : ByteArray} (h : (takeV s).2.2 ≠ 0) : (takeV s).1 = [] ∧ (takeV s).2.1 = ⟨#[]⟩ := by
  unfold takeV at h ⊢
  split
  · exact ⟨rfl, rfl⟩
  · next h1 =>
    rw [if_neg h1] at h
    exact takeB_err h
/-- What is taken is a line that was put. -/
theorem take_inv {s : ByteArray} (h : (takeV s).2.2 = 0) : (putV (takeV s).1).2 = 0 ∧ (putV (takeV s).1).1 ++ (takeV s).2.1 = s := by
  have hspec := (cut_one 10 s.data.toList).2
  unfold takeV at h ⊢
  split at h
  · exact absurd h (by decide)
  · next hf =>
    rw [if_neg hf]
    have hs : s.data.toList = (Lib.cut s.data.toList [10]).1 ++ 10 :: (Lib.cut s.data.toList [10]).2.1 := by
      rcases hspec with ⟨-, h⟩ | ⟨h, -⟩
      · exact h
      · exact absurd h hf
    obtain ⟨a, ha⟩ : ∃ a : ByteArray, a = ⟨(Lib.cut s.data.toList [10]).1.toArray⟩ := ⟨_, rfl⟩
    obtain ⟨r, hr⟩ : ∃ r : ByteArray, r = ⟨(Lib.cut s.data.toList [10]).2.1.toArray⟩ := ⟨_, rfl⟩
    have had : (Lib.cut s.data.toList [10]).1 = a.data.toList := by rw [ha]
    have hrd : (Lib.cut s.data.toList [10]).2.1 = r.data.toList := by rw [hr]
    rw [← ha, ← hr] at h ⊢
    rw [had, hrd] at hs
    clear ha hr had hrd hspec hf
    unfold takeB at h ⊢
    split at h
    · exact absurd h (by decide)
    · split at h
      · exact absurd h (by decide)
      · split at h
        · exact absurd h (by decide)
        · split at h
          · next h1 h2 h3 h4 =>
            rw [if_neg h1, if_neg h2, if_neg h3, if_pos h4]
            show (putV ((wordsB a).map fun x => (unqV x).getD ⟨#[]⟩)).2 = 0 ∧ (putV ((wordsB a).map fun x => (unqV x).getD ⟨#[]⟩)).1 ++ r = s
            have hform : formB a = true := by simpa using h1
            simp only [formB, Bool.and_eq_true, decide_eq_true_eq] at hform
            obtain ⟨⟨⟨f1, f2⟩, f3⟩, f4⟩ := hform
            have hsome : ∀ x ∈ wordsB a, (unqV x).isSome = true := by
              have : (wordsB a).all (fun x => (unqV x).isSome) = true := by rw [Bool.not_eq_false] at h3; exact h3
              exact List.all_eq_true.1 this
            have hq : ((wordsB a).map fun x => (unqV x).getD ⟨#[]⟩).map quoteV = wordsB a := by
              rw [List.map_map]
              conv => rhs; rw [← List.map_id (wordsB a)]
              refine List.map_congr_left fun x hx => ?_
              obtain ⟨t, ht⟩ := Option.isSome_iff_exists.1 (hsome x hx)
              rw [Function.comp_apply, ht]
              exact unq_inv ht
            have hlen : a.data.toList.length = a.size := len_data a
            have hbody : bodyL ((wordsB a).map fun x => (unqV x).getD ⟨#[]⟩) = a.data.toList.take (a.size - 8) := by
              have e1 : bodyL ((wordsB a).map fun x => (unqV x).getD ⟨#[]⟩) = ((((wordsB a).map fun x => (unqV x).getD ⟨#[]⟩).map quoteV).map (·.data.toList)).flatMap (· ++ [32]) := body_map _
              rw [e1, hq, words_data, splG_join, show (a.extract 0 (a.size - 9)).data.toList = a.data.toList.take (a.size - 9) by rw [← ext_take]]
              have h9 : a.size - 9 < a.data.toList.length := by omega
              rw [List.getElem?_eq_getElem h9] at f3
              rw [show a.size - 8 = (a.size - 9) + 1 by omega, List.take_succ_eq_append_getElem h9, Option.some.inj f3]
              rfl
            have hline : lineL ((wordsB a).map fun x => (unqV x).getD ⟨#[]⟩) = a.data.toList ++ [10] := by
              unfold lineL
              rw [hbody, h4, ← ext_drop]
              show a.data.toList.take (a.size - 8) ++ a.data.toList.drop (a.size - 8) ++ [10] = _
              rw [List.take_append_drop]
            have hwl : 1 ≤ (wordsB a).length := by
              have := congrArg List.length (words_data a)
              rw [List.length_map, splG_len] at this
              omega
            have hput := put_of (l := (wordsB a).map fun x => (unqV x).getD ⟨#[]⟩) (by rw [List.length_map]; exact hwl) (by rw [List.length_map]; omega) (by rw [hline, List.length_append]; simp; omega)
            rw [hput]
            refine ⟨rfl, ba_ext ?_⟩
            rw [data_app2, hs]
            show lineL ((wordsB a).map fun x => (unqV x).getD ⟨#[]⟩) ++ r.data.toList = _
            rw [hline]
            simp
          · exact absurd h (by decide)
end Go.Proofs.YtocpfgdajomjiaaDoor.PureL
/- Plain facts of lines one behind the other. -/
namespace Go.Proofs.YtocpfgdajomjiaaDoor.PureL
open Go.RowKit Go.Proofs.YtocpfgdajomjiaaDoor.PureR Go.Proofs.YtocpfgdajomjiaaDoor.Spl
open Go.Proofs.YtocpfgdajomjiaaDoor.Hand hiding text_Lines.f text_Words.f text_Trim.f text_Join.f text_Path.f text_Quote.f text_Lines.calls text_Words.calls text_Trim.calls text_Join.calls text_Path.calls text_Quote.calls Glob
set_option linter.unusedVariables false
set_option linter.unusedSimpArgs false
/-- Lines put one behind the other, and what is behind. -/
def cat : List (List ByteArray) → ByteArray → ByteArray
  | [], r => r
  | l :: t, r => (putV l).1 ++ cat t r
theorem ba_assoc (a b c : ByteArray) : (a ++ b) ++ c = a ++ (b ++ c) := by
  apply ba_ext
  simp [ByteArray.data_append, Array.toList_append]
theorem cat_app (xs ys : List (List ByteArray)) (r : ByteArray) : cat (xs ++ ys) r = cat xs (cat ys r) := by
  induction xs with
  | nil => rfl
  | cons l t ih => show (putV l).1 ++ cat (t ++ ys) r = _; rw [ih]; rfl
theorem cat_behind (xs : List (List ByteArray)) (r q : ByteArray) : cat xs r ++ q = cat xs (r ++ q) := by
  induction xs with
  | nil => rfl
  | cons l t ih => show ((putV l).1 ++ cat t r) ++ q = (putV l).1 ++ cat t (r ++ q); rw [ba_assoc, ih]
theorem scan_step {l : List ByteArray} (h : (putV l).2 = 0) (r : ByteArray) (tot f : Nat) : scanG tot (f + 1) ((putV l).1 ++ r) = (l, (tot : Int) - (r.size : Int)) :: scanG tot f r := by
  rw [scanG, take_line h r, if_pos rfl]
theorem scan_stop {u : ByteArray} (h : (takeV u).2.2 ≠ 0) (tot : Nat) : ∀ f, scanG tot f u = [] := by
  intro f
  cases f with
  | zero => rfl
  | succ f => rw [scanG, if_neg h]
theorem cat_size (xs : List (List ByteArray)) (r : ByteArray) : (cat xs r).size = (cat xs ⟨#[]⟩).size + r.size := by
  have := cat_behind xs ⟨#[]⟩ r
  have e : (⟨#[]⟩ : ByteArray) ++ r = r := ba_ext (by simp [ByteArray.data_append, Array.toList_append])
  rw [e] at this
  rw [← this, ByteArray.size_append]
theorem scan_cat (tot : Nat) (r : ByteArray) (hr : (takeV r).2.2 ≠ 0) : ∀ (xs : List (List ByteArray)) (f : Nat), (∀ l ∈ xs, (putV l).2 = 0) → xs.length ≤ f →
    (scanG tot f (cat xs r)).map (·.1) = xs ∧ (xs ≠ [] → lastE (scanG tot f (cat xs r)) = (tot : Int) - (r.size : Int)) := by
  intro xs
  induction xs with
  | nil =>
    intro f _ _
    rw [cat, scan_stop hr]
    exact ⟨rfl, fun h => absurd rfl h⟩
  | cons l t ih =>
    intro f hx hf
    obtain ⟨f, rfl⟩ : ∃ g, f = g + 1 := ⟨f - 1, by simp at hf; omega⟩
    have hl := hx l (by simp)
    obtain ⟨i1, i2⟩ := ih f (fun y hy => hx y (by simp [hy])) (by simpa using hf)
    rw [cat, scan_step hl]
    refine ⟨by rw [List.map_cons, i1], fun _ => ?_⟩
    cases t with
    | nil =>
      rw [cat, scan_stop hr]
      rfl
    | cons m t' =>
      have i3 := i2 (by simp)
      rw [← i3]
      unfold lastE
      cases hs : scanG tot f (cat (m :: t') r) with
      | nil => rw [hs] at i1; simp at i1
      | cons a b => rw [List.getLast?_cons_cons]
theorem scanV_cat (xs : List (List ByteArray)) (r : ByteArray) (hx : ∀ l ∈ xs, (putV l).2 = 0) (hr : (takeV r).2.2 ≠ 0) : scanV (cat xs r) = (xs, ((cat xs ⟨#[]⟩).size : Int)) := by
  have hsz := cat_size xs r
  have hlen : xs.length ≤ (cat xs r).size + 1 := by
    have : ∀ ys : List (List ByteArray), (∀ l ∈ ys, (putV l).2 = 0) → ys.length ≤ (cat ys ⟨#[]⟩).size := by
      intro ys
      induction ys with
      | nil => intro _; exact Nat.zero_le _
      | cons l t ih =>
        intro h
        have h1 := ih fun y hy => h y (by simp [hy])
        obtain ⟨-, -, -, h4⟩ := put_ok (h l (by simp))
        have h5 : 1 ≤ (putV l).1.size := by
          rw [h4]
          show 1 ≤ (lineL l).toArray.size
          rw [List.size_toArray, line_len]
          omega
        show t.length + 1 ≤ ((putV l).1 ++ cat t ⟨#[]⟩).size
        rw [ByteArray.size_append]
        omega
    have := this xs hx
    omega
  obtain ⟨h1, h2⟩ := scan_cat (cat xs r).size r hr xs ((cat xs r).size + 1) hx hlen
  unfold scanV scanP
  rw [h1]
  congr 1
  cases xs with
  | nil =>
    rw [cat, scan_stop hr]
    rfl
  | cons l t =>
    rw [h2 (by simp), hsz]
    omega
theorem take_no10 {u : ByteArray} (h : ∀ c ∈ u.data.toList, c ≠ 10) : (takeV u).2.2 ≠ 0 := by
  rcases cut_one 10 u.data.toList with ⟨h1, ⟨h2, h3⟩ | ⟨h2, h3⟩⟩
  · exfalso
    rw [h3] at h
    exact h 10 (by simp) rfl
  · unfold takeV
    rw [h2, if_pos rfl]
    decide
theorem putV_size {l : List ByteArray} (h : (putV l).2 = 0) : (putV l).1.size = (lineL l).length := by
  rw [(put_ok h).2.2.2]
  exact List.size_toArray
theorem putV_data {l : List ByteArray} (h : (putV l).2 = 0) : (putV l).1.data.toList = lineL l := by
  rw [(put_ok h).2.2.2]
/-- A part of a line that is put has no line feed, but at its end. -/
theorem line_no10 (l : List ByteArray) : lineL l = (bodyL l ++ (SumW.hex8 (adlOf (bodyL l))).data.toList) ++ [10] ∧ ∀ c ∈ bodyL l ++ (SumW.hex8 (adlOf (bodyL l))).data.toList, c ≠ 10 := by
  refine ⟨rfl, fun c hc => ?_⟩
  rcases List.mem_append.1 hc with h | h
  · exact body_no10 l c h
  · exact hex_no10 (hex8_hex _ c h)
end Go.Proofs.YtocpfgdajomjiaaDoor.PureL
/- The head of chapter 4's laws, plain. -/
namespace Go.Proofs.YtocpfgdajomjiaaDoor.PureL
open Go.RowKit Go.Proofs.YtocpfgdajomjiaaDoor.PureR Go.Proofs.YtocpfgdajomjiaaDoor.L Go.Proofs.YtocpfgdajomjiaaDoor.Hand3 Go.Proofs.YtocpfgdajomjiaaDoor.Spl Go.Proofs.YtocpfgdajomjiaaDoorW.PrintWords
open Go.Proofs.YtocpfgdajomjiaaDoor.Hand hiding text_Lines.f text_Words.f text_Trim.f text_Join.f text_Path.f text_Quote.f text_Lines.calls text_Words.calls text_Trim.calls text_Join.calls text_Path.calls text_Quote.calls Glob
set_option linter.unusedVariables false
set_option linter.unusedSimpArgs false
theorem put_okf (l : List ByteArray) (h : ∀ x ∈ l, x.size ≤ 100000) : line_Put.f l = some (putV l) := by
  unfold line_Put.f
  rw [if_pos]
  rw [List.all_eq_true]
  exact fun x hx => decide_eq_true (h x hx)
theorem take_okf (s : ByteArray) (h : s.size ≤ 100000) : line_Take.f s = some (takeV s) := by
  unfold line_Take.f
  rw [if_pos h]
theorem scan_okf (s : ByteArray) (h : s.size ≤ 100000) : line_Scan.f s = some (scanV s) := by
  unfold line_Scan.f
  rw [if_pos h]
theorem same4_loop (a : List ByteArray) (ha : a.length ≤ 100000) : ∀ (n i : Nat), i + n = a.length → Ev fun k => cooperagelaw4_same.l0 k a a (i : Int) = some true := by
  intro n
  induction n with
  | zero =>
    intro i hi
    refine Ev.up (Ev.of fun k => ?_)
    simp only [cooperagelaw4_same.l0]
    rw [if_neg (by omega)]
  | succ n ih =>
    intro i hi
    refine Ev.up ((ih (i + 1) (by omega)).mp fun k hk => ?_)
    simp only [cooperagelaw4_same.l0]
    rw [if_pos (by omega), if_pos (by omega), if_pos (by omega), if_pos trivial, w64s i (by omega)]
    exact hk
theorem same4_f (a : List ByteArray) (ha : a.length ≤ 100000) : Ev fun k => cooperagelaw4_same.f k a a = some true := by
  refine (same4_loop a ha a.length 0 (by omega)).mp fun k hk => ?_
  unfold cooperagelaw4_same.f
  rw [if_pos rfl]
  exact hk
theorem sameAll_loop (a : List (List ByteArray)) (ha : a.length ≤ 100000) (hx : ∀ l ∈ a, l.length ≤ 100000) : ∀ (n i : Nat), i + n = a.length → Ev fun k => cooperagelaw4_sameAll.l0 k a a (i : Int) = some true := by
  intro n
  induction n with
  | zero =>
    intro i hi
    refine Ev.up (Ev.of fun k => ?_)
    simp only [cooperagelaw4_sameAll.l0]
    rw [if_neg (by omega)]
  | succ n ih =>
    intro i hi
    have hlt : i < a.length := by omega
    have hr : (rd_L1 a (i : Int)).length ≤ 100000 := by
      have e : rd_L1 a (i : Int) = a[i] := by simp [rd_L1, List.getD_eq_getElem?_getD, List.getElem?_eq_getElem hlt]
      rw [e]
      exact hx _ (List.getElem_mem hlt)
    refine Ev.up (((same4_f _ hr).and (ih (i + 1) (by omega))).mp fun k hk => ?_)
    simp only [cooperagelaw4_sameAll.l0]
    rw [if_pos (by omega), if_pos (by omega), if_pos (by omega), hk.1, Option.bind_some, if_pos rfl, w64s i (by omega)]
    exact hk.2
theorem sameAll_f (a : List (List ByteArray)) (ha : a.length ≤ 100000) (hx : ∀ l ∈ a, l.length ≤ 100000) : Ev fun k => cooperagelaw4_sameAll.f k a a = some true := by
  refine (sameAll_loop a ha hx a.length 0 (by omega)).mp fun k hk => ?_
  unfold cooperagelaw4_sameAll.f
  rw [if_pos rfl]
  exact hk
theorem putA : (putV [(⟨#[97]⟩ : ByteArray)]).2 = 0 := by
  rw [put_of (by decide) (by decide) (by rw [line_len]; exact (by decide : (2 : Nat) + 9 ≤ 13000))]
theorem putB : (putV [(⟨#[98]⟩ : ByteArray)]).2 = 0 := by
  rw [put_of (by decide) (by decide) (by rw [line_len]; exact (by decide : (2 : Nat) + 9 ≤ 13000))]
theorem bodyAB : bodyL [(⟨#[97, 32, 98]⟩ : ByteArray)] = [97, 37, 50, 48, 98, 32] := by decide +kernel
theorem bodyA : bodyL [(⟨#[97]⟩ : ByteArray)] = [97, 32] := by decide +kernel
theorem bodyB : bodyL [(⟨#[98]⟩ : ByteArray)] = [98, 32] := by decide +kernel
theorem putAB : (putV [(⟨#[97, 32, 98]⟩ : ByteArray)]).2 = 0 := by
  rw [put_of (by decide) (by decide) (by rw [line_len, bodyAB]; decide)]
theorem shown4_f : Ev fun k => cooperagelaw4_shown.f k = some true := by
  have hab := putV_data putAB
  have ha := putV_data putA
  have hb := putV_data putB
  have sab := putV_size putAB
  have sa := putV_size putA
  have sb := putV_size putB
  rw [line_len, bodyAB] at sab
  rw [line_len, bodyA] at sa
  rw [line_len, bodyB] at sb
  have sab' : (putV [(⟨#[97, 32, 98]⟩ : ByteArray)]).1.size = 15 := sab
  have sa' : (putV [(⟨#[97]⟩ : ByteArray)]).1.size = 11 := sa
  have sb' : (putV [(⟨#[98]⟩ : ByteArray)]).1.size = 11 := sb
  have e6 : ((putV [(⟨#[97, 32, 98]⟩ : ByteArray)]).1.extract 0 6).toList = ([97, 37, 50, 48, 98, 32] : List UInt8) := by
    rw [tl, ← ext_take]
    show (putV [(⟨#[97, 32, 98]⟩ : ByteArray)]).1.data.toList.take 6 = _
    rw [hab]
    unfold lineL
    rw [bodyAB, List.append_assoc]
    rfl
  have hcut : (takeV ((putV [(⟨#[98]⟩ : ByteArray)]).1.extract 0 10)).2.2 ≠ 0 := by
    refine take_no10 fun c hc => ?_
    rw [← ext_take] at hc
    have hc' : c ∈ (putV [(⟨#[98]⟩ : ByteArray)]).1.data.toList.take 10 := hc
    obtain ⟨h1, h2⟩ := line_no10 [(⟨#[98]⟩ : ByteArray)]
    have h3 : (bodyL [(⟨#[98]⟩ : ByteArray)] ++ (SumW.hex8 (adlOf (bodyL [(⟨#[98]⟩ : ByteArray)]))).data.toList).length = 10 := by
      rw [List.length_append, hex8_len (adlOf_lt _), bodyB]
      rfl
    rw [hb, h1, ← h3, List.take_left] at hc'
    exact h2 c hc'
  have hscan : scanV ((putV [(⟨#[97]⟩ : ByteArray)]).1 ++ ((putV [(⟨#[98]⟩ : ByteArray)]).1.extract 0 10)) = ([[(⟨#[97]⟩ : ByteArray)]], 11) := by
    have := scanV_cat [[(⟨#[97]⟩ : ByteArray)]] ((putV [(⟨#[98]⟩ : ByteArray)]).1.extract 0 10) (by intro l hl; rw [List.mem_singleton.1 hl]; exact putA) hcut
    rw [show cat [[(⟨#[97]⟩ : ByteArray)]] ((putV [(⟨#[98]⟩ : ByteArray)]).1.extract 0 10) = (putV [(⟨#[97]⟩ : ByteArray)]).1 ++ ((putV [(⟨#[98]⟩ : ByteArray)]).1.extract 0 10) from rfl] at this
    rw [this]
    congr 1
    show (((putV [(⟨#[97]⟩ : ByteArray)]).1 ++ (⟨#[]⟩ : ByteArray)).size : Int) = 11
    rw [ByteArray.size_append, sa']
    rfl
  have hex : ((putV [(⟨#[98]⟩ : ByteArray)]).1.extract 0 10).size ≤ 11 := by rw [ByteArray.size_extract]; omega
  have hj : Ev fun k => cooperagelaw4_shown.j0 k (putV [(⟨#[97]⟩ : ByteArray)]).1 (putV [(⟨#[98]⟩ : ByteArray)]).1 false = some true := by
    refine Ev.up ((sameAll_f [[(⟨#[97]⟩ : ByteArray)]] (by simp) (by intro l hl; rw [List.mem_singleton.1 hl]; simp)).mp fun k hk => ?_)
    simp only [cooperagelaw4_shown.j0]
    rw [if_neg (by decide), if_pos (by decide), if_pos (by omega), if_pos (by omega), scan_okf _ (by rw [ByteArray.size_append]; omega), Option.bind_some, hscan, hk, Option.bind_some, if_pos rfl]
    rfl
  refine hj.mp fun k hk => ?_
  unfold cooperagelaw4_shown.f
  have one : ∀ b : ByteArray, b.size ≤ 10 → ∀ x ∈ [b], x.size ≤ 100000 := by
    intro b hb x hx
    rw [List.mem_singleton.1 hx]
    omega
  rw [put_okf _ (one _ (by decide)), Option.bind_some, put_okf _ (one _ (by decide)), Option.bind_some, put_okf _ (one _ (by decide)), Option.bind_some, if_neg (by omega), if_pos (by decide), if_pos (by omega), if_pos e6, if_pos putAB, if_pos (by omega), if_pos putA, if_pos (by omega), putB]
  exact hk
end Go.Proofs.YtocpfgdajomjiaaDoor.PureL
/- Are lines tiny? Plain. -/
namespace Go.Proofs.YtocpfgdajomjiaaDoor.PureL
open Go.RowKit Go.Proofs.YtocpfgdajomjiaaDoor.PureR Go.Proofs.YtocpfgdajomjiaaDoor.L Go.Proofs.YtocpfgdajomjiaaDoor.Hand3 Go.Proofs.YtocpfgdajomjiaaDoor.Spl Go.Proofs.YtocpfgdajomjiaaDoorW.PrintWords
open Go.Proofs.YtocpfgdajomjiaaDoor.Hand hiding text_Lines.f text_Words.f text_Trim.f text_Join.f text_Path.f text_Quote.f text_Lines.calls text_Words.calls text_Trim.calls text_Join.calls text_Path.calls text_Quote.calls Glob
set_option linter.unusedVariables false
set_option linter.unusedSimpArgs false
theorem rdL {a : List (List ByteArray)} {i : Nat} (h : i < a.length) : rd_L1 a (i : Int) = a[i] := by
  simp [rd_L1, List.getD_eq_getElem?_getD, List.getElem?_eq_getElem h]
def TinyP (l : List ByteArray) : Prop := l.length ≤ 50 ∧ ∀ x ∈ l, x.size ≤ 60
theorem tiny_l1 (ls : List (List ByteArray)) (hls : ls.length ≤ 12) (i : Nat) (hi : i < ls.length) (hl : ls[i].length ≤ 50) (K : ∃ b, (Ev fun k => cooperagelaw4_tiny.l0 k ls ((i + 1 : Nat) : Int) = some b) ∧ (b = true → ∀ l ∈ ls.drop (i + 1), TinyP l)) :
    ∀ (n j : Nat), j + n = ls[i].length → ∃ b, (Ev fun k => cooperagelaw4_tiny.l1 k ls (i : Int) (j : Int) = some b) ∧ (b = true → (∀ x ∈ ls[i].drop j, x.size ≤ 60) ∧ ∀ l ∈ ls.drop (i + 1), TinyP l) := by
  have hr := rdL hi
  intro n
  induction n with
  | zero =>
    intro j hj
    obtain ⟨b, hb, hp⟩ := K
    refine ⟨b, Ev.up (hb.mp fun k hk => ?_), fun h => ⟨fun x hx => ?_, hp h⟩⟩
    · unfold cooperagelaw4_tiny.l1
      rw [if_pos (by omega), if_pos (by omega), hr, if_neg (by omega), w64s i (by omega)]
      exact hk
    · rw [List.drop_eq_nil_of_le (by omega)] at hx
      exact absurd hx (by simp)
  | succ n ih =>
    intro j hj
    have hlt : j < ls[i].length := by omega
    have hr2 := rdo hlt
    by_cases h60 : ls[i][j].size ≤ 60
    · obtain ⟨b, hb, hp⟩ := ih (j + 1) (by omega)
      refine ⟨b, Ev.up (hb.mp fun k hk => ?_), fun h => ⟨fun x hx => ?_, (hp h).2⟩⟩
      · unfold cooperagelaw4_tiny.l1
        rw [if_pos (by omega), if_pos (by omega), hr, if_pos (by omega), if_pos (by omega), hr2, if_neg (by omega), w64s j (by omega)]
        exact hk
      · rw [List.drop_eq_getElem_cons hlt] at hx
        rcases List.mem_cons.1 hx with e | e
        · subst e
          exact h60
        · exact (hp h).1 x e
    · refine ⟨false, Ev.up (Ev.of fun k => ?_), fun h => by cases h⟩
      unfold cooperagelaw4_tiny.l1
      rw [if_pos (by omega), if_pos (by omega), hr, if_pos (by omega), if_pos (by omega), hr2, if_pos (by omega)]
theorem tiny_l0 (ls : List (List ByteArray)) (hls : ls.length ≤ 12) : ∀ (n i : Nat), i + n = ls.length → ∃ b, (Ev fun k => cooperagelaw4_tiny.l0 k ls (i : Int) = some b) ∧ (b = true → ∀ l ∈ ls.drop i, TinyP l) := by
  intro n
  induction n with
  | zero =>
    intro i hi
    refine ⟨true, Ev.up (Ev.of fun k => ?_), fun _ l hl => ?_⟩
    · unfold cooperagelaw4_tiny.l0
      rw [if_neg (by omega)]
    · rw [List.drop_eq_nil_of_le (by omega)] at hl
      exact absurd hl (by simp)
  | succ n ih =>
    intro i hi
    have hlt : i < ls.length := by omega
    have hr := rdL hlt
    by_cases h50 : ls[i].length ≤ 50
    · obtain ⟨b, hb, hp⟩ := tiny_l1 ls hls i hlt h50 (ih (i + 1) (by omega)) ls[i].length 0 (by omega)
      refine ⟨b, Ev.up (hb.mp fun k hk => ?_), fun h l hl => ?_⟩
      · unfold cooperagelaw4_tiny.l0
        rw [if_pos (by omega), if_pos (by omega), hr, if_neg (by omega)]
        exact hk
      · rw [List.drop_eq_getElem_cons hlt] at hl
        rcases List.mem_cons.1 hl with e | e
        · subst e
          exact ⟨h50, (hp h).1⟩
        · exact (hp h).2 l e
    · refine ⟨false, Ev.up (Ev.of fun k => ?_), fun h => by cases h⟩
      unfold cooperagelaw4_tiny.l0
      rw [if_pos (by omega), if_pos (by omega), hr, if_pos (by omega)]
theorem tiny_f (ls : List (List ByteArray)) : ∃ b, (Ev fun k => cooperagelaw4_tiny.f k ls = some b) ∧ (b = true → ls.length ≤ 12 ∧ ∀ l ∈ ls, TinyP l) := by
  by_cases h : ls.length ≤ 12
  · obtain ⟨b, hb, hp⟩ := tiny_l0 ls h ls.length 0 (by omega)
    refine ⟨b, hb.mp fun k hk => ?_, fun hb => ⟨h, hp hb⟩⟩
    unfold cooperagelaw4_tiny.f
    rw [if_neg (by omega)]
    exact hk
  · refine ⟨false, Ev.of fun k => ?_, fun h => by cases h⟩
    unfold cooperagelaw4_tiny.f
    rw [if_pos (by omega)]
end Go.Proofs.YtocpfgdajomjiaaDoor.PureL
/- Plain facts of the sum. -/
namespace Go.Proofs.YtocpfgdajomjiaaDoor.PureL
open Go.RowKit Go.Proofs.YtocpfgdajomjiaaDoor.SumW Go.Proofs.YtocpfgdajomjiaaDoorW.PrintWords
set_option linter.unusedVariables false
set_option linter.unusedSimpArgs false
def addv (n : Nat) (s : ByteArray) : Nat := adlSum (adl (adlStart n) s.data.toList)
theorem adlSum_lt (p : Nat × Nat) (h1 : p.1 < 65521) (h2 : p.2 < 65521) : adlSum p < 4294967296 := by unfold adlSum; omega
theorem addv_lt (n : Nat) (s : ByteArray) : addv n s < 4294967296 := by
  have h := adlStart_lt n
  have h2 := adl_lt s.data.toList _ h.1 h.2
  exact adlSum_lt _ h2.1 h2.2
theorem hex8_data (n : Nat) (hn : n < 4294967296) : (hex8 n).data.toList = [hexd (n / 268435456 % 16), hexd (n / 16777216 % 16), hexd (n / 1048576 % 16), hexd (n / 65536 % 16), hexd (n / 4096 % 16), hexd (n / 256 % 16), hexd (n / 16 % 16), hexd (n % 16)] := by
  unfold hex8
  rw [hexList_ge (by omega), hexList_ge (by omega), hexList_ge (by omega), hexList_ge (by omega), hexList_ge (by omega), hexList_ge (by omega), hexList_ge (by omega), hexList_ge (by omega), hexList_lt (by omega)]
  simp only [List.cons_append, List.nil_append, List.drop_succ_cons, List.drop_zero, Nat.div_div_eq_div_mul]
  have e : ∀ a b : Nat, a = b → hexd a = hexd b := fun a b h => by rw [h]
  congr 1
  · exact e _ _ (by omega)
  congr 1
  · exact e _ _ (by omega)
  congr 1
  · exact e _ _ (by omega)
  congr 1
  · exact e _ _ (by omega)
  congr 1
  · exact e _ _ (by omega)
  congr 1
  · exact e _ _ (by omega)
  congr 1
  · exact e _ _ (by omega)
  congr 1
  exact e _ _ (by omega)

theorem adl_append (p : Nat × Nat) (l m : List UInt8) : adl p (l ++ m) = adl (adl p l) m := List.foldl_append
theorem adlStart_sum (p : Nat × Nat) (h1 : p.1 < 65521) (h2 : p.2 < 65521) : adlStart (adlSum p) = p := by
  unfold adlStart adlSum
  apply Prod.ext
  · show (p.2 * 65536 + p.1) % 65536 % 65521 = p.1
    omega
  · show (p.2 * 65536 + p.1) / 65536 % 65521 = p.2
    omega
theorem adl_fst : ∀ (l : List UInt8) (p : Nat × Nat), p.1 < 65521 → (adl p l).1 = (p.1 + (l.map UInt8.toNat).sum) % 65521 := by
  intro l
  induction l with
  | nil => intro p h; simp [adl, Nat.mod_eq_of_lt h]
  | cons c l ih =>
    intro p h
    show (adl (adlStep p c) l).1 = _
    rw [ih _ (Nat.mod_lt _ (by decide))]
    simp only [adlStep, List.map_cons, List.sum_cons]
    omega
theorem adlSum_inj (p q : Nat × Nat) (h1 : p.1 < 65521) (h3 : q.1 < 65521) (h : adlSum p = adlSum q) : p = q := by
  unfold adlSum at h
  apply Prod.ext <;> omega
theorem hexd_inj : ∀ a, a < 16 → ∀ b, b < 16 → hexd a = hexd b → a = b := by decide +kernel
theorem hex8_inj (a b : Nat) (ha : a < 4294967296) (hb : b < 4294967296) (h : hex8 a = hex8 b) : a = b := by
  have e : (hex8 a).data.toList = (hex8 b).data.toList := by rw [h]
  rw [hex8_data a ha, hex8_data b hb] at e
  simp only [List.cons.injEq, and_true] at e
  obtain ⟨e1, e2, e3, e4, e5, e6, e7, e8⟩ := e
  have f1 := hexd_inj _ (Nat.mod_lt _ (by decide)) _ (Nat.mod_lt _ (by decide)) e1
  have f2 := hexd_inj _ (Nat.mod_lt _ (by decide)) _ (Nat.mod_lt _ (by decide)) e2
  have f3 := hexd_inj _ (Nat.mod_lt _ (by decide)) _ (Nat.mod_lt _ (by decide)) e3
  have f4 := hexd_inj _ (Nat.mod_lt _ (by decide)) _ (Nat.mod_lt _ (by decide)) e4
  have f5 := hexd_inj _ (Nat.mod_lt _ (by decide)) _ (Nat.mod_lt _ (by decide)) e5
  have f6 := hexd_inj _ (Nat.mod_lt _ (by decide)) _ (Nat.mod_lt _ (by decide)) e6
  have f7 := hexd_inj _ (Nat.mod_lt _ (by decide)) _ (Nat.mod_lt _ (by decide)) e7
  have f8 := hexd_inj _ (Nat.mod_lt _ (by decide)) _ (Nat.mod_lt _ (by decide)) e8
  omega
theorem addv_changed (n : Nat) (u v : List UInt8) (c e : UInt8) (h : addv n ⟨(u ++ c :: v).toArray⟩ = addv n ⟨(u ++ e :: v).toArray⟩) : c = e := by
  have hst := adlStart_lt n
  have h1 := adl_lt (u ++ c :: v) _ hst.1 hst.2
  have h2 := adl_lt (u ++ e :: v) _ hst.1 hst.2
  have h3 : adl (adlStart n) (u ++ c :: v) = adl (adlStart n) (u ++ e :: v) := adlSum_inj _ _ h1.1 h2.1 h
  have h4 := congrArg Prod.fst h3
  rw [adl_fst _ _ hst.1, adl_fst _ _ hst.1] at h4
  simp only [List.map_append, List.sum_append, List.map_cons, List.sum_cons] at h4
  have hc : c.toNat < 256 := UInt8.toNat_lt _
  have he : e.toNat < 256 := UInt8.toNat_lt _
  exact UInt8.toNat_inj.1 (by omega)
end Go.Proofs.YtocpfgdajomjiaaDoor.PureL
/- The reference's sum, plain. -/
namespace Go.Proofs.YtocpfgdajomjiaaDoor.PureL
open Go.RowKit Go.Proofs.YtocpfgdajomjiaaDoor.SumW Go.Proofs.YtocpfgdajomjiaaDoor.L Go.Proofs.YtocpfgdajomjiaaDoor.Hand3 Go.Proofs.YtocpfgdajomjiaaDoorW.PrintWords
set_option linter.unusedVariables false
set_option linter.unusedSimpArgs false
open Go.Proofs.YtocpfgdajomjiaaDoor.PureR (w64 len_data)
theorem bt_nat (s : ByteArray) (i : Nat) (h : i < s.size) : bt s (i : Int) = ((s.data.toList[i]'(by simpa using h)).toNat : Int) := by
  have h' : i < s.data.size := h
  unfold bt
  rw [dif_pos (by simpa using h)]
  simp [ByteArray.getElem_eq_getElem_data]
theorem drop_bt (s : ByteArray) (i : Nat) (h : i < s.size) : s.data.toList.drop i = (s.data.toList[i]'(by simpa using h)) :: s.data.toList.drop (i + 1) :=
  List.drop_eq_getElem_cons (by simpa using h)

theorem tmod_nat (a b : Nat) : Int.tmod (a : Int) (b : Int) = ((a % b : Nat) : Int) := rfl
theorem tdiv_nat (a b : Nat) : Int.tdiv (a : Int) (b : Int) = ((a / b : Nat) : Int) := rfl
theorem ref_loop (s : ByteArray) (hs : s.size ≤ 140737488351232) : ∀ (d k i a b : Nat), s.size - i = d → i ≤ s.size → d < k → a < 65521 → b < 65521 →
    cooperageref3_Add.l0 k s (a : Int) (b : Int) (i : Int) = some ((adlSum (adl (a, b) (s.data.toList.drop i)) : Nat) : Int) := by
  intro d
  induction d with
  | zero =>
    intro k i a b hd hi hk ha hb
    obtain ⟨k, rfl⟩ : ∃ m, k = m + 1 := ⟨k - 1, by omega⟩
    simp only [cooperageref3_Add.l0]
    rw [if_neg (by omega), List.drop_eq_nil_of_le (by simp; omega)]
    congr 1
    rw [w64 (x := (b : Int) * 65536) (by omega) (by omega), w64 (by omega) (by omega)]
    simp only [adl, List.foldl_nil, adlSum]
    omega
  | succ d ih =>
    intro k i a b hd hi hk ha hb
    obtain ⟨k, rfl⟩ : ∃ m, k = m + 1 := ⟨k - 1, by omega⟩
    have hlt : i < s.size := by omega
    simp only [cooperageref3_Add.l0]
    rw [if_pos (by omega), if_pos (by omega), bt_nat s i hlt]
    have hc : (s.data.toList[i]'(by simpa using hlt)).toNat < 256 := UInt8.toNat_lt _
    rw [drop_bt s i hlt]
    generalize hx : s.data.toList[i]'(by simpa using hlt) = x at hc ⊢
    rw [w64 (x := (x.toNat : Int)) (by omega) (by omega), w64 (x := (a : Int) + x.toNat) (by omega) (by omega), w64 (x := (i : Int) + 1) (by omega) (by omega)]
    rw [show (a : Int) + (x.toNat : Int) = ((a + x.toNat : Nat) : Int) by omega, show (65521 : Int) = ((65521 : Nat) : Int) from rfl, tmod_nat]
    have h1 : (a + x.toNat) % 65521 < 65521 := Nat.mod_lt _ (by decide)
    rw [w64 (x := (b : Int) + ((a + x.toNat) % 65521 : Nat)) (by omega) (by omega)]
    rw [show (b : Int) + (((a + x.toNat) % 65521 : Nat) : Int) = ((b + (a + x.toNat) % 65521 : Nat) : Int) by omega, tmod_nat, show (i : Int) + 1 = ((i + 1 : Nat) : Int) by omega]
    rw [ih k (i + 1) _ _ (by omega) (by omega) (by omega) h1 (Nat.mod_lt _ (by decide))]
    rfl
theorem refAdd_f (n : Nat) (s : ByteArray) (hn : n < 4294967296) (hs : s.size ≤ 140737488351232) (k : Nat) (hk : s.size < k) : cooperageref3_Add.f k (n : Int) s = some ((addv n s : Nat) : Int) := by
  unfold cooperageref3_Add.f
  rw [w64 (x := (n : Int)) (by omega) (by omega)]
  rw [show (65536 : Int) = ((65536 : Nat) : Int) from rfl, show (65521 : Int) = ((65521 : Nat) : Int) from rfl, tmod_nat, tmod_nat, tdiv_nat, w64 (by omega) (by omega), tmod_nat]
  have h := adlStart_lt n
  have := ref_loop s hs s.size k 0 (adlStart n).1 (adlStart n).2 (by omega) (by omega) hk h.1 h.2
  simpa [adlStart, addv] using this
theorem refOf_f (s : ByteArray) (hs : s.size ≤ 140737488351232) (k : Nat) (hk : s.size < k) : cooperageref3_Of.f k s = some ((addv 1 s : Nat) : Int) := by
  unfold cooperageref3_Of.f
  rw [show (1 : Int) = ((1 : Nat) : Int) from rfl, refAdd_f 1 s (by omega) hs k hk]
  rfl
theorem hexl_at : ∀ (m : Nat), m < 16 → ((⟨#[48, 49, 50, 51, 52, 53, 54, 55, 56, 57, 97, 98, 99, 100, 101, 102]⟩ : ByteArray).extract m (m + 1)) = ⟨#[hexd m]⟩ := by decide +kernel
theorem refHex_step (k v i : Nat) (x : ByteArray) (hv : v < 4294967296) (hi : i < 8) (hx : x.size ≤ 100) : cooperageref3_Hex.l0 (k + 1) (v : Int) x (i : Int) = cooperageref3_Hex.l0 k ((v / 16 : Nat) : Int) (⟨#[hexd (v % 16)]⟩ ++ x) ((i + 1 : Nat) : Int) := by
  have hm : v % 16 < 16 := Nat.mod_lt _ (by decide)
  simp only [cooperageref3_Hex.l0]
  rw [show (16 : Int) = ((16 : Nat) : Int) from rfl, tmod_nat, tdiv_nat, w64 (x := ((v % 16 : Nat) : Int)) (by omega) (by omega), w64 (x := ((v % 16 : Nat) : Int) + 1) (by omega) (by omega), w64 (x := (i : Int) + 1) (by omega) (by omega)]
  rw [if_pos (by omega), if_pos (by omega), if_pos (by omega), if_pos (by omega)]
  rw [show (((v % 16 : Nat) : Int) + 1).toNat = v % 16 + 1 by omega, Int.toNat_natCast, hexl_at _ hm]
  rw [if_pos (by show 1 + x.size ≤ _; omega)]
  rw [show (((v / 16 : Nat) : Int)) % 4294967296 = ((v / 16 : Nat) : Int) by omega, show (i : Int) + 1 = ((i + 1 : Nat) : Int) by omega]
theorem refHex_f (n : Nat) (hn : n < 4294967296) (k : Nat) (hk : 9 ≤ k) : cooperageref3_Hex.f k (n : Int) = some (hex8 n) := by
  obtain ⟨k, rfl⟩ : ∃ m, k = m + 9 := ⟨k - 9, by omega⟩
  unfold cooperageref3_Hex.f
  rw [show (0 : Int) = ((0 : Nat) : Int) from rfl]
  rw [refHex_step _ _ _ _ (by omega) (by omega) (by decide), refHex_step _ _ _ _ (by omega) (by omega) (by simp [ByteArray.size]), refHex_step _ _ _ _ (by omega) (by omega) (by simp [ByteArray.size]), refHex_step _ _ _ _ (by omega) (by omega) (by simp [ByteArray.size]),
    refHex_step _ _ _ _ (by omega) (by omega) (by simp [ByteArray.size]), refHex_step _ _ _ _ (by omega) (by omega) (by simp [ByteArray.size]), refHex_step _ _ _ _ (by omega) (by omega) (by simp [ByteArray.size]), refHex_step _ _ _ _ (by omega) (by omega) (by simp [ByteArray.size])]
  simp only [cooperageref3_Hex.l0]
  rw [if_neg (by decide)]
  congr 1
  apply ByteArray.ext
  apply Array.toList_inj.1
  rw [hex8_data n hn]
  simp [ByteArray.data_append, Nat.div_div_eq_div_mul]

end Go.Proofs.YtocpfgdajomjiaaDoor.PureL
/- The reference's Take, plain. -/
namespace Go.Proofs.YtocpfgdajomjiaaDoor.PureL
open Go.RowKit Go.Proofs.YtocpfgdajomjiaaDoor.PureR Go.Proofs.YtocpfgdajomjiaaDoor.L Go.Proofs.YtocpfgdajomjiaaDoor.Hand3 Go.Proofs.YtocpfgdajomjiaaDoor.Spl Go.Proofs.YtocpfgdajomjiaaDoorW.PrintWords
open Go.Proofs.YtocpfgdajomjiaaDoor.Hand hiding text_Lines.f text_Words.f text_Trim.f text_Join.f text_Path.f text_Quote.f text_Lines.calls text_Words.calls text_Trim.calls text_Join.calls text_Path.calls text_Quote.calls Glob
set_option linter.unusedVariables false
set_option linter.unusedSimpArgs false
theorem hex_byte : ∀ c : Fin 256, (hexL.contains (UInt8.ofNat c.val) = true) ↔ ((48 ≤ c.val ∧ c.val ≤ 57) ∨ (97 ≤ c.val ∧ c.val ≤ 102)) := by decide +kernel
theorem hex_iff (c : UInt8) : hexL.contains c = true ↔ ((48 ≤ c.toNat ∧ c.toNat ≤ 57) ∨ (97 ≤ c.toNat ∧ c.toNat ≤ 102)) := by
  have h := hex_byte ⟨c.toNat, UInt8.toNat_lt c⟩
  simpa using h
theorem digits_loop (u : ByteArray) (hu : u.size ≤ 100000) : ∀ (n i : Nat), i + n = u.size → Ev fun k => cooperageref4_digits.l0 k u (i : Int) = some ((u.data.toList.drop i).all fun c => hexL.contains c) := by
  intro n
  induction n with
  | zero =>
    intro i hi
    refine Ev.up (Ev.of fun k => ?_)
    rw [List.drop_eq_nil_of_le (by rw [len_data]; omega)]
    unfold cooperageref4_digits.l0
    rw [if_neg (by omega)]
    rfl
  | succ n ih =>
    intro i hi
    have hlt : i < u.data.toList.length := by rw [len_data]; omega
    have hb := bt_nat u i hlt
    rw [List.drop_eq_getElem_cons hlt, List.all_cons]
    have hh := hex_iff u.data.toList[i]
    generalize u.data.toList[i] = c at hb hh ⊢
    have c0 : (i : Int) < (u.size : Int) := by omega
    have c1 : (0 : Int) ≤ (i : Int) := by omega
    have hw := w64s i (by omega)
    by_cases hc : hexL.contains c = true
    · rw [hc, Bool.true_and]
      refine Ev.up ((ih (i + 1) (by omega)).mp fun k hk => ?_)
      unfold cooperageref4_digits.l0
      rw [if_pos c0, if_pos c1, hb, hw]
      rcases hh.1 hc with h | h
      · rw [if_pos (by omega), if_pos (by omega)]
        exact hk
      · rw [if_pos (by omega), if_neg (by omega), if_pos (by omega), if_pos (by omega)]
        exact hk
    · have hn := fun h => hc (hh.2 h)
      rw [Bool.eq_false_iff.mpr hc, Bool.false_and]
      refine Ev.up (Ev.of fun k => ?_)
      unfold cooperageref4_digits.l0
      rw [if_pos c0, if_pos c1, hb]
      by_cases h48 : ((c.toNat : Nat) : Int) ≥ 48
      · rw [if_pos h48]
        by_cases h57 : ((c.toNat : Nat) : Int) ≤ 57
        · exact absurd (.inl ⟨by omega, by omega⟩) hn
        · rw [if_neg h57]
          by_cases h97 : ((c.toNat : Nat) : Int) ≥ 97
          · rw [if_pos h97]
            by_cases h102 : ((c.toNat : Nat) : Int) ≤ 102
            · exact absurd (.inr ⟨by omega, by omega⟩) hn
            · rw [if_neg h102]
          · rw [if_neg h97]
      · rw [if_neg h48, if_neg (by omega)]
theorem digits_f (u : ByteArray) (hu : u.size ≤ 100000) : Ev fun k => cooperageref4_digits.f k u = some (u.data.toList.all fun c => hexL.contains c) := by
  refine (digits_loop u hu u.size 0 (by omega)).mp fun k hk => ?_
  unfold cooperageref4_digits.f
  exact hk
theorem splG_ne (c : UInt8) : ∀ l cur : List UInt8, splG c cur l ≠ [] := by
  intro l
  induction l with
  | nil => intro cur; simp [splG]
  | cons b t ih =>
    intro cur
    rw [splG]
    split
    · simp
    · exact ih _
/-- How the reference ends behind the words l; b: is there a word that has no end? -/
def refJ (x0 a : ByteArray) (m : Nat) (l : List ByteArray) (b : Bool) : List ByteArray × ByteArray × Int :=
  if b = true ∨ l.length = 0 ∨ 40 < l.length then ([], ⟨#[]⟩, 2) else if SumW.hex8 (adlOf (a.data.toList.take m)) = a.extract m a.size then (l, x0.extract (m + 9) x0.size, 0) else ([], ⟨#[]⟩, 13)
def refW (x0 a : ByteArray) (m : Nat) : List ByteArray → List (List UInt8) → List ByteArray × ByteArray × Int
  | acc, [] => refJ x0 a m acc true
  | acc, [p] => refJ x0 a m acc (decide (p ≠ []))
  | acc, p :: q :: r => match unqV ⟨p.toArray⟩ with
    | none => ([], ⟨#[]⟩, 2)
    | some t => refW x0 a m (acc ++ [t]) (q :: r)
theorem refJ_true (x0 a : ByteArray) (m : Nat) (l : List ByteArray) : refJ x0 a m l true = ([], ⟨#[]⟩, 2) := by
  unfold refJ
  exact if_pos (.inl rfl)
theorem refW_none {x0 a : ByteArray} {m : Nat} {acc : List ByteArray} {p q : List UInt8} {r : List (List UInt8)} (h : unqV ⟨p.toArray⟩ = none) : refW x0 a m acc (p :: q :: r) = ([], ⟨#[]⟩, 2) := by rw [refW, h]
theorem refW_some {x0 a : ByteArray} {m : Nat} {acc : List ByteArray} {p q : List UInt8} {r : List (List UInt8)} {t : ByteArray} (h : unqV ⟨p.toArray⟩ = some t) : refW x0 a m acc (p :: q :: r) = refW x0 a m (acc ++ [t]) (q :: r) := by rw [refW, h]
theorem refU (s : ByteArray) (h : s.size ≤ 100000) : cooperageref1_Unquote.f s = some (unqP (unqV s)) := by
  unfold cooperageref1_Unquote.f
  rw [if_pos h]
theorem refOf_ev' (s : ByteArray) (hs : s.size ≤ 100000000) : Ev fun k => cooperageref3_Of.f k s = some ((adlOf s.data.toList : Nat) : Int) := ⟨s.size + 1, fun k hk => refOf_f s (by omega) k (by omega)⟩
theorem refHex_ev' (n : Nat) (hn : n < 4294967296) : Ev fun k => cooperageref3_Hex.f k (n : Int) = some (SumW.hex8 n) := ⟨9, fun k hk => refHex_f n hn k hk⟩
theorem ref_j4 (x0 a : ByteArray) (m : Nat) (hm : a.size = m + 8) (h0 : a.size < x0.size) (hs : x0.size ≤ 100000) (l : List ByteArray) (b : Bool) (hb : b = false → l.length ≠ 0 ∧ l.length ≤ 40) (hb2 : b = true → refJ x0 a m l b = ([], ⟨#[]⟩, 2)) :
    Ev fun k => cooperageref4_Take.j4 k x0 (a.size : Int) a l b = some (refJ x0 a m l b) := by
  cases b with
  | true =>
    rw [hb2 rfl]
    refine Ev.up (Ev.of fun k => ?_)
    rw [cooperageref4_Take.j4]
    rw [if_pos rfl]
  | false =>
    obtain ⟨h1, h2⟩ := hb rfl
    have hw : wrap64 ((a.size : Int) - 8) = (m : Int) := by rw [w64 (by omega) (by omega)]; omega
    have hw1 : wrap64 ((a.size : Int) + 1) = ((m + 9 : Nat) : Int) := by rw [w64 (by omega) (by omega)]; omega
    have hsz : (a.extract 0 m).size ≤ 100000000 := by rw [ByteArray.size_extract]; omega
    have hd : (a.extract 0 m).data.toList = a.data.toList.take m := by rw [← ext_take]
    have e1 := refOf_ev' (a.extract 0 m) hsz
    rw [hd] at e1
    have hlt := adlOf_lt (a.data.toList.take m)
    have e2 := refHex_ev' _ hlt
    unfold refJ
    rw [if_neg (show ¬ ((false : Bool) = true ∨ l.length = 0 ∨ 40 < l.length) by rintro (h | h | h); exact absurd h (by decide); exact h1 h; omega)]
    refine Ev.up ((e1.and e2).mp fun k hk => ?_)
    rw [cooperageref4_Take.j4]
    rw [if_neg (by decide), hw, hw1, if_pos (show (0 : Int) ≤ (m : Int) by omega), if_pos (show (m : Int) ≤ (a.size : Int) by omega), Int.toNat_natCast, Int.toNat_natCast, hk.1, Option.bind_some, hk.2, Option.bind_some]
    by_cases hq : SumW.hex8 (adlOf (a.data.toList.take m)) = a.extract m a.size
    · rw [if_pos hq, if_pos (show (SumW.hex8 (adlOf (a.data.toList.take m))).toList = (a.extract m a.size).toList by rw [hq]), if_pos (show (0 : Int) ≤ ((m + 9 : Nat) : Int) by omega), if_pos (show ((m + 9 : Nat) : Int) ≤ (x0.size : Int) by omega)]
    · rw [if_neg hq, if_neg (fun h => hq (tl_inj h))]
theorem ref_l1 (x0 a : ByteArray) (m : Nat) (hm : a.size = m + 8) (h0 : a.size < x0.size) (hs : x0.size ≤ 100000) :
    ∀ (n i : Nat) (acc : List ByteArray) (cur : ByteArray), i + n = m → acc.length ≤ i → cur.size ≤ i →
      Ev fun k => cooperageref4_Take.l1 k x0 (a.size : Int) a acc cur (i : Int) = some (refW x0 a m acc (splG 32 cur.data.toList.reverse ((a.data.toList.take m).drop i))) := by
  have hw : wrap64 ((a.size : Int) - 8) = (m : Int) := by rw [w64 (by omega) (by omega)]; omega
  have hlen : (a.data.toList.take m).length = m := by rw [List.length_take, len_data]; omega
  intro n
  induction n with
  | zero =>
    intro i acc cur hi hacc hcur
    rw [List.drop_eq_nil_of_le (by omega)]
    have hne : ¬ (i : Int) < (m : Int) := by omega
    show Ev fun k => cooperageref4_Take.l1 k x0 (a.size : Int) a acc cur (i : Int) = some (refW x0 a m acc [cur.data.toList.reverse.reverse])
    rw [List.reverse_reverse]
    show Ev fun k => cooperageref4_Take.l1 k x0 (a.size : Int) a acc cur (i : Int) = some (refJ x0 a m acc (decide (cur.data.toList ≠ [])))
    by_cases hc : cur.data.toList = []
    · rw [decide_eq_false (by simp [hc])]
      by_cases hz : acc.length = 0
      · have e : refJ x0 a m acc false = refJ x0 a m acc true := by
          unfold refJ
          rw [if_pos (.inr (.inl hz)), if_pos (.inl rfl)]
        rw [e]
        refine Ev.up ((ref_j4 x0 a m hm h0 hs acc true (fun h => by cases h) (fun _ => by unfold refJ; rw [if_pos (.inl rfl)])).mp fun k hk => ?_)
        rw [cooperageref4_Take.l1]
        rw [hw, if_neg hne, if_pos (by rw [tl]; exact hc), if_pos (by omega)]
        exact hk
      · by_cases h40 : 40 < acc.length
        · have e : refJ x0 a m acc false = refJ x0 a m acc true := by
            unfold refJ
            rw [if_pos (.inr (.inr h40)), if_pos (.inl rfl)]
          rw [e]
          refine Ev.up ((ref_j4 x0 a m hm h0 hs acc true (fun h => by cases h) (fun _ => by unfold refJ; rw [if_pos (.inl rfl)])).mp fun k hk => ?_)
          rw [cooperageref4_Take.l1]
          rw [hw, if_neg hne, if_pos (by rw [tl]; exact hc), if_neg (by omega), decide_eq_true (by omega)]
          exact hk
        · refine Ev.up ((ref_j4 x0 a m hm h0 hs acc false (fun _ => ⟨hz, by omega⟩) (fun h => by cases h)).mp fun k hk => ?_)
          rw [cooperageref4_Take.l1]
          rw [hw, if_neg hne, if_pos (by rw [tl]; exact hc), if_neg (by omega), decide_eq_false (by omega)]
          exact hk
    · rw [decide_eq_true hc]
      refine Ev.up ((ref_j4 x0 a m hm h0 hs acc true (fun h => by cases h) (fun _ => by unfold refJ; rw [if_pos (.inl rfl)])).mp fun k hk => ?_)
      rw [cooperageref4_Take.l1]
      rw [hw, if_neg hne, if_neg (by rw [tl]; exact hc)]
      exact hk
  | succ n ih =>
    intro i acc cur hi hacc hcur
    have hlt : i < (a.data.toList.take m).length := by omega
    have hlt2 : i < a.data.toList.length := by rw [len_data]; omega
    have hb := bt_nat a i (by omega)
    have hg : (a.data.toList.take m)[i] = a.data.toList[i] := List.getElem_take ..
    rw [List.drop_eq_getElem_cons hlt, hg, splG]
    have hpos : (i : Int) < (m : Int) := by omega
    by_cases h32 : a.data.toList[i] = 32
    · have hb32 : bt a (i : Int) = 32 := by rw [hb, h32]; rfl
      rw [if_pos h32, List.reverse_reverse]
      obtain ⟨q, r, hqr⟩ : ∃ q r, splG 32 [] ((a.data.toList.take m).drop (i + 1)) = q :: r := by
        cases h : splG 32 [] ((a.data.toList.take m).drop (i + 1)) with
        | nil => exact absurd h (splG_ne _ _ _)
        | cons q r => exact ⟨q, r, rfl⟩
      rw [hqr]
      have hu := refU cur (by omega)
      cases hun : unqV cur with
      | none =>
        rw [hun] at hu
        rw [refW_none hun]
        refine Ev.up (Ev.of fun k => ?_)
        rw [cooperageref4_Take.l1]
        rw [hw, if_pos hpos, if_pos (by omega), if_pos (by omega), if_pos hb32, hu, Option.bind_some, if_neg (by decide)]
      | some t =>
        rw [hun] at hu
        have := ih (i + 1) (acc ++ [t]) ⟨#[]⟩ (by omega) (by rw [List.length_append]; show _ + 1 ≤ _; omega) (Nat.zero_le _)
        rw [show ((⟨#[]⟩ : ByteArray).data.toList.reverse) = [] from rfl, hqr] at this
        rw [refW_some hun]
        refine Ev.up (this.mp fun k hk => ?_)
        rw [cooperageref4_Take.l1]
        rw [hw, if_pos hpos, if_pos (by omega), if_pos (by omega), if_pos hb32, hu, Option.bind_some, if_pos (show (unqP (some t)).2 = 0 from rfl), if_pos (by omega), w64s i (by omega)]
        exact hk
    · have hb32 : ¬ bt a (i : Int) = 32 := by
        rw [hb]
        intro h
        exact h32 (UInt8.toNat_inj.1 (by show _ = 32; omega))
      rw [if_neg h32]
      have hex : (a.extract i (i + 1)).data.toList = [a.data.toList[i]] := by
        rw [ext_one a i (by omega)]
      have hex1 : (a.extract i (i + 1)).size = 1 := by rw [← len_data, hex]; rfl
      have := ih (i + 1) acc (cur ++ a.extract i (i + 1)) (by omega) (by omega) (by rw [ByteArray.size_append, hex1]; omega)
      rw [data_app2, hex, List.reverse_append, List.reverse_singleton, List.singleton_append] at this
      refine Ev.up (this.mp fun k hk => ?_)
      rw [cooperageref4_Take.l1]
      rw [hw, w64s i (by omega), if_pos hpos, if_pos (by omega), if_pos (by omega), if_neg hb32, if_pos (by omega), if_pos (by omega), Int.toNat_natCast, Int.toNat_natCast, if_pos (by rw [hex1]; omega)]
      exact hk
theorem refW_words (x0 a : ByteArray) (m : Nat) (last : List UInt8) : ∀ (ws : List (List UInt8)) (acc : List ByteArray),
    refW x0 a m acc (ws ++ [last]) = if (ws.all fun p => (unqV ⟨p.toArray⟩).isSome) = true then refJ x0 a m (acc ++ ws.map fun p => (unqV ⟨p.toArray⟩).getD ⟨#[]⟩) (decide (last ≠ [])) else ([], ⟨#[]⟩, 2) := by
  intro ws
  induction ws with
  | nil => intro acc; rw [List.nil_append, refW, if_pos (by simp), List.map_nil, List.append_nil]
  | cons p t ih =>
    intro acc
    obtain ⟨q, r, hqr⟩ : ∃ q r, t ++ [last] = q :: r := by
      cases h : t ++ [last] with
      | nil => simp at h
      | cons q r => exact ⟨q, r, rfl⟩
    rw [List.cons_append, hqr, refW, ← hqr]
    rw [List.all_cons, List.map_cons]
    cases hun : unqV ⟨p.toArray⟩ with
    | none => simp
    | some u =>
      show refW x0 a m (acc ++ [u]) (t ++ [last]) = _
      rw [ih]
      simp
theorem splG_last (c b : UInt8) (hb : b ≠ c) : ∀ (l cur : List UInt8), ∃ ws q, splG c cur (l ++ [b]) = ws ++ [q ++ [b]] := by
  intro l
  induction l with
  | nil => intro cur; exact ⟨[], cur.reverse, by rw [List.nil_append, splG, if_neg hb, splG]; simp⟩
  | cons x t ih =>
    intro cur
    rw [List.cons_append, splG]
    split
    · obtain ⟨ws, q, h⟩ := ih []
      exact ⟨cur.reverse :: ws, q, by rw [h, List.cons_append]⟩
    · exact ih _
theorem words_bytes (a : ByteArray) : (splG 32 [] (a.data.toList.take (a.size - 9))).map (fun p => (⟨p.toArray⟩ : ByteArray)) = wordsB a := by
  have h := words_data a
  rw [show (a.extract 0 (a.size - 9)).data.toList = a.data.toList.take (a.size - 9) by rw [← ext_take]] at h
  rw [← h, bytes_map]
theorem refW_take (x0 a : ByteArray) (m : Nat) (hm : a.size = m + 8) (h13 : a.size < 13000) (hx : (a.data.toList.drop m).all (fun c => hexL.contains c) = true) :
    refW x0 a m [] (splG 32 [] (a.data.toList.take m)) = takeB a (x0.extract (m + 9) x0.size) := by
  have hlen := len_data a
  have hm8 : a.size - 8 = m := by omega
  unfold takeB formB
  rw [hm8]
  cases m with
  | zero =>
    rw [decide_eq_false (show ¬ 9 ≤ a.size by omega), if_pos (by simp)]
    show refJ x0 a 0 [] (decide (([] : List UInt8) ≠ [])) = _
    unfold refJ
    rw [if_pos (.inr (.inl rfl))]
  | succ d =>
    have hm9 : a.size - 9 = d := by omega
    have hd : d < a.data.toList.length := by omega
    have htk : a.data.toList.take (d + 1) = a.data.toList.take d ++ [a.data.toList[d]] := List.take_succ_eq_append_getElem hd
    rw [decide_eq_true (show 9 ≤ a.size by omega), decide_eq_true h13, hx, hm9, List.getElem?_eq_getElem hd]
    by_cases h32 : a.data.toList[d] = 32
    · rw [h32] at htk ⊢
      rw [htk, show a.data.toList.take d ++ [32] = a.data.toList.take d ++ 32 :: [] from rfl, splG_app]
      show refW x0 a (d + 1) [] (splG 32 [] (a.data.toList.take d) ++ [[]]) = _
      rw [refW_words, if_neg (show ¬ ((true && true && decide ((some 32 : Option UInt8) = some 32) && true) = false) by decide)]
      have hw := words_bytes a
      rw [hm9] at hw
      have hall : (splG 32 [] (a.data.toList.take d)).all (fun p => (unqV ⟨p.toArray⟩).isSome) = (wordsB a).all (fun x => (unqV x).isSome) := by
        rw [← hw, List.all_map]
        rfl
      have hmap : (splG 32 [] (a.data.toList.take d)).map (fun p => (unqV ⟨p.toArray⟩).getD ⟨#[]⟩) = (wordsB a).map fun x => (unqV x).getD ⟨#[]⟩ := by
        rw [← hw, List.map_map]
        rfl
      rw [hall, hmap, List.nil_append]
      have hne : (wordsB a).length ≠ 0 := by
        rw [← hw, List.length_map]
        intro h
        exact splG_ne _ _ _ (List.length_eq_zero_iff.1 h)
      have hl : refJ x0 a (d + 1) ((wordsB a).map fun x => (unqV x).getD ⟨#[]⟩) (decide (([] : List UInt8) ≠ [])) = if 40 < (wordsB a).length then ([], ⟨#[]⟩, 2) else if SumW.hex8 (adlOf (a.data.toList.take (d + 1))) = a.extract (d + 1) a.size then ((wordsB a).map fun x => (unqV x).getD ⟨#[]⟩, x0.extract (d + 1 + 9) x0.size, 0) else ([], ⟨#[]⟩, 13) := by
        unfold refJ
        rw [List.length_map]
        by_cases h40 : 40 < (wordsB a).length
        · rw [if_pos (show decide (([] : List UInt8) ≠ []) = true ∨ (wordsB a).length = 0 ∨ 40 < (wordsB a).length from .inr (.inr h40)), if_pos h40]
        · rw [if_neg (show ¬ (decide (([] : List UInt8) ≠ []) = true ∨ (wordsB a).length = 0 ∨ 40 < (wordsB a).length) from by rintro (h | h | h); exact absurd h (by simp); exact hne h; exact h40 h), if_neg h40]
      rw [hl, ← htk]
      by_cases hs : (wordsB a).all (fun x => (unqV x).isSome) = true
      · rw [if_pos hs]
        by_cases h40 : 40 < (wordsB a).length
        · rw [if_pos h40, if_pos h40]
        · rw [if_neg h40, if_neg h40, if_neg (show ¬ ((wordsB a).all (fun x => (unqV x).isSome) = false) by rw [hs]; decide)]
      · rw [if_neg hs]
        by_cases h40 : 40 < (wordsB a).length
        · rw [if_pos h40]
        · rw [if_neg h40, if_pos (show (wordsB a).all (fun x => (unqV x).isSome) = false by simpa using hs)]
    · obtain ⟨ws, q, hq⟩ := splG_last 32 _ h32 (a.data.toList.take d) []
      rw [htk, hq, refW_words, decide_eq_true (show q ++ [a.data.toList[d]] ≠ [] by simp)]
      rw [if_pos (show (true && true && decide (some a.data.toList[d] = some 32) && true) = false by rw [decide_eq_false (show ¬ some a.data.toList[d] = some (32 : UInt8) from fun h => h32 (Option.some.inj h))]; rfl), refJ_true]
      split <;> rfl
theorem ref_j1 (s : ByteArray) (hs : s.size ≤ 100000) (n : Nat) (hn : n < s.size) :
    Ev fun k => cooperageref4_Take.j1 k s (n : Int) = some (takeB (s.extract 0 n) (s.extract (n + 1) s.size)) := by
  obtain ⟨a, ha⟩ : ∃ a, s.extract 0 n = a := ⟨_, rfl⟩
  have hsz : a.size = n := by rw [← ha, ByteArray.size_extract]; omega
  have hlen := len_data a
  have hj2 : ∀ a' : ByteArray, Ev fun k => cooperageref4_Take.j2 k s (n : Int) a' true = some ([], ⟨#[]⟩, 2) := by
    intro a'
    refine Ev.up (Ev.of fun k => ?_)
    rw [cooperageref4_Take.j2]
    rw [if_pos rfl]
  by_cases h8 : n < 8
  · have e : takeB a (s.extract (n + 1) s.size) = ([], ⟨#[]⟩, 2) := by
      unfold takeB formB
      rw [decide_eq_false (show ¬ 9 ≤ a.size by omega), if_pos (by simp)]
    rw [ha, e]
    refine Ev.up ((hj2 a).mp fun k hk => ?_)
    rw [cooperageref4_Take.j1]
    rw [if_neg (by omega), if_pos (by omega), if_pos (by omega), if_pos (by omega), Int.toNat_natCast, ha]
    exact hk
  · by_cases h13 : 13000 ≤ n
    · have e : takeB a (s.extract (n + 1) s.size) = ([], ⟨#[]⟩, 2) := by
        unfold takeB formB
        rw [decide_eq_false (show ¬ a.size < 13000 by omega), if_pos (by simp)]
      rw [ha, e]
      refine Ev.up ((hj2 a).mp fun k hk => ?_)
      rw [cooperageref4_Take.j1]
      rw [if_neg (by omega), if_pos (by omega), if_pos (by omega), if_neg (by omega), if_pos (by omega), Int.toNat_natCast, ha]
      exact hk
    · obtain ⟨m, hm⟩ : ∃ m, n = m + 8 := ⟨n - 8, by omega⟩
      have hw : wrap64 ((n : Int) - 8) = (m : Int) := by rw [w64 (by omega) (by omega)]; omega
      have hdz : (a.extract m a.size).size ≤ 100000 := by rw [ByteArray.size_extract]; omega
      have hdd : (a.extract m a.size).data.toList = a.data.toList.drop m := by rw [← ext_drop]
      have hdig := digits_f (a.extract m a.size) hdz
      rw [hdd] at hdig
      by_cases hx : (a.data.toList.drop m).all (fun c => hexL.contains c) = true
      · rw [hx] at hdig
        have h1 := ref_l1 s a m (by omega) (by omega) hs m 0 [] ⟨#[]⟩ (by omega) (Nat.le_refl _) (Nat.le_refl _)
        rw [show ((⟨#[]⟩ : ByteArray).data.toList.reverse) = [] from rfl, List.drop_zero, refW_take s a m (by omega) (by omega) hx, show m + 9 = n + 1 by omega, hsz] at h1
        have h2 : Ev fun k => cooperageref4_Take.j2 k s (n : Int) a false = some (takeB a (s.extract (n + 1) s.size)) := by
          refine Ev.up (h1.mp fun k hk => ?_)
          rw [cooperageref4_Take.j2]
          rw [if_neg (by decide)]
          exact hk
        rw [ha]
        refine Ev.up ((hdig.and h2).mp fun k hk => ?_)
        rw [cooperageref4_Take.j1]
        rw [if_neg (by omega), if_pos (by omega), if_pos (by omega), if_neg (by omega), if_neg (by omega), Int.toNat_natCast, ha, hw, if_pos (by omega), if_pos (by omega), Int.toNat_natCast, hk.1, Option.bind_some]
        exact hk.2
      · have hx' := Bool.eq_false_iff.mpr hx
        rw [hx'] at hdig
        have e : takeB a (s.extract (n + 1) s.size) = ([], ⟨#[]⟩, 2) := by
          unfold takeB formB
          rw [show a.size - 8 = m by omega, hx', if_pos (by simp)]
        rw [ha, e]
        refine Ev.up ((hdig.and (hj2 a)).mp fun k hk => ?_)
        rw [cooperageref4_Take.j1]
        rw [if_neg (by omega), if_pos (by omega), if_pos (by omega), if_neg (by omega), if_neg (by omega), Int.toNat_natCast, ha, hw, if_pos (by omega), if_pos (by omega), Int.toNat_natCast, hk.1, Option.bind_some]
        exact hk.2
theorem ref_l0 (s : ByteArray) (hs : s.size ≤ 100000) (n : Nat) (hn : n ≤ s.size) (R : List ByteArray × ByteArray × Int) (hno : ∀ j (h : j < s.data.toList.length), j < n → s.data.toList[j] ≠ 10) (hat : ∀ (h : n < s.data.toList.length), s.data.toList[n] = 10)
    (hj : Ev fun k => cooperageref4_Take.j1 k s (n : Int) = some R) : ∀ (d i : Nat), i + d = n → Ev fun k => cooperageref4_Take.l0 k s (i : Int) = some R := by
  have hlen := len_data s
  intro d
  induction d with
  | zero =>
    intro i hi
    obtain rfl : i = n := by omega
    refine Ev.up (hj.mp fun k hk => ?_)
    rw [cooperageref4_Take.l0]
    by_cases hlt : i < s.data.toList.length
    · have hb := PureL.bt_nat s i (by omega)
      rw [if_pos (by omega), if_pos (by omega), if_pos (by rw [hb, hat hlt]; rfl)]
      exact hk
    · rw [if_neg (by omega)]
      exact hk
  | succ d ih =>
    intro i hi
    have hlt : i < s.data.toList.length := by omega
    have hb := PureL.bt_nat s i (by omega)
    have h10 : ¬ bt s (i : Int) = 10 := by
      rw [hb]
      intro h
      exact hno i hlt (by omega) (UInt8.toNat_inj.1 (by show _ = 10; omega))
    refine Ev.up ((ih (i + 1) (by omega)).mp fun k hk => ?_)
    rw [cooperageref4_Take.l0]
    rw [if_pos (by omega), if_pos (by omega), if_neg h10, w64s i (by omega)]
    exact hk
theorem refTake_f (s : ByteArray) (hs : s.size ≤ 100000) : Ev fun k => cooperageref4_Take.f k s = some (takeV s) := by
  have hlen := len_data s
  rcases cut_one 10 s.data.toList with ⟨h1, ⟨h2, h3⟩ | ⟨h2, h3⟩⟩
  · obtain ⟨A, hA⟩ : ∃ A, (Lib.cut s.data.toList [10]).1 = A := ⟨_, rfl⟩
    obtain ⟨B, hB⟩ : ∃ B, (Lib.cut s.data.toList [10]).2.1 = B := ⟨_, rfl⟩
    have hv : takeV s = takeB ⟨A.toArray⟩ ⟨B.toArray⟩ := by
      unfold takeV
      rw [h2, if_neg (by decide), hA, hB]
    rw [hA] at h1 h3
    rw [hB] at h3
    have hl3 := congrArg List.length h3
    rw [List.length_append, List.length_cons] at hl3
    have e1 : (⟨A.toArray⟩ : ByteArray) = s.extract 0 A.length := by
      rw [← ext_take, h3, List.take_left]
    have e2 : (⟨B.toArray⟩ : ByteArray) = s.extract (A.length + 1) s.size := by
      rw [← ext_drop, h3, ← List.drop_drop, List.drop_left]
      rfl
    rw [hv, e1, e2]
    refine ref_l0 s hs A.length (by omega) _ (fun j h hj => ?_) (fun h => ?_) (ref_j1 s hs A.length (by omega)) A.length 0 (by omega)
    · have : s.data.toList[j] = A[j] := by
        simp only [h3]
        rw [List.getElem_append_left hj]
      rw [this]
      exact fun e => h1 (e ▸ List.getElem_mem hj)
    · simp only [h3]
      rw [List.getElem_append_right (Nat.le_refl _)]
      simp
  · have hv : takeV s = ([], ⟨#[]⟩, 14) := by
      unfold takeV
      rw [h2, if_pos rfl]
    rw [hv]
    refine ref_l0 s hs s.size (Nat.le_refl _) _ (fun j h hj => ?_) (fun h => by omega) ?_ s.size 0 (by omega)
    · have hm : s.data.toList[j] ∈ (Lib.cut s.data.toList [10]).1 := by
        rw [← h3]
        exact List.getElem_mem h
      exact fun e => h1 (e ▸ hm)
    · refine Ev.up (Ev.of fun k => ?_)
      rw [cooperageref4_Take.j1]
      rw [if_pos rfl]
end Go.Proofs.YtocpfgdajomjiaaDoor.PureL
/- LineTakes, plain. -/
namespace Go.Proofs.YtocpfgdajomjiaaDoor.PureL
open Go.RowKit Go.Proofs.YtocpfgdajomjiaaDoor.PureR Go.Proofs.YtocpfgdajomjiaaDoor.L Go.Proofs.YtocpfgdajomjiaaDoor.Hand3 Go.Proofs.YtocpfgdajomjiaaDoor.Spl Go.Proofs.YtocpfgdajomjiaaDoorW.PrintWords
open Go.Proofs.YtocpfgdajomjiaaDoor.Hand hiding text_Lines.f text_Words.f text_Trim.f text_Join.f text_Path.f text_Quote.f text_Lines.calls text_Words.calls text_Trim.calls text_Join.calls text_Path.calls text_Quote.calls Glob
set_option linter.unusedVariables false
set_option linter.unusedSimpArgs false
theorem scanG_size (tot : Nat) : ∀ (f : Nat) (u : ByteArray), u.size ≤ 100000 → ∀ p ∈ scanG tot f u, p.1.length ≤ 100000 := by
  intro f
  induction f with
  | zero => intro u _ p hp; simp [scanG] at hp
  | succ f ih =>
    intro u hu p hp
    rw [scanG] at hp
    split at hp
    next h0 =>
      obtain ⟨h1, h2⟩ := take_inv h0
      have h3 := congrArg ByteArray.size h2
      rw [ByteArray.size_append] at h3
      rcases List.mem_cons.1 hp with e | e
      · subst e
        have := (put_ok h1).2.1
        show (takeV u).1.length ≤ _
        omega
      · exact ih _ (by omega) p e
    next => simp at hp
theorem scanG_num (tot : Nat) : ∀ (f : Nat) (u : ByteArray), (scanG tot f u).length ≤ f := scanG_len tot
theorem refScan_loop (s : ByteArray) (hs : s.size ≤ 100000) : ∀ (f : Nat) (u : ByteArray) (acc : List (List ByteArray)), u.size < f → u.size ≤ s.size → acc.length + u.size ≤ s.size →
    Ev fun k => cooperageref4_Scan.l0 k s acc u = some (acc ++ (scanG s.size f u).map (·.1), (match (scanG s.size f u).getLast? with | some p => p.2 | none => (s.size : Int) - (u.size : Int))) := by
  intro f
  induction f with
  | zero => intro u acc hf; omega
  | succ f ih =>
    intro u acc hf hu hacc
    by_cases h0 : (takeV u).2.2 = 0
    · obtain ⟨h1, h2⟩ := take_inv h0
      have h3 := congrArg ByteArray.size h2
      rw [ByteArray.size_append] at h3
      have h4 : 1 ≤ (putV (takeV u).1).1.size := by
        rw [putV_size h1, line_len]
        omega
      have hstep : scanG s.size (f + 1) u = ((takeV u).1, (s.size : Int) - ((takeV u).2.1.size : Int)) :: scanG s.size f (takeV u).2.1 := by rw [scanG, if_pos h0]
      rw [hstep]
      have := ih (takeV u).2.1 (acc ++ [(takeV u).1]) (by omega) (by omega) (by rw [List.length_append]; show acc.length + 1 + _ ≤ _; omega)
      refine Ev.up (((refTake_f u (by omega)).and this).mp fun k hk => ?_)
      unfold cooperageref4_Scan.l0
      rw [hk.1, Option.bind_some, if_pos h0, if_pos (by omega), hk.2]
      congr 1
      rw [List.map_cons, List.append_assoc, List.singleton_append]
      congr 1
      cases hsc : scanG s.size f (takeV u).2.1 with
      | nil => rfl
      | cons a b =>
        rw [List.getLast?_cons_cons]
        cases hg : (a :: b).getLast? with
        | none => simp at hg
        | some p => rfl
    · have hstep : scanG s.size (f + 1) u = [] := by rw [scanG, if_neg h0]
      rw [hstep]
      refine Ev.up ((refTake_f u (by omega)).mp fun k hk => ?_)
      unfold cooperageref4_Scan.l0
      rw [hk, Option.bind_some, if_neg h0, w64 (by omega) (by omega), List.map_nil, List.append_nil]
      rfl
theorem refScan_f (s : ByteArray) (hs : s.size ≤ 100000) : Ev fun k => cooperageref4_Scan.f k s = some (scanV s) := by
  refine (refScan_loop s hs (s.size + 1) s [] (by omega) (Nat.le_refl _) (by simp)).mp fun k hk => ?_
  unfold cooperageref4_Scan.f
  rw [hk]
  unfold scanV scanP lastE
  rw [List.nil_append]
  congr 2
  cases (scanG s.size (s.size + 1) s).getLast? with
  | none => show (s.size : Int) - (s.size : Int) = 0; omega
  | some p => rfl
theorem LineTakes : ∀ (s : ByteArray), s.size ≤ 140737488351232 → ∃ k, cooperagelaw4_LineTakes.f k s = some true := by
  intro s _
  by_cases hs : s.size ≤ 14000
  · have hs' : s.size ≤ 100000 := by omega
    have hT : (takeV s).1.length ≤ 100000 := by
      by_cases h0 : (takeV s).2.2 = 0
      · have := (put_ok (take_inv h0).1).2.1
        omega
      · rw [(take_err h0).1]
        exact Nat.zero_le _
    have hS1 : (scanV s).1.length ≤ 100000 := by
      show ((scanP s).map (·.1)).length ≤ _
      rw [List.length_map]
      have := scanG_num s.size (s.size + 1) s
      show (scanG s.size (s.size + 1) s).length ≤ _
      omega
    have hS2 : ∀ l ∈ (scanV s).1, l.length ≤ 100000 := by
      intro l hl
      obtain ⟨p, hp, rfl⟩ := List.mem_map.1 (show l ∈ (scanP s).map (·.1) from hl)
      exact scanG_size s.size (s.size + 1) s hs' p hp
    have hj : Ev fun k => cooperagelaw4_LineTakes.j0 k s true false = some true := by
      refine Ev.up (((refTake_f s hs').and ((refScan_f s hs').and ((same4_f (takeV s).1 hT).and (sameAll_f (scanV s).1 hS1 hS2)))).mp fun k h => ?_)
      obtain ⟨h1, h2, h3, h4⟩ := h
      rw [cooperagelaw4_LineTakes.j0]
      rw [if_neg (by decide), take_okf s hs', Option.bind_some, h1, Option.bind_some, scan_okf s hs', Option.bind_some, h2, Option.bind_some, h3, Option.bind_some, if_pos rfl, if_pos rfl, if_pos rfl, h4, Option.bind_some, if_pos rfl, beq_self_eq_true]
    refine ((shown4_f.and hj).mp fun k h => ?_).get
    unfold cooperagelaw4_LineTakes.f
    rw [h.1, Option.bind_some, if_pos rfl, show decide ((s.size : Int) > 14000) = false from decide_eq_false (by omega)]
    exact h.2
  · have hj : Ev fun k => cooperagelaw4_LineTakes.j0 k s true true = some true := by
      refine Ev.up (Ev.of fun k => ?_)
      rw [cooperagelaw4_LineTakes.j0]
      rw [if_pos rfl]
    refine ((shown4_f.and hj).mp fun k h => ?_).get
    unfold cooperagelaw4_LineTakes.f
    rw [h.1, Option.bind_some, if_pos rfl, show decide ((s.size : Int) > 14000) = true from decide_eq_true (by omega)]
    exact h.2
end Go.Proofs.YtocpfgdajomjiaaDoor.PureL
