import Derived.Test.YtebfkifhkaeknaaGreatDoorKLg
import Derived.Test.YtebfkifhkaeknaaGreatDoorKMr
/- JournalAgain. -/
namespace Go.Proofs.YtebfkifhkaeknaaGreatDoor.Fr
open Go.RowKit Go.Proofs.YtebfkifhkaeknaaGreatDoor.F Go.Proofs.YtebfkifhkaeknaaGreatDoorW.PrintWords
open Go.Proofs.YtebfkifhkaeknaaGreatDoor.Hand (putV takeV scanV)
open Go.Proofs.YtebfkifhkaeknaaGreatDoor.PureL (cat cat_app cat_behind cat_size)
set_option linter.unusedVariables false
set_option linter.unusedSimpArgs false

section
variable {w : World}
set_option maxHeartbeats 8000000 in
set_option maxRecDepth 100000 in
theorem R_JournalAgain (hG : Hand2.Glob w) (A : Option Addr) (c : Nat) (la : List (List ByteArray)) (hA : Kd.C kLL w A la.length la) (hcA : la.length ≤ c) (tail : ByteArray) (wtail : tail.size ≤ 140737488351232) (C : Option Addr) (d : Nat) (one : List ByteArray) (hC : Kd.C Kd.string w C one.length one) (hcC : one.length ≤ d) :
    Calls Tryz.prog 4 #[.slice A la.length c, .string tail, .slice C one.length d] w fun e w' => e = .returned (.bool true) ∧ Below w.heap.size w w' := by
  have HG := Lib.hid hG
  have HA := Lib.hid hA
  have HC := Lib.hid hC
  clear hG hA hC
  go_enter Tryz.func4, Tryz.ntmps4
  go_upto_region 5 with (first
    | (go_at_call 8; refine (shown6_call HG.out).mono ?_; rintro e w1 ⟨rfl, hb⟩; have HB1 := Lib.hid hb; clear hb)
    | (go_at_call_of 9 (Value.slice A la.length c); refine (tiny_call (Kd.C_below HA.out HB1.out) hcA).mono ?_; rintro e w2 ⟨b1, rfl, ht, hb⟩; have HT1 := Lib.hid ht; have HB2 := Lib.hid (HB1.out.trans (hb.mono HB1.out.size)); clear ht hb)
    | (go_at_call 9; refine (tiny_lit (Kd.C_below HC.out HB2.out) hcC).mono ?_; rintro e w2 ⟨b2, rfl, ht, hb⟩; have HT2 := Lib.hid ht; have HB3 := Lib.hid (HB2.out.trans (hb.mono HB2.out.size)); clear ht hb)
    | (go_at_call 10; refine (begun6_sts _ 1048576 (by decide) (by decide)).mono ?_; rintro e w4 ⟨p, m, rfl, hs, hb⟩; obtain ⟨b0, hb0⟩ : ∃ b0, w4.heap.size = b0 := ⟨_, rfl⟩; obtain ⟨K, hK⟩ : ∃ K : Nat → Prop, K = fun k => k < w2.heap.size ∨ k = b0 := ⟨_, rfl⟩; have hl := law_begun6 HG.out HB3.out hs hb; rw [hb0] at hl; rw [← hK] at hl; have HL0' := Lib.hid hl; clear hs hb hl hK))
  have HL0 : Hid (Law w K m [(p, newT 1048576)] (newT 1048576) [PBox6 p m b0] (w4.alloc (.cells #[.pointer (some ⟨p, 0, none⟩), .pointer (some ⟨m, 0, none⟩)] 28))) := HL0'.out
  clear HL0'
  try rw [hb0]
  generalize w4.alloc (.cells #[.pointer (some ⟨p, 0, none⟩), .pointer (some ⟨m, 0, none⟩)] 28) = W0 at HL0 ⊢
  clear hb0
  cases b1 with
  | false =>
    go_wp2_with fail
    go_ret
    exact ⟨rfl, HL0.out.bel⟩
  | true =>
    cases b2 with
    | false =>
      go_wp2_with fail
      go_ret
      exact ⟨rfl, HL0.out.bel⟩
    | true =>
      have HTY1 := Lib.hid (HT1.out rfl)
      have HTY2 := Lib.hid (HT2.out rfl)
      clear HT1 HT2
      by_cases ht2 : 200 < tail.size
      · have hd : decide ((200 : Int) < (tail.size : Int)) = true := decide_eq_true (by omega)
        go_wp2_with fail
        go_ret
        exact ⟨rfl, HL0.out.bel⟩
      have hd : decide ((200 : Int) < (tail.size : Int)) = false := decide_eq_false (by omega)
      have hla := HTY1.out.1
      have HJ0 : Hid (J1 1048576 logN logB 0 0 (newT 1048576) [] []) := j1_new (by decide) (by decide) _ _
      obtain ⟨i0, hi, hz0, hz1, hz2⟩ := info_parts Hand.info23
      go_upto_region 8 with fail
      clear hd
      go_loopw [12] (fun i wr => ∃ (k : Nat) (T : TS) (ys : List (List ByteArray)), k ≤ la.length ∧ i = .int .i64 k ∧ Hid (Law w K m [(p, T)] (newT 1048576) [PBox6 p m b0] wr) ∧ Hid (J1 1048576 logN logB k (13000 * k) T [] ys))
        (fun i _ => la.length - (intOf i).toNat)
      case atStart => exact ⟨0, _, [], Nat.zero_le _, rfl, HL0.out, HJ0.out⟩
      case round =>
        clear HL0 HJ0
        obtain ⟨k, T, ys, hk, rfl, HL0, HJ⟩ := hrel
        by_cases hlk : k < la.length
        · skip
          obtain ⟨ad, Ae, ce, e, hce, hcl, hCe⟩ := at_LL HA.out hlk
          subst e
          have HTX := Lib.hid (HTY1.out.2 _ (List.getElem_mem hlk))
          generalize la[k] = x at hce hcl hCe HTX
          have HCE := Lib.hid hce
          have HCX := Lib.hid hCe
          have had := cell_lt hce
          clear hce hCe
          obtain ⟨ys', hj⟩ := HJ.out.add_any ns_log log_mem lgn_mem x (by omega)
          have HJ2 := Lib.hid hj
          clear hj
          go_upto_region 10 with fail
          have HL0d : Hid (Law w K m [(p, T)] (newT 1048576) [PBox6 p m b0] (World.drew _)) := HL0.out.below (Below.refl _ _).drew
          obtain ⟨c0, c1⟩ := (HL0.out.va 0 rfl : PBox6 p m b0 _).cells
          have cx := (HL0.out.bel.cell (p := ad.add k) had).trans HCE.out
          (go_region_held3 (fun W => (W.cell? ⟨b0, 0, none⟩ = some (.pointer (some ⟨p, 0, none⟩)) ∧ W.cell? (ad.add k) = some (.slice Ae x.length ce)) ∧ Hid (Below w.heap.size w W)) (first | exact ⟨⟨(HL1.out.va 0 rfl : PBox6 p m b0 _).cells.1, (HL1.out.bel.cell (p := ad.add k) had).trans HCE.out⟩, HL1.out.bel⟩ | exact ⟨⟨(HL0d.out.va 0 rfl : PBox6 p m b0 _).cells.1, (HL0d.out.bel.cell (p := ad.add k) had).trans HCE.out⟩, HL0d.out.bel⟩) (first
            | (go_at_call 11; refine (HL0d.out.sts.jAdd (i := 0) rfl HL0d.out.glob HJ.out.inv (by omega) logB (by decide) Ae ce x (kd_str_below HCX.out HL0d.out.bel) hcl (fun y hy => Nat.le_trans (HTX.out.2 y hy) (by decide))).mono ?_; rintro e w2 ⟨rfl, hs, hk⟩; have HL1 : Hid (Law w K m [(p, addT T logB x)] (newT 1048576) [PBox6 p m b0] w2) := HL0d.out.step hs hk; clear hs hk)))
          go_wp2_with fail
          go_roundw
          case rel => exact ⟨k + 1, _, ys', by omega, by go_num, HL1.out, HJ2.out.mono (by omega) (by omega)⟩
          case measure => simp [intOf]; omega
        · obtain rfl : k = la.length := by omega
          obtain ⟨x, s, ok⟩ := again_law HJ.out (by omega) tail (by omega)
          have HNU : Hid (la.length + 20 ≤ 900000) := by unfold Hid; omega
          have HNX : Hid (x.length ≤ 10000000) := ok.all.many
          obtain ⟨T1, hT1⟩ : ∃ T1, writeT T true logB tail = T1 := ⟨_, rfl⟩
          rw [hT1] at ok
          have HT1 := Lib.hid hT1
          clear hT1
          obtain ⟨T2, hT2⟩ : ∃ T2, openT T1 logB = T2 := ⟨_, rfl⟩
          rw [hT2] at ok
          have HT2 := Lib.hid hT2
          clear hT2
          obtain ⟨T3, hT3⟩ : ∃ T3, openT T2 logB = T3 := ⟨_, rfl⟩
          rw [hT3] at ok
          have HT3 := Lib.hid hT3
          clear hT3
          obtain ⟨T4, hT4⟩ : ∃ T4, anewT T3 logB x = T4 := ⟨_, rfl⟩
          rw [hT4] at ok
          have HT4 := Lib.hid hT4
          clear hT4
          have HR3 : Hid (∃ re, readT T3 logB = (s, re)) := ⟨_, Prod.ext ok.rd rfl⟩
          have HR4 : Hid (∃ re, readT T4 logB = (s, re)) := ⟨_, Prod.ext ok.rd4 rfl⟩
          obtain ⟨re3, h3⟩ := HR3.out
          obtain ⟨re4, h4⟩ := HR4.out
          have HRD3 := Lib.hid h3
          have HRD4 := Lib.hid h4
          have HXM : Hid (x.length ≤ 100000000 ∧ ∀ y ∈ x, y.length ≤ 100000000) := ⟨ok.many, fun y hy => Nat.le_trans (ok.len y hy) (by decide)⟩
          have hxm := ok.many
          have hnil := Lib.hid ok.nil
          have OK := Lib.hid ok
          clear HR3 HR4 h3 h4 ok HJ
          generalize la.length + 20 = nn at OK HNU
          obtain ⟨c0, c1⟩ := (HL0.out.va 0 rfl : PBox6 p m b0 _).cells
          go_upto_region 12 with (first
            | (go_at_call 15; refine (HL0.out.sts.Append (i := 0) rfl HL0.out.glob.g OK.out.i0 (Nat.le_trans HNU.out (by decide)) logB tail (by decide) (by omega)).mono ?_; rintro e w2 ⟨rfl, hs, hk⟩; rw [HT1.out] at hs; have HL1 : Hid (Law w K m [(p, T1)] (newT 1048576) [PBox6 p m b0] w2) := HL0.out.step hs hk; clear hs hk))
          clear c0 c1 HL0
          obtain ⟨c0, c1⟩ := (HL1.out.va 0 rfl : PBox6 p m b0 _).cells
          go_upto_region 13 with (first
            | (go_at_call 13; refine (HL1.out.sts.jOpen (i := 0) rfl HL1.out.gk OK.out.i1 (by have := HNU.out; omega) OK.out.r1 logB (by decide)).mono ?_; rintro e w2 ⟨v1, K1, rfl, hKK, hs, hk, hv⟩; rw [HT2.out] at hs; rw [OK.out.e1]; rw [OK.out.l1] at hv; obtain ⟨A1, n1, rfl⟩ := Kd.S_slice hv; have HL2 := Lib.hid (HL1.out.opened hKK hs hk hv); clear hKK hs hk hv))
          clear c0 c1 HL1
          obtain ⟨c0, c1⟩ := (HL2.out.va 1 rfl : PBox6 p m b0 _).cells
          go_upto_region 14 with (first
            | (go_at_call 13; refine (HL2.out.sts.jOpen (i := 0) rfl HL2.out.gk OK.out.i2 (by have := HNU.out; omega) OK.out.r2 logB (by decide)).mono ?_; rintro e w2 ⟨v2, K2, rfl, hKK, hs, hk, hv⟩; rw [HT3.out] at hs; rw [OK.out.e2]; rw [OK.out.l2] at hv; obtain ⟨A2, n2, rfl⟩ := Kd.S_slice hv; have HL3 := Lib.hid (HL2.out.opened hKK hs hk hv); clear hKK hs hk hv))
          clear c0 c1 HL2
          obtain ⟨c0, c1⟩ := (HL3.out.va 2 rfl : PBox6 p m b0 _).cells
          go_upto_region 15 with (first
            | (go_at_call 16; refine (HL3.out.sts.Read (i := 0) rfl logB (by decide)).mono ?_; rintro e w9 ⟨rfl, rfl⟩; rw [HRD3.out]))
          obtain ⟨-, hc1, hC1⟩ := Kd.S_reads' (HL3.out.va 1 rfl : Kd.S kLL _ _ _ _ (Value.slice A1 _ n1) x)
          have HC1 := Lib.hid hC1
          clear hC1
          go_upto_region 16 with (first
            | (go_at_call 12; refine (HL3.out.sts.jAnew (i := 0) rfl HL3.out.gk OK.out.i3 (by have := HNU.out; omega) logB (by decide) A1 n1 x HC1.out OK.out.all).mono ?_; rintro e w2 ⟨rfl, hs, hk⟩; rw [OK.out.an]; rw [HT4.out] at hs; have HL4 := Lib.hid (HL3.out.step hs hk); clear hs hk))
          clear c0 c1 HC1 HL3
          obtain ⟨c0, c1⟩ := (HL4.out.va 2 rfl : PBox6 p m b0 _).cells
          go_upto_region 17 with (first
            | (go_at_call 16; refine (HL4.out.sts.Read (i := 0) rfl logB (by decide)).mono ?_; rintro e w9 ⟨rfl, rfl⟩; rw [HRD4.out]))
          clear hc1
          obtain ⟨-, hc2, hC2⟩ := Kd.S_reads' (HL4.out.va 0 rfl : Kd.S kLL _ _ _ _ (Value.slice A2 _ n2) x)
          obtain ⟨-, hc1, hC1⟩ := Kd.S_reads' (HL4.out.va 1 rfl : Kd.S kLL _ _ _ _ (Value.slice A1 _ n1) x)
          have SX := Lib.hid (same_at hC1 hc1 hC2 hc2 HXM.out (decide_eq_true rfl))
          clear hc1 hC1 hc2 hC2
          have HRF := Lib.hid (Below.refl w2.heap.size w2)
          have hg1 : (decide ((x.length : Int) < 1) && decide ((0 : Int) < (s.size : Int))) = false := by
            by_cases h : x.length < 1
            · have := hnil.out h
              rw [decide_eq_false (by omega : ¬ (0 : Int) < (s.size : Int)), Bool.and_false]
            · rw [decide_eq_false (by omega : ¬ (x.length : Int) < 1), Bool.false_and]
          by_cases hx1 : x.length < 1
          · skip
            have hs0 := hnil.out hx1
            have hgx : decide ((x.length : Int) < 1) = true := decide_eq_true (by omega)
            have hgs : decide ((0 : Int) < (s.size : Int)) = false := decide_eq_false (by omega)
            have hgt : decide (0 < s.size) = false := decide_eq_false (by omega)
            go_upto_region 19 with (first
              | (go_at_call 14; ((with_reducible refine (SX.out.at _ (by first | exact HRF.out)).mono ?_); rintro e w20 ⟨rfl, hb⟩; have HL5 := Lib.hid (HL4.out.below hb); have HF0 := Lib.hid hb; clear hb)))
            clear hgx hg1 hgs hgt hs0
            clear c0 c1 HL4
            have HCN := Lib.hid (kd_str_below HC.out HL5.out.bel)
            have HO60 : Hid (∀ y ∈ one, y.size ≤ 100000) := fun y hy => Nat.le_trans (HTY2.out.2 y hy) (by decide)
            rcases put_code one with hc0 | hc0 | hc0
            · skip
              obtain ⟨a1, a2, a3, a4, a5⟩ := OK.out.add one hc0
              obtain ⟨T5, hT5⟩ : ∃ T5, addT T4 logB one = T5 := ⟨_, rfl⟩
              rw [hT5] at a2 a3 a4 a5
              obtain ⟨z, hz⟩ : ∃ z, x ++ [one] = z := ⟨_, rfl⟩
              rw [hz] at a2
              have HZ := Lib.hid hz
              have HZL : Hid (z.length = x.length + 1) := by rw [Hid, ← hz, List.length_append]; rfl
              clear hz
              have HAE := Lib.hid a1
              have HTB := Lib.hid hT5
              have HRL := Lib.hid a2
              have HRW := Lib.hid a3
              have HI5 := Lib.hid a4
              clear a1 a2 a3 a4 hT5 hc0
              obtain ⟨c0, c1⟩ := (HL5.out.va 2 rfl : PBox6 p m b0 _).cells
              go_upto_region 21 with (first
                | (go_at_call 11; refine (HL5.out.sts.jAdd (i := 0) rfl HL5.out.glob OK.out.i4 (Nat.le_trans HNU.out (by decide)) logB (by decide) C d one HCN.out hcC HO60.out).mono ?_; rintro e w2 ⟨rfl, hs, hk⟩; rw [HAE.out]; rw [HTB.out] at hs; have HL6 := Lib.hid (HL5.out.step hs hk); clear hs hk))
              clear c0 c1 HL5
              obtain ⟨c0, c1⟩ := (HL6.out.va 2 rfl : PBox6 p m b0 _).cells
              go_upto_region 22 with (first
                | (go_at_call 17; refine (HL6.out.sts.jRead (i := 0) rfl HL6.out.glob HI5.out a5 logB (by decide)).mono ?_; rintro e w2 ⟨v3, rfl, hv, hb⟩; rw [HRW.out]; rw [HRL.out] at hv; obtain ⟨A3, n3, rfl⟩ := Kd.S_slice hv; have HL7 := Lib.hid (HL6.out.below hb); have HV3 := Lib.hid hv; clear hv hb))
              clear c0 c1 HL6
              obtain ⟨-, hc3, hC3⟩ := Kd.S_reads' HV3.out
              have HC3 := Lib.hid hC3
              clear hC3
              have HCN2 := Lib.hid (kd_str_below HC.out HL7.out.bel)
              have HO0 := Lib.hid (own_empty w2)
              have hl40 : x.length ≤ 100000000 := hxm
              have HZM : Hid (z.length ≤ 100000000 ∧ ∀ y ∈ z, y.length ≤ 100000000) := by
                refine ⟨by have := HZL.out; have := HNX.out; omega, fun y hy => ?_⟩
                rw [← HZ.out] at hy
                rcases List.mem_append.1 hy with hy | hy
                · exact HXM.out.2 y hy
                · rw [List.mem_singleton.1 hy]; exact Nat.le_trans HTY2.out.1 (by decide)
              have H63a : Hid (0 + x.length ≤ maxLen) := by unfold Hid maxLen; omega
              have HBYa : Hid ((0 + x.length) * 24 ≤ 140737488355328) := by unfold Hid; omega
              have H63b : Hid (0 + x.length + 1 ≤ maxLen) := by unfold Hid maxLen; omega
              have HBYb : Hid ((0 + x.length + 1) * 24 ≤ 140737488355328) := by unfold Hid; omega
              have HONE : Hid (∀ u ∈ [Value.slice C one.length d], u.oneCell' = true) := fun u hu => by rw [List.mem_singleton.1 hu]; rfl
              obtain ⟨c0, c1⟩ := (HL7.out.va 2 rfl : PBox6 p m b0 _).cells
              rcases S_cells (HL7.out.va 1 rfl : Kd.S kLL _ _ _ _ (Value.slice A1 _ n1) x) with ⟨eA, en, ex⟩ | ⟨gx, csx, eA, hcx⟩
              · subst eA
                subst en
                have HCXn : Hid (RowCells w2 0 x []) := by rw [Hid, ex]; exact ⟨rfl, fun j u h => (by simp at h), fun u h => (by cases h), fun j y h => (by simp at h)⟩
                have HXZ : Hid (x.length = 0) := by rw [Hid, ex]; rfl
                have hx0 := HXZ.out
                clear ex
                have HRW := Lib.hid (own_alloc HO0.out (.cells #[.slice C one.length d] 33))
                have hnw := news1 (w2.alloc (.cells #[] 33)) (.slice C one.length d)
                rw [World.size_alloc] at hnw
                have HNW := Lib.hid hnw
                clear hnw
                have HBA : Hid (w2.heap.size ≤ ((w2.alloc (.cells #[] 33)).alloc (.cells #[.slice C one.length d] 33)).heap.size) := by
                  rw [Hid, World.size_alloc, World.size_alloc]; omega
                rw [hx0]
                go_wp2_with (first
                  | (at_builtin; refine gate_guard (by rfl) ?_; refine wpList_append_own_at _ rfl _ _ 22 rfl w2.heap.size 33 i0 _ 1 24 Tryz.underlying22 hi hz0 hz1 hz2 rfl (by decide) (.slice (some ⟨w2.heap.size, 0, none⟩) 0 0) 0 [] rfl HRW.out ⟨w2.heap.size + 1, 0, none⟩ 1 1 [.slice C one.length d] rfl rfl HNW.out HONE.out (by unfold maxLen; omega) (by omega) HBA.out ?_; intro v9 w9 h1 h2 h3 h4; have hB9 := again_b2 (newBelow w2 _) (again_v1 (.inl rfl)) h2; obtain ⟨A9, c9, e9, hc9, hC9⟩ := again_row HZ.out HCXn.out HCN2.out hcC hB9 (by rw [HXZ.out]; exact h1); subst e9; have HB9 := Lib.hid hB9; have SY := Lib.hid (same_at (Kd.C_below HC3.out hB9) hc3 hC9 hc9 HZM.out (decide_eq_true rfl)); clear h1 h2 h3 h4 hB9 hC9)
                  | (go_at_call 14; ((with_reducible refine (SY.out.at _ (Below.refl _ _)).mono ?_); rintro e w20 ⟨rfl, hb⟩; have HF0 := Lib.hid hb; clear hb)))
                go_ret
                exact ⟨rfl, HL7.out.bel.trans ((HB9.out.trans (HF0.out.mono HB9.out.size)).mono HL7.out.bel.size)⟩
              · subst eA
                have HCX := Lib.hid hcx
                have HNWa := Lib.hid (fun j u h => (cell_old (hcx.2.1 j u h) (newBelow w2 (.cells #[] 33))))
                have HONa := Lib.hid hcx.2.2.1
                have HLNa := Lib.hid hcx.1
                clear hcx
                go_wp2_with (first
                  | (at_builtin; refine gate_guard (by rfl) ?_; refine wpList_append_own_at _ rfl _ _ 22 rfl w2.heap.size 33 i0 _ 1 24 Tryz.underlying22 hi hz0 hz1 hz2 rfl (by decide) (.slice (some ⟨w2.heap.size, 0, none⟩) 0 0) 0 [] rfl HO0.out ⟨gx, 0, none⟩ x.length n1 csx rfl (by rw [HLNa.out]; exact (Nat.mul_one _).symm) HNWa.out HONa.out H63a.out HBYa.out (by rw [World.size_alloc]; exact Nat.le_succ _) ?_; intro v8 w8 h1 h2 h3 h4; have hB8 := again_b1 h2; have HB8 := Lib.hid hB8; have HR8 := Lib.hid h1; have HV8 := Lib.hid (again_v1 h4); have HRW := Lib.hid (own_alloc h1 (.cells #[.slice C one.length d] 33)); have HNW := Lib.hid (news1 w8 (.slice C one.length d)); have HBA : Hid (w2.heap.size ≤ (w8.alloc (.cells #[.slice C one.length d] 33)).heap.size) := (by rw [Hid, World.size_alloc]; exact Nat.le_succ_of_le hB8.size); clear h1 h2 h3 h4 hB8)
                  | (at_builtin; refine gate_guard (by rfl) ?_; refine wpList_append_own_at _ rfl _ _ 22 rfl w2.heap.size 33 i0 _ 1 24 Tryz.underlying22 hi hz0 hz1 hz2 rfl (by decide) v8 (0 + x.length) ([] ++ csx) rfl HRW.out ⟨w8.heap.size, 0, none⟩ 1 1 [.slice C one.length d] rfl rfl HNW.out HONE.out H63b.out HBYb.out HBA.out ?_; intro v9 w9 h1 h2 h3 h4; have hB9 := again_b2 HB8.out HV8.out h2; obtain ⟨A9, c9, e9, hc9, hC9⟩ := again_row HZ.out HCX.out HCN2.out hcC hB9 h1; subst e9; have HB9 := Lib.hid hB9; have SY := Lib.hid (same_at (Kd.C_below HC3.out hB9) hc3 hC9 hc9 HZM.out (decide_eq_true rfl)); clear h1 h2 h3 h4 hB9 hC9)
                  | (go_at_call 14; ((with_reducible refine (SY.out.at _ (Below.refl _ _)).mono ?_); rintro e w20 ⟨rfl, hb⟩; have HF0 := Lib.hid hb; clear hb)))
                go_ret
                exact ⟨rfl, HL7.out.bel.trans ((HB9.out.trans (HF0.out.mono HB9.out.size)).mono HL7.out.bel.size)⟩
            · skip
              obtain ⟨ha1, ha2⟩ := add_bad (T := T4) (q := logB) (l := one) (by kernel_rfl) (by omega)
              rw [hc0] at ha1
              have HAE := Lib.hid ha1
              have HTB := Lib.hid ha2
              clear ha1 ha2 hc0
              obtain ⟨c0, c1⟩ := (HL5.out.va 2 rfl : PBox6 p m b0 _).cells
              go_wp2_with (first
                | (go_at_call 11; refine (HL5.out.sts.jAdd (i := 0) rfl HL5.out.glob OK.out.i4 (Nat.le_trans HNU.out (by decide)) logB (by decide) C d one HCN.out hcC HO60.out).mono ?_; rintro e w2 ⟨rfl, hs, hk⟩; rw [HAE.out]; rw [HTB.out] at hs; have HL6 := Lib.hid (HL5.out.step hs hk); clear hs hk))
              go_ret
              exact ⟨rfl, HL6.out.bel⟩
            · skip
              obtain ⟨ha1, ha2⟩ := add_bad (T := T4) (q := logB) (l := one) (by kernel_rfl) (by omega)
              rw [hc0] at ha1
              have HAE := Lib.hid ha1
              have HTB := Lib.hid ha2
              clear ha1 ha2 hc0
              obtain ⟨c0, c1⟩ := (HL5.out.va 2 rfl : PBox6 p m b0 _).cells
              go_wp2_with (first
                | (go_at_call 11; refine (HL5.out.sts.jAdd (i := 0) rfl HL5.out.glob OK.out.i4 (Nat.le_trans HNU.out (by decide)) logB (by decide) C d one HCN.out hcC HO60.out).mono ?_; rintro e w2 ⟨rfl, hs, hk⟩; rw [HAE.out]; rw [HTB.out] at hs; have HL6 := Lib.hid (HL5.out.step hs hk); clear hs hk))
              go_ret
              exact ⟨rfl, HL6.out.bel⟩
          · skip
            have hgx : decide ((x.length : Int) < 1) = false := decide_eq_false (by omega)
            go_upto_region 19 with (first
              | (go_at_call 14; ((with_reducible refine (SX.out.at _ (by first | exact HRF.out)).mono ?_); rintro e w20 ⟨rfl, hb⟩; have HL5 := Lib.hid (HL4.out.below hb); have HF0 := Lib.hid hb; clear hb)))
            clear hgx hg1
            clear c0 c1 HL4
            have HCN := Lib.hid (kd_str_below HC.out HL5.out.bel)
            have HO60 : Hid (∀ y ∈ one, y.size ≤ 100000) := fun y hy => Nat.le_trans (HTY2.out.2 y hy) (by decide)
            rcases put_code one with hc0 | hc0 | hc0
            · skip
              obtain ⟨a1, a2, a3, a4, a5⟩ := OK.out.add one hc0
              obtain ⟨T5, hT5⟩ : ∃ T5, addT T4 logB one = T5 := ⟨_, rfl⟩
              rw [hT5] at a2 a3 a4 a5
              obtain ⟨z, hz⟩ : ∃ z, x ++ [one] = z := ⟨_, rfl⟩
              rw [hz] at a2
              have HZ := Lib.hid hz
              have HZL : Hid (z.length = x.length + 1) := by rw [Hid, ← hz, List.length_append]; rfl
              clear hz
              have HAE := Lib.hid a1
              have HTB := Lib.hid hT5
              have HRL := Lib.hid a2
              have HRW := Lib.hid a3
              have HI5 := Lib.hid a4
              clear a1 a2 a3 a4 hT5 hc0
              obtain ⟨c0, c1⟩ := (HL5.out.va 2 rfl : PBox6 p m b0 _).cells
              go_upto_region 21 with (first
                | (go_at_call 11; refine (HL5.out.sts.jAdd (i := 0) rfl HL5.out.glob OK.out.i4 (Nat.le_trans HNU.out (by decide)) logB (by decide) C d one HCN.out hcC HO60.out).mono ?_; rintro e w2 ⟨rfl, hs, hk⟩; rw [HAE.out]; rw [HTB.out] at hs; have HL6 := Lib.hid (HL5.out.step hs hk); clear hs hk))
              clear c0 c1 HL5
              obtain ⟨c0, c1⟩ := (HL6.out.va 2 rfl : PBox6 p m b0 _).cells
              go_upto_region 22 with (first
                | (go_at_call 17; refine (HL6.out.sts.jRead (i := 0) rfl HL6.out.glob HI5.out a5 logB (by decide)).mono ?_; rintro e w2 ⟨v3, rfl, hv, hb⟩; rw [HRW.out]; rw [HRL.out] at hv; obtain ⟨A3, n3, rfl⟩ := Kd.S_slice hv; have HL7 := Lib.hid (HL6.out.below hb); have HV3 := Lib.hid hv; clear hv hb))
              clear c0 c1 HL6
              obtain ⟨-, hc3, hC3⟩ := Kd.S_reads' HV3.out
              have HC3 := Lib.hid hC3
              clear hC3
              have HCN2 := Lib.hid (kd_str_below HC.out HL7.out.bel)
              have HO0 := Lib.hid (own_empty w2)
              have hl40 : x.length ≤ 100000000 := hxm
              have HZM : Hid (z.length ≤ 100000000 ∧ ∀ y ∈ z, y.length ≤ 100000000) := by
                refine ⟨by have := HZL.out; have := HNX.out; omega, fun y hy => ?_⟩
                rw [← HZ.out] at hy
                rcases List.mem_append.1 hy with hy | hy
                · exact HXM.out.2 y hy
                · rw [List.mem_singleton.1 hy]; exact Nat.le_trans HTY2.out.1 (by decide)
              have H63a : Hid (0 + x.length ≤ maxLen) := by unfold Hid maxLen; omega
              have HBYa : Hid ((0 + x.length) * 24 ≤ 140737488355328) := by unfold Hid; omega
              have H63b : Hid (0 + x.length + 1 ≤ maxLen) := by unfold Hid maxLen; omega
              have HBYb : Hid ((0 + x.length + 1) * 24 ≤ 140737488355328) := by unfold Hid; omega
              have HONE : Hid (∀ u ∈ [Value.slice C one.length d], u.oneCell' = true) := fun u hu => by rw [List.mem_singleton.1 hu]; rfl
              obtain ⟨c0, c1⟩ := (HL7.out.va 2 rfl : PBox6 p m b0 _).cells
              rcases S_cells (HL7.out.va 1 rfl : Kd.S kLL _ _ _ _ (Value.slice A1 _ n1) x) with ⟨eA, en, ex⟩ | ⟨gx, csx, eA, hcx⟩
              · subst eA
                subst en
                have HCXn : Hid (RowCells w2 0 x []) := by rw [Hid, ex]; exact ⟨rfl, fun j u h => (by simp at h), fun u h => (by cases h), fun j y h => (by simp at h)⟩
                have HXZ : Hid (x.length = 0) := by rw [Hid, ex]; rfl
                have hx0 := HXZ.out
                clear ex
                exact (hx1 (by rw [HXZ.out]; exact Nat.zero_lt_one)).elim
              · subst eA
                have HCX := Lib.hid hcx
                have HNWa := Lib.hid (fun j u h => (cell_old (hcx.2.1 j u h) (newBelow w2 (.cells #[] 33))))
                have HONa := Lib.hid hcx.2.2.1
                have HLNa := Lib.hid hcx.1
                clear hcx
                go_wp2_with (first
                  | (at_builtin; refine gate_guard (by rfl) ?_; refine wpList_append_own_at _ rfl _ _ 22 rfl w2.heap.size 33 i0 _ 1 24 Tryz.underlying22 hi hz0 hz1 hz2 rfl (by decide) (.slice (some ⟨w2.heap.size, 0, none⟩) 0 0) 0 [] rfl HO0.out ⟨gx, 0, none⟩ x.length n1 csx rfl (by rw [HLNa.out]; exact (Nat.mul_one _).symm) HNWa.out HONa.out H63a.out HBYa.out (by rw [World.size_alloc]; exact Nat.le_succ _) ?_; intro v8 w8 h1 h2 h3 h4; have hB8 := again_b1 h2; have HB8 := Lib.hid hB8; have HR8 := Lib.hid h1; have HV8 := Lib.hid (again_v1 h4); have HRW := Lib.hid (own_alloc h1 (.cells #[.slice C one.length d] 33)); have HNW := Lib.hid (news1 w8 (.slice C one.length d)); have HBA : Hid (w2.heap.size ≤ (w8.alloc (.cells #[.slice C one.length d] 33)).heap.size) := (by rw [Hid, World.size_alloc]; exact Nat.le_succ_of_le hB8.size); clear h1 h2 h3 h4 hB8)
                  | (at_builtin; refine gate_guard (by rfl) ?_; refine wpList_append_own_at _ rfl _ _ 22 rfl w2.heap.size 33 i0 _ 1 24 Tryz.underlying22 hi hz0 hz1 hz2 rfl (by decide) v8 (0 + x.length) ([] ++ csx) rfl HRW.out ⟨w8.heap.size, 0, none⟩ 1 1 [.slice C one.length d] rfl rfl HNW.out HONE.out H63b.out HBYb.out HBA.out ?_; intro v9 w9 h1 h2 h3 h4; have hB9 := again_b2 HB8.out HV8.out h2; obtain ⟨A9, c9, e9, hc9, hC9⟩ := again_row HZ.out HCX.out HCN2.out hcC hB9 h1; subst e9; have HB9 := Lib.hid hB9; have SY := Lib.hid (same_at (Kd.C_below HC3.out hB9) hc3 hC9 hc9 HZM.out (decide_eq_true rfl)); clear h1 h2 h3 h4 hB9 hC9)
                  | (go_at_call 14; ((with_reducible refine (SY.out.at _ (Below.refl _ _)).mono ?_); rintro e w20 ⟨rfl, hb⟩; have HF0 := Lib.hid hb; clear hb)))
                go_ret
                exact ⟨rfl, HL7.out.bel.trans ((HB9.out.trans (HF0.out.mono HB9.out.size)).mono HL7.out.bel.size)⟩
            · skip
              obtain ⟨ha1, ha2⟩ := add_bad (T := T4) (q := logB) (l := one) (by kernel_rfl) (by omega)
              rw [hc0] at ha1
              have HAE := Lib.hid ha1
              have HTB := Lib.hid ha2
              clear ha1 ha2 hc0
              obtain ⟨c0, c1⟩ := (HL5.out.va 2 rfl : PBox6 p m b0 _).cells
              go_wp2_with (first
                | (go_at_call 11; refine (HL5.out.sts.jAdd (i := 0) rfl HL5.out.glob OK.out.i4 (Nat.le_trans HNU.out (by decide)) logB (by decide) C d one HCN.out hcC HO60.out).mono ?_; rintro e w2 ⟨rfl, hs, hk⟩; rw [HAE.out]; rw [HTB.out] at hs; have HL6 := Lib.hid (HL5.out.step hs hk); clear hs hk))
              go_ret
              exact ⟨rfl, HL6.out.bel⟩
            · skip
              obtain ⟨ha1, ha2⟩ := add_bad (T := T4) (q := logB) (l := one) (by kernel_rfl) (by omega)
              rw [hc0] at ha1
              have HAE := Lib.hid ha1
              have HTB := Lib.hid ha2
              clear ha1 ha2 hc0
              obtain ⟨c0, c1⟩ := (HL5.out.va 2 rfl : PBox6 p m b0 _).cells
              go_wp2_with (first
                | (go_at_call 11; refine (HL5.out.sts.jAdd (i := 0) rfl HL5.out.glob OK.out.i4 (Nat.le_trans HNU.out (by decide)) logB (by decide) C d one HCN.out hcC HO60.out).mono ?_; rintro e w2 ⟨rfl, hs, hk⟩; rw [HAE.out]; rw [HTB.out] at hs; have HL6 := Lib.hid (HL5.out.step hs hk); clear hs hk))
              go_ret
              exact ⟨rfl, HL6.out.bel⟩
end
end Go.Proofs.YtebfkifhkaeknaaGreatDoor.Fr
