import Derived.Test.YtebfkifhkaeknaaGreatDoorQC
/- JournalAnew. -/
namespace Go.Proofs.YtebfkifhkaeknaaGreatDoor.Fr
open Go.RowKit Go.Proofs.YtebfkifhkaeknaaGreatDoor.F Go.Proofs.YtebfkifhkaeknaaGreatDoorW.PrintWords
open Go.Proofs.YtebfkifhkaeknaaGreatDoor.Hand (putV takeV scanV)
open Go.Proofs.YtebfkifhkaeknaaGreatDoor.PureL (cat cat_app cat_behind cat_size)
set_option linter.unusedVariables false
set_option linter.unusedSimpArgs false

section
variable {w : World}
set_option maxHeartbeats 8000000 in
set_option maxRecDepth 100000 in
theorem R_JournalAnew (hG : Hand2.Glob w) (A : Option Addr) (c : Nat) (old : List (List ByteArray)) (hA : Kd.C kLL w A old.length old) (hcA : old.length ≤ c) (B : Option Addr) (d : Nat) (l : List (List ByteArray)) (hB : Kd.C kLL w B l.length l) (hcB : l.length ≤ d) (many : Int) (wmany : (Lit.int .i64 many).wf = true) (part : Int) (wpart : (Lit.int .i64 part).wf = true) :
    Calls Tryz.prog 6 #[.slice A old.length c, .slice B l.length d, .int .i64 many, .int .i64 part] w fun e w' => e = .returned (.bool true) ∧ Below w.heap.size w w' := by
  have HG := Lib.hid hG
  have HA := Lib.hid hA
  have HB := Lib.hid hB
  have hmany := int_wf wmany
  have hpart := int_wf wpart
  clear hG hA hB
  go_enter Tryz.func6, Tryz.ntmps6
  go_upto_region 5 with (first
    | (go_at_call 8; refine (shown6_call HG.out).mono ?_; rintro e w1 ⟨rfl, hb⟩; have HB1 := Lib.hid hb; clear hb)
    | (go_at_call_of 9 (Value.slice A old.length c); refine (tiny_call (Kd.C_below HA.out HB1.out) hcA).mono ?_; rintro e w2 ⟨b1, rfl, ht, hb⟩; have HT1 := Lib.hid ht; have HB2 := Lib.hid (HB1.out.trans (hb.mono HB1.out.size)); clear ht hb)
    | (go_at_call_of 9 (Value.slice B l.length d); refine (tiny_call (Kd.C_below HB.out HB2.out) hcB).mono ?_; rintro e w2 ⟨b2, rfl, ht, hb⟩; have HT2 := Lib.hid ht; have HB3 := Lib.hid (HB2.out.trans (hb.mono HB2.out.size)); clear ht hb)
    | (go_at_call 10; refine (begun6_sts _ 1048576 (by decide) (by decide)).mono ?_; rintro e w4 ⟨p, m, rfl, hs, hb⟩; obtain ⟨b0, hb0⟩ : ∃ b0, w4.heap.size = b0 := ⟨_, rfl⟩; obtain ⟨K, hK⟩ : ∃ K : Nat → Prop, K = fun k => k < w2.heap.size ∨ k = b0 := ⟨_, rfl⟩; have hl := law_begun6 HG.out HB3.out hs hb; rw [hb0] at hl; rw [← hK] at hl; have HL0' := Lib.hid hl; clear hs hb hl hK))
  have HL0 : Hid (Law w K m [(p, newT 1048576)] (newT 1048576) [PBox6 p m b0] (w4.alloc (.cells #[.pointer (some ⟨p, 0, none⟩), .pointer (some ⟨m, 0, none⟩)] 28))) := HL0'.out
  clear HL0'
  try rw [hb0]
  generalize w4.alloc (.cells #[.pointer (some ⟨p, 0, none⟩), .pointer (some ⟨m, 0, none⟩)] 28) = W0 at HL0 ⊢
  clear hb0
  cases b1 with
  | false =>
    go_wp2_with fail
    go_ret
    exact ⟨rfl, HL0.out.bel⟩
  | true =>
    cases b2 with
    | false =>
      go_wp2_with fail
      go_ret
      exact ⟨rfl, HL0.out.bel⟩
    | true =>
      have HTY1 := Lib.hid (HT1.out rfl)
      have HTY2 := Lib.hid (HT2.out rfl)
      clear HT1 HT2
      have HMA := Lib.hid (tiny_many HTY1.out)
      have HMB := Lib.hid (tiny_many HTY2.out)
      rcases Classical.em (¬ Lines old) with ko | ko
      · skip
        have hbad := (anew_bad (T := newT 1048576) (q := logB) (by kernel_rfl) ko)
        have hcode := anew_code (newT 1048576) logB old
        obtain ⟨er, her⟩ : ∃ er, anewE (newT 1048576) logB old = er := ⟨_, rfl⟩
        obtain ⟨Tb, hTb⟩ : ∃ Tb, anewT (newT 1048576) logB old = Tb := ⟨_, rfl⟩
        rw [her] at hbad hcode
        have HER := Lib.hid her
        have HTB := Lib.hid hTb
        have hne := hbad.1
        clear her hTb hbad
        obtain ⟨c0, c1⟩ := (HL0.out.va 0 rfl : PBox6 p m b0 _).cells
        rcases hcode with rfl | rfl | rfl | rfl | rfl | rfl
        · exact absurd rfl hne
        all_goals
          clear hne
          go_wp2_with (first
            | (go_at_call 12; refine (HL0.out.sts.jAnew (i := 0) rfl HL0.out.gk (inv_new (room := 1048576) (by decide) (by decide)) (by decide) logB (by decide) A c old (Kd.C_below HA.out HL0.out.bel) (tiny_all HTY1.out)).mono ?_; rintro e w2 ⟨rfl, hs, hk⟩; rw [HER.out]; rw [HTB.out] at hs; have HL1 : Hid (Law w K m [(p, Tb)] (newT 1048576) [PBox6 p m b0] w2) := HL0.out.step hs hk; clear hs hk))
          go_ret
          exact ⟨rfl, HL1.out.bel⟩
      have ko := Classical.not_not.1 ko
      rcases Classical.em (¬ Lines l) with kl | kl
      · skip
        have ha := anew_ok ns_log (jn_new (R := 1048576) (by decide) (by decide) logN) log_mem lgn_mem lgn_ne ko (tiny_size HTY1.out ko) (by decide)
        have he : anewE (newT 1048576) logB old = 0 := ha.1
        have i1 : Inv 10 (anewT (newT 1048576) logB old) := ha.2.1.inv.mono (by decide)
        clear ha
        have HE1 := Lib.hid he
        clear he
        obtain ⟨T1, hT1⟩ : ∃ T1, anewT (newT 1048576) logB old = T1 := ⟨_, rfl⟩
        rw [hT1] at i1
        have HT1 := Lib.hid hT1
        clear hT1
        have HI1 := Lib.hid i1
        clear i1
        obtain ⟨c0, c1⟩ := (HL0.out.va 0 rfl : PBox6 p m b0 _).cells
        go_upto_region 9 with (first
          | (go_at_call 12; refine (HL0.out.sts.jAnew (i := 0) rfl HL0.out.gk (inv_new (room := 1048576) (by decide) (by decide)) (by decide) logB (by decide) A c old (Kd.C_below HA.out HL0.out.bel) (tiny_all HTY1.out)).mono ?_; rintro e w2 ⟨rfl, hs, hk⟩; rw [HE1.out]; rw [HT1.out] at hs; have HL1 : Hid (Law w K m [(p, T1)] (newT 1048576) [PBox6 p m b0] w2) := HL0.out.step hs hk; clear hs hk))
        clear c0 c1 HL0
        obtain ⟨c0, c1⟩ := (HL1.out.va 0 rfl : PBox6 p m b0 _).cells
        go_upto_region 10 with (first
          | (go_at_call 22; refine (HL1.out.sts.Clone (i := 0) rfl HI1.out (by decide)).mono ?_; rintro e w2 ⟨q, rfl, hs, hb⟩; have HL2 : Hid (Law w K m [(p, T1), (q, T1)] (newT 1048576) [PBox6 p m b0] w2) := HL1.out.more hs hb; clear hs hb))
        clear c0 c1 HL1
        have hbad := (anew_bad (T := T1) (q := logB) (by kernel_rfl) kl)
        have hcode := anew_code (T1) logB l
        obtain ⟨er, her⟩ : ∃ er, anewE (T1) logB l = er := ⟨_, rfl⟩
        obtain ⟨Tb, hTb⟩ : ∃ Tb, anewT (T1) logB l = Tb := ⟨_, rfl⟩
        rw [her] at hbad hcode
        have HER := Lib.hid her
        have HTB := Lib.hid hTb
        have hne := hbad.1
        clear her hTb hbad
        obtain ⟨c0, c1⟩ := (HL2.out.va 0 rfl : PBox6 p m b0 _).cells
        rcases hcode with rfl | rfl | rfl | rfl | rfl | rfl
        · exact absurd rfl hne
        all_goals
          clear hne
          go_wp2_with (first
            | (go_at_call 12; refine (HL2.out.sts.jAnew (i := 1) rfl HL2.out.gk HI1.out (by decide) logB (by decide) B d l (Kd.C_below HB.out HL2.out.bel) (tiny_all HTY2.out)).mono ?_; rintro e w2 ⟨rfl, hs, hk⟩; rw [HER.out]; rw [HTB.out] at hs; have HL3 : Hid (Law w K m [(p, T1), (q, Tb)] (newT 1048576) [PBox6 p m b0] w2) := HL2.out.step hs hk; clear hs hk))
          go_ret
          exact ⟨rfl, HL3.out.bel⟩
      have kl := Classical.not_not.1 kl
      obtain ⟨s, he1, he2, ok⟩ := anew_law HTY1.out HTY2.out ko kl many part
      obtain ⟨T1, hT1⟩ : ∃ T1, anewT (newT 1048576) logB old = T1 := ⟨_, rfl⟩
      rw [hT1] at he2 ok
      have HT1 := Lib.hid hT1
      clear hT1
      obtain ⟨T2, hT2⟩ : ∃ T2, anewT T1 logB l = T2 := ⟨_, rfl⟩
      rw [hT2] at ok
      have HT2 := Lib.hid hT2
      clear hT2
      obtain ⟨T3, hT3⟩ : ∃ T3, writeT T1 false lgnB s = T3 := ⟨_, rfl⟩
      rw [hT3] at ok
      have HT3 := Lib.hid hT3
      clear hT3
      obtain ⟨T4, hT4⟩ : ∃ T4, renameT T3 lgnB logB = T4 := ⟨_, rfl⟩
      rw [hT4] at ok
      have HT4 := Lib.hid hT4
      clear hT4
      obtain ⟨T5, hT5⟩ : ∃ T5, crashT T4 many part = T5 := ⟨_, rfl⟩
      rw [hT5] at ok
      have HT5 := Lib.hid hT5
      clear hT5
      obtain ⟨T6, hT6⟩ : ∃ T6, openT T5 logB = T6 := ⟨_, rfl⟩
      rw [hT6] at ok
      have HT6 := Lib.hid hT6
      clear hT6
      obtain ⟨T7, hT7⟩ : ∃ T7, openT T2 logB = T7 := ⟨_, rfl⟩
      rw [hT7] at ok
      have HT7 := Lib.hid hT7
      clear hT7
      have HE1 := Lib.hid he1
      have HE2 := Lib.hid he2
      have OK := Lib.hid ok
      have HRE : Hid (∃ re, readT T2 logB = (s, re)) := ⟨_, Prod.ext ok.rd rfl⟩
      have HRN : Hid (∃ rs, readT T6 lgnB = (rs, 4)) := ⟨_, Prod.ext rfl ok.no⟩
      have hsz := ok.s
      clear he1 he2 ok ko kl
      obtain ⟨re, hre⟩ := HRE.out
      obtain ⟨rs, hrs⟩ := HRN.out
      have HRD := Lib.hid hre
      have HRX := Lib.hid hrs
      clear HRE HRN hre hrs
      obtain ⟨c0, c1⟩ := (HL0.out.va 0 rfl : PBox6 p m b0 _).cells
      go_upto_region 9 with (first
        | (go_at_call 12; refine (HL0.out.sts.jAnew (i := 0) rfl HL0.out.gk (inv_new (room := 1048576) (by decide) (by decide)) (by decide) logB (by decide) A c old (Kd.C_below HA.out HL0.out.bel) (tiny_all HTY1.out)).mono ?_; rintro e w2 ⟨rfl, hs, hk⟩; rw [HE1.out]; rw [HT1.out] at hs; have HL1 : Hid (Law w K m [(p, T1)] (newT 1048576) [PBox6 p m b0] w2) := HL0.out.step hs hk; clear hs hk))
      clear c0 c1 HL0
      obtain ⟨c0, c1⟩ := (HL1.out.va 0 rfl : PBox6 p m b0 _).cells
      go_upto_region 10 with (first
        | (go_at_call 22; refine (HL1.out.sts.Clone (i := 0) rfl OK.out.i1 (by decide)).mono ?_; rintro e w2 ⟨q, rfl, hs, hb⟩; have HL2 : Hid (Law w K m [(p, T1), (q, T1)] (newT 1048576) [PBox6 p m b0] w2) := HL1.out.more hs hb; clear hs hb))
      clear c0 c1 HL1
      obtain ⟨c0, c1⟩ := (HL2.out.va 0 rfl : PBox6 p m b0 _).cells
      go_upto_region 12 with (first
        | (go_at_call 12; refine (HL2.out.sts.jAnew (i := 1) rfl HL2.out.gk OK.out.i1 (by decide) logB (by decide) B d l (Kd.C_below HB.out HL2.out.bel) (tiny_all HTY2.out)).mono ?_; rintro e w2 ⟨rfl, hs, hk⟩; rw [HE2.out]; rw [HT2.out] at hs; have HL3 : Hid (Law w K m [(p, T1), (q, T2)] (newT 1048576) [PBox6 p m b0] w2) := HL2.out.step hs hk; clear hs hk))
      clear c0 c1 HL2
      obtain ⟨c0, c1⟩ := (HL3.out.va 0 rfl : PBox6 p m b0 _).cells
      go_upto_region 13 with (first
        | (go_at_call 16; refine (HL3.out.sts.Read (i := 1) rfl logB (by decide)).mono ?_; rintro e w2 ⟨rfl, rfl⟩; rw [HRD.out]))
      go_upto_region 14 with (first
        | (go_at_call 23; refine (HL3.out.sts.Write (i := 0) rfl HL3.out.glob.g OK.out.i1 (by decide) lgnB s (by decide) (Nat.le_trans hsz (by decide))).mono ?_; rintro e w2 ⟨rfl, hs, hk⟩; rw [HT3.out] at hs; have HL4 : Hid (Law w K m [(p, T3), (q, T2)] (newT 1048576) [PBox6 p m b0] w2) := HL3.out.step hs hk; clear hs hk))
      clear c0 c1 HL3
      obtain ⟨c0, c1⟩ := (HL4.out.va 0 rfl : PBox6 p m b0 _).cells
      go_upto_region 15 with (first
        | (go_at_call 24; refine (HL4.out.sts.Rename (i := 0) rfl HL4.out.glob.g OK.out.i3 (by decide) lgnB logB (by decide) (by decide)).mono ?_; rintro e w2 ⟨rfl, hs, hk⟩; rw [HT4.out] at hs; have HL5 : Hid (Law w K m [(p, T4), (q, T2)] (newT 1048576) [PBox6 p m b0] w2) := HL4.out.step hs hk; clear hs hk))
      clear c0 c1 HL4
      obtain ⟨c0, c1⟩ := (HL5.out.va 0 rfl : PBox6 p m b0 _).cells
      go_upto_region 16 with (first
        | (go_at_call 20; refine (HL5.out.sts.Crash (i := 0) rfl HL5.out.glob.g OK.out.i4 (by decide) many part hpart.2).mono ?_; rintro e w2 ⟨rfl, hs, hk⟩; rw [HT5.out] at hs; have HL6 : Hid (Law w K m [(p, T5), (q, T2)] (newT 1048576) [PBox6 p m b0] w2) := HL5.out.step hs hk; clear hs hk))
      clear c0 c1 HL5
      clear HT1 HT2 HT3 HT4 HT5 hsz HRD
      rcases Classical.em (2 ≤ many) with h2 | h2
      · skip
        have HX5 : Hid (openE T5 logB = 0 ∧ openL T5 logB = l) := ⟨OK.out.e5, by rw [OK.out.l5, if_pos h2]⟩
        have HX2 : Hid (openE T2 logB = 0 ∧ openL T2 logB = l) := ⟨OK.out.e2, OK.out.l2⟩
        obtain ⟨c0, c1⟩ := (HL6.out.va 0 rfl : PBox6 p m b0 _).cells
        go_upto_region 17 with (first
          | (go_at_call_of 13 (Value.pointer (some ⟨p, 0, none⟩)); refine (HL6.out.sts.jOpen (i := 0) rfl HL6.out.gk OK.out.i5 (by decide) OK.out.r5 logB (by decide)).mono ?_; rintro e w2 ⟨v1, K1, rfl, hKK, hs, hk, hv⟩; rw [HT6.out] at hs; rw [HX5.out.1]; rw [HX5.out.2] at hv; obtain ⟨A1, n1, rfl⟩ := Kd.S_slice hv; have HL7 := Lib.hid (HL6.out.opened hKK hs hk hv); clear hKK hs hk hv))
        clear c0 c1
        clear HL6
        obtain ⟨c0, c1⟩ := (HL7.out.va 1 rfl : PBox6 p m b0 _).cells
        go_upto_region 18 with (first
          | (go_at_call_of 13 (Value.pointer (some ⟨q, 0, none⟩)); refine (HL7.out.sts.jOpen (i := 1) rfl HL7.out.gk OK.out.i2 (by decide) OK.out.r2 logB (by decide)).mono ?_; rintro e w2 ⟨v2, K2, rfl, hKK, hs, hk, hv⟩; rw [HT7.out] at hs; rw [HX2.out.1]; rw [HX2.out.2] at hv; obtain ⟨A2, n2, rfl⟩ := Kd.S_slice hv; have HL8 := Lib.hid (HL7.out.opened hKK hs hk hv); clear hKK hs hk hv))
        clear c0 c1
        clear HL7
        obtain ⟨c0, c1⟩ := (HL8.out.va 2 rfl : PBox6 p m b0 _).cells
        go_upto_region 19 with (first
          | (go_at_call 16; refine (HL8.out.sts.Read (i := 0) rfl lgnB (by decide)).mono ?_; rintro e w9 ⟨rfl, rfl⟩; rw [HRX.out]))
        obtain ⟨-, hcy, hCy⟩ := Kd.S_reads' (HL8.out.va 0 rfl : Kd.S kLL _ _ _ _ (Value.slice A2 _ n2) l)
        obtain ⟨-, hcx, hCx⟩ := Kd.S_reads' (HL8.out.va 1 rfl : Kd.S kLL _ _ _ _ (Value.slice A1 _ n1) l)
        have SY := Lib.hid (same_at hCy hcy (Kd.C_below HB.out HL8.out.bel) hcB HMB.out (decide_eq_true rfl))
        have SX := Lib.hid (same_at hCx hcx (Kd.C_below HB.out HL8.out.bel) hcB HMB.out (decide_eq_true rfl))
        clear hcy hCy hcx hCx c0 c1
        have hm2 : decide (2 ≤ many) = true := decide_eq_true (by omega)
        have hm3 : decide (many < 2) = false := decide_eq_false (by omega)
        go_wp2_with (first
          | (go_at_call 14; ((with_reducible refine (SY.out.at _ (by first | exact Below.refl _ _)).mono ?_); rintro e w20 ⟨rfl, hb⟩; have HF0 := Lib.hid hb; clear hb))
          | (go_at_call 14; ((with_reducible refine (SX.out.at _ (by first | exact HF0.out | exact Below.refl _ _)).mono ?_); rintro e w21 ⟨rfl, hb⟩; have HF1 := Lib.hid hb; clear hb)))
        go_ret
        exact ⟨rfl, HL8.out.bel.trans (HF1.out.mono HL8.out.bel.size)⟩
      rcases Classical.em (old = l) with hol | hol
      · skip
        have HOL := Lib.hid hol
        clear hol
        have HX5 : Hid (openE T5 logB = 0 ∧ openL T5 logB = old) := ⟨OK.out.e5, by rw [OK.out.l5, if_neg (by omega)]⟩
        have HX2 : Hid (openE T2 logB = 0 ∧ openL T2 logB = l) := ⟨OK.out.e2, OK.out.l2⟩
        obtain ⟨c0, c1⟩ := (HL6.out.va 0 rfl : PBox6 p m b0 _).cells
        go_upto_region 17 with (first
          | (go_at_call_of 13 (Value.pointer (some ⟨p, 0, none⟩)); refine (HL6.out.sts.jOpen (i := 0) rfl HL6.out.gk OK.out.i5 (by decide) OK.out.r5 logB (by decide)).mono ?_; rintro e w2 ⟨v1, K1, rfl, hKK, hs, hk, hv⟩; rw [HT6.out] at hs; rw [HX5.out.1]; rw [HX5.out.2] at hv; obtain ⟨A1, n1, rfl⟩ := Kd.S_slice hv; have HL7 := Lib.hid (HL6.out.opened hKK hs hk hv); clear hKK hs hk hv))
        clear c0 c1
        clear HL6
        obtain ⟨c0, c1⟩ := (HL7.out.va 1 rfl : PBox6 p m b0 _).cells
        go_upto_region 18 with (first
          | (go_at_call_of 13 (Value.pointer (some ⟨q, 0, none⟩)); refine (HL7.out.sts.jOpen (i := 1) rfl HL7.out.gk OK.out.i2 (by decide) OK.out.r2 logB (by decide)).mono ?_; rintro e w2 ⟨v2, K2, rfl, hKK, hs, hk, hv⟩; rw [HT7.out] at hs; rw [HX2.out.1]; rw [HX2.out.2] at hv; obtain ⟨A2, n2, rfl⟩ := Kd.S_slice hv; have HL8 := Lib.hid (HL7.out.opened hKK hs hk hv); clear hKK hs hk hv))
        clear c0 c1
        clear HL7
        obtain ⟨c0, c1⟩ := (HL8.out.va 2 rfl : PBox6 p m b0 _).cells
        go_upto_region 19 with (first
          | (go_at_call 16; refine (HL8.out.sts.Read (i := 0) rfl lgnB (by decide)).mono ?_; rintro e w9 ⟨rfl, rfl⟩; rw [HRX.out]))
        obtain ⟨-, hcy, hCy⟩ := Kd.S_reads' (HL8.out.va 0 rfl : Kd.S kLL _ _ _ _ (Value.slice A2 _ n2) l)
        obtain ⟨-, hcx, hCx⟩ := Kd.S_reads' (HL8.out.va 1 rfl : Kd.S kLL _ _ _ _ (Value.slice A1 _ n1) old)
        have SY := Lib.hid (same_at hCy hcy (Kd.C_below HB.out HL8.out.bel) hcB HMB.out (decide_eq_true rfl))
        have SX := Lib.hid (same_at hCx hcx (Kd.C_below HB.out HL8.out.bel) hcB HMA.out (decide_eq_true HOL.out))
        have SL := Lib.hid (same_at (Kd.C_below HB.out HL8.out.bel) hcB (Kd.C_below HA.out HL8.out.bel) hcA HMB.out (decide_eq_true HOL.out.symm))
        clear hcy hCy hcx hCx c0 c1
        have hm2 : decide (2 ≤ many) = false := decide_eq_false (by omega)
        have hm3 : decide (many < 2) = true := decide_eq_true (by omega)
        go_wp2_with (first
          | (go_at_call 14; ((with_reducible refine (SY.out.at _ (by first | exact Below.refl _ _)).mono ?_); rintro e w20 ⟨rfl, hb⟩; have HF0 := Lib.hid hb; clear hb))
          | (go_at_call 14; ((with_reducible refine (SX.out.at _ (by first | exact HF0.out | exact Below.refl _ _)).mono ?_); rintro e w21 ⟨rfl, hb⟩; have HF1 := Lib.hid hb; clear hb))
          | (go_at_call 14; ((with_reducible refine (SL.out.at _ (by first | exact HF1.out | exact HF0.out | exact Below.refl _ _)).mono ?_); rintro e w22 ⟨rfl, hb⟩; have HF2 := Lib.hid hb; clear hb)))
        go_ret
        exact ⟨rfl, HL8.out.bel.trans (HF2.out.mono HL8.out.bel.size)⟩
      · skip
        have HOL := Lib.hid hol
        clear hol
        have HX5 : Hid (openE T5 logB = 0 ∧ openL T5 logB = old) := ⟨OK.out.e5, by rw [OK.out.l5, if_neg (by omega)]⟩
        have HX2 : Hid (openE T2 logB = 0 ∧ openL T2 logB = l) := ⟨OK.out.e2, OK.out.l2⟩
        obtain ⟨c0, c1⟩ := (HL6.out.va 0 rfl : PBox6 p m b0 _).cells
        go_upto_region 17 with (first
          | (go_at_call_of 13 (Value.pointer (some ⟨p, 0, none⟩)); refine (HL6.out.sts.jOpen (i := 0) rfl HL6.out.gk OK.out.i5 (by decide) OK.out.r5 logB (by decide)).mono ?_; rintro e w2 ⟨v1, K1, rfl, hKK, hs, hk, hv⟩; rw [HT6.out] at hs; rw [HX5.out.1]; rw [HX5.out.2] at hv; obtain ⟨A1, n1, rfl⟩ := Kd.S_slice hv; have HL7 := Lib.hid (HL6.out.opened hKK hs hk hv); clear hKK hs hk hv))
        clear c0 c1
        clear HL6
        obtain ⟨c0, c1⟩ := (HL7.out.va 1 rfl : PBox6 p m b0 _).cells
        go_upto_region 18 with (first
          | (go_at_call_of 13 (Value.pointer (some ⟨q, 0, none⟩)); refine (HL7.out.sts.jOpen (i := 1) rfl HL7.out.gk OK.out.i2 (by decide) OK.out.r2 logB (by decide)).mono ?_; rintro e w2 ⟨v2, K2, rfl, hKK, hs, hk, hv⟩; rw [HT7.out] at hs; rw [HX2.out.1]; rw [HX2.out.2] at hv; obtain ⟨A2, n2, rfl⟩ := Kd.S_slice hv; have HL8 := Lib.hid (HL7.out.opened hKK hs hk hv); clear hKK hs hk hv))
        clear c0 c1
        clear HL7
        obtain ⟨c0, c1⟩ := (HL8.out.va 2 rfl : PBox6 p m b0 _).cells
        go_upto_region 19 with (first
          | (go_at_call 16; refine (HL8.out.sts.Read (i := 0) rfl lgnB (by decide)).mono ?_; rintro e w9 ⟨rfl, rfl⟩; rw [HRX.out]))
        obtain ⟨-, hcy, hCy⟩ := Kd.S_reads' (HL8.out.va 0 rfl : Kd.S kLL _ _ _ _ (Value.slice A2 _ n2) l)
        obtain ⟨-, hcx, hCx⟩ := Kd.S_reads' (HL8.out.va 1 rfl : Kd.S kLL _ _ _ _ (Value.slice A1 _ n1) old)
        have SY := Lib.hid (same_at hCy hcy (Kd.C_below HB.out HL8.out.bel) hcB HMB.out (decide_eq_true rfl))
        have SX := Lib.hid (same_at hCx hcx (Kd.C_below HB.out HL8.out.bel) hcB HMA.out (decide_eq_false HOL.out))
        have SL := Lib.hid (same_at hCx hcx (Kd.C_below HA.out HL8.out.bel) hcA HMA.out (decide_eq_true rfl))
        clear hcy hCy hcx hCx c0 c1
        have hm2 : decide (2 ≤ many) = false := decide_eq_false (by omega)
        have hm3 : decide (many < 2) = true := decide_eq_true (by omega)
        go_wp2_with (first
          | (go_at_call 14; ((with_reducible refine (SY.out.at _ (by first | exact Below.refl _ _)).mono ?_); rintro e w20 ⟨rfl, hb⟩; have HF0 := Lib.hid hb; clear hb))
          | (go_at_call 14; ((with_reducible refine (SX.out.at _ (by first | exact HF0.out | exact Below.refl _ _)).mono ?_); rintro e w21 ⟨rfl, hb⟩; have HF1 := Lib.hid hb; clear hb))
          | (go_at_call 14; ((with_reducible refine (SL.out.at _ (by first | exact HF1.out | exact HF0.out | exact Below.refl _ _)).mono ?_); rintro e w22 ⟨rfl, hb⟩; have HF2 := Lib.hid hb; clear hb)))
        go_ret
        exact ⟨rfl, HL8.out.bel.trans (HF2.out.mono HL8.out.bel.size)⟩
end
end Go.Proofs.YtebfkifhkaeknaaGreatDoor.Fr
