import Derived.Test.YtebfkifhkaeknaaGreatDoorQC
import Derived.Test.YtebfkifhkaeknaaGreatDoorKMr
/- JournalKeeps. -/
namespace Go.Proofs.YtebfkifhkaeknaaGreatDoor.Fr
open Go.RowKit Go.Proofs.YtebfkifhkaeknaaGreatDoor.F Go.Proofs.YtebfkifhkaeknaaGreatDoorW.PrintWords
open Go.Proofs.YtebfkifhkaeknaaGreatDoor.Hand (putV takeV scanV)
open Go.Proofs.YtebfkifhkaeknaaGreatDoor.PureL (cat cat_app cat_behind cat_size)
set_option linter.unusedVariables false
set_option linter.unusedSimpArgs false

section
variable {w : World}
set_option maxHeartbeats 8000000 in
set_option maxRecDepth 100000 in
theorem R_JournalKeeps (hG : Hand2.Glob w) (A : Option Addr) (c : Nat) (l : List (List ByteArray)) (hA : Kd.C kLL w A l.length l) (hcA : l.length ≤ c) (at0 : Int) (wat0 : (Lit.int .i64 at0).wf = true) (many : Int) (wmany : (Lit.int .i64 many).wf = true) (part : Int) (wpart : (Lit.int .i64 part).wf = true) :
    Calls Tryz.prog 5 #[.slice A l.length c, .int .i64 at0, .int .i64 many, .int .i64 part] w fun e w' => e = .returned (.bool true) ∧ Below w.heap.size w w' := by
  have HG := Lib.hid hG
  have HA := Lib.hid hA
  have hat0 := int_wf wat0
  have hmany := int_wf wmany
  have hpart := int_wf wpart
  clear hG hA
  go_enter Tryz.func5, Tryz.ntmps5
  go_upto_region 4 with (first
    | (go_at_call 8; refine (shown6_call HG.out).mono ?_; rintro e w1 ⟨rfl, hb⟩; have HB1 := Lib.hid hb; clear hb)
    | (go_at_call_of 9 (Value.slice A l.length c); refine (tiny_call (Kd.C_below HA.out HB1.out) hcA).mono ?_; rintro e w2 ⟨b1, rfl, ht, hb⟩; have HT1 := Lib.hid ht; have HB2 := Lib.hid (HB1.out.trans (hb.mono HB1.out.size)); clear ht hb)
    | (go_at_call 10; refine (begun6_sts _ 1048576 (by decide) (by decide)).mono ?_; rintro e w4 ⟨p, m, rfl, hs, hb⟩; obtain ⟨b0, hb0⟩ : ∃ b0, w4.heap.size = b0 := ⟨_, rfl⟩; obtain ⟨K, hK⟩ : ∃ K : Nat → Prop, K = fun k => k < w2.heap.size ∨ k = b0 := ⟨_, rfl⟩; have hl := law_begun6 HG.out HB2.out hs hb; rw [hb0] at hl; rw [← hK] at hl; have HL0' := Lib.hid hl; clear hs hb hl hK))
  have HL0 : Hid (Law w K m [(p, newT 1048576)] (newT 1048576) [PBox6 p m b0] (w4.alloc (.cells #[.pointer (some ⟨p, 0, none⟩), .pointer (some ⟨m, 0, none⟩)] 28))) := HL0'.out
  clear HL0'
  try rw [hb0]
  generalize w4.alloc (.cells #[.pointer (some ⟨p, 0, none⟩), .pointer (some ⟨m, 0, none⟩)] 28) = W0 at HL0 ⊢
  clear hb0
  cases b1 with
  | false =>
    go_wp2_with fail
    go_ret
    exact ⟨rfl, HL0.out.bel⟩
  | true =>
    have HTY1 := Lib.hid (HT1.out rfl)
    clear HT1
    have hl20 := HTY1.out.1
    obtain ⟨i0, hi, hz0, hz1, hz2⟩ := info_parts Hand.info23
    have HJ0 : Hid (J1 1048576 logN logB 0 0 (newT 1048576) [] []) := j1_new (by decide) (by decide) _ _
    have HIN0 : Hid (InAt w K W0 (.slice none 0 0) [] []) := in_nil w W0 K
    obtain ⟨c0, c1⟩ := (HL0.out.va 0 rfl : PBox6 p m b0 _).cells
    go_upto_region 9 with (first
      | (go_at_call 18; refine (pick6_call at0 ((l.length : Int) + 1) hat0 (by omega) _).mono ?_; rintro e w2 ⟨rfl, hb⟩; have HL1 : Hid (Law w K m [(p, newT 1048576)] (newT 1048576) [PBox6 p m b0] w2) := HL0.out.below hb; have HIN1 := Lib.hid (HIN0.out.below hb); clear hb))
    clear c0 c1 HL0 HIN0
    obtain ⟨hp0, hp1⟩ := pickn_lt at0 ((l.length : Int) + 1) (by omega)
    obtain ⟨kk, hkk⟩ : ∃ kk : Nat, pickI at0 ((l.length : Int) + 1) = (kk : Int) := ⟨(pickI at0 ((l.length : Int) + 1)).toNat, by omega⟩
    rw [hkk]
    have hkl : kk ≤ l.length := by omega
    clear hp0 hp1 hkk
    go_wp2_with fail
    go_loopw [13, 14, 16] (fun vin syn i wr => ∃ (k : Nat) (T : TS) (K : Nat → Prop) (Av : Option Addr) (cv : Nat) (cells : List Value) (xs ys zs : List (List ByteArray)), k ≤ l.length ∧ i = .int .i64 k ∧ vin = .slice Av zs.length cv ∧ syn = .int .i64 xs.length ∧ Hid (Law w K m [(p, T)] (newT 1048576) [PBox6 p m b0] wr) ∧ Hid (InAt w K wr (.slice Av zs.length cv) zs cells) ∧ Hid (J1 1048576 logN logB (2 * k) (13000 * k) T xs ys) ∧ Hid (zs = xs ++ ys) ∧ zs.length ≤ k)
      (fun _ _ i _ => l.length - (intOf i).toNat)
    case atStart => exact ⟨0, _, K, none, 0, [], [], [], [], Nat.zero_le _, rfl, rfl, rfl, HL1.out, HIN1.out, HJ0.out, rfl, Nat.le_refl _⟩
    case round =>
      clear HL1 HIN1 HJ0 K
      obtain ⟨k, T, K, Av, cv, cells, xs, ys, zs, hk, rfl, rfl, rfl, HL0, HIN, HJ, HZ, hzk⟩ := hrel
      by_cases hlk : k < l.length
      · skip
        obtain ⟨ad, Ae, ce, e, hce, hcl, hCe⟩ := at_LL HA.out hlk
        subst e
        have HTX := Lib.hid (HTY1.out.2 _ (List.getElem_mem hlk))
        generalize l[k] = x at hce hcl hCe HTX
        have HCE := Lib.hid hce
        have HCX := Lib.hid hCe
        have had := cell_lt hce
        clear hce hCe
        have HNU : Hid (2 * k ≤ 1000000 ∧ 2 * k + 2 ≤ 1000000 ∧ 13000 * k + 13000 ≤ 1048576) := by unfold Hid; omega
        have H63 : Hid (zs.length + 1 ≤ maxLen) := by unfold Hid maxLen; omega
        have HBY : Hid ((zs.length + 1) * 24 ≤ 140737488355328) := by unfold Hid; omega
        have hw0 : w.heap.size ≤ w.heap.size := Nat.le_refl _
        by_cases hkk : k = kk
        · skip
          subst hkk
          obtain ⟨c0, c1⟩ := (HL0.out.va 0 rfl : PBox6 p m b0 _).cells
          go_upto_region 15 with (first
            | (go_at_call 19; refine (HL0.out.sts.Sync (i := 0) rfl HL0.out.glob.g HJ.out.inv HNU.out.1).mono ?_; rintro e w2 ⟨rfl, hs, hk⟩; have HL1 : Hid (Law w K m [(p, syncT T)] (newT 1048576) [PBox6 p m b0] w2) := HL0.out.step hs hk; have HIN1 := Lib.hid (HIN.out.kp hk); clear hs hk))
          clear c0 c1 HL0
          have HJ1 : Hid (J1 1048576 logN logB (2 * k + 1) (13000 * k) (syncT T) zs []) := by have := (HJ.out.sync).mono (n' := 2 * k + 1) (u' := 13000 * k) (by omega) (Nat.le_refl _); rw [← HZ.out] at this; exact this
          generalize syncT T = T1 at HL1 HJ1
          have HZ1 : Hid (zs = zs ++ []) := (List.append_nil zs).symm
          clear HJ HZ HIN
          have hcode := put_code x
          skip
          rcases hcode with hc0 | hc0 | hc0
          · skip
            obtain ⟨ha1, ha2⟩ := HJ1.out.add ns_log log_mem lgn_mem hc0 (lineL_le hc0) HNU.out.2.2
            obtain ⟨Tb, hTb⟩ : ∃ Tb, addT T1 logB x = Tb := ⟨_, rfl⟩
            rw [hTb] at ha2
            have HAE := Lib.hid ha1
            have HTB := Lib.hid hTb
            have HJ2 := Lib.hid ha2
            clear ha1 ha2 hTb hc0
            have HL1d : Hid (Law w K m [(p, T1)] (newT 1048576) [PBox6 p m b0] (World.drew _)) := HL1.out.below (Below.refl _ _).drew
            have HIND := Lib.hid (HIN1.out.below (Below.refl _ _).drew)
            obtain ⟨c0, c1⟩ := (HL1.out.va 0 rfl : PBox6 p m b0 _).cells
            have cx := (HL1.out.bel.cell (p := ad.add k) had).trans HCE.out
            (go_region_held3 (fun W => (W.cell? ⟨b0, 0, none⟩ = some (.pointer (some ⟨p, 0, none⟩)) ∧ W.cell? (ad.add k) = some (.slice Ae x.length ce)) ∧ Hid (Below w.heap.size w W)) (first | exact ⟨⟨(HL2.out.va 0 rfl : PBox6 p m b0 _).cells.1, (HL2.out.bel.cell (p := ad.add k) had).trans HCE.out⟩, HL2.out.bel⟩ | exact ⟨⟨(HL1d.out.va 0 rfl : PBox6 p m b0 _).cells.1, (HL1d.out.bel.cell (p := ad.add k) had).trans HCE.out⟩, HL1d.out.bel⟩) (first
              | (go_at_call 11; refine (HL1d.out.sts.jAdd (i := 0) rfl HL1d.out.glob HJ1.out.inv (by omega) logB (by decide) Ae ce x (kd_str_below HCX.out HL1d.out.bel) hcl (fun y hy => Nat.le_trans (HTX.out.2 y hy) (by decide))).mono ?_; rintro e w2 ⟨rfl, hs, hk⟩; rw [HAE.out]; rw [HTB.out] at hs; have HL2 : Hid (Law w K m [(p, Tb)] (newT 1048576) [PBox6 p m b0] w2) := HL1d.out.step hs hk; have HIN2 := Lib.hid (HIND.out.kp hk); clear hs hk)))
            clear c0 c1 cx HL1 HL1d HIND
            go_upto_region 16 with fail
            skip
            have cx := (HL2.out.bel.cell (p := ad.add k) had).trans HCE.out
            have HRW := Lib.hid ((HIN2.out.below (newBelow _ (.cells #[.slice Ae x.length ce] 33))).row)
            have HNW := Lib.hid (news1 w2 (.slice Ae x.length ce))
            have HONE : Hid (∀ u ∈ [Value.slice Ae x.length ce], u.oneCell' = true) := fun u hu => by rw [List.mem_singleton.1 hu]; rfl
            have HBA : Hid (w.heap.size ≤ (w2.alloc (.cells #[.slice Ae x.length ce] 33)).heap.size) := by rw [Hid, World.size_alloc]; exact Nat.le_succ_of_le HL2.out.bel.size
            go_wp2_with (first
              | (at_builtin; refine wpList_append_own_at _ rfl _ _ 22 rfl w.heap.size 33 i0 _ 1 24 Tryz.underlying22 hi hz0 hz1 hz2 rfl (by decide) _ (zs.length) _ rfl HRW.out ⟨w2.heap.size, 0, none⟩ 1 1 [.slice Ae x.length ce] rfl rfl HNW.out HONE.out H63.out HBY.out HBA.out ?_; intro v9 w9 h1 h2 h3 h4; obtain ⟨K9, hl9, hn9, -, -, -⟩ := in_step HL2.out HIN2.out hcl HCX.out (box_in HIN2.out (HL2.out.va 0 rfl)) h1 h2 h4; obtain ⟨A9, c9, rfl⟩ := hn9.slice; have HL9 := Lib.hid hl9; have HN9 := Lib.hid hn9; clear h1 h2 h3 h4 hl9 hn9))
            have hz1' : (zs ++ [x]).length = zs.length + 1 := by rw [List.length_append]; rfl
            go_roundw
            case rel =>
              refine ⟨k + 1, Tb, K9, A9, c9, _, zs, [] ++ [x], zs ++ [x], by omega, by go_num, ?_, ?_, HL9.out, HN9.out, HJ2.out.mono (by omega) (by omega), ?_, by omega⟩
              · rw [hz1']
              · rfl
              · rw [Hid, ← List.append_assoc, ← HZ1.out]
            case measure => simp [intOf]; omega
          · skip
            obtain ⟨ha1, ha2⟩ := add_bad (T := T1) (q := logB) (l := x) (by kernel_rfl) (by omega)
            rw [hc0] at ha1
            have HAE := Lib.hid ha1
            have HTB := Lib.hid ha2
            clear ha1 ha2 hc0
            have HL1d : Hid (Law w K m [(p, T1)] (newT 1048576) [PBox6 p m b0] (World.drew _)) := HL1.out.below (Below.refl _ _).drew
            have HIND := Lib.hid (HIN1.out.below (Below.refl _ _).drew)
            obtain ⟨c0, c1⟩ := (HL1.out.va 0 rfl : PBox6 p m b0 _).cells
            have cx := (HL1.out.bel.cell (p := ad.add k) had).trans HCE.out
            (go_region_held3 (fun W => (W.cell? ⟨b0, 0, none⟩ = some (.pointer (some ⟨p, 0, none⟩)) ∧ W.cell? (ad.add k) = some (.slice Ae x.length ce)) ∧ Hid (Below w.heap.size w W)) (first | exact ⟨⟨(HL2.out.va 0 rfl : PBox6 p m b0 _).cells.1, (HL2.out.bel.cell (p := ad.add k) had).trans HCE.out⟩, HL2.out.bel⟩ | exact ⟨⟨(HL1d.out.va 0 rfl : PBox6 p m b0 _).cells.1, (HL1d.out.bel.cell (p := ad.add k) had).trans HCE.out⟩, HL1d.out.bel⟩) (first
              | (go_at_call 11; refine (HL1d.out.sts.jAdd (i := 0) rfl HL1d.out.glob HJ1.out.inv (by omega) logB (by decide) Ae ce x (kd_str_below HCX.out HL1d.out.bel) hcl (fun y hy => Nat.le_trans (HTX.out.2 y hy) (by decide))).mono ?_; rintro e w2 ⟨rfl, hs, hk⟩; rw [HAE.out]; rw [HTB.out] at hs; have HL2 : Hid (Law w K m [(p, T1)] (newT 1048576) [PBox6 p m b0] w2) := HL1d.out.step hs hk; have HIN2 := Lib.hid (HIND.out.kp hk); clear hs hk)))
            clear c0 c1 cx HL1 HL1d HIND
            go_wp2_with fail
            go_roundw
            case rel => exact ⟨k + 1, T1, K, Av, cv, cells, zs, [], zs, by omega, by go_num, rfl, rfl, HL2.out, HIN2.out, HJ1.out.mono (by omega) (by omega), HZ1.out, by omega⟩
            case measure => simp [intOf]; omega
          · skip
            obtain ⟨ha1, ha2⟩ := add_bad (T := T1) (q := logB) (l := x) (by kernel_rfl) (by omega)
            rw [hc0] at ha1
            have HAE := Lib.hid ha1
            have HTB := Lib.hid ha2
            clear ha1 ha2 hc0
            have HL1d : Hid (Law w K m [(p, T1)] (newT 1048576) [PBox6 p m b0] (World.drew _)) := HL1.out.below (Below.refl _ _).drew
            have HIND := Lib.hid (HIN1.out.below (Below.refl _ _).drew)
            obtain ⟨c0, c1⟩ := (HL1.out.va 0 rfl : PBox6 p m b0 _).cells
            have cx := (HL1.out.bel.cell (p := ad.add k) had).trans HCE.out
            (go_region_held3 (fun W => (W.cell? ⟨b0, 0, none⟩ = some (.pointer (some ⟨p, 0, none⟩)) ∧ W.cell? (ad.add k) = some (.slice Ae x.length ce)) ∧ Hid (Below w.heap.size w W)) (first | exact ⟨⟨(HL2.out.va 0 rfl : PBox6 p m b0 _).cells.1, (HL2.out.bel.cell (p := ad.add k) had).trans HCE.out⟩, HL2.out.bel⟩ | exact ⟨⟨(HL1d.out.va 0 rfl : PBox6 p m b0 _).cells.1, (HL1d.out.bel.cell (p := ad.add k) had).trans HCE.out⟩, HL1d.out.bel⟩) (first
              | (go_at_call 11; refine (HL1d.out.sts.jAdd (i := 0) rfl HL1d.out.glob HJ1.out.inv (by omega) logB (by decide) Ae ce x (kd_str_below HCX.out HL1d.out.bel) hcl (fun y hy => Nat.le_trans (HTX.out.2 y hy) (by decide))).mono ?_; rintro e w2 ⟨rfl, hs, hk⟩; rw [HAE.out]; rw [HTB.out] at hs; have HL2 : Hid (Law w K m [(p, T1)] (newT 1048576) [PBox6 p m b0] w2) := HL1d.out.step hs hk; have HIN2 := Lib.hid (HIND.out.kp hk); clear hs hk)))
            clear c0 c1 cx HL1 HL1d HIND
            go_wp2_with fail
            go_roundw
            case rel => exact ⟨k + 1, T1, K, Av, cv, cells, zs, [], zs, by omega, by go_num, rfl, rfl, HL2.out, HIN2.out, HJ1.out.mono (by omega) (by omega), HZ1.out, by omega⟩
            case measure => simp [intOf]; omega
        · skip
          have hd1 : decide ((k : Int) = (kk : Int)) = false := decide_eq_false (by omega)
          have hd2 : ((k : Int) == (kk : Int)) = false := beq_eq_false_iff_ne.2 (by omega)
          go_upto_region 15 with fail
          clear hd1 hd2
          have HJ1 : Hid (J1 1048576 logN logB (2 * k + 1) (13000 * k) T xs ys) := HJ.out.mono (by omega) (Nat.le_refl _)
          clear HJ
          have hcode := put_code x
          skip
          rcases hcode with hc0 | hc0 | hc0
          · skip
            obtain ⟨ha1, ha2⟩ := HJ1.out.add ns_log log_mem lgn_mem hc0 (lineL_le hc0) HNU.out.2.2
            obtain ⟨Tb, hTb⟩ : ∃ Tb, addT T logB x = Tb := ⟨_, rfl⟩
            rw [hTb] at ha2
            have HAE := Lib.hid ha1
            have HTB := Lib.hid hTb
            have HJ2 := Lib.hid ha2
            clear ha1 ha2 hTb hc0
            have HL0d : Hid (Law w K m [(p, T)] (newT 1048576) [PBox6 p m b0] (World.drew _)) := HL0.out.below (Below.refl _ _).drew
            have HIND := Lib.hid (HIN.out.below (Below.refl _ _).drew)
            obtain ⟨c0, c1⟩ := (HL0.out.va 0 rfl : PBox6 p m b0 _).cells
            have cx := (HL0.out.bel.cell (p := ad.add k) had).trans HCE.out
            (go_region_held3 (fun W => (W.cell? ⟨b0, 0, none⟩ = some (.pointer (some ⟨p, 0, none⟩)) ∧ W.cell? (ad.add k) = some (.slice Ae x.length ce)) ∧ Hid (Below w.heap.size w W)) (first | exact ⟨⟨(HL1.out.va 0 rfl : PBox6 p m b0 _).cells.1, (HL1.out.bel.cell (p := ad.add k) had).trans HCE.out⟩, HL1.out.bel⟩ | exact ⟨⟨(HL0d.out.va 0 rfl : PBox6 p m b0 _).cells.1, (HL0d.out.bel.cell (p := ad.add k) had).trans HCE.out⟩, HL0d.out.bel⟩) (first
              | (go_at_call 11; refine (HL0d.out.sts.jAdd (i := 0) rfl HL0d.out.glob HJ1.out.inv (by omega) logB (by decide) Ae ce x (kd_str_below HCX.out HL0d.out.bel) hcl (fun y hy => Nat.le_trans (HTX.out.2 y hy) (by decide))).mono ?_; rintro e w2 ⟨rfl, hs, hk⟩; rw [HAE.out]; rw [HTB.out] at hs; have HL1 : Hid (Law w K m [(p, Tb)] (newT 1048576) [PBox6 p m b0] w2) := HL0d.out.step hs hk; have HIN2 := Lib.hid (HIND.out.kp hk); clear hs hk)))
            clear c0 c1 cx HL0 HL0d HIND
            go_upto_region 16 with fail
            skip
            have cx := (HL1.out.bel.cell (p := ad.add k) had).trans HCE.out
            have HRW := Lib.hid ((HIN2.out.below (newBelow _ (.cells #[.slice Ae x.length ce] 33))).row)
            have HNW := Lib.hid (news1 w2 (.slice Ae x.length ce))
            have HONE : Hid (∀ u ∈ [Value.slice Ae x.length ce], u.oneCell' = true) := fun u hu => by rw [List.mem_singleton.1 hu]; rfl
            have HBA : Hid (w.heap.size ≤ (w2.alloc (.cells #[.slice Ae x.length ce] 33)).heap.size) := by rw [Hid, World.size_alloc]; exact Nat.le_succ_of_le HL1.out.bel.size
            go_wp2_with (first
              | (at_builtin; refine wpList_append_own_at _ rfl _ _ 22 rfl w.heap.size 33 i0 _ 1 24 Tryz.underlying22 hi hz0 hz1 hz2 rfl (by decide) _ (zs.length) _ rfl HRW.out ⟨w2.heap.size, 0, none⟩ 1 1 [.slice Ae x.length ce] rfl rfl HNW.out HONE.out H63.out HBY.out HBA.out ?_; intro v9 w9 h1 h2 h3 h4; obtain ⟨K9, hl9, hn9, -, -, -⟩ := in_step HL1.out HIN2.out hcl HCX.out (box_in HIN2.out (HL1.out.va 0 rfl)) h1 h2 h4; obtain ⟨A9, c9, rfl⟩ := hn9.slice; have HL9 := Lib.hid hl9; have HN9 := Lib.hid hn9; clear h1 h2 h3 h4 hl9 hn9))
            have hz1' : (zs ++ [x]).length = zs.length + 1 := by rw [List.length_append]; rfl
            go_roundw
            case rel =>
              refine ⟨k + 1, Tb, K9, A9, c9, _, xs, ys ++ [x], zs ++ [x], by omega, by go_num, ?_, ?_, HL9.out, HN9.out, HJ2.out.mono (by omega) (by omega), ?_, by omega⟩
              · rw [hz1']
              · rfl
              · rw [Hid, ← List.append_assoc, ← HZ.out]
            case measure => simp [intOf]; omega
          · skip
            obtain ⟨ha1, ha2⟩ := add_bad (T := T) (q := logB) (l := x) (by kernel_rfl) (by omega)
            rw [hc0] at ha1
            have HAE := Lib.hid ha1
            have HTB := Lib.hid ha2
            clear ha1 ha2 hc0
            have HL0d : Hid (Law w K m [(p, T)] (newT 1048576) [PBox6 p m b0] (World.drew _)) := HL0.out.below (Below.refl _ _).drew
            have HIND := Lib.hid (HIN.out.below (Below.refl _ _).drew)
            obtain ⟨c0, c1⟩ := (HL0.out.va 0 rfl : PBox6 p m b0 _).cells
            have cx := (HL0.out.bel.cell (p := ad.add k) had).trans HCE.out
            (go_region_held3 (fun W => (W.cell? ⟨b0, 0, none⟩ = some (.pointer (some ⟨p, 0, none⟩)) ∧ W.cell? (ad.add k) = some (.slice Ae x.length ce)) ∧ Hid (Below w.heap.size w W)) (first | exact ⟨⟨(HL1.out.va 0 rfl : PBox6 p m b0 _).cells.1, (HL1.out.bel.cell (p := ad.add k) had).trans HCE.out⟩, HL1.out.bel⟩ | exact ⟨⟨(HL0d.out.va 0 rfl : PBox6 p m b0 _).cells.1, (HL0d.out.bel.cell (p := ad.add k) had).trans HCE.out⟩, HL0d.out.bel⟩) (first
              | (go_at_call 11; refine (HL0d.out.sts.jAdd (i := 0) rfl HL0d.out.glob HJ1.out.inv (by omega) logB (by decide) Ae ce x (kd_str_below HCX.out HL0d.out.bel) hcl (fun y hy => Nat.le_trans (HTX.out.2 y hy) (by decide))).mono ?_; rintro e w2 ⟨rfl, hs, hk⟩; rw [HAE.out]; rw [HTB.out] at hs; have HL1 : Hid (Law w K m [(p, T)] (newT 1048576) [PBox6 p m b0] w2) := HL0d.out.step hs hk; have HIN2 := Lib.hid (HIND.out.kp hk); clear hs hk)))
            clear c0 c1 cx HL0 HL0d HIND
            go_wp2_with fail
            go_roundw
            case rel => exact ⟨k + 1, T, K, Av, cv, cells, xs, ys, zs, by omega, by go_num, rfl, rfl, HL1.out, HIN2.out, HJ1.out.mono (by omega) (by omega), HZ.out, by omega⟩
            case measure => simp [intOf]; omega
          · skip
            obtain ⟨ha1, ha2⟩ := add_bad (T := T) (q := logB) (l := x) (by kernel_rfl) (by omega)
            rw [hc0] at ha1
            have HAE := Lib.hid ha1
            have HTB := Lib.hid ha2
            clear ha1 ha2 hc0
            have HL0d : Hid (Law w K m [(p, T)] (newT 1048576) [PBox6 p m b0] (World.drew _)) := HL0.out.below (Below.refl _ _).drew
            have HIND := Lib.hid (HIN.out.below (Below.refl _ _).drew)
            obtain ⟨c0, c1⟩ := (HL0.out.va 0 rfl : PBox6 p m b0 _).cells
            have cx := (HL0.out.bel.cell (p := ad.add k) had).trans HCE.out
            (go_region_held3 (fun W => (W.cell? ⟨b0, 0, none⟩ = some (.pointer (some ⟨p, 0, none⟩)) ∧ W.cell? (ad.add k) = some (.slice Ae x.length ce)) ∧ Hid (Below w.heap.size w W)) (first | exact ⟨⟨(HL1.out.va 0 rfl : PBox6 p m b0 _).cells.1, (HL1.out.bel.cell (p := ad.add k) had).trans HCE.out⟩, HL1.out.bel⟩ | exact ⟨⟨(HL0d.out.va 0 rfl : PBox6 p m b0 _).cells.1, (HL0d.out.bel.cell (p := ad.add k) had).trans HCE.out⟩, HL0d.out.bel⟩) (first
              | (go_at_call 11; refine (HL0d.out.sts.jAdd (i := 0) rfl HL0d.out.glob HJ1.out.inv (by omega) logB (by decide) Ae ce x (kd_str_below HCX.out HL0d.out.bel) hcl (fun y hy => Nat.le_trans (HTX.out.2 y hy) (by decide))).mono ?_; rintro e w2 ⟨rfl, hs, hk⟩; rw [HAE.out]; rw [HTB.out] at hs; have HL1 : Hid (Law w K m [(p, T)] (newT 1048576) [PBox6 p m b0] w2) := HL0d.out.step hs hk; have HIN2 := Lib.hid (HIND.out.kp hk); clear hs hk)))
            clear c0 c1 cx HL0 HL0d HIND
            go_wp2_with fail
            go_roundw
            case rel => exact ⟨k + 1, T, K, Av, cv, cells, xs, ys, zs, by omega, by go_num, rfl, rfl, HL1.out, HIN2.out, HJ1.out.mono (by omega) (by omega), HZ.out, by omega⟩
            case measure => simp [intOf]; omega
      · obtain rfl : k = l.length := by omega
        have HNU : Hid (2 * l.length ≤ 1000000 ∧ 2 * l.length + 6 ≤ 1000000 ∧ 13000 * l.length + 13000 * l.length ≤ 1048576) := by unfold Hid; omega
        clear hlk
        by_cases hkk : kk = l.length
        · skip
          subst hkk
          obtain ⟨c0, c1⟩ := (HL0.out.va 0 rfl : PBox6 p m b0 _).cells
          go_upto_region 20 with (first
            | (go_at_call 19; refine (HL0.out.sts.Sync (i := 0) rfl HL0.out.glob.g HJ.out.inv HNU.out.1).mono ?_; rintro e w2 ⟨rfl, hs, hk⟩; have HL1 : Hid (Law w K m [(p, syncT T)] (newT 1048576) [PBox6 p m b0] w2) := HL0.out.step hs hk; have HIN1 := Lib.hid (HIN.out.kp hk); clear hs hk))
          clear c0 c1 HL0
          have HJ1 : Hid (J1 1048576 logN logB (2 * l.length) (13000 * l.length) (syncT T) zs []) := by have := HJ.out.sync; rw [← HZ.out] at this; exact this
          generalize syncT T = T1 at HL1 HJ1
          have HZ1 : Hid (zs = zs ++ []) := (List.append_nil zs).symm
          clear HJ HZ HIN
          obtain ⟨j, ok⟩ := keep_law HJ1.out HNU.out.2.2 many part
          rw [← HZ1.out] at ok
          have hji := HJ1.out.inv
          obtain ⟨T5, hT5⟩ : ∃ T5, crashT T1 many part = T5 := ⟨_, rfl⟩
          rw [hT5] at ok
          have HT5 := Lib.hid hT5
          clear hT5
          obtain ⟨T6, hT6⟩ : ∃ T6, openT T5 logB = T6 := ⟨_, rfl⟩
          rw [hT6] at ok
          have HT6 := Lib.hid hT6
          clear hT6
          have hjl := ok.jl
          have hjs := ok.jsy
          have hjm := ok.jm
          have HJI := Lib.hid hji
          have OK := Lib.hid ok
          obtain ⟨tk, htk⟩ : ∃ tk, zs.take j = tk := ⟨_, rfl⟩
          have HL5 : Hid (openL T5 logB = tk) := by rw [Hid, ← htk]; exact ok.l5
          have HRD : Hid (readL T6 logB = tk) := by rw [Hid, ← htk]; exact ok.rd
          have htl : tk.length = j := by rw [← htk, List.length_take]; omega
          have HTK := Lib.hid htk
          have HTL := Lib.hid htl
          clear ok hji htk htl
          rw [← HTL.out] at hjs hjm
          have hjz : tk.length ≤ zs.length := by rw [HTL.out]; exact hjl
          obtain ⟨c0, c1⟩ := (HL1.out.va 0 rfl : PBox6 p m b0 _).cells
          go_upto_region 21 with (first
            | (go_at_call 20; refine (HL1.out.sts.Crash (i := 0) rfl HL1.out.glob.g HJI.out HNU.out.1 many part hpart.2).mono ?_; rintro e w2 ⟨rfl, hs, hk⟩; rw [HT5.out] at hs; have HL2 : Hid (Law w K m [(p, T5)] (newT 1048576) [PBox6 p m b0] w2) := HL1.out.step hs hk; have HIN5 := Lib.hid (HIN1.out.kp hk); clear hs hk))
          clear c0 c1 HL1
          obtain ⟨c0, c1⟩ := (HL2.out.va 0 rfl : PBox6 p m b0 _).cells
          go_upto_region 22 with (first
            | (go_at_call 13; refine (HL2.out.sts.jOpen (i := 0) rfl HL2.out.gk OK.out.i5 (by omega) OK.out.r5 logB (by decide)).mono ?_; rintro e w2 ⟨v1, K1, rfl, hKK, hs, hk, hv⟩; rw [HT6.out] at hs; rw [OK.out.e5]; rw [HL5.out] at hv; obtain ⟨A1, n1, rfl⟩ := Kd.S_slice hv; have HL3 := Lib.hid (HL2.out.opened hKK hs hk hv); have HIN6 := Lib.hid (HIN5.out.kp hk); clear hKK hs hk hv))
          clear c0 c1 HL2
          obtain ⟨c0, c1⟩ := (HL3.out.va 1 rfl : PBox6 p m b0 _).cells
          go_upto_region 23 with (first
            | (go_at_call 17; refine (HL3.out.sts.jRead (i := 0) rfl HL3.out.glob OK.out.i6 OK.out.r6 logB (by decide)).mono ?_; rintro e w2 ⟨v2, rfl, hv, hb⟩; rw [OK.out.rw]; rw [HRD.out] at hv; obtain ⟨A2, n2, rfl⟩ := Kd.S_slice hv; have HL4 := Lib.hid (HL3.out.below hb); have HV2 := Lib.hid hv; have HIN7 := Lib.hid (HIN6.out.below hb); clear hv hb))
          clear c0 c1 HL3
          obtain ⟨-, hcx, hCx⟩ := Kd.S_reads' (HL4.out.va 0 rfl : Kd.S kLL _ _ _ _ (Value.slice A1 _ n1) tk)
          obtain ⟨-, hcy, hCy⟩ := Kd.S_reads' HV2.out
          obtain ⟨Az, cz, ez, hcz, hCz⟩ := HIN7.out.reads HL4.out.bel
          cases ez
          have hzt := Kd.C_take hCz hjl
          rw [HTK.out] at hzt
          have hmm : tk.length ≤ 100000000 ∧ ∀ x ∈ tk, x.length ≤ 100000000 := ⟨by omega, fun x hx => by have := lines_len (HJ1.out.lines) x (by rw [← HZ1.out]; rw [← HTK.out] at hx; exact List.mem_of_mem_take hx); omega⟩
          have SX := Lib.hid (same_at hCx hcx hCy hcy hmm (decide_eq_true rfl))
          have SY := Lib.hid (same_at hCx hcx hzt (by omega : tk.length ≤ cv) hmm (decide_eq_true rfl))
          clear hcx hCx hcy hCy hCz hzt hmm
          have hg1 : decide ((tk.length : Int) < (zs.length : Int)) = false := decide_eq_false (by omega)
          have hg2 : decide ((zs.length : Int) < (tk.length : Int)) = false := decide_eq_false (by omega)
          have hch := OK.out.ch
          have HPN : Hid (∀ W, Below w2.heap.size w2 W → Calls Tryz.prog 21 #[.pointer (some ⟨p, 0, none⟩)] W fun e w' => e = .returned (.int .i64 0) ∧ W = w') := fun W hb => by have := (HL4.out.below hb).sts.Pending (i := 0) rfl; rw [hch] at this; exact this
          clear hch
          obtain ⟨c0, c1⟩ := (HL4.out.va 1 rfl : PBox6 p m b0 _).cells
          have HRF := Lib.hid (Below.refl w2.heap.size w2)
          go_upto_region 25 with (first
            | (go_at_call 14; ((with_reducible refine (SX.out.at _ (by first | exact HRF.out)).mono ?_); rintro e w20 ⟨rfl, hb⟩; have HF0 := Lib.hid hb; clear hb))
            | (go_at_call 14; ((with_reducible refine (SY.out.at _ (by first | exact HF0.out | exact HRF.out)).mono ?_); rintro e w21 ⟨rfl, hb⟩; have HF1 := Lib.hid hb; have d0 := (((HL4.out.below hb).va 1 rfl : PBox6 p m b0 _).cells).1; clear hb))
            | (go_at_call 21; ((with_reducible refine (HPN.out _ (by first | exact HF1.out | exact HF0.out)).mono ?_); rintro e w22 ⟨rfl, rfl⟩)))
          have hfin : decide (min (zs.length : Int) (wrap64 ((zs.length : Int) + max 0 many)) ≤ (tk.length : Int)) = true := decide_eq_true (by unfold wrap64; omega)
          go_wp2_with fail
          go_ret
          exact ⟨rfl, HL4.out.bel.trans (HF1.out.mono HL4.out.bel.size)⟩
        · skip
          have hd1 : decide ((kk : Int) = (l.length : Int)) = false := decide_eq_false (by omega)
          have hd2 : ((kk : Int) == (l.length : Int)) = false := beq_eq_false_iff_ne.2 (by omega)
          go_upto_region 20 with fail
          clear hd1 hd2
          obtain ⟨j, ok⟩ := keep_law HJ.out HNU.out.2.2 many part
          rw [← HZ.out] at ok
          have hji := HJ.out.inv
          obtain ⟨T5, hT5⟩ : ∃ T5, crashT T many part = T5 := ⟨_, rfl⟩
          rw [hT5] at ok
          have HT5 := Lib.hid hT5
          clear hT5
          obtain ⟨T6, hT6⟩ : ∃ T6, openT T5 logB = T6 := ⟨_, rfl⟩
          rw [hT6] at ok
          have HT6 := Lib.hid hT6
          clear hT6
          have hjl := ok.jl
          have hjs := ok.jsy
          have hjm := ok.jm
          have HJI := Lib.hid hji
          have OK := Lib.hid ok
          obtain ⟨tk, htk⟩ : ∃ tk, zs.take j = tk := ⟨_, rfl⟩
          have HL5 : Hid (openL T5 logB = tk) := by rw [Hid, ← htk]; exact ok.l5
          have HRD : Hid (readL T6 logB = tk) := by rw [Hid, ← htk]; exact ok.rd
          have htl : tk.length = j := by rw [← htk, List.length_take]; omega
          have HTK := Lib.hid htk
          have HTL := Lib.hid htl
          clear ok hji htk htl
          rw [← HTL.out] at hjs hjm
          have hjz : tk.length ≤ zs.length := by rw [HTL.out]; exact hjl
          obtain ⟨c0, c1⟩ := (HL0.out.va 0 rfl : PBox6 p m b0 _).cells
          go_upto_region 21 with (first
            | (go_at_call 20; refine (HL0.out.sts.Crash (i := 0) rfl HL0.out.glob.g HJI.out HNU.out.1 many part hpart.2).mono ?_; rintro e w2 ⟨rfl, hs, hk⟩; rw [HT5.out] at hs; have HL1 : Hid (Law w K m [(p, T5)] (newT 1048576) [PBox6 p m b0] w2) := HL0.out.step hs hk; have HIN5 := Lib.hid (HIN.out.kp hk); clear hs hk))
          clear c0 c1 HL0
          obtain ⟨c0, c1⟩ := (HL1.out.va 0 rfl : PBox6 p m b0 _).cells
          go_upto_region 22 with (first
            | (go_at_call 13; refine (HL1.out.sts.jOpen (i := 0) rfl HL1.out.gk OK.out.i5 (by omega) OK.out.r5 logB (by decide)).mono ?_; rintro e w2 ⟨v1, K1, rfl, hKK, hs, hk, hv⟩; rw [HT6.out] at hs; rw [OK.out.e5]; rw [HL5.out] at hv; obtain ⟨A1, n1, rfl⟩ := Kd.S_slice hv; have HL2 := Lib.hid (HL1.out.opened hKK hs hk hv); have HIN6 := Lib.hid (HIN5.out.kp hk); clear hKK hs hk hv))
          clear c0 c1 HL1
          obtain ⟨c0, c1⟩ := (HL2.out.va 1 rfl : PBox6 p m b0 _).cells
          go_upto_region 23 with (first
            | (go_at_call 17; refine (HL2.out.sts.jRead (i := 0) rfl HL2.out.glob OK.out.i6 OK.out.r6 logB (by decide)).mono ?_; rintro e w2 ⟨v2, rfl, hv, hb⟩; rw [OK.out.rw]; rw [HRD.out] at hv; obtain ⟨A2, n2, rfl⟩ := Kd.S_slice hv; have HL3 := Lib.hid (HL2.out.below hb); have HV2 := Lib.hid hv; have HIN7 := Lib.hid (HIN6.out.below hb); clear hv hb))
          clear c0 c1 HL2
          obtain ⟨-, hcx, hCx⟩ := Kd.S_reads' (HL3.out.va 0 rfl : Kd.S kLL _ _ _ _ (Value.slice A1 _ n1) tk)
          obtain ⟨-, hcy, hCy⟩ := Kd.S_reads' HV2.out
          obtain ⟨Az, cz, ez, hcz, hCz⟩ := HIN7.out.reads HL3.out.bel
          cases ez
          have hzt := Kd.C_take hCz hjl
          rw [HTK.out] at hzt
          have hmm : tk.length ≤ 100000000 ∧ ∀ x ∈ tk, x.length ≤ 100000000 := ⟨by omega, fun x hx => by have := lines_len (HJ.out.lines) x (by rw [← HZ.out]; rw [← HTK.out] at hx; exact List.mem_of_mem_take hx); omega⟩
          have SX := Lib.hid (same_at hCx hcx hCy hcy hmm (decide_eq_true rfl))
          have SY := Lib.hid (same_at hCx hcx hzt (by omega : tk.length ≤ cv) hmm (decide_eq_true rfl))
          clear hcx hCx hcy hCy hCz hzt hmm
          have hg1 : decide ((tk.length : Int) < (xs.length : Int)) = false := decide_eq_false (by omega)
          have hg2 : decide ((zs.length : Int) < (tk.length : Int)) = false := decide_eq_false (by omega)
          have hch := OK.out.ch
          have HPN : Hid (∀ W, Below w2.heap.size w2 W → Calls Tryz.prog 21 #[.pointer (some ⟨p, 0, none⟩)] W fun e w' => e = .returned (.int .i64 0) ∧ W = w') := fun W hb => by have := (HL3.out.below hb).sts.Pending (i := 0) rfl; rw [hch] at this; exact this
          clear hch
          obtain ⟨c0, c1⟩ := (HL3.out.va 1 rfl : PBox6 p m b0 _).cells
          have HRF := Lib.hid (Below.refl w2.heap.size w2)
          go_upto_region 25 with (first
            | (go_at_call 14; ((with_reducible refine (SX.out.at _ (by first | exact HRF.out)).mono ?_); rintro e w20 ⟨rfl, hb⟩; have HF0 := Lib.hid hb; clear hb))
            | (go_at_call 14; ((with_reducible refine (SY.out.at _ (by first | exact HF0.out | exact HRF.out)).mono ?_); rintro e w21 ⟨rfl, hb⟩; have HF1 := Lib.hid hb; have d0 := (((HL3.out.below hb).va 1 rfl : PBox6 p m b0 _).cells).1; clear hb))
            | (go_at_call 21; ((with_reducible refine (HPN.out _ (by first | exact HF1.out | exact HF0.out)).mono ?_); rintro e w22 ⟨rfl, rfl⟩)))
          have hfin : decide (min (zs.length : Int) (wrap64 ((xs.length : Int) + max 0 many)) ≤ (tk.length : Int)) = true := decide_eq_true (by unfold wrap64; omega)
          go_wp2_with fail
          go_ret
          exact ⟨rfl, HL3.out.bel.trans (HF1.out.mono HL3.out.bel.size)⟩
end
end Go.Proofs.YtebfkifhkaeknaaGreatDoor.Fr
