import Derived.Test.YtghbaehbgefpaaaGreatDoorKR7Again
import Derived.Test.YtghbaehbgefpaaaGreatDoorQC
/- BlobOne. -/
namespace Go.Proofs.YtghbaehbgefpaaaGreatDoor.Fr
open Go.RowKit Go.Proofs.YtghbaehbgefpaaaGreatDoor.F Go.Proofs.YtghbaehbgefpaaaGreatDoorW.PrintWords Go.Maps
open Go.Proofs.YtghbaehbgefpaaaGreatDoor.Hand (putV takeV scanV)
set_option linter.unusedVariables false
set_option linter.unusedSimpArgs false
theorem tl_eq7' {a b : ByteArray} : a.toList = b.toList ↔ a = b := ⟨fun h => ba_eq (by rw [← ByteArray.toList_eq, ← ByteArray.toList_eq]; exact h), fun h => by rw [h]⟩
theorem infoI : (Tryz.prog.info? 3).map (fun i => (i.zero, i.size, i.bytes)) = some (some (.int .i64 0), 1, 8) := by kernel_rfl
section
variable {w : World}
set_option maxHeartbeats 8000000 in
set_option maxRecDepth 100000 in
theorem R_BlobOne (hG : Hand2.Glob w) (A : Option Addr) (c : Nat) (l : List ByteArray) (hA : Kd.C Kd.string w A l.length l) (hcA : l.length ≤ c) :
    Calls Tryz.prog 3 #[.slice A l.length c] w fun e w' => e = .returned (.bool true) ∧ Below w.heap.size w w' := by
  have HG := Lib.hid hG
  have HA := Lib.hid hA
  clear hG hA
  go_enter Tryz.func3, Tryz.ntmps3
  go_upto_region 3 with (first
    | (go_at_call 8; refine (shown7_call HG.out).mono ?_; rintro e w1 ⟨rfl, hb⟩; have HB1 := Lib.hid hb; clear hb)
    | (go_at_call 9; refine (begun7_sts _ 1048576 (by decide) (by decide)).mono ?_; rintro e w4 ⟨p, m, rfl, hs, hb⟩; obtain ⟨b0, hb0⟩ : ∃ b0, w4.heap.size = b0 := ⟨_, rfl⟩; obtain ⟨K, hK⟩ : ∃ K : Nat → Prop, K = fun k => k < w1.heap.size ∨ k = b0 := ⟨_, rfl⟩; have hl := law_begun7 HG.out HB1.out hs hb; rw [hb0] at hl; rw [← hK] at hl; have HL0' := Lib.hid hl; clear hs hb hl hK))
  have HL0 : Hid (Law w K m [(p, newT 1048576)] (newT 1048576) [PBox7 p m b0] (w4.alloc (.cells #[.pointer (some ⟨p, 0, none⟩), .pointer (some ⟨m, 0, none⟩)] 27))) := HL0'.out
  clear HL0'
  try rw [hb0]
  generalize w4.alloc (.cells #[.pointer (some ⟨p, 0, none⟩), .pointer (some ⟨m, 0, none⟩)] 27) = W0 at HL0 ⊢
  clear hb0
  by_cases hl30 : 40 < l.length
  · have hd : decide ((40 : Int) < (l.length : Int)) = true := decide_eq_true (by omega)
    go_wp2_with fail
    go_ret
    exact ⟨rfl, HL0.out.bel⟩
  have hd : decide ((40 : Int) < (l.length : Int)) = false := decide_eq_false (by omega)
  go_upto_region 5 with fail
  clear hd
  obtain ⟨c0, c1⟩ := (HL0.out.va 0 rfl : PBox7 p m b0 _).cells
  have HJ0 : Hid (SB 1048576 0 0 (newT 1048576) [] 0) := sb_new (by decide) (by decide)
  go_upto_region 6 with (go_at_call 10; refine (HL0.out.bOpen HJ0.out (by decide) (fun x hx => by cases hx) (by decide)).mono ?_; rintro e w2 ⟨s, rfl, hl⟩; have HL1 := Lib.hid hl; clear hl)
  have hj1 := (HJ0.out.opens.2.2).mono (n' := 0 + 4) (u' := 1000 * 0) (by decide) (by decide)
  have HJ1 := Lib.hid hj1
  clear c0 c1 HL0 HJ0 hj1
  generalize openT (newT 1048576) bB = T1 at HL1 HJ1
  obtain ⟨i0, hi, hz0, hz1, hz2⟩ := info_parts infoI
  go_upto_region 10 with fail
  go_loopw [8, 9] (fun vi i wr => ∃ (k : Nat) (T : TS) (K : Nat → Prop) (Av : Option Addr) (cv : Nat) (xs : List ByteArray) (ns : List Nat) (k0 : Nat), k ≤ l.length ∧ vi = .slice Av k cv ∧ i = .int .i64 k ∧ Hid (LS w K m [(p, T)] (newT 1048576) [fun W2 => NAt w K W2 (.slice Av k cv) ns, PBox7 p m b0] s p bB xs wr) ∧ Hid (SB 1048576 (k + 4) (1000 * k) T xs k0) ∧ Hid (xs.length ≤ k ∧ ∀ x ∈ xs, x.size ≤ 300) ∧ Hid (ns = (l.take k).map (idxB xs) ∧ ns.length = k) ∧ Hid (∀ u ∈ l.take k, idxB xs u ≠ 0))
    (fun _ i _ => l.length - (intOf i).toNat)
  case atStart => exact ⟨0, T1, K, none, 0, [], [], _, Nat.zero_le _, rfl, rfl, HL1.out.nats (nat_nil _ _ _), HJ1.out, ⟨Nat.le_refl _, fun x hx => by cases hx⟩, ⟨rfl, rfl⟩, fun u hu => by cases hu⟩
  case round =>
    clear HL1 HJ1 K
    obtain ⟨k, T, K, Av, cv, xs, ns, k0, hk, rfl, rfl, HL, HJ, HX, HM, HF⟩ := hrel
    by_cases hlk : k < l.length
    · obtain ⟨ad, e, hx⟩ := at_S HA.out hlk
      subst e
      have hxr := (HL.out.bel.cell (p := ad.add k) (cell_lt hx)).trans hx
      have HTK : Hid (l.take (k + 1) = l.take k ++ [l[k]]) := List.take_succ_eq_append_getElem hlk
      generalize l[k] = x at hx hxr HTK
      by_cases hx3 : 300 < x.size
      · have hd : decide ((300 : Int) < (x.size : Int)) = true := decide_eq_true (by omega)
        go_wp2_with fail
        go_ret
        exact ⟨rfl, HL.out.bel⟩
      have hd : decide ((300 : Int) < (x.size : Int)) = false := decide_eq_false (by omega)
      go_upto_region 14 with fail
      clear hd
      obtain ⟨T2, hj2, hc⟩ := HL.out.Id HJ.out (by omega) (by have := HX.out.1; omega) x (by omega) (b := 1000) (by omega) (by decide) (by omega)
      have HJ2 := Lib.hid (hj2.mono (n' := k + 1 + 4) (u' := 1000 * (k + 1)) (by omega) (by omega))
      have HC := Lib.hid hc
      have HX2 : Hid ((idl xs x).length ≤ k + 1 ∧ ∀ y ∈ idl xs x, y.size ≤ 300) := ⟨by have := (idl_len xs x).2.1; have := HX.out.1; omega, idl_sz HX.out.2 (by omega)⟩
      have HI2 : Hid (idxB (idl xs x) x = idn xs x) := idx_idl xs x
      have HT2 : Hid (textN (idl xs x) (idn xs x : Nat) = (x, true)) := text_idn xs x
      have HK2 : Hid (∀ u, idxB xs u ≠ 0 → idxB (idl xs x) u = idxB xs u) := fun u h => idx_keep h
      have HP2 : Hid (1 ≤ idn xs x ∧ idn xs x ≤ (idl xs x).length) := ⟨idn_pos xs x, (idl_len xs x).2.2⟩
      clear hj2 hc
      generalize idl xs x = xs2 at HJ2 HC HX2 HI2 HT2 HK2 HP2
      generalize idn xs x = nn at HC HI2 HT2 HP2
      go_upto_region 15 with (go_at_call 11; refine HC.out.mono ?_; rintro e w5 ⟨rfl, hl⟩; have HL2 := Lib.hid hl; clear hl)
      have ht := HL2.out.Text (by have := HX2.out.1; omega) ((nn : Nat) : Int)
      rw [HT2.out] at ht
      have HTX := Lib.hid ht
      clear ht HC HL hxr
      go_upto_region 16 with (go_at_call 12; refine HTX.out.mono ?_; rintro e w6 ⟨rfl, hl, -⟩; have HL3 := Lib.hid hl; clear hl)
      have hxr := (HL3.out.bel.cell (p := ad.add k) (cell_lt hx)).trans hx
      have hfc := HL3.out.Find x (by unfold maxLen; omega)
      rw [HI2.out] at hfc
      have HFC := Lib.hid hfc
      clear hfc HTX HL2
      go_upto_region 18 with (go_at_call 13; refine HFC.out.mono ?_; rintro e w7 ⟨rfl, hl, -⟩; have HL4 := Lib.hid hl; clear hl)
      clear HFC HL3 hxr
      have HRW := Lib.hid ((HL4.out.law.va 0 rfl : NAt w K _ (.slice Av k cv) ns).below (newBelow _ (.cells #[.int .i64 (nn : Nat)] 3))).row
      have HNW := Lib.hid (newsN w7 (.int .i64 (nn : Nat)))
      have HONE : Hid (∀ u ∈ [Value.int .i64 (nn : Nat)], u.oneCell' = true) := fun u hu => by rw [List.mem_singleton.1 hu]; rfl
      have HBA : Hid (w.heap.size ≤ (w7.alloc (.cells #[.int .i64 (nn : Nat)] 3)).heap.size) := by rw [Hid, World.size_alloc]; exact Nat.le_succ_of_le HL4.out.bel.size
      have H63 : Hid (ns.length + 1 ≤ maxLen) := by have := HM.out.2; unfold Hid maxLen; omega
      have HBY : Hid ((ns.length + 1) * 8 ≤ 140737488355328) := by have := HM.out.2; unfold Hid; omega
      go_wp2_with (first
        | (at_builtin; refine wpList_append_own_at _ rfl _ _ 34 rfl w.heap.size 3 i0 _ 1 8 Tryz.underlying34 hi hz0 hz1 hz2 rfl (by decide) _ (ns.length) _ rfl HRW.out ⟨w7.heap.size, 0, none⟩ 1 1 [.int .i64 (nn : Nat)] rfl rfl HNW.out HONE.out H63.out HBY.out HBA.out ?_; intro v9 w9 h1 h2 h3 h4; obtain ⟨K9, hl9⟩ := HL4.out.row (box_nat (HL4.out.law.va 0 rfl) (HL4.out.law.va 1 rfl)) h1 h2 h4; obtain ⟨A9, c9, hv9⟩ := (hl9.law.va 0 rfl : NAt w K9 _ v9 _).slice; rw [List.length_append, HM.out.2] at hv9; subst hv9; have HL9 := Lib.hid hl9; clear h1 h2 h3 h4 hl9))
      go_roundw
      case rel =>
        refine ⟨k + 1, T2, K9, A9, c9, xs2, ns ++ [nn], k0, by omega, rfl, by go_num, HL9.out, HJ2.out, HX2.out, ⟨?_, ?_⟩, ?_⟩
        · rw [HTK.out, List.map_append, HM.out.1]
          congr 1
          · exact List.map_congr_left fun u hu => (HK2.out u (HF.out u hu)).symm
          · rw [List.map_singleton, HI2.out]
        · rw [List.length_append, HM.out.2]
          rfl
        · intro u hu
          rw [HTK.out] at hu
          rcases List.mem_append.1 hu with hu | hu
          · rw [HK2.out u (HF.out u hu)]
            exact HF.out u hu
          · rw [List.mem_singleton.1 hu, HI2.out]
            have := HP2.out.1
            omega
      case measure => simp [intOf]; omega
    · obtain rfl : k = l.length := by omega
      have HF9 : Hid (∀ u ∈ l, idxB xs u ≠ 0) := fun u hu => HF.out u (by rw [List.take_length]; exact hu)
      have hm9 := HM.out.1
      rw [List.take_length] at hm9
      subst hm9
      have HNU : Hid (xs.length ≤ 40) := by have := HX.out.1; unfold Hid; omega
      clear HF HM HJ HX
      go_upto_region 20 with fail
      go_loopw [14] (fun i wr => ∃ k2 : Nat, k2 ≤ l.length ∧ i = .int .i64 k2 ∧ Hid (LS w K m [(p, T)] (newT 1048576) [fun W2 => NAt w K W2 (.slice Av l.length cv) (l.map (idxB xs)), PBox7 p m b0] s p bB xs wr))
        (fun i _ => l.length - (intOf i).toNat)
      case atStart => exact ⟨0, Nat.zero_le _, rfl, HL.out⟩
      case round =>
        clear HL
        obtain ⟨k2, hk2, rfl, HL⟩ := hrel
        by_cases hlk2 : k2 < l.length
        · go_upto_region 23 with fail
          go_loopw [15] (fun j wr => ∃ (k3 : Nat), k3 ≤ l.length ∧ j = .int .i64 k3 ∧ Hid (LS w K m [(p, T)] (newT 1048576) [fun W2 => NAt w K W2 (.slice Av l.length cv) (l.map (idxB xs)), PBox7 p m b0] s p bB xs wr))
            (fun j _ => l.length - (intOf j).toNat)
          case atStart => exact ⟨0, Nat.zero_le _, rfl, HL.out⟩
          case round =>
            clear HL
            obtain ⟨k3, hk3, rfl, HL⟩ := hrel
            by_cases hlk3 : k3 < l.length
            · obtain ⟨ad, e, hx⟩ := at_S HA.out hlk2
              obtain ⟨ad2, e2, hy⟩ := at_S HA.out hlk3
              subst e
              cases e2
              obtain ⟨bd, f1, hu⟩ := (HL.out.law.va 0 rfl : NAt w K _ (.slice Av l.length cv) (l.map (idxB xs))).of hlk2
              obtain ⟨bd2, f2, hv⟩ := (HL.out.law.va 0 rfl : NAt w K _ (.slice Av l.length cv) (l.map (idxB xs))).of hlk3
              subst f1
              cases f2
              have hxr := (HL.out.bel.cell (p := ad.add k2) (cell_lt hx)).trans hx
              have hyr := (HL.out.bel.cell (p := ad.add k3) (cell_lt hy)).trans hy
              have hn0 := HF9.out _ (List.getElem_mem hlk2)
              have hi0 := idx_le xs l[k2]
              have HIJ : Hid (idxB xs l[k2] = idxB xs l[k3] → l[k2] = l[k3]) := fun e => idx_inj hn0 e
              generalize l[k2] = x at hx hxr hu hn0 hi0 HIJ
              generalize l[k3] = y at hy hyr hv HIJ
              have HLN : Hid (∀ n, Calls Tryz.prog 14 #[.pointer (some ⟨s, 0, none⟩)] (wr.drewN n) fun e W' => e = .returned (.int .i64 (xs.length : Nat)) ∧ W' = wr.drewN n) := fun n => by
                obtain ⟨v2, b2, D2, hb2⟩ := HL.out.st
                exact len_same (hb2.at_.kept (W' := wr.drewN n) fun _ _ => rfl)
              by_cases hxy : x = y
              · subst hxy
                generalize idxB xs x = nn at hu hv hn0 hi0
                clear HIJ
                have hd0 : decide ((nn : Int) < 1) = false := decide_eq_false (by omega)
                have hd9 : decide ((xs.length : Int) < (nn : Int)) = false := decide_eq_false (by omega)
                go_upto_region 25 with fail
                go_quiet (first | (go_at_call 14; exact Calls.quiet_of_same (HLN.out _)))
                rename_i nq
                have HLq := Lib.hid (HL.out.below (pw_below_drewN (Below.refl _ wr) nq))
                generalize wr.drewN nq = wq at HLq ⊢
                clear HL HLN hxr hyr hu hv
                go_wp2_with fail
                go_roundw
                case rel => exact ⟨k3 + 1, by omega, by go_num, HLq.out⟩
                case measure => simp [intOf]; omega
              · have hne : idxB xs x ≠ idxB xs y := fun e => hxy (HIJ.out e)
                clear HIJ
                generalize idxB xs x = nn at hu hn0 hi0 hne
                generalize idxB xs y = mm at hv hne
                have hd0 : decide ((nn : Int) < 1) = false := decide_eq_false (by omega)
                have hd9 : decide ((xs.length : Int) < (nn : Int)) = false := decide_eq_false (by omega)
                have hd1 : ((nn : Int) == (mm : Int)) = false := beq_eq_false_iff_ne.2 (by omega)
                have hd2 : (x.toList == y.toList) = false := beq_eq_false_iff_ne.2 fun e => hxy (tl_eq7'.1 e)
                go_upto_region 25 with fail
                go_quiet (first | (go_at_call 14; exact Calls.quiet_of_same (HLN.out _)))
                rename_i nq
                have HLq := Lib.hid (HL.out.below (pw_below_drewN (Below.refl _ wr) nq))
                generalize wr.drewN nq = wq at HLq ⊢
                clear HL HLN hxr hyr hu hv
                go_wp2_with fail
                go_roundw
                case rel => exact ⟨k3 + 1, by omega, by go_num, HLq.out⟩
                case measure => simp [intOf]; omega
            · obtain rfl : k3 = l.length := by omega
              go_wp2_with fail
              go_roundw
              case rel => exact ⟨k2 + 1, by omega, by go_num, HL.out⟩
              case measure => simp [intOf]; omega
        · obtain rfl : k2 = l.length := by omega
          go_wp2_with fail
          go_ret
          exact ⟨rfl, HL.out.bel⟩
end
end Go.Proofs.YtghbaehbgefpaaaGreatDoor.Fr
