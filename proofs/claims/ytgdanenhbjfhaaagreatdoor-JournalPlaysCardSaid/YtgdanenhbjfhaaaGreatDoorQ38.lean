import Derived.Test.YtgdanenhbjfhaaaGreatDoorQ36
import Derived.Test.YtgdanenhbjfhaaaGreatDoorQ25
import Derived.Test.YtgdanenhbjfhaaaGreatDoorQ37
/- Several texts of this session in one: the walks of the functions that the laws reach, and what they tell. -/
/- The reference's journal over the trees that a law holds: Read, Add, Anew, Open. -/
namespace Go.Proofs.YtgdanenhbjfhaaaGreatDoor.Fr
open Go.RowKit Go.Proofs.YtgdanenhbjfhaaaGreatDoor.F Go.Proofs.YtgdanenhbjfhaaaGreatDoorW.PrintWords
open Go.Proofs.YtgdanenhbjfhaaaGreatDoor.Hand (putV takeV scanV)
open Go.Proofs.YtgdanenhbjfhaaaGreatDoor.PureL (cat cat_app cat_behind cat_size)
set_option linter.unusedVariables false
set_option linter.unusedSimpArgs false
theorem rput_line (A : Option Addr) (c : Nat) (l : List ByteArray) (w : World) (hC : Kd.C Kd.string w A l.length l) (hc : l.length ≤ c) (hx : ∀ x ∈ l, x.size ≤ 100000) :
    Calls Tryz.prog 32 #[.slice A l.length c] w fun e w' => e = .returned (.tuple #[.string (putV l).1, .int .i64 (putV l).2]) ∧ Below w.heap.size w w' := by
  obtain ⟨k, hk⟩ := (PureL.refPut_f l hx).get
  exact (L.cooperageref4_Put.calls k A c l _ _ w hC hc hk).mono fun e w' h => ⟨h.1, h.2.below⟩
theorem rscan_call (s : ByteArray) (hs : s.size ≤ 100000) (w : World) :
    Calls Tryz.prog 48 #[.string s] w fun e w' => ∃ v, e = .returned (.tuple #[v, .int .i64 (scanV s).2]) ∧ Kd.S kLL 37 w' w.heap.size (fun _ => True) v (scanV s).1 ∧ Below w.heap.size w w' := by
  obtain ⟨k, hk⟩ := (PureL.refScan_f s hs).get
  exact L.cooperageref4_Scan.calls k s _ _ w hk
theorem rpath_bes (q : ByteArray) (hq : q.size ≤ 99000) (w : World) : Calls Tryz.prog 31 #[.string (besN q)] w fun e w' => e = .returned (.bool (pathV (besN q))) ∧ Below w.heap.size w w' :=
  (rpath_call (besN q) (by rw [besN_size]; omega) w).mono fun e w' h => ⟨h.1, h.2.below⟩
section
variable {K : Nat → Prop} {L : List (Nat × TS)} {m p i n : Nat} {T Tm T' : TS} {W W' : World}
theorem StEnd.rsame {v : Value} (h : Sts K L m Tm W) (hb : Below W.heap.size W W') : StEnd K L m Tm W v (.returned v) W' := ⟨rfl, h.below hb, Kp.of hb⟩
set_option maxHeartbeats 4000000 in
set_option maxRecDepth 100000 in
theorem Sts.rjRead (h : Sts K L m Tm W) (hI : Inv n Tm) (hr : Tm.room ≤ 90000) (q : ByteArray) :
    Calls Tryz.prog 23 #[.pointer (some ⟨m, 0, none⟩), .string q] W (RdEnd W (readL Tm q) (readW Tm q)) := by
  have hsz : (readT Tm q).1.size ≤ 90000 := by
    have h1 := read_used Tm q
    have h2 := hI.good.used
    omega
  have HR := Lib.hid (h.rRead hI q)
  have hw : (((scanV (readT Tm q).1).2 == (((readT Tm q).1.size : Nat) : Int)) : Bool) = readW Tm q := rfl
  have hl : (scanV (readT Tm q).1).1 = readL Tm q := rfl
  have HSC : Hid (∀ W1, Calls Tryz.prog 48 #[.string (readT Tm q).1] W1 fun e w' => ∃ v, e = .returned (.tuple #[v, .int .i64 (scanV (readT Tm q).1).2]) ∧ Kd.S kLL 37 w' W1.heap.size (fun _ => True) v (scanV (readT Tm q).1).1 ∧ Below W1.heap.size W1 w') := fun W1 => rscan_call _ (by omega) W1
  rw [hl] at HSC
  generalize readT Tm q = r at HR hw hl hsz HSC
  obtain ⟨s, er⟩ := r
  simp only at HR hw hl hsz HSC
  generalize (scanV s).2 = z at hw HSC
  generalize readL Tm q = ls at HSC
  have HW := Lib.hid hw
  clear h hw hl
  go_enter Tryz.func23, Tryz.ntmps23
  go_wp2_with (first
    | (go_at_call 47; refine HR.out.mono ?_; rintro e w1 ⟨rfl, hb⟩; have HB := Lib.hid hb; clear hb)
    | (go_at_call 48; refine (HSC.out _).mono ?_; rintro e w2 ⟨v, rfl, hv, hb⟩; have HV := Lib.hid (Kd.S_lower hv HB.out.size); have HB2 := Lib.hid (HB.out.trans (hb.mono HB.out.size)); clear hv hb))
  go_ret2
  exact ⟨v, by rw [HW.out]; rfl, HV.out, HB2.out⟩
set_option maxHeartbeats 4000000 in
set_option maxRecDepth 100000 in
theorem Sts.rjAdd (h : Sts K L m Tm W) (hI : Inv n Tm) (hn : n ≤ 1000000) (q : ByteArray) (hq : q.size ≤ 99000) (A : Option Addr) (c : Nat) (l : List ByteArray)
    (hC : Kd.C Kd.string W A l.length l) (hc : l.length ≤ c) (hx : ∀ x ∈ l, x.size ≤ 100000) :
    Calls Tryz.prog 10 #[.pointer (some ⟨m, 0, none⟩), .string q, .slice A l.length c] W (StEnd K L m (addT Tm q l) W (.int .i64 (addE Tm q l))) := by
  have HS := Lib.hid h
  have HC := Lib.hid hC
  have HX := Lib.hid hx
  have HI := Lib.hid hI
  have HP := Lib.hid (rpath_bes q hq W)
  cases hb : pathV (besN q) with
  | false =>
    have HE : Hid (addE Tm q l = 1 ∧ addT Tm q l = Tm) := by unfold Hid addE addT; rw [hb]; exact ⟨rfl, rfl⟩
    rw [hb] at HP
    rw [HE.out.1, HE.out.2]
    clear h hC hx hI hb HE
    go_enter Tryz.func10, Tryz.ntmps10
    go_wp2_with (first
      | (go_at_call 31; refine HP.out.mono ?_; rintro e w2 ⟨rfl, hb⟩; have HB := Lib.hid hb; clear hb))
    go_ret
    exact StEnd.rsame HS.out HB.out
  | true =>
    rw [hb] at HP
    have HQ : Hid (∀ W1, Below W.heap.size W W1 → Calls Tryz.prog 32 #[.slice A l.length c] W1 fun e w' => e = .returned (.tuple #[.string (putV l).1, .int .i64 (putV l).2]) ∧ Below W1.heap.size W1 w') :=
      fun W1 hb => rput_line A c l W1 (Kd.C_below hC hb) hc hx
    have hcode := put_code l
    have hln := lineL_le (l := l)
    obtain ⟨s, er, hp⟩ : ∃ s er, putV l = (s, er) := ⟨_, _, rfl⟩
    have HA : Hid (addE Tm q l = if er = 0 then writeE Tm true q s else er) := by unfold Hid addE; rw [hb, if_neg (by decide), hp]
    have HT : Hid (addT Tm q l = if er = 0 then writeT Tm true q s else Tm) := by unfold Hid addT; rw [hb, if_neg (by decide), hp]
    rw [hp] at HQ hcode hln
    simp only at HQ hcode hln
    rw [HA.out, HT.out]
    clear h hC hx hI hb hp HA HT
    rcases hcode with rfl | rfl | rfl
    · have hs : s.size ≤ 13000 := hln rfl
      rw [if_pos rfl, if_pos rfl]
      clear hln
      go_enter Tryz.func10, Tryz.ntmps10
      go_wp2_with (first
        | (go_at_call 31; refine HP.out.mono ?_; rintro e w2 ⟨rfl, hb⟩; have HB := Lib.hid hb; clear hb)
        | (go_at_call 32; refine (HQ.out _ HB.out).mono ?_; rintro e w3 ⟨rfl, hb⟩; have HB3 := Lib.hid (HB.out.trans (hb.mono HB.out.size)); clear hb)
        | (go_at_call 21; refine ((HS.out.below HB3.out).rAppend HI.out hn q s (by omega) (by omega)).mono ?_; rintro e w4 ⟨rfl, hs4, hk4⟩; have HE := Lib.hid hs4; have HK := Lib.hid ((Kp.of (K := K) HB3.out).trans hk4); clear hs4 hk4))
      go_ret
      exact ⟨rfl, HE.out, HK.out⟩
    all_goals
      rw [if_neg (by decide), if_neg (by decide)]
      clear hln
      go_enter Tryz.func10, Tryz.ntmps10
      go_wp2_with (first
        | (go_at_call 31; refine HP.out.mono ?_; rintro e w2 ⟨rfl, hb⟩; have HB := Lib.hid hb; clear hb)
        | (go_at_call 32; refine (HQ.out _ HB.out).mono ?_; rintro e w3 ⟨rfl, hb⟩; have HB3 := Lib.hid (HB.out.trans (hb.mono HB.out.size)); clear hb))
      go_ret
      exact StEnd.rsame HS.out HB3.out
set_option maxHeartbeats 16000000 in
set_option maxRecDepth 100000 in
theorem Sts.rjAnew (h : Sts K L m Tm W) (hI : Inv n Tm) (hn : n + 3 ≤ 1000000) (q : ByteArray) (hq : q.size ≤ 99000) (A : Option Addr) (c : Nat) (all : List (List ByteArray))
    (hC : Kd.C kLL W A all.length all) (hA : AllOK all) :
    Calls Tryz.prog 15 #[.pointer (some ⟨m, 0, none⟩), .string q, .slice A all.length c] W (StEnd K L m (anewT Tm q all) W (.int .i64 (anewE Tm q all))) := by
  have HS := Lib.hid h
  have HC := Lib.hid hC
  have HP := Lib.hid (rpath_bes q hq W)
  cases hb : pathV (besN q) with
  | false =>
    have HE : Hid (anewE Tm q all = 1 ∧ anewT Tm q all = Tm) := by unfold Hid anewE anewT; rw [hb]; exact ⟨rfl, rfl⟩
    rw [hb] at HP
    rw [HE.out.1, HE.out.2]
    clear h hC hI hb HE hA
    go_enter Tryz.func15, Tryz.ntmps15
    go_wp2_with (first
      | (go_at_call 31; refine HP.out.mono ?_; rintro e w2 ⟨rfl, hb⟩; have HB := Lib.hid hb; clear hb))
    go_ret
    exact StEnd.rsame HS.out HB.out
  | true =>
    rw [hb] at HP
    have HSM := Lib.hid hA.small
    have HSZ := Lib.hid hA.size
    have hmany := hA.many
    have HI := Lib.hid hI
    have HE1 : Hid (∀ er, er ≠ 0 → (putAll all).2 = er → anewE Tm q all = er ∧ anewT Tm q all = Tm) := fun er h0 h1 => by
      have hbf : ¬ (true = false) := by decide
      unfold anewE anewT
      rw [hb, if_neg hbf, if_neg hbf, h1, if_neg h0, if_neg h0]
      exact ⟨rfl, rfl⟩
    have HE2 : Hid (putAll all = (cat all e0, 0) → anewE Tm q all = anew1E Tm q (cat all e0) ∧ anewT Tm q all = anew1T Tm q (cat all e0)) := fun h1 => by
      have hbf : ¬ (true = false) := by decide
      unfold anewE anewT
      rw [hb, if_neg hbf, if_neg hbf, h1]
      exact ⟨if_pos rfl, if_pos rfl⟩
    clear h hC hI hb hA
    generalize anewE Tm q all = EE at HE1 HE2 ⊢
    generalize anewT Tm q all = TT at HE1 HE2 ⊢
    go_enter Tryz.func15, Tryz.ntmps15
    go_upto_region 6 with (first | (go_at_call 31; refine HP.out.mono ?_; rintro e w2 ⟨rfl, hb⟩; have HB := Lib.hid hb; clear hb))
    go_loopw [8, 9] (fun s i wr => ∃ k : Nat, k ≤ all.length ∧ s = .string (cat (all.take k) e0) ∧ i = .int .i64 k ∧ Hid (Below W.heap.size W wr) ∧ Hid (Lines (all.take k)))
      (fun _ i _ => all.length - (intOf i).toNat)
    case atStart => exact ⟨0, Nat.zero_le _, rfl, rfl, HB.out, fun l hl => by cases hl⟩
    case round =>
      clear HB
      obtain ⟨k, hk, rfl, rfl, HB, HL⟩ := hrel
      have hlen : (cat (all.take k) e0).size ≤ 90000000 := by
        have := HSZ.out k hk
        rw [putAll_ok HL.out] at this
        exact this
      by_cases hlt : k < all.length
      · obtain ⟨ad, A', c', rfl, hc1, hc2, hC'⟩ := at_LL (Kd.C_below HC.out HB.out) hlt
        have HC' := Lib.hid hC'
        have HX' := Lib.hid (HSM.out _ (List.getElem_mem hlt))
        have HST := Lib.hid (putAll_stop all k hlt ⟨#[]⟩ HL.out)
        have HNX := Lib.hid (lines_take_succ hlt HL.out)
        have HTK : Hid (cat (all.take (k + 1)) e0 = cat (all.take k) e0 ++ (putV all[k]).1) := by
          rw [Hid, List.take_succ_eq_append_getElem hlt, cat_snoc]
        have hcode := put_code all[k]
        have hln := lineL_le (l := all[k])
        clear hC'
        generalize all[k] = x at hc1 hc2 HC' HX' HST HNX HTK hcode hln
        have HP2 := Lib.hid (rput_line A' c' x wr HC'.out hc2 HX'.out)
        obtain ⟨s, er, hp⟩ : ∃ s er, Hid (putV x = (s, er)) := ⟨_, _, Lib.hid rfl⟩
        rw [hp.out] at hcode HP2 HST HNX hln HTK
        simp only at HP2
        simp only at hcode hln HTK
        generalize cat (all.take k) e0 = S at hlen HTK ⊢
        rcases hcode with rfl | rfl | rfl
        · have hs : s.size ≤ 13000 := hln rfl
          go_wp2_with (first | (go_at_call 32; refine HP2.out.mono ?_; rintro e W1 ⟨rfl, hb1⟩; have HB2 := Lib.hid (HB.out.trans (hb1.mono HB.out.size)); clear hb1))
          go_roundw
          case rel => exact ⟨k + 1, by omega, by rw [HTK.out], by go_num, HB2.out, HNX.out (by first | rfl | exact trivial)⟩
          case measure => simp [intOf]; omega
        all_goals
          have HE : Hid (putAll all = (e0, _)) := HST.out (by simp)
          have HEE := Lib.hid (HE1.out (putAll all).2 (by rw [HE.out]; simp) rfl)
          rw [HE.out] at HEE
          simp only at HEE
          go_wp2_with (first | (go_at_call 32; refine HP2.out.mono ?_; rintro e W1 ⟨rfl, hb1⟩; have HB2 := Lib.hid (HB.out.trans (hb1.mono HB.out.size)); clear hb1))
          go_ret
          rw [HEE.out.1, HEE.out.2]
          exact StEnd.rsame HS.out HB2.out
      · obtain rfl : k = all.length := by omega
        rw [List.take_length] at HL hlen ⊢
        obtain ⟨hX, hY⟩ := HE2.out (putAll_ok HL.out)
        have hE : anew1E Tm q (cat all e0) = if writeE Tm false (besN q) (cat all e0) = 0 then renameE (writeT Tm false (besN q) (cat all e0)) (besN q) q else writeE Tm false (besN q) (cat all e0) := rfl
        have hT : anew1T Tm q (cat all e0) = if writeE Tm false (besN q) (cat all e0) = 0 then
          if renameE (writeT Tm false (besN q) (cat all e0)) (besN q) q = 0 then syncT (renameT (writeT Tm false (besN q) (cat all e0)) (besN q) q) else removeT (renameT (writeT Tm false (besN q) (cat all e0)) (besN q) q) (besN q)
          else removeT (writeT Tm false (besN q) (cat all e0)) (besN q) := rfl
        rw [hE] at hX
        rw [hT] at hY
        clear hE hT HE1 HE2 HSZ HSM HL
        generalize cat all e0 = s at hlen hX hY ⊢
        have HbQ : (besN q).size ≤ 100000 := by rw [besN_size]; omega
        have hI1 := Lib.hid (inv_write HI.out false (q := besN q) (s := s) (by omega))
        have hI2 := Lib.hid (inv_rename hI1.out (besN q) q)
        have HW := Lib.hid ((HS.out.below HB.out).rWrite HI.out (by omega) (besN q) s HbQ (by omega))
        have hw := write_code Tm false (besN q) s
        generalize writeE Tm false (besN q) s = ew at HW hw hX hY
        generalize writeT Tm false (besN q) s = T1 at HW hI1 hI2 hX hY
        rcases hw with rfl | hw
        · rw [if_pos rfl] at hX hY
          have hr := rename_code T1 (besN q) q
          have HR : Hid (∀ W1, Sts K L m T1 W1 → Calls Tryz.prog 39 #[.pointer (some ⟨m, 0, none⟩), .string (besN q), .string q] W1 (StEnd K L m (renameT T1 (besN q) q) W1 (.int .i64 (renameE T1 (besN q) q)))) :=
            fun W1 h1 => h1.rRename hI1.out (by omega) (besN q) q HbQ (by omega)
          generalize renameE T1 (besN q) q = er at HR hr hX hY
          generalize renameT T1 (besN q) q = T2 at HR hI2 hY
          have HR2 : Hid (∀ W1, Sts K L m T2 W1 → Calls Tryz.prog 34 #[.pointer (some ⟨m, 0, none⟩), .string (besN q)] W1 (StEnd K L m (removeT T2 (besN q)) W1 (.int .i64 (removeE T2 (besN q))))) :=
            fun W1 h1 => h1.rRemove hI2.out (by omega) (besN q) HbQ
          have HXY : Hid (EE = er ∧ TT = if er = 0 then syncT T2 else removeT T2 (besN q)) := ⟨hX, hY⟩
          clear hX hY
          rcases hr with rfl | rfl | rfl | rfl
          · go_wp2_with (first
              | (go_at_call 38; refine HW.out.mono ?_; rintro e w4 ⟨rfl, hs4, hk4⟩; have HE4 := Lib.hid hs4; have HK4 := Lib.hid ((Kp.of (K := K) HB.out).trans hk4); clear hs4 hk4)
              | (go_at_call 39; refine (HR.out _ HE4.out).mono ?_; rintro e w5 ⟨rfl, hs5, hk5⟩; have HE5 := Lib.hid hs5; have HK5 := Lib.hid (HK4.out.trans hk5); clear hs5 hk5)
              | (go_at_call 17; refine (HE5.out.rSync).mono ?_; rintro e w6 ⟨rfl, hs6, hk6⟩; have HE6 := Lib.hid hs6; have HK6 := Lib.hid (HK5.out.trans hk6); clear hs6 hk6))
            go_ret
            rw [HXY.out.1, HXY.out.2]
            simp only [if_true]
            exact ⟨rfl, HE6.out, HK6.out⟩
          all_goals
            go_wp2_with (first
              | (go_at_call 38; refine HW.out.mono ?_; rintro e w4 ⟨rfl, hs4, hk4⟩; have HE4 := Lib.hid hs4; have HK4 := Lib.hid ((Kp.of (K := K) HB.out).trans hk4); clear hs4 hk4)
              | (go_at_call 39; refine (HR.out _ HE4.out).mono ?_; rintro e w5 ⟨rfl, hs5, hk5⟩; have HE5 := Lib.hid hs5; have HK5 := Lib.hid (HK4.out.trans hk5); clear hs5 hk5)
              | (go_at_call 34; refine (HR2.out _ HE5.out).mono ?_; rintro e w6 ⟨rfl, hs6, hk6⟩; have HE6 := Lib.hid hs6; have HK6 := Lib.hid (HK5.out.trans hk6); clear hs6 hk6))
            go_ret
            rw [HXY.out.1, HXY.out.2, if_neg (by decide)]
            exact ⟨rfl, HE6.out, HK6.out⟩
        · have HR2 : Hid (∀ W1, Sts K L m T1 W1 → Calls Tryz.prog 34 #[.pointer (some ⟨m, 0, none⟩), .string (besN q)] W1 (StEnd K L m (removeT T1 (besN q)) W1 (.int .i64 (removeE T1 (besN q))))) :=
            fun W1 h1 => h1.rRemove hI1.out (by omega) (besN q) HbQ
          have hne : ew ≠ 0 := by omega
          rw [if_neg hne] at hX hY
          have HXY : Hid (EE = ew ∧ TT = removeT T1 (besN q)) := ⟨hX, hY⟩
          clear hX hY hI2 hne
          rcases hw with rfl | rfl | rfl | rfl
          all_goals
            go_wp2_with (first
              | (go_at_call 38; refine HW.out.mono ?_; rintro e w4 ⟨rfl, hs4, hk4⟩; have HE4 := Lib.hid hs4; have HK4 := Lib.hid ((Kp.of (K := K) HB.out).trans hk4); clear hs4 hk4)
              | (go_at_call 34; refine (HR2.out _ HE4.out).mono ?_; rintro e w6 ⟨rfl, hs6, hk6⟩; have HE6 := Lib.hid hs6; have HK6 := Lib.hid (HK4.out.trans hk6); clear hs6 hk6))
            go_ret
            rw [HXY.out.1, HXY.out.2]
            exact ⟨rfl, HE6.out, HK6.out⟩
end
end Go.Proofs.YtgdanenhbjfhaaaGreatDoor.Fr
/- The reference's journal: Open. -/
namespace Go.Proofs.YtgdanenhbjfhaaaGreatDoor.Fr
open Go.RowKit Go.Proofs.YtgdanenhbjfhaaaGreatDoor.F Go.Proofs.YtgdanenhbjfhaaaGreatDoorW.PrintWords
open Go.Proofs.YtgdanenhbjfhaaaGreatDoor.Hand (putV takeV scanV)
open Go.Proofs.YtgdanenhbjfhaaaGreatDoor.PureL (cat cat_app cat_behind cat_size)
set_option linter.unusedVariables false
set_option linter.unusedSimpArgs false
section
variable {K : Nat → Prop} {L : List (Nat × TS)} {m n : Nat} {T : TS} {W W' : World}
set_option maxHeartbeats 8000000 in
set_option maxRecDepth 100000 in
theorem Sts.rjOpen (h : Sts K L m T W) (hI : Inv n T) (hn : n + 4 ≤ 1000000) (hr : T.room ≤ 90000) (q : ByteArray) (hq : q.size ≤ 99000) :
    Calls Tryz.prog 12 #[.pointer (some ⟨m, 0, none⟩), .string q] W (JOEnd K L m (openT T q) W (openL T q) (openE T q)) := by
  have HS := Lib.hid h
  have hbs := besN_size q
  have HP := Lib.hid (rpath_bes q hq W)
  cases hb : pathV (besN q) with
  | false =>
    have HE : Hid (openE T q = 1 ∧ openT T q = T ∧ openL T q = []) := by
      have h1 : openE T q = 1 := by unfold openE; rw [hb]; rfl
      exact ⟨h1, by unfold openT; rw [hb]; rfl, by unfold openL; rw [h1]; rfl⟩
    rw [hb] at HP
    rw [HE.out.1, HE.out.2.1, HE.out.2.2]
    clear h hI hb hbs HE
    go_enter Tryz.func12, Tryz.ntmps12
    go_wp2_with (first
      | (go_at_call 31; refine HP.out.mono ?_; rintro e w2 ⟨rfl, hb⟩; have HB := Lib.hid hb; clear hb))
    go_ret2
    exact JOEnd.none (HS.out.below HB.out) (Kp.of HB.out)
  | true =>
    rw [hb] at HP
    have hqs := pathV_size hb
    have HbQ : (besN q).size ≤ 100 := by omega
    have hI1 := inv_remove hI (besN q)
    have hr1 : (removeT T (besN q)).room ≤ 90000 := by rw [remove_room]; exact hr
    have HI := Lib.hid hI
    have HR : Hid (∀ W1, Below W.heap.size W W1 → Calls Tryz.prog 34 #[.pointer (some ⟨m, 0, none⟩), .string (besN q)] W1 (StEnd K L m (removeT T (besN q)) W1 (.int .i64 (removeE T (besN q))))) :=
      fun W1 hb => (HS.out.below hb).rRemove hI (by omega) (besN q) (by omega)
    have hall := readAll_ok hI1 (by omega) q
    have hoE : openE T q = if readW (removeT T (besN q)) q = true then 0 else anewE (removeT T (besN q)) q (readL (removeT T (besN q)) q) := by unfold openE; rw [hb, if_neg (by decide)]
    have hoT : openT T q = if readW (removeT T (besN q)) q = true then syncT (removeT T (besN q)) else anewT (removeT T (besN q)) q (readL (removeT T (besN q)) q) := by unfold openT; rw [hb, if_neg (by decide)]
    have hoL : openL T q = if openE T q = 0 then readL (removeT T (besN q)) q else [] := rfl
    rw [hoL, hoT, hoE]
    clear hoL hoT hoE h hI hb
    have HRD : Hid (∀ W1, Sts K L m (removeT T (besN q)) W1 → Kp K W W1 → Calls Tryz.prog 23 #[.pointer (some ⟨m, 0, none⟩), .string q] W1 (RdEnd W1 (readL (removeT T (besN q)) q) (readW (removeT T (besN q)) q))) :=
      fun W1 h1 h2 => h1.rjRead hI1 hr1 q
    generalize removeE T (besN q) = re at HR
    generalize removeT T (besN q) = T1 at HR HRD hI1 hr1 hall ⊢
    generalize readL T1 q = ls at HRD hall ⊢
    have HI1 := Lib.hid hI1
    have HALL := Lib.hid hall
    clear hI1 hr1 hall
    have HSY : Hid (∀ W1, Sts K L m T1 W1 → Kp K W W1 → ∀ W2, Below W1.heap.size W1 W2 → ∀ K2 : Nat → Prop, (∀ k, K2 k → K k ∨ (W1.heap.size ≤ k ∧ k < W2.heap.size)) → (∀ k, K k → K2 k) → Calls Tryz.prog 17 #[.pointer (some ⟨m, 0, none⟩)] W2 (StEnd K2 L m (syncT T1) W2 (.tuple #[]))) := fun W1 h1 h2 W2 hb K2 hk hk' => by
      exact (h1.kept hb hk).rSync
    have HAN : Hid (∀ W1, Sts K L m T1 W1 → Kp K W W1 → ∀ W2, Below W1.heap.size W1 W2 → ∀ K2 : Nat → Prop, (∀ k, K2 k → K k ∨ (W1.heap.size ≤ k ∧ k < W2.heap.size)) → (∀ k, K k → K2 k) → ∀ A c, Kd.C kLL W2 A ls.length ls → Calls Tryz.prog 15 #[.pointer (some ⟨m, 0, none⟩), .string q, .slice A ls.length c] W2 (StEnd K2 L m (anewT T1 q ls) W2 (.int .i64 (anewE T1 q ls)))) := fun W1 h1 h2 W2 hb K2 hk hk' A c hC => by
      exact (h1.kept hb hk).rjAnew HI1.out (by omega) q hq A c ls hC HALL.out
    have hcode := anew_code T1 q ls
    obtain ⟨bw, hbw⟩ : ∃ bw, readW T1 q = bw := ⟨_, rfl⟩
    rw [hbw] at HRD ⊢
    clear hbw
    have HVK : Hid (∀ (w1 w2 w3 : World) (v : Value), Kp K W w1 → Below w1.heap.size w1 w2 → Kd.S kLL 37 w2 w1.heap.size (fun _ => True) v ls → Kp (fun k => K k ∨ (w1.heap.size ≤ k ∧ k < w2.heap.size)) w2 w3 →
        Kd.S kLL 37 w3 W.heap.size (fun k => (K k ∨ (w1.heap.size ≤ k ∧ k < w2.heap.size)) ∧ W.heap.size ≤ k) v ls) := fun w1 w2 w3 v h1 h2 h3 h4 => by
      have hle : W.heap.size ≤ w1.heap.size := h1.size
      refine Kd.S_lower (Kd.S_mono (Kd.S_step (Kd.S_bound h3) (w1 := w3) fun k hk hlt => h4.block (.inr ⟨hk.2.1, hk.2.2.1⟩) hlt) fun k hk => ?_) hle
      exact ⟨.inr ⟨hk.2.1, hk.2.2.1⟩, Nat.le_trans hle hk.2.1⟩
    cases bw with
    | true =>
      rw [if_pos rfl, if_pos rfl, if_pos rfl]
      go_enter Tryz.func12, Tryz.ntmps12
      go_wp2_with (first
        | (go_at_call 31; refine HP.out.mono ?_; rintro e w2 ⟨rfl, hb⟩; have HB := Lib.hid hb; clear hb)
        | (go_at_call 34; refine (HR.out _ HB.out).mono ?_; rintro e w3 ⟨rfl, hs3, hk3⟩; have HE3 := Lib.hid hs3; have HK3 := Lib.hid ((Kp.of (K := K) HB.out).trans hk3); clear hs3 hk3)
        | (go_at_call 23; refine (HRD.out _ HE3.out HK3.out).mono ?_; rintro e w4 ⟨v, rfl, hv, hb⟩; obtain ⟨Av, cv, rfl⟩ := Kd.S_slice hv; have HV := Lib.hid hv; have HB4 := Lib.hid hb; clear hv hb)
        | (go_at_call 17; refine (HSY.out _ HE3.out HK3.out _ HB4.out _ (fun k hk => hk) (fun k hk => .inl hk)).mono ?_; rintro e w5 ⟨rfl, hs5, hk5⟩; have HE5 := Lib.hid hs5; have HK5 := Lib.hid hk5; clear hs5 hk5))
      go_ret2
      exact ⟨_, _, rfl, fun k hk => .inl hk, HE5.out, (HK3.out.trans (Kp.of HB4.out)).trans (HK5.out.mono fun k hk => .inl hk), HVK.out _ _ _ _ HK3.out HB4.out HV.out HK5.out⟩
    | false =>
      have hff : ¬ (false = true) := by decide
      simp only [if_neg hff]
      clear hff
      generalize anewE T1 q ls = er at hcode HAN ⊢
      generalize anewT T1 q ls = T2 at HAN ⊢
      clear HSY
      rcases hcode with rfl | hcode
      · rw [if_pos rfl]
        go_enter Tryz.func12, Tryz.ntmps12
        go_wp2_with (first
          | (go_at_call 31; refine HP.out.mono ?_; rintro e w2 ⟨rfl, hb⟩; have HB := Lib.hid hb; clear hb)
          | (go_at_call 34; refine (HR.out _ HB.out).mono ?_; rintro e w3 ⟨rfl, hs3, hk3⟩; have HE3 := Lib.hid hs3; have HK3 := Lib.hid ((Kp.of (K := K) HB.out).trans hk3); clear hs3 hk3)
          | (go_at_call 23; refine (HRD.out _ HE3.out HK3.out).mono ?_; rintro e w4 ⟨v, rfl, hv, hb⟩; obtain ⟨Av, cv, rfl⟩ := Kd.S_slice hv; have HC4 := Lib.hid (Kd.S_reads' hv).2.2; have HV := Lib.hid hv; have HB4 := Lib.hid hb; clear hv hb)
          | (go_at_call 15; refine (HAN.out _ HE3.out HK3.out _ HB4.out _ (fun k hk => hk) (fun k hk => .inl hk) _ _ HC4.out).mono ?_; rintro e w5 ⟨rfl, hs5, hk5⟩; have HE5 := Lib.hid hs5; have HK5 := Lib.hid hk5; clear hs5 hk5))
        go_ret2
        exact ⟨_, _, rfl, fun k hk => .inl hk, HE5.out, (HK3.out.trans (Kp.of HB4.out)).trans (HK5.out.mono fun k hk => .inl hk), HVK.out _ _ _ _ HK3.out HB4.out HV.out HK5.out⟩
      · rcases hcode with rfl | rfl | rfl | rfl | rfl
        all_goals
          rw [if_neg (by decide)]
          go_enter Tryz.func12, Tryz.ntmps12
          go_wp2_with (first
            | (go_at_call 31; refine HP.out.mono ?_; rintro e w2 ⟨rfl, hb⟩; have HB := Lib.hid hb; clear hb)
            | (go_at_call 34; refine (HR.out _ HB.out).mono ?_; rintro e w3 ⟨rfl, hs3, hk3⟩; have HE3 := Lib.hid hs3; have HK3 := Lib.hid ((Kp.of (K := K) HB.out).trans hk3); clear hs3 hk3)
            | (go_at_call 23; refine (HRD.out _ HE3.out HK3.out).mono ?_; rintro e w4 ⟨v, rfl, hv, hb⟩; obtain ⟨Av, cv, rfl⟩ := Kd.S_slice hv; have HC4 := Lib.hid (Kd.S_reads' hv).2.2; have HV := Lib.hid hv; have HB4 := Lib.hid hb; clear hv hb)
            | (go_at_call 15; refine (HAN.out _ HE3.out HK3.out _ HB4.out _ (fun k hk => hk) (fun k hk => .inl hk) _ _ HC4.out).mono ?_; rintro e w5 ⟨rfl, hs5, hk5⟩; have HE5 := Lib.hid hs5; have HK5 := Lib.hid hk5; clear hs5 hk5))
          go_ret2
          exact JOEnd.none (HE5.out.drop fun k hk => .inl hk) ((HK3.out.trans (Kp.of HB4.out)).trans (HK5.out.mono fun k hk => .inl hk))
end
end Go.Proofs.YtgdanenhbjfhaaaGreatDoor.Fr
/- Acts of chapter 6: what small, first tell. -/
namespace Go.Proofs.YtgdanenhbjfhaaaGreatDoor.Fr
open Go.RowKit Go.Proofs.YtgdanenhbjfhaaaGreatDoor.F Go.Proofs.YtgdanenhbjfhaaaGreatDoorW.PrintWords
open Go.Proofs.YtgdanenhbjfhaaaGreatDoor.Hand (putV takeV scanV)
set_option linter.unusedVariables false
set_option linter.unusedSimpArgs false
abbrev Ac6 := S34
def SmallA (a : Ac6) : Prop := TinyL a.f4 ∧ a.f3.size ≤ 150 ∧ a.f5.size ≤ 300
def SmallL (l : List Ac6) : Prop := l.length ≤ 40 ∧ ∀ a ∈ l, SmallA a
theorem tiny_ev (ls : List (List ByteArray)) : ∃ b, (∃ k0, ∀ k, k0 ≤ k → cooperagelaw6_tiny.f k ls = some b) ∧ (b = true → TinyL ls) := by
  by_cases h : ls.length ≤ 20
  · obtain ⟨b, ⟨k0, hb⟩, hp⟩ := tiny_l0 ls h ls.length 0 (by omega)
    refine ⟨b, ⟨k0, fun k hk => ?_⟩, fun hb => ⟨h, hp hb⟩⟩
    unfold cooperagelaw6_tiny.f
    rw [if_neg (by omega)]
    exact hb k hk
  · refine ⟨false, ⟨0, fun k _ => ?_⟩, fun h => by cases h⟩
    unfold cooperagelaw6_tiny.f
    rw [if_pos (by omega)]
theorem rdA6 {l : List Ac6} {i : Nat} (h : i < l.length) : rd_T34 l (i : Int) = l[i] := by
  unfold rd_T34
  rw [Int.toNat_natCast, List.getD_eq_getElem?_getD, List.getElem?_eq_getElem h, Option.getD_some]
theorem small6_l0 (l : List Ac6) (hl : l.length ≤ 40) : ∀ (n i : Nat), i + n = l.length → ∃ b, (∃ k0, ∀ k, k0 ≤ k → cooperagelaw6_small.l0 k l (i : Int) = some b) ∧ (b = true → ∀ a ∈ l.drop i, SmallA a) := by
  intro n
  induction n with
  | zero =>
    intro i hi
    refine ⟨true, ⟨1, fun k hk => ?_⟩, fun _ a ha => ?_⟩
    · obtain ⟨k, rfl⟩ : ∃ j, k = j + 1 := ⟨k - 1, by omega⟩
      unfold cooperagelaw6_small.l0
      rw [if_neg (by omega)]
    · rw [List.drop_eq_nil_of_le (by omega)] at ha
      exact absurd ha (by simp)
  | succ n ih =>
    intro i hi
    have hlt : i < l.length := by omega
    have hr := rdA6 hlt
    obtain ⟨bt, ⟨kt, ht⟩, pt⟩ := tiny_ev l[i].f4
    have stop : ∀ (b : Bool), b = false → (∃ k0, ∀ k, k0 ≤ k → cooperagelaw6_small.l0 k l (i : Int) = some b) → ∃ b, (∃ k0, ∀ k, k0 ≤ k → cooperagelaw6_small.l0 k l (i : Int) = some b) ∧ (b = true → ∀ a ∈ l.drop i, SmallA a) := fun b hb h => ⟨b, h, fun e => by rw [hb] at e; cases e⟩
    cases bt with
    | false =>
      refine stop false rfl ⟨kt + 1, fun k hk => ?_⟩
      obtain ⟨k, rfl⟩ : ∃ j, k = j + 1 := ⟨k - 1, by omega⟩
      unfold cooperagelaw6_small.l0
      rw [if_pos (by omega), if_pos (by omega), hr, ht k (by omega), Option.bind_some, if_neg (by decide)]
    | true =>
      by_cases h3 : 150 < l[i].f3.size
      · refine stop false rfl ⟨kt + 1, fun k hk => ?_⟩
        obtain ⟨k, rfl⟩ : ∃ j, k = j + 1 := ⟨k - 1, by omega⟩
        unfold cooperagelaw6_small.l0
        rw [if_pos (by omega), if_pos (by omega), hr, ht k (by omega), Option.bind_some, if_pos rfl, if_pos (by omega)]
      · by_cases h5 : 300 < l[i].f5.size
        · refine stop false rfl ⟨kt + 1, fun k hk => ?_⟩
          obtain ⟨k, rfl⟩ : ∃ j, k = j + 1 := ⟨k - 1, by omega⟩
          unfold cooperagelaw6_small.l0
          rw [if_pos (by omega), if_pos (by omega), hr, ht k (by omega), Option.bind_some, if_pos rfl, if_neg (by omega), if_pos (by omega)]
        · obtain ⟨b, ⟨kb, hb⟩, pb⟩ := ih (i + 1) (by omega)
          refine ⟨b, ⟨kt + kb + 1, fun k hk => ?_⟩, fun e a ha => ?_⟩
          · obtain ⟨k, rfl⟩ : ∃ j, k = j + 1 := ⟨k - 1, by omega⟩
            unfold cooperagelaw6_small.l0
            rw [if_pos (by omega), if_pos (by omega), hr, ht k (by omega), Option.bind_some, if_pos rfl, if_neg (by omega), if_neg (by omega), w64k i (by omega)]
            exact hb k (by omega)
          · rw [List.drop_eq_getElem_cons hlt] at ha
            rcases List.mem_cons.1 ha with e2 | e2
            · subst e2
              exact ⟨pt rfl, by omega, by omega⟩
            · exact pb e a e2
theorem small6_f (l : List Ac6) : ∃ b k, cooperagelaw6_small.f k l = some b ∧ (b = true → SmallL l) := by
  by_cases h : l.length ≤ 40
  · obtain ⟨b, ⟨k0, hb⟩, hp⟩ := small6_l0 l h l.length 0 (by omega)
    refine ⟨b, k0, ?_, fun hb => ⟨h, hp hb⟩⟩
    unfold cooperagelaw6_small.f
    rw [if_neg (by omega)]
    exact hb k0 (Nat.le_refl _)
  · refine ⟨false, 0, ?_, fun h => by cases h⟩
    unfold cooperagelaw6_small.f
    rw [if_pos (by omega)]
def Small6End (l : List Ac6) (W : World) (e : Ending) (w' : World) : Prop := ∃ b, e = .returned (.bool b) ∧ (b = true → SmallL l) ∧ Below W.heap.size W w'
theorem small6_call {W : World} {A : Option Addr} {c : Nat} {l : List Ac6} (ha : Kd.C k34 W A l.length l) (hc : l.length ≤ c) :
    Calls Tryz.prog 5 #[.slice A l.length c] W (Small6End l W) := by
  obtain ⟨b, k, hk, hb⟩ := small6_f l
  exact (cooperagelaw6_small.calls k A c l _ W ha hc hk).mono fun e w' h => ⟨b, h.1, hb, h.2.below⟩
def fstL (ls : List (List ByteArray)) : List ByteArray := ls.headD []
theorem fstL_tiny {ls : List (List ByteArray)} (h : TinyL ls) : ∀ x ∈ fstL ls, x.size ≤ 100000 := by
  intro x hx
  cases ls with
  | nil => cases hx
  | cons l r => exact Nat.le_trans ((h.2 l (List.mem_cons_self ..)).2 x hx) (by decide)
theorem first_at {w : World} {A : Option Addr} {c : Nat} {ls : List (List ByteArray)} (hC : Kd.C kLL w A ls.length ls) (hc : ls.length ≤ c) :
    ∃ A' c', (fstL ls).length ≤ c' ∧ Kd.C Kd.string w A' (fstL ls).length (fstL ls) ∧ ∀ W, Below w.heap.size w W → Calls Tryz.prog 9 #[.slice A ls.length c] W fun e W' => e = .returned (.slice A' (fstL ls).length c') ∧ W' = W := by
  cases ls with
  | nil =>
    refine ⟨none, 0, Nat.le_refl _, ⟨rfl, by decide, fun h => absurd h (by decide)⟩, fun W hb => ?_⟩
    show Calls Tryz.prog 9 #[.slice A 0 c] W fun e W' => e = .returned (.slice none 0 0) ∧ W' = W
    clear hC hc
    go_enter Tryz.func9, Tryz.ntmps9
    go_wp2
    go_ret
    exact ⟨rfl, rfl⟩
  | cons l r =>
    obtain ⟨ad, A', c', e, h1, h2, h3⟩ := at_LL hC (Nat.zero_lt_succ _)
    subst e
    refine ⟨A', c', h2, h3, fun W hb => ?_⟩
    have hx : W.cell? (ad.add 0) = some (.slice A' l.length c') := (hb.cell (p := ad.add 0) (cell_lt h1)).trans h1
    have e0 : ad.add 0 = ad := by cases ad; rfl
    have hx2 := hx
    rw [e0] at hx2
    show Calls Tryz.prog 9 #[.slice (some ad) (l :: r).length c] W fun e W' => e = .returned (.slice A' l.length c') ∧ W' = W
    have hn : (l :: r).length = r.length + 1 := rfl
    obtain ⟨n, hn2⟩ : ∃ n, (l :: r).length = n := ⟨_, rfl⟩
    rw [hn2]
    have h0 : 0 < n := by omega
    have hne : ((n : Int) == 0) = false := beq_eq_false_iff_ne.2 (by omega)
    clear hC hc h1 h2 h3 hn hn2 e0
    go_enter Tryz.func9, Tryz.ntmps9
    go_wp2
    go_ret
    exact ⟨rfl, rfl⟩
/-- An act's box. -/
def ABox (b : Nat) (a : Ac6) (A4 : Option Addr) (c4 : Nat) (W : World) : Prop := W.heap[b]? = some (.cells #[.int .i64 a.f0, .int .i64 a.f1, .int .i64 a.f2, .string a.f3, .slice A4 a.f4.length c4, .string a.f5] 34)
theorem ABox.cells {W : World} {b : Nat} {a : Ac6} {A4 : Option Addr} {c4 : Nat} (h : ABox b a A4 c4 W) :
    W.cell? ⟨b, 0, none⟩ = some (.int .i64 a.f0) ∧ W.cell? ⟨b, 1, none⟩ = some (.int .i64 a.f1) ∧ W.cell? ⟨b, 2, none⟩ = some (.int .i64 a.f2) ∧ W.cell? ⟨b, 3, none⟩ = some (.string a.f3) ∧ W.cell? ⟨b, 4, none⟩ = some (.slice A4 a.f4.length c4) ∧ W.cell? ⟨b, 5, none⟩ = some (.string a.f5) := by
  have h : W.heap[b]? = _ := h
  refine ⟨?_, ?_, ?_, ?_, ?_, ?_⟩ <;> simp [World.cell?, h]
theorem read_lens {n : Nat} {T : TS} (hI : Inv n T) (hr : T.room ≤ 2000000) (q : ByteArray) : (readL T q).length ≤ 100000000 ∧ ∀ x ∈ readL T q, x.length ≤ 100000000 := by
  refine ⟨?_, fun x hx => ?_⟩
  · have := readL_many hI q
    omega
  · have h1 := scan_lines (readT T q).1 x hx
    have := (PureL.put_ok h1).2.1
    omega
theorem openL_lens {n : Nat} {T : TS} (hI : Inv n T) (hr : T.room ≤ 2000000) (q : ByteArray) : (openL T q).length ≤ 100000000 ∧ ∀ x ∈ openL T q, x.length ≤ 100000000 := by
  unfold openL
  split
  · exact read_lens (inv_remove hI _) (by rw [remove_room]; exact hr) q
  · exact ⟨Nat.zero_le _, fun x hx => by cases hx⟩
/-- Acts that a law is handed. -/
structure Acs6 (w : World) (A : Option Addr) (c : Nat) (l : List Ac6) : Prop where
  C : Kd.C k34 w A l.length l
  cap : l.length ≤ c
  wf : ∀ a ∈ l, (-9223372036854775808 ≤ a.f0 ∧ a.f0 ≤ 9223372036854775807) ∧ a.f2 ≤ 9223372036854775807
theorem Acs6.at {w : World} {A : Option Addr} {c : Nat} {l : List Ac6} (h : Acs6 w A c l) {k : Nat} (hk : k < l.length) : ∃ ad A4 c4, A = some ad ∧ (w.cell? (ad.add (k * 6)) = some (.int .i64 l[k].f0) ∧ w.cell? ⟨(ad.add (k * 6)).block, (ad.add (k * 6)).off + 1, none⟩ = some (.int .i64 l[k].f1) ∧ w.cell? ⟨(ad.add (k * 6)).block, (ad.add (k * 6)).off + 2, none⟩ = some (.int .i64 l[k].f2) ∧ w.cell? ⟨(ad.add (k * 6)).block, (ad.add (k * 6)).off + 3, none⟩ = some (.string l[k].f3) ∧ w.cell? ⟨(ad.add (k * 6)).block, (ad.add (k * 6)).off + 4, none⟩ = some (.slice A4 l[k].f4.length c4) ∧ w.cell? ⟨(ad.add (k * 6)).block, (ad.add (k * 6)).off + 5, none⟩ = some (.string l[k].f5)) ∧ l[k].f4.length ≤ c4 ∧ Kd.C kLL w A4 l[k].f4.length l[k].f4 := by
  obtain ⟨ad, A4, c4, e, h0, h1, h2, h3, h4, h5, h6, h7⟩ := at_T34 h.C (k : Int) (by omega) (by omega)
  rw [rdA6 hk, Int.toNat_natCast] at h0 h1 h2 h3 h4 h5
  rw [rdA6 hk] at h6 h7
  exact ⟨ad, A4, c4, e, ⟨h0, h1, h2, h3, h4, h5⟩, h6, h7⟩
/-- The six cells of an act, elsewhere. -/
structure A6At (W : World) (x : Addr) (a : Ac6) (A4 : Option Addr) (c4 : Nat) : Prop where
  e0 : W.cell? x = some (.int .i64 a.f0)
  e1 : W.cell? ⟨x.block, x.off + 1, none⟩ = some (.int .i64 a.f1)
  e2 : W.cell? ⟨x.block, x.off + 2, none⟩ = some (.int .i64 a.f2)
  e3 : W.cell? ⟨x.block, x.off + 3, none⟩ = some (.string a.f3)
  e4 : W.cell? ⟨x.block, x.off + 4, none⟩ = some (.slice A4 a.f4.length c4)
  e5 : W.cell? ⟨x.block, x.off + 5, none⟩ = some (.string a.f5)
theorem A6At.below {W W' : World} {x : Addr} {a : Ac6} {A4 : Option Addr} {c4 B : Nat} (h : A6At W x a A4 c4) (hb : Below W.heap.size W W') : A6At W' x a A4 c4 :=
  ⟨(hb.cell (cell_lt h.e0)).trans h.e0, (hb.cell (p := ⟨x.block, x.off + 1, none⟩) (cell_lt h.e1)).trans h.e1, (hb.cell (p := ⟨x.block, x.off + 2, none⟩) (cell_lt h.e2)).trans h.e2, (hb.cell (p := ⟨x.block, x.off + 3, none⟩) (cell_lt h.e3)).trans h.e3, (hb.cell (p := ⟨x.block, x.off + 4, none⟩) (cell_lt h.e4)).trans h.e4, (hb.cell (p := ⟨x.block, x.off + 5, none⟩) (cell_lt h.e5)).trans h.e5⟩
end Go.Proofs.YtgdanenhbjfhaaaGreatDoor.Fr
