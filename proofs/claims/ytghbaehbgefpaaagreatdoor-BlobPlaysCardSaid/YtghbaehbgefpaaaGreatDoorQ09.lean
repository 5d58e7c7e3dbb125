import Derived.Test.YtghbaehbgefpaaaGreatDoorQ08
import Derived.Test.YtghbaehbgefpaaaGreatDoorQ02
import Derived.Test.YtghbaehbgefpaaaGreatDoorQ07
import Derived.OwnWalkIn
import Derived.StringKeys
/- Several texts of this session in one: the walks of the functions that the laws reach, and what they tell. -/
set_option linter.unusedVariables false
set_option linter.unusedSimpArgs false
namespace Go.Proofs.YtghbaehbgefpaaaGreatDoor.Hand
open Go.RowKit Go.Proofs.YtghbaehbgefpaaaGreatDoorW.PrintWords
def uOut (p : ByteArray × Int) : Value := .tuple #[.string p.1, .int .i64 p.2]
theorem bld_below {b B1 : Nat} {bs : List Value} {w w' : World} (h : Bld b B1 bs w) (hb : Below w.heap.size w w') : Bld b B1 bs w' := by
  obtain ⟨h1, h2, p, v, hp, hc, hr⟩ := h
  refine ⟨h1, Nat.le_trans h2 hb.size, p, v, hp, (hb.block b (by omega)).trans hc, hr.kept (grown_of_below hb) ?_⟩
  cases v.ownBlock with
  | none => exact .inl rfl
  | some k => exact .inr (by simp)
theorem apart_of_below {b B1 : Nat} {w w' : World} (hb : Below w.heap.size w w') (h : B1 ≤ w.heap.size) : Apart b B1 w w' := ⟨hb.os, hb.tape, hb.output, hb.size, fun k hk _ => hb.block k (by omega)⟩
def sizeOf' (v : Value) : Nat := match v with
  | .string s => s.size
  | _ => 0
set_option maxHeartbeats 8000000 in
set_option maxRecDepth 100000 in
theorem unquote_walk (s : ByteArray) (hs : s.size ≤ 100000) (m : Int) (w : World) (hw : 7 < w.heap.size) (hm : w.cell? ⟨0, 0, none⟩ = some (.int .i64 m))
    (t0 : TypeId) (p0 : Value) (h0 : w.cell? ⟨6, 0, none⟩ = some (.iface t0 p0)) :
    Calls Tryz.prog 136 #[.string s] w fun e w' => e = .returned (uOut (unqP (unqV s))) ∧ Below w.heap.size w w' := by
  have HM := Lib.hid hm
  have H0 := Lib.hid h0
  clear hm h0
  by_cases e : s.data.toList = [37]
  · have e' : s = ⟨#[37]⟩ := ba_ext e
    subst e'
    clear e
    go_enter Tryz.func136, Tryz.ntmps136
    go_wp2
    go_ret2
    exact ⟨rfl, Below.refl _ _⟩
  · have hne : (s.toList == [37]) = false := by
      rw [ByteArray.toList_eq]
      simpa using e
    have HV : ∀ o, decG s.data.toList = o → unqV s = unqO s o := fun o h => unqV_of e h
    have HV := Lib.hid HV
    clear e
    go_enter Tryz.func136, Tryz.ntmps136
    go_wp2
    obtain ⟨w0, hw0⟩ : ∃ w0, w.alloc (Obj.cells #[Value.pointer none, Value.slice none 0 0] 125) = w0 := ⟨_, rfl⟩
    have hs0 : w0.heap.size = w.heap.size + 1 := by rw [← hw0]; simp
    have hB0 : Hid (Below w.heap.size w w0) := by
      rw [Hid, ← hw0]
      exact (Below.refl _ _).alloc (Nat.le_refl _) _
    have hbl0 : Hid (Bld w.heap.size (w.heap.size + 1) [] w0) := by
      refine ⟨by omega, by rw [hs0]; omega, _, _, .inl rfl, ?_, World.ownsRowF_nil _ _ _ _⟩
      rw [← hw0]
      exact World.alloc_heap_new w _
    have hm0 : Hid (w0.cell? ⟨0, 0, none⟩ = some (.int .i64 m)) := (hB0.out.cell (p := ⟨0, 0, none⟩) (by show 0 < _; omega)).trans HM.out
    have he0 : Hid (w0.cell? ⟨6, 0, none⟩ = some (.iface t0 p0)) := (hB0.out.cell (p := ⟨6, 0, none⟩) (cell_lt' H0.out)).trans H0.out
    rw [hw0]
    clear hw0
    go_loopw [5] (fun r wr => ∃ (acc : List UInt8) (u : ByteArray), r = .string u ∧ acc.length + u.size ≤ s.size ∧ Hid (decG s.data.toList = (decG u.data.toList).map (acc ++ ·)) ∧ Hid (Bld w.heap.size (w.heap.size + 1) (Lib.byteCells acc) wr) ∧ Hid (Apart w.heap.size (w.heap.size + 1) w0 wr))
      (fun r _ => sizeOf' r)
    case atStart => exact ⟨[], s, rfl, by simp, by simp [Hid], hbl0, Apart.refl _ _ _⟩
    case round =>
      obtain ⟨acc, u, rfl, hsz, hdec, hbl, hA⟩ := hrel
      by_cases e : u = ByteArray.empty
      · subst e
        have hfin : Hid (decG s.data.toList = some acc) := by
          rw [Hid, hdec.out, show (ByteArray.empty.data.toList : List UInt8) = [] from rfl, decG_nil]
          simp
        have HS := Lib.hid (bstring w.heap.size (w.heap.size + 1) acc wr hbl.out)
        have HT := Lib.hid ((hB0.out.trans (hA.out.below (by omega))))
        by_cases ha : acc = []
        · have HX : Hid (unqV s = none) := by rw [Hid, HV.out _ hfin.out, unqO, if_neg (fun h => h.1 ha)]
          rw [ha] at HS
          clear ha
          go_wp2_with (go_at_call 72; refine HS.out.mono ?_; rintro e W5 ⟨rfl, hb5⟩; have HB5 := Lib.hid (HT.out.trans hb5); clear hb5)
          go_ret2
          exact ⟨by rw [HX.out]; rfl, HB5.out⟩
        · obtain ⟨t, ht⟩ : ∃ t : ByteArray, Hid ((⟨(acc).toArray⟩ : ByteArray) = t) := ⟨_, Lib.hid rfl⟩
          have hdat : t.data.toList = acc := by rw [← ht.out]
          have hte : t.toList.isEmpty = false := by
            rw [ByteArray.toList_eq, hdat]
            simpa using ha
          have hts : t.size ≤ 100000 := by
            have h1 : t.data.toList.length = t.size := by rw [Array.length_toList]; rfl
            rw [hdat] at h1
            omega
          rw [ht.out] at HS
          by_cases hq : quoteV t = s
          · have HX : Hid (unqV s = some t) := by rw [Hid, HV.out _ hfin.out, unqO, ht.out, if_pos ⟨ha, hq⟩]
            have hqe : ((quoteV t).toList == s.toList) = true := by rw [hq]; simp
            clear hq ha hdat
            go_wp2_with (first | (go_at_call 72; refine HS.out.mono ?_; rintro e W5 ⟨rfl, hb5⟩; have HB5 := Lib.hid (HT.out.trans hb5); clear hb5) | (go_at_call 69; refine (quote_walk t hts _).mono ?_; rintro e W6 ⟨rfl, hb6⟩; have HB6 := Lib.hid (HB5.out.trans (hb6.mono HB5.out.size)); clear hb6))
            go_ret2
            exact ⟨by rw [HX.out]; rfl, HB6.out⟩
          · have HX : Hid (unqV s = none) := by rw [Hid, HV.out _ hfin.out, unqO, ht.out, if_neg (fun h => hq h.2)]
            have hqe : ((quoteV t).toList == s.toList) = false := by
              rw [ByteArray.toList_eq, ByteArray.toList_eq, beq_eq_false_iff_ne]
              exact fun h => hq (ba_ext h)
            clear hq ha hdat
            go_wp2_with (first | (go_at_call 72; refine HS.out.mono ?_; rintro e W5 ⟨rfl, hb5⟩; have HB5 := Lib.hid (HT.out.trans hb5); clear hb5) | (go_at_call 69; refine (quote_walk t hts _).mono ?_; rintro e W6 ⟨rfl, hb6⟩; have HB6 := Lib.hid (HB5.out.trans (hb6.mono HB5.out.size)); clear hb6))
            go_ret2
            exact ⟨by rw [HX.out]; rfl, HB6.out⟩
      · have hune : u.toList.isEmpty = false := ba_isEmpty e
        have hu0 : u.data.toList.length = u.size := by rw [Array.length_toList]; rfl
        clear e
        have hmu : wr.cell? ⟨0, 0, none⟩ = some (.int .i64 m) := (hA.out.cell (p := ⟨0, 0, none⟩) (by show 0 < _; omega) (by show 0 ≠ _; omega)).trans hm0.out
        have hcut := Lib.hid (Tryz.strings_Cut u ⟨#[37]⟩ m wr (by omega) hmu)
        clear hmu
        have hspec := cut_one 37 u.data.toList
        rw [show ((⟨#[37]⟩ : ByteArray).data.toList) = [37] from rfl] at hcut
        obtain ⟨ah, hah⟩ : ∃ ah : ByteArray, (⟨(Lib.cut u.data.toList [37]).1.toArray⟩ : ByteArray) = ah := ⟨_, rfl⟩
        obtain ⟨v, hv⟩ : ∃ v : ByteArray, (⟨(Lib.cut u.data.toList [37]).2.1.toArray⟩ : ByteArray) = v := ⟨_, rfl⟩
        have hahd : (Lib.cut u.data.toList [37]).1 = ah.data.toList := by rw [← hah]
        have hvd : (Lib.cut u.data.toList [37]).2.1 = v.data.toList := by rw [← hv]
        have hal : ah.data.toList.length = ah.size := by rw [Array.length_toList]; rfl
        have hvl : v.data.toList.length = v.size := by rw [Array.length_toList]; rfl
        rw [hah, hv] at hcut
        rw [hahd, hvd] at hspec
        clear hah hv hahd hvd
        obtain ⟨hno, hspec⟩ := hspec
        rcases hspec with ⟨hf, hu⟩ | ⟨hf, hu⟩
        · rw [hf] at hcut
          have hlen : ah.size + 1 + v.size = u.size := by
            rw [← hu0, ← hal, ← hvl, hu, List.length_append, List.length_cons]
            omega
          have hd2 : Hid (decG s.data.toList = (decG (37 :: v.data.toList)).map ((acc ++ ah.data.toList) ++ ·)) := by
            rw [Hid, hdec.out, hu, decG_app _ _ hno, Option.map_map]
            congr 1
            funext x
            simp
          have hwl : Hid ((Lib.byteCells acc).length + ah.size ≤ 100000000) := by
            rw [Hid, Lib.byteCells_length]
            omega
          clear hf hu hno hu0 hal hdec
          have hvl := Lib.hid hvl
          go_wp2_with (first | (go_at_call 134; refine hcut.out.mono ?_; rintro e W1 ⟨rfl, nd, rfl⟩) | (go_at_call 68; refine (writeString w.heap.size (w.heap.size + 1) _ ah _ (show Bld w.heap.size (w.heap.size + 1) (Lib.byteCells acc) (wr.drewN nd) from hbl.out) hwl.out).mono ?_))
          rintro e W2 ⟨rfl, hb2, hA2⟩
          have HL2 : Hid (Bld w.heap.size (w.heap.size + 1) (Lib.byteCells (acc ++ ah.data.toList)) W2) := by
            rw [Hid, Lib.byteCells_append]
            exact hb2
          have HA2 := Lib.hid ((hA.out.trans (apart_drewN _ _ wr nd)).trans hA2)
          clear hb2 hA2
          have HT2 := Lib.hid ((hB0.out.trans (HA2.out.below (by omega))))
          by_cases h2 : v.size < 2
          · have HX : Hid (unqV s = none) := by
              rw [Hid, HV.out none ?_]
              · rfl
              · rw [hd2.out, decG_short _ (by have := hvl.out; omega)]
                rfl
            go_wp2
            go_ret2
            exact ⟨by rw [HX.out]; rfl, HT2.out⟩
          · obtain ⟨x, y, r, hxy⟩ : ∃ x y r, v.data.toList = x :: y :: r := by
              have h3 := hvl.out
              match hm : v.data.toList with
              | [] => rw [hm] at h3; simp at h3; omega
              | [_] => rw [hm] at h3; simp at h3; omega
              | x :: y :: r => exact ⟨x, y, r, rfl⟩
            have hpd : (v.extract 0 2).data.toList = [x, y] := by
              rw [← ext_take]
              show (v.data.toList.take 2) = _
              rw [hxy]
              rfl
            have hps : (v.extract 0 2).size = 2 := by rw [ByteArray.size_extract]; omega
            have hrd : (v.extract 2 v.size).data.toList = r := by
              rw [← ext_drop]
              show (v.data.toList.drop 2) = _
              rw [hxy]
              rfl
            have hrs : (v.extract 2 v.size).size = v.size - 2 := by rw [ByteArray.size_extract]; omega
            have he2 : Hid (W2.cell? ⟨6, 0, none⟩ = some (.iface t0 p0)) := (HA2.out.cell (p := ⟨6, 0, none⟩) (by show 6 < _; omega) (by show 6 ≠ _; omega)).trans he0.out
            rw [hxy, decG_pct] at hd2
            cases hh : hexG 0 [x, y] with
            | none =>
              have HP := Lib.hid (parse16_bad (v.extract 0 2) hps (by rw [hpd, hh]) t0 p0 W2 he2.out)
              rw [hh] at hd2
              have HX : Hid (unqV s = none) := by
                rw [Hid, HV.out none ?_]
                · rfl
                · rw [hd2.out]
                  rfl
              clear hh hpd hps hrd hrs hxy
              go_wp2_with (go_at_call 161; refine HP.out.mono ?_; rintro e W3 ⟨N, rfl, hb3⟩; have HB3 := Lib.hid (HT2.out.trans (hb3.mono HT2.out.size)); clear hb3)
              go_ret2
              exact ⟨by rw [HX.out]; rfl, HB3.out⟩
            | some d =>
              have hd255 := hexG2_le hh
              have HP := Lib.hid (parse16_ok (v.extract 0 2) hps d (by rw [hpd, hh]) W2)
              rw [hh] at hd2
              have hn8 : (UInt8.ofNat d).toNat = d := by simp [UInt8.toNat_ofNat']; omega
              have hd3 : Hid (decG s.data.toList = (decG (v.extract 2 v.size).data.toList).map (((acc ++ ah.data.toList) ++ [UInt8.ofNat d]) ++ ·)) := by
                rw [Hid, hd2.out, hrd]
                show Option.map _ (Option.map _ (decG r)) = _
                rw [Option.map_map]
                congr 1
                funext x
                simp
              obtain ⟨dI, hdI⟩ : ∃ dI : Int, dI = (d : Int) := ⟨_, rfl⟩
              have hdI0 : 0 ≤ dI := by omega
              have hdI1 : dI ≤ 255 := by omega
              rw [← hdI] at HP
              have HDI := Lib.hid hdI
              have HN8 := Lib.hid hn8
              have hrs := Lib.hid hrs
              have hvl2 := Lib.hid hvl
              have hwl2 : Hid ((Lib.byteCells (acc ++ ah.data.toList)).length + 1 ≤ 100000000) := by
                have hal2 : ah.data.toList.length = ah.size := by rw [Array.length_toList]; rfl
                rw [Hid, Lib.byteCells_length, List.length_append, hal2]
                omega
              clear hh hpd hps hrd hxy hd255 hn8 hdI hd2
              go_wp2_with (go_at_call 161; refine HP.out.mono ?_)
              rintro e W3 ⟨rfl, hb3⟩
              have HL3 := Lib.hid (bld_below HL2.out hb3)
              have HA3 := Lib.hid (HA2.out.trans (apart_of_below hb3 HL2.out.2.1))
              clear hb3
              go_wp2_with (go_at_call 93; refine (writeByte w.heap.size (w.heap.size + 1) _ dI _ HL3.out hwl2.out).mono ?_)
              rintro e W4 ⟨rfl, hb4, hA4⟩
              have HL4 := Lib.hid hb4
              have HA4 := Lib.hid (HA3.out.trans hA4)
              clear hb4 hA4
              go_wp2
              go_roundw
              case rel =>
                refine ⟨(acc ++ ah.data.toList) ++ [UInt8.ofNat d], v.extract 2 v.size, rfl, ?_, hd3, ?_, HA4⟩
                · have hal2 : ah.data.toList.length = ah.size := by rw [Array.length_toList]; rfl
                  rw [List.length_append, List.length_append, hal2, hrs.out]
                  simp only [List.length_cons, List.length_nil]
                  omega
                · have h5 := HL4.out
                  rw [HDI.out] at h5
                  rw [Hid, Lib.byteCells_append]
                  simpa [Lib.byteCells, HN8.out] using h5
              case measure =>
                have h6 := hrs.out
                simp [sizeOf']
                omega
        · rw [hf] at hcut
          have hul : ah.size = u.size := by
            rw [← hu0, ← hal, hu]
          have hfin : Hid (decG s.data.toList = some (acc ++ ah.data.toList)) := by
            have h1 := decG_app [] ah.data.toList hno
            rw [List.append_nil, decG_nil] at h1
            rw [Hid, hdec.out, hu, h1]
            simp
          have hwl : Hid ((Lib.byteCells acc).length + ah.size ≤ 100000000) := by
            rw [Hid, Lib.byteCells_length]
            omega
          clear hf hu hno hu0 hdec hvl
          have hal := Lib.hid hal
          go_wp2_with (first | (go_at_call 134; refine hcut.out.mono ?_; rintro e W1 ⟨rfl, nd, rfl⟩) | (go_at_call 68; refine (writeString w.heap.size (w.heap.size + 1) _ ah _ (show Bld w.heap.size (w.heap.size + 1) (Lib.byteCells acc) (wr.drewN nd) from hbl.out) hwl.out).mono ?_))
          rintro e W2 ⟨rfl, hb2, hA2⟩
          have HL2 : Hid (Bld w.heap.size (w.heap.size + 1) (Lib.byteCells (acc ++ ah.data.toList)) W2) := by
            rw [Hid, Lib.byteCells_append]
            exact hb2
          have HA2 := Lib.hid ((hA.out.trans (apart_drewN _ _ wr nd)).trans hA2)
          clear hb2 hA2
          have HS := Lib.hid (bstring w.heap.size (w.heap.size + 1) (acc ++ ah.data.toList) W2 HL2.out)
          have HT := Lib.hid ((hB0.out.trans (HA2.out.below (by omega))))
          by_cases ha : (acc ++ ah.data.toList) = []
          · have HX : Hid (unqV s = none) := by rw [Hid, HV.out _ hfin.out, unqO, if_neg (fun h => h.1 ha)]
            rw [ha] at HS
            clear ha
            go_wp2_with (go_at_call 72; refine HS.out.mono ?_; rintro e W5 ⟨rfl, hb5⟩; have HB5 := Lib.hid (HT.out.trans hb5); clear hb5)
            go_ret2
            exact ⟨by rw [HX.out]; rfl, HB5.out⟩
          · obtain ⟨t, ht⟩ : ∃ t : ByteArray, Hid ((⟨((acc ++ ah.data.toList)).toArray⟩ : ByteArray) = t) := ⟨_, Lib.hid rfl⟩
            have hdat : t.data.toList = (acc ++ ah.data.toList) := by rw [← ht.out]
            have hte : t.toList.isEmpty = false := by
              rw [ByteArray.toList_eq, hdat]
              simpa using ha
            have hts : t.size ≤ 100000 := by
              have h1 : t.data.toList.length = t.size := by rw [Array.length_toList]; rfl
              rw [hdat] at h1
              rw [List.length_append, hal.out] at h1
              omega
            rw [ht.out] at HS
            by_cases hq : quoteV t = s
            · have HX : Hid (unqV s = some t) := by rw [Hid, HV.out _ hfin.out, unqO, ht.out, if_pos ⟨ha, hq⟩]
              have hqe : ((quoteV t).toList == s.toList) = true := by rw [hq]; simp
              clear hq ha hdat
              go_wp2_with (first | (go_at_call 72; refine HS.out.mono ?_; rintro e W5 ⟨rfl, hb5⟩; have HB5 := Lib.hid (HT.out.trans hb5); clear hb5) | (go_at_call 69; refine (quote_walk t hts _).mono ?_; rintro e W6 ⟨rfl, hb6⟩; have HB6 := Lib.hid (HB5.out.trans (hb6.mono HB5.out.size)); clear hb6))
              go_ret2
              exact ⟨by rw [HX.out]; rfl, HB6.out⟩
            · have HX : Hid (unqV s = none) := by rw [Hid, HV.out _ hfin.out, unqO, ht.out, if_neg (fun h => hq h.2)]
              have hqe : ((quoteV t).toList == s.toList) = false := by
                rw [ByteArray.toList_eq, ByteArray.toList_eq, beq_eq_false_iff_ne]
                exact fun h => hq (ba_ext h)
              clear hq ha hdat
              go_wp2_with (first | (go_at_call 72; refine HS.out.mono ?_; rintro e W5 ⟨rfl, hb5⟩; have HB5 := Lib.hid (HT.out.trans hb5); clear hb5) | (go_at_call 69; refine (quote_walk t hts _).mono ?_; rintro e W6 ⟨rfl, hb6⟩; have HB6 := Lib.hid (HB5.out.trans (hb6.mono HB5.out.size)); clear hb6))
              go_ret2
              exact ⟨by rw [HX.out]; rfl, HB6.out⟩
end Go.Proofs.YtghbaehbgefpaaaGreatDoor.Hand
namespace Go.Proofs.YtghbaehbgefpaaaGreatDoor.Fr
open Go.RowKit Go.Proofs.YtghbaehbgefpaaaGreatDoor.F Go.Sort Go.Shelf
theorem sortsA (m : Nat) : AnyZ.SortsIn Tryz.prog Tryz.sortedA_ren Fence.wide m :=
  ⟨fun blk off cap ss W hH hblk hsz => callsIn_wide.2 (AnyM.slices_Sort_string Tryz.laysSlM6_f89 blk off cap ss W hH hblk hsz),
   fun p cap W => callsIn_wide.2 (AnyM.slices_Sort_string_none Tryz.laysSlM6_f89 p cap W)⟩
theorem keys_call (b : Nat) (w : World) : Calls Tryz.prog 61 #[.map (some b)] w fun e w' =>
    e = .returned (.func (.func 90) #[] #[.pointer (some ⟨w.heap.size, 0, none⟩)]) ∧ w' = w.alloc (.cells #[.map (some b)] 71) :=
  (callsIn_wide (n := 5)).1 (AnyZ.keys_in Tryz.keysA Fence.wide 5 trivial rfl (some b) w)
theorem sorted_call {H : Type} (B b nn : Nat) (D0 : DataW H) (R : Value → Option (DataW H × List MemPlace)) (w : World) (hc : w.cell? ⟨B, 0, none⟩ = some (.map (some b))) (hB : B < w.heap.size) (hown : w.ownsMap Tryz.prog 9 R b nn D0) (hmax : Maps.size D0 ≤ 1000000) :
    Calls Tryz.prog 60 #[.func (.func 90) #[] #[.pointer (some ⟨B, 0, none⟩)]] w fun e w' => ∃ (v : Value) (ss : List (List UInt8)), e = .returned v ∧ ss.Perm (strKeys D0) ∧
      w'.ownsRow w.heap.size 9 1 v ss.length ((ss.mergeSort (fun x y => decide (x ≤ y))).map encStr) ∧ (v = .slice none 0 0 ↔ ss = []) ∧ Below w.heap.size w w' := by
  have hseq : SeqGives Fence.wide 2 Tryz.prog 90 #[.pointer (some ⟨B, 0, none⟩)] encStr (fun ss => ss.Perm (strKeys D0)) (Maps.size D0) w :=
    AnyZ.keys_gives (ρ := Tryz.keysA_ren) { Tryz.keysA with } Fence.wide _ trivial rfl (by omega) B b nn D0 _ hB hc hown
  exact (callsIn_wide (n := 5)).1 (AnyZ.sorted_in Tryz.sortedA Fence.wide 5 trivial trivial trivial trivial rfl (by omega) (sortsA _) (enters_of Tryz.func89 (by kernel_rfl) rfl) 90 #[.pointer (some ⟨B, 0, none⟩)] trivial
    (enters_of Tryz.func90 (by kernel_rfl) rfl) _ _ (Nat.le_trans hmax (by decide)) (by omega) _ hseq)
theorem clone_call {H : Type} (k : TypeId) (R : Value → Option (DataW H × List MemPlace)) (b n : Nat) (D : DataW H) (w : World) (hown : w.ownsMap Tryz.prog k R b n D) :
    Calls Tryz.prog 32 #[.map (some b)] w fun e w' => e = .returned (.map (some w.heap.size)) ∧ w'.ownsMap Tryz.prog k R w.heap.size n D ∧ Below w.heap.size w w' ∧ w'.heap.size = w.heap.size + 1 := by
  have hown' := hown
  obtain ⟨es, clock, hb, F, hs, hD⟩ := hown
  refine (AnyW.maps_Clone Tryz.cloneM b es clock w hb).mono fun e w' ⟨he, hw⟩ => ?_
  subst hw
  exact ⟨he, ⟨es, clock, World.alloc_heap_new w _, F, hs, hD⟩, (Below.refl _ w).alloc (Nat.le_refl _) _, World.size_alloc _ _⟩
theorem prefix_call (s p : ByteArray) (w : World) : Calls Tryz.prog 99 #[.string s, .string p] w fun e w' => e = .returned (.bool (Lib.hasPrefix s.data.toList p.data.toList)) ∧ w = w' :=
  (Tryz.strings_HasPrefix s p w).mono fun e w' ⟨h1, h2⟩ => ⟨h1, h2.symm⟩
end Go.Proofs.YtghbaehbgefpaaaGreatDoor.Fr
namespace Go.Proofs.YtghbaehbgefpaaaGreatDoor.Fr
open Go.RowKit Go.Proofs.YtghbaehbgefpaaaGreatDoor.F Go.Maps Go.ChangeMaps Go.WideMaps
abbrev Phi := Nat → Option (ByteArray × Int)
def fagg (f : ByteArray × Int) : DW := .agg [.lit (.string f.1.data.toList), .lit (.int .i64 f.2)]
def elemR (φ : Phi) : Value → Option (DW × List MemPlace)
  | .pointer none => some (.lit (.bool false), [])
  | .pointer (some ⟨q, 0, none⟩) => (φ q).map fun f => (fagg f, [])
  | _ => none
theorem elemR_nil (φ : Phi) : elemR φ (.pointer none) = some (.lit (.bool false), []) := rfl
theorem elemR_mk {φ : Phi} {q : Nat} {f : ByteArray × Int} (h : φ q = some f) : elemR φ (.pointer (some ⟨q, 0, none⟩)) = some (fagg f, []) := by
  show (φ q).map _ = _
  rw [h]
  rfl
theorem elemR_inv {φ : Phi} {v : Value} {y : DW × List MemPlace} (h : elemR φ v = some y) : (v = .pointer none ∧ y = (.lit (.bool false), [])) ∨ ∃ q f, v = .pointer (some ⟨q, 0, none⟩) ∧ φ q = some f ∧ y = (fagg f, []) := by
  unfold elemR at h
  split at h
  · exact .inl ⟨rfl, (Option.some.inj h).symm⟩
  · next q =>
    cases hq : φ q with
    | none => rw [hq] at h; cases h
    | some f =>
      rw [hq] at h
      exact .inr ⟨q, f, rfl, hq, (Option.some.inj h).symm⟩
  · cases h
theorem elemR_ext {φ φ' : Phi} (he : ∀ q f, φ q = some f → φ' q = some f) {v : Value} {y : DW × List MemPlace} (h : elemR φ v = some y) : elemR φ' v = some y := by
  rcases elemR_inv h with ⟨rfl, rfl⟩ | ⟨q, f, rfl, hq, rfl⟩
  · rfl
  · exact elemR_mk (he q f hq)
theorem fagg_inj {f g : ByteArray × Int} (h : fagg f = fagg g) : f = g := by
  obtain ⟨⟨⟨a⟩⟩, x⟩ := f
  obtain ⟨⟨⟨b⟩⟩, y⟩ := g
  simp [fagg] at h
  obtain ⟨rfl, rfl⟩ := h
  rfl
theorem fagg_fval (f : Fl) : fagg (f.f1, f.f2) = fval f := rfl
def FilesOK (w : World) (φ : Phi) : Prop := ∀ q f, φ q = some f → w.heap[q]? = some (.cells #[.string f.1, .int .i64 f.2] 110 (0, 0))
theorem FilesOK.lt {w : World} {φ : Phi} (h : FilesOK w φ) {q : Nat} (hq : φ q ≠ none) : q < w.heap.size := by
  cases e : φ q with
  | none => exact absurd e hq
  | some f => exact (Array.getElem?_eq_some_iff.1 (h q f e)).1
theorem FilesOK.chg {w w' : World} {φ : Phi} {S : Nat → Prop} (h : FilesOK w φ) (hc : Chg S w w') (hs : ∀ q, φ q ≠ none → ¬ S q) : FilesOK w' φ :=
  fun q f e => (hc.block q (h.lt (by rw [e]; simp)) (hs q (by rw [e]; simp))).trans (h q f e)
theorem FilesOK.below {w w' : World} {φ : Phi} (h : FilesOK w φ) (hb : Below w.heap.size w w') : FilesOK w' φ := h.chg (Chg.of_below hb fun _ => False) fun _ _ e => e
theorem FilesOK.cell0 {w : World} {φ : Phi} (h : FilesOK w φ) {q : Nat} {f : ByteArray × Int} (e : φ q = some f) : w.cell? ⟨q, 0, none⟩ = some (.string f.1) := by
  simp [World.cell?, h q f e]
theorem FilesOK.cell1 {w : World} {φ : Phi} (h : FilesOK w φ) {q : Nat} {f : ByteArray × Int} (e : φ q = some f) : w.cell? ⟨q, 1, none⟩ = some (.int .i64 f.2) := by
  simp [World.cell?, h q f e]
def Phi.add (φ : Phi) (q : Nat) (f : ByteArray × Int) : Phi := fun k => if k = q then some f else φ k
structure Ext (w : World) (φ φ' : Phi) : Prop where
  keeps : ∀ q f, φ q = some f → φ' q = some f
  new : ∀ q, φ' q ≠ none → φ q ≠ none ∨ w.heap.size ≤ q
theorem Ext.refl (w : World) (φ : Phi) : Ext w φ φ := ⟨fun _ _ h => h, fun _ h => .inl h⟩
theorem Ext.trans {w w' : World} {φ φ' φ'' : Phi} (h : Ext w φ φ') (k : Ext w' φ' φ'') (hs : w.heap.size ≤ w'.heap.size) : Ext w φ φ'' :=
  ⟨fun q f e => k.keeps q f (h.keeps q f e), fun q e => (k.new q e).elim (fun e => h.new q e) fun e => .inr (Nat.le_trans hs e)⟩
theorem Ext.add (w : World) (φ : Phi) (f : ByteArray × Int) (hq : ∀ k, φ k ≠ none → k < w.heap.size) {q : Nat} (h : w.heap.size ≤ q) : Ext w φ (φ.add q f) := by
  refine ⟨fun k g e => ?_, fun k e => ?_⟩
  · have := hq k (by rw [e]; simp)
    unfold Phi.add
    rw [if_neg (by omega)]
    exact e
  · unfold Phi.add at e
    split at e
    next h => exact .inr (by omega)
    next h => exact .inl e
theorem lawK : Keyed Tryz.prog 9 := string_keyed Tryz.underlying9
theorem zeroP (w : World) : (zeroValue 73).run Tryz.prog w = .ok (.pointer none) w := by kernel_rfl
def Img (w : World) (φ : Phi) (b : Nat) (L : List Fl) : Prop := w.ownsMap Tryz.prog 9 (elemR φ) b L.length (fdat L)
section
variable {w w' : World} {φ φ' : Phi} {b : Nat} {L : List Fl}
theorem owns_norm {n : Nat} {D : DW} (h : w.ownsMap Tryz.prog 9 (elemR φ) b n D) : w.ownsMap Tryz.prog 9 (elemR φ) b (Maps.size D) D := by
  obtain ⟨es, clock, hb, F, hs, rfl⟩ := h
  refine ⟨es, clock, hb, F, ?_, rfl⟩
  show es.size ≤ ((es.toList.map (WideElems.rg Tryz.prog 9 (elemR φ))).foldr DataW.insert []).length
  rw [length_sorted]
  simp
theorem Img.mk {n : Nat} (h : w.ownsMap Tryz.prog 9 (elemR φ) b n (fdat L)) : Img w φ b L := by
  have := owns_norm h
  rw [fdat_size] at this
  exact this
theorem Img.lt (h : Img w φ b L) : b < w.heap.size := World.ownsMap.lt h
theorem Img.block (h : Img w φ b L) (hb : w'.heap[b]? = w.heap[b]?) : Img w' φ b L := by
  obtain ⟨es, clock, h1, h2⟩ := h
  exact ⟨es, clock, hb.trans h1, h2⟩
theorem Img.chg {S : Nat → Prop} (h : Img w φ b L) (hc : Chg S w w') (hs : ¬ S b) : Img w' φ b L := h.block (hc.block b h.lt hs)
theorem Img.below (h : Img w φ b L) (hb : Below w.heap.size w w') : Img w' φ b L := h.block (hb.block b h.lt)
theorem Img.ext (h : Img w φ b L) (he : ∀ q f, φ q = some f → φ' q = some f) : Img w φ' b L := by
  obtain ⟨es, clock, h1, F, h2, h3⟩ := h
  obtain ⟨F', hmap, _⟩ := F.stay (R' := elemR φ') (fun x _ z hz => elemR_ext he hz)
  exact ⟨es, clock, h1, F', h2, by rw [hmap]; exact h3⟩
theorem Img.made (w : World) (φ : Phi) : Img (w.alloc (.map #[] 0)) φ w.heap.size [] := World.ownsMap_made _ _ _ _
theorem Img.look {p : ByteArray} (h : Img w φ b L) (hp : p.size ≤ 100000) {f : Fl} (hf : findF L p = some f) :
    ∃ q, (Instr.lookup 71 (.map (some b)) (.string p) false).run Tryz.prog w = .ok (.pointer (some ⟨q, 0, none⟩)) w ∧ φ q = some (f.f1, f.f2) := by
  obtain ⟨v, ps, hrun, hv⟩ := World.ownsMap.lookup h lawK Tryz.underlying71 (zeroP w) (elemR_nil φ) (keyOf_string_mk Tryz.underlying9 (Nat.le_trans hp (by decide) : p.size ≤ maxLen))
  rw [fdat_find, hf] at hv
  rcases elemR_inv hv with ⟨_, e⟩ | ⟨q, g, rfl, hq, e⟩
  · cases e
  · have := fagg_inj (f := (f.f1, f.f2)) (g := g) (congrArg Prod.fst e)
    exact ⟨q, hrun, by rw [hq, this]⟩
theorem Img.look_none {p : ByteArray} (h : Img w φ b L) (hp : p.size ≤ 100000) (hf : findF L p = none) :
    (Instr.lookup 71 (.map (some b)) (.string p) false).run Tryz.prog w = .ok (.pointer none) w := by
  obtain ⟨v, ps, hrun, hv⟩ := World.ownsMap.lookup h lawK Tryz.underlying71 (zeroP w) (elemR_nil φ) (keyOf_string_mk Tryz.underlying9 (Nat.le_trans hp (by decide) : p.size ≤ maxLen))
  rw [fdat_find, hf] at hv
  rcases elemR_inv hv with ⟨rfl, e⟩ | ⟨q, g, rfl, hq, e⟩
  · exact hrun
  · cases e
theorem Img.len (h : Img w φ b L) (ty : TypeId) : (Builtin.len_ #[71] ty #[.map (some b)]).run Tryz.prog w = .ok (.int .i64 L.length) w := by
  have := World.ownsMap.len h Tryz.underlying71 ty
  rw [fdat_size] at this
  exact this
theorem Img.store (h : Img w φ b L) (hl : L.length ≤ 1000000) {q : Nat} {f : Fl} (hq : φ q = some (f.f1, f.f2)) (hp : f.f0.size ≤ 100000) :
    ∃ w', (Instr.mapUpdate 71 (.map (some b)) (.string f.f0) (.pointer (some ⟨q, 0, none⟩))).run Tryz.prog w = .ok () w' ∧ Img w' φ b (putF L f) ∧ w.mapTurned w' b := by
  obtain ⟨w', h1, h2, h3⟩ := World.ownsMap.store h lawK Tryz.underlying71 (Nat.lt_of_le_of_lt hl (by decide)) (keyOf_string_mk Tryz.underlying9 (Nat.le_trans hp (by decide) : f.f0.size ≤ maxLen)) (elemR_mk hq)
  rw [fagg_fval, fdat_put] at h2
  exact ⟨w', h1, Img.mk h2, h3⟩
theorem Img.drop (h : Img w φ b L) {p : ByteArray} (hp : p.size ≤ 100000) (ty : TypeId) :
    ∃ w', (Builtin.delete_ #[71, 9] ty #[.map (some b), .string p]).run Tryz.prog w = .ok (.tuple #[]) w' ∧ Img w' φ b (dropF L p) ∧ w.mapTurned w' b := by
  obtain ⟨w', h1, h2, h3⟩ := World.ownsMap.drop h lawK Tryz.underlying71 (keyOf_string_mk Tryz.underlying9 (Nat.le_trans hp (by decide) : p.size ≤ maxLen)) ty
  rw [fdat_del] at h2
  exact ⟨w', h1, Img.mk h2, h3⟩
end
theorem turned_chg {w w' : World} {b : Nat} (h : w.mapTurned w' b) : Chg (fun k => k = b) w w' :=
  (Chg.refl _ w).grown h.grown (fun k e _ => (Option.some.inj e).symm)
section
variable {ops : Array Oper} {rest : List Oper} {o : Oper} {a : Act} {Q : Exit → Act → World → Prop} {φ : Phi} {L : List Fl}
theorem wpList_store_img (w : World) (hg : o.guard = none) (m x v : Operand) (hop : o.op = Op.mapUpdate 71 m x v) (b q : Nat) (f : Fl) (hm : a.eval m = .map (some b)) (h : Img w φ b L) (hl : L.length ≤ 1000000) (hx : a.eval x = .string f.f0) (hv : a.eval v = .pointer (some ⟨q, 0, none⟩))
    (hq : φ q = some (f.f1, f.f2)) (hp : f.f0.size ≤ 100000) (hK : ∀ w', Img w' φ b (putF L f) → Chg (fun k => k = b) w w' → w'.heap.size = w.heap.size → wpList Tryz.prog ops Q rest (a.put o.dst undef) w') : wpList Tryz.prog ops Q (o :: rest) a w := by
  refine wpList_plain hg fun K' hK' => ?_
  obtain ⟨w', hrun, h1, h2⟩ := h.store hl hq hp
  unfold Oper.wp
  simp [execOp, hop, hm, hx, hv, hrun, Result.andThen]
  refine hK' _ _ (hK w' h1 (turned_chg h2) ?_)
  obtain ⟨es, clock, es', clock', hb, rfl⟩ := h2
  simp [ChangeMaps.setBlock]
theorem wpList_look_none (w : World) (hg : o.guard = none) (m x : Operand) (hop : o.op = Op.lookup 71 m x false) (b : Nat) (p : ByteArray) (hm : a.eval m = .map (some b)) (h : Img w φ b L) (hx : a.eval x = .string p) (hp : p.size ≤ 100000) (hf : findF L p = none)
    (hK : wpList Tryz.prog ops Q rest (a.put o.dst (.pointer none)) w) : wpList Tryz.prog ops Q (o :: rest) a w := by
  refine wpList_plain hg fun K' hK' => ?_
  have hrun := h.look_none hp hf
  unfold Oper.wp
  simp [execOp, hop, hm, hx, hrun, Result.andThen]
  exact hK' _ _ hK
theorem wpList_look_some (w : World) (hg : o.guard = none) (m x : Operand) (hop : o.op = Op.lookup 71 m x false) (b : Nat) (p : ByteArray) (hm : a.eval m = .map (some b)) (h : Img w φ b L) (hx : a.eval x = .string p) (hp : p.size ≤ 100000) (f : Fl) (hf : findF L p = some f)
    (hK : ∀ q, φ q = some (f.f1, f.f2) → wpList Tryz.prog ops Q rest (a.put o.dst (.pointer (some ⟨q, 0, none⟩))) w) : wpList Tryz.prog ops Q (o :: rest) a w := by
  refine wpList_plain hg fun K' hK' => ?_
  obtain ⟨q, hrun, hq⟩ := h.look hp hf
  unfold Oper.wp
  simp [execOp, hop, hm, hx, hrun, Result.andThen]
  exact hK' _ _ (hK q hq)
theorem wpList_delete_img (w : World) (hg : o.guard = none) (m x : Operand) (hop : o.op = Op.call { callee := Callee.builtin Builtin.delete, args := #[m, x], argTypes := #[71, 9] }) (b : Nat) (p : ByteArray) (hm : a.eval m = .map (some b)) (h : Img w φ b L) (hx : a.eval x = .string p) (hp : p.size ≤ 100000)
    (hK : ∀ w', Img w' φ b (dropF L p) → Chg (fun k => k = b) w w' → w'.heap.size = w.heap.size → wpList Tryz.prog ops Q rest (a.put o.dst (.tuple #[])) w') : wpList Tryz.prog ops Q (o :: rest) a w := by
  refine wpList_plain hg fun K' hK' => ?_
  obtain ⟨w', hrun, h1, h2⟩ := h.drop hp o.type
  unfold Oper.wp
  simp [execOp, hop, resolve, invoke, builtin, hm, hx, hrun, Result.andThen]
  refine hK' _ _ (hK w' h1 (turned_chg h2) ?_)
  obtain ⟨es, clock, es', clock', hb, rfl⟩ := h2
  simp [ChangeMaps.setBlock]
def ptrV : Option Nat → Value
  | none => .pointer none
  | some q => .pointer (some ⟨q, 0, none⟩)
theorem wpList_next_img (w : World) (hg : o.guard = none) (it : Operand) (hop : o.op = Op.next it false) (b r n : Nat) (left : Lit → Bool) (cnt : Nat) (hit : a.eval it = .pointer (some ⟨r, 0, none⟩)) (h : w.ranges Tryz.prog 9 (elemR φ) b r n (fdat L) left cnt)
    (hDone : cnt = 0 → (∀ kl, left kl = false) → wpList Tryz.prog ops Q rest (a.put o.dst (.tuple #[.bool false])) w)
    (hMore : ∀ (f : Fl) (q : Nat) (w' : World) (cnt' : Nat), findF L f.f0 = some f → left (.string f.f0.data.toList) = true → φ q = some (f.f1, f.f2) → w'.ranges Tryz.prog 9 (elemR φ) b r n (fdat L) (fun z => left z && !z.sameKey (.string f.f0.data.toList)) cnt' → cnt' < cnt →
      w.grownBy w' (some r) → w'.heap.size = w.heap.size → (Instr.entry (.pointer (some ⟨r, 0, none⟩))).run Tryz.prog w' = .ok (.tuple #[.string f.f0, .pointer (some ⟨q, 0, none⟩)]) w' → wpList Tryz.prog ops Q rest (a.put o.dst (.tuple #[.bool true, .string f.f0, .pointer (some ⟨q, 0, none⟩)])) w') :
    wpList Tryz.prog ops Q (o :: rest) a w := by
  refine wpList_next_ranges w hg it hop 9 lawK (elemR φ) encStr ptrV (fun key kl hk => by obtain ⟨x, hx, _⟩ := Maps.keyOf_str Tryz.underlying9 hk; exact ⟨x, hx⟩) (fun v y hv => ?_) b r n (fdat L) left cnt hit h hDone ?_
  · rcases elemR_inv hv with ⟨rfl, _⟩ | ⟨q, g, rfl, _, _⟩
    · exact ⟨none, rfl⟩
    · exact ⟨some q, rfl⟩
  · intro x c kl y w' cnt' hkey hlk hv hat hrg hlt hg2 hs hen
    obtain ⟨x', ex, rfl, _⟩ := Maps.keyOf_str Tryz.underlying9 hkey
    obtain rfl : x = x' := encStr_inj ex
    have h1 := hat (.lit (.bool false))
    have h2 := hat (.lit (.bool true))
    have e1 : (Lit.string x) = .string (⟨x.toArray⟩ : ByteArray).data.toList := rfl
    rw [e1, fdat_find] at h1 h2
    cases hf : findF L ⟨x.toArray⟩ with
    | none =>
      rw [hf] at h1 h2
      rw [← h2] at h1
      exact absurd h1 (by simp)
    | some f =>
      rw [hf] at h1
      have hx : f.f0.data.toList = x := by
        have := List.find?_some hf
        exact beq_iff_eq.1 this
      have hfe : f.f0 = ⟨x.toArray⟩ := by
        rw [← hx]
      rcases elemR_inv hv with ⟨_, e⟩ | ⟨q, g, hc, hq, e⟩
      · rw [e] at h1
        cases h1
      · have hc' : c = some q := by
          cases c with
          | none => cases hc
          | some k => simp [ptrV] at hc; rw [hc]
        subst hc'
        rw [e] at h1
        have hfg : (f.f1, f.f2) = g := fagg_inj h1
        have he : encStr x = .string f.f0 := by rw [hfe]
        rw [he] at hen ⊢
        exact hMore f q w' cnt' (by rw [hfe]; exact hf) (by rw [hx]; exact hlk) (by rw [hq, hfg]) (by rw [hx]; exact hrg) hlt hg2 hs hen
end
end Go.Proofs.YtghbaehbgefpaaaGreatDoor.Fr
