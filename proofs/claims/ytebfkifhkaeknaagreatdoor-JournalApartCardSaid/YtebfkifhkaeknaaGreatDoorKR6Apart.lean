import Derived.Test.YtebfkifhkaeknaaGreatDoorQC
import Derived.Test.YtebfkifhkaeknaaGreatDoorKMr
/- JournalApart. -/
namespace Go.Proofs.YtebfkifhkaeknaaGreatDoor.Fr
open Go.RowKit Go.Proofs.YtebfkifhkaeknaaGreatDoor.F Go.Proofs.YtebfkifhkaeknaaGreatDoorW.PrintWords
open Go.Proofs.YtebfkifhkaeknaaGreatDoor.Hand (putV takeV scanV)
open Go.Proofs.YtebfkifhkaeknaaGreatDoor.PureL (cat cat_app cat_behind cat_size)
set_option linter.unusedVariables false
set_option linter.unusedSimpArgs false

section
variable {w : World}
set_option maxHeartbeats 8000000 in
set_option maxRecDepth 100000 in
theorem R_JournalApart (hG : Hand2.Glob w) (A : Option Addr) (c : Nat) (la : List (List ByteArray)) (hA : Kd.C kLL w A la.length la) (hcA : la.length ≤ c) (B : Option Addr) (d : Nat) (lb : List (List ByteArray)) (hB : Kd.C kLL w B lb.length lb) (hcB : lb.length ≤ d) (anew : Bool) :
    Calls Tryz.prog 3 #[.slice A la.length c, .slice B lb.length d, .bool anew] w fun e w' => e = .returned (.bool true) ∧ Below w.heap.size w w' := by
  have HG := Lib.hid hG
  have HA := Lib.hid hA
  have HB := Lib.hid hB
  clear hG hA hB
  go_enter Tryz.func3, Tryz.ntmps3
  go_upto_region 5 with (first
    | (go_at_call 8; refine (shown6_call HG.out).mono ?_; rintro e w1 ⟨rfl, hb⟩; have HB1 := Lib.hid hb; clear hb)
    | (go_at_call_of 9 (Value.slice A la.length c); refine (tiny_call (Kd.C_below HA.out HB1.out) hcA).mono ?_; rintro e w2 ⟨b1, rfl, ht, hb⟩; have HT1 := Lib.hid ht; have HB2 := Lib.hid (HB1.out.trans (hb.mono HB1.out.size)); clear ht hb)
    | (go_at_call_of 9 (Value.slice B lb.length d); refine (tiny_call (Kd.C_below HB.out HB2.out) hcB).mono ?_; rintro e w2 ⟨b2, rfl, ht, hb⟩; have HT2 := Lib.hid ht; have HB3 := Lib.hid (HB2.out.trans (hb.mono HB2.out.size)); clear ht hb)
    | (go_at_call 10; refine (begun6_sts _ 1048576 (by decide) (by decide)).mono ?_; rintro e w4 ⟨p, m, rfl, hs, hb⟩; obtain ⟨b0, hb0⟩ : ∃ b0, w4.heap.size = b0 := ⟨_, rfl⟩; obtain ⟨K, hK⟩ : ∃ K : Nat → Prop, K = fun k => k < w2.heap.size ∨ k = b0 := ⟨_, rfl⟩; have hl := law_begun6 HG.out HB3.out hs hb; rw [hb0] at hl; rw [← hK] at hl; have HL0' := Lib.hid hl; clear hs hb hl hK))
  have HL0 : Hid (Law w K m [(p, newT 1048576)] (newT 1048576) [PBox6 p m b0] (w4.alloc (.cells #[.pointer (some ⟨p, 0, none⟩), .pointer (some ⟨m, 0, none⟩)] 28))) := HL0'.out
  clear HL0'
  try rw [hb0]
  generalize w4.alloc (.cells #[.pointer (some ⟨p, 0, none⟩), .pointer (some ⟨m, 0, none⟩)] 28) = W0 at HL0 ⊢
  clear hb0
  cases b1 with
  | false =>
    go_wp2_with fail
    go_ret
    exact ⟨rfl, HL0.out.bel⟩
  | true =>
    cases b2 with
    | false =>
      go_wp2_with fail
      go_ret
      exact ⟨rfl, HL0.out.bel⟩
    | true =>
      have HTY1 := Lib.hid (HT1.out rfl)
      have HTY2 := Lib.hid (HT2.out rfl)
      clear HT1 HT2
      have hla := HTY1.out.1
      have hlb := HTY2.out.1
      obtain ⟨i0, hi, hz0, hz1, hz2⟩ := info_parts Hand.info23
      have HJ0 : Hid (J2 0 0 (newT 1048576) [] []) := j2_new
      have HX0 : Hid (InAt w K W0 (.slice none 0 0) [] []) := in_nil w W0 K
      have HY0 : Hid (InAt w K W0 (.slice none 0 0) [] []) := in_nil w W0 K
      go_wp2_with fail
      go_loopw [12, 13, 14] (fun vx vy i wr => ∃ (k : Nat) (T : TS) (K : Nat → Prop) (Ax : Option Addr) (cx : Nat) (cex : List Value) (Ay : Option Addr) (cy : Nat) (cey : List Value) (zx zy : List (List ByteArray)), k ≤ 20 ∧ i = .int .i64 k ∧ vx = .slice Ax zx.length cx ∧ vy = .slice Ay zy.length cy ∧ Hid (Law w K m [(p, T)] (newT 1048576) [PBox6 p m b0] wr) ∧ Hid (InAt w K wr (.slice Ax zx.length cx) zx cex) ∧ Hid (InAt w K wr (.slice Ay zy.length cy) zy cey) ∧ Hid (∀ j, (Value.slice Ay zy.length cy).ownBlock = some j → (Value.slice Ax zx.length cx).ownBlock ≠ some j) ∧ Hid (J2 (2 * k) (26000 * k) T zx zy) ∧ zx.length ≤ k ∧ zy.length ≤ k)
        (fun _ _ i _ => 20 - (intOf i).toNat)
      case atStart => exact ⟨0, _, K, none, 0, [], none, 0, [], [], [], Nat.zero_le _, rfl, rfl, rfl, HL0.out, HX0.out, HY0.out, (fun j hj => by simp [Value.ownBlock] at hj), HJ0.out, Nat.le_refl _, Nat.le_refl _⟩
      case round =>
        clear HL0 HX0 HY0 HJ0 K
        obtain ⟨k, T, K, Ax, cx, cex, Ay, cy, cey, zx, zy, hk, rfl, rfl, rfl, HL0, HX, HY, HD, HJ, hzx, hzy⟩ := hrel
        have H63x : Hid (zx.length + 1 ≤ maxLen) := by unfold Hid maxLen; omega
        have HBYx : Hid ((zx.length + 1) * 24 ≤ 140737488355328) := by unfold Hid; omega
        have H63y : Hid (zy.length + 1 ≤ maxLen) := by unfold Hid maxLen; omega
        have HBYy : Hid ((zy.length + 1) * 24 ≤ 140737488355328) := by unfold Hid; omega
        by_cases hkx : k < la.length
        · have hdx : decide ((k : Int) < (la.length : Int)) = true := decide_eq_true (by omega)
          obtain ⟨adx, Axe, cxe, e, hcex, hclx, hCex⟩ := at_LL HA.out hkx
          subst e
          have HTXx := Lib.hid (HTY1.out.2 _ (List.getElem_mem hkx))
          have hcodex := put_code la[k]
          skip
          generalize la[k] = ex at hcex hclx hCex HTXx hcodex
          have HCEx := Lib.hid hcex
          have HCXx := Lib.hid hCex
          have hadx := cell_lt hcex
          clear hcex hCex
          rcases hcodex with hc0x | hc0x | hc0x
          · skip
            go_upto_region 11 with fail
            obtain ⟨ha1, ha2⟩ := HJ.out.addx hc0x (by omega)
            obtain ⟨Txb, hTb⟩ : ∃ Tb, addT T oneB ex = Tb := ⟨_, rfl⟩
            rw [hTb] at ha2
            have HAEx := Lib.hid ha1
            have HTBx := Lib.hid hTb
            have HJxb := Lib.hid ha2
            clear ha1 ha2 hTb hc0x
            have HL0d : Hid (Law w K m [(p, T)] (newT 1048576) [PBox6 p m b0] (World.drew _)) := HL0.out.below (Below.refl _ _).drew
            have HXdx := Lib.hid (HX.out.below (Below.refl _ _).drew)
            have HYdx := Lib.hid (HY.out.below (Below.refl _ _).drew)
            obtain ⟨c0, c1⟩ := (HL0.out.va 0 rfl : PBox6 p m b0 _).cells
            have cexx := (HL0.out.bel.cell (p := adx.add k) hadx).trans HCEx.out
            (go_region_held3 (fun W => (W.cell? ⟨b0, 0, none⟩ = some (.pointer (some ⟨p, 0, none⟩)) ∧ W.cell? (adx.add k) = some (.slice Axe ex.length cxe)) ∧ Hid (Below w.heap.size w W)) (first | exact ⟨⟨(HL1.out.va 0 rfl : PBox6 p m b0 _).cells.1, (HL1.out.bel.cell (p := adx.add k) hadx).trans HCEx.out⟩, HL1.out.bel⟩ | exact ⟨⟨(HL0d.out.va 0 rfl : PBox6 p m b0 _).cells.1, (HL0d.out.bel.cell (p := adx.add k) hadx).trans HCEx.out⟩, HL0d.out.bel⟩) (first
              | (go_at_call 11; refine (HL0d.out.sts.jAdd (i := 0) rfl HL0d.out.glob HJ.out.inv (by omega) oneB (by decide) Axe cxe ex (kd_str_below HCXx.out HL0d.out.bel) hclx (fun y hy => Nat.le_trans (HTXx.out.2 y hy) (by decide))).mono ?_; rintro e w2 ⟨rfl, hs, hk⟩; rw [HAEx.out]; rw [HTBx.out] at hs; have HL1 : Hid (Law w K m [(p, Txb)] (newT 1048576) [PBox6 p m b0] w2) := HL0d.out.step hs hk; have HXex := Lib.hid (HXdx.out.kp hk); have HYex := Lib.hid (HYdx.out.kp hk); clear hs hk)))
            clear c0 c1 cexx HL0 HL0d HXdx HYdx HX HY
            go_upto_region 12 with fail
            have cexx := (HL1.out.bel.cell (p := adx.add k) hadx).trans HCEx.out
            have HRW := Lib.hid ((HXex.out.below (newBelow _ (.cells #[.slice Axe ex.length cxe] 33))).row)
            have HNW := Lib.hid (news1 w2 (.slice Axe ex.length cxe))
            have HONE : Hid (∀ u ∈ [Value.slice Axe ex.length cxe], u.oneCell' = true) := fun u hu => by rw [List.mem_singleton.1 hu]; rfl
            have HBA : Hid (w.heap.size ≤ (w2.alloc (.cells #[.slice Axe ex.length cxe] 33)).heap.size) := by rw [Hid, World.size_alloc]; exact Nat.le_succ_of_le HL1.out.bel.size
            have HDo : Hid (∀ j, (Value.slice Ay zy.length cy).ownBlock = some j → (Value.slice Ax zx.length cx).ownBlock ≠ some j) := HD.out
            by_cases hky : k < lb.length
            · skip
              obtain ⟨ady, Aye, cye, e, hcey, hcly, hCey⟩ := at_LL HB.out hky
              subst e
              have HTXy := Lib.hid (HTY2.out.2 _ (List.getElem_mem hky))
              have hcodey := put_code lb[k]
              skip
              generalize lb[k] = ey at hcey hcly hCey HTXy hcodey
              have HCEy := Lib.hid hcey
              have HCXy := Lib.hid hCey
              have hady := cell_lt hcey
              clear hcey hCey
              rcases hcodey with hc0y | hc0y | hc0y
              · skip
                have hdy : decide ((k : Int) < (lb.length : Int)) = true := decide_eq_true (by omega)
                go_upto_region 13 with (first
                  | (at_builtin; refine wpList_append_own_at _ rfl _ _ 22 rfl w.heap.size 33 i0 _ 1 24 Tryz.underlying22 hi hz0 hz1 hz2 rfl (by decide) _ (zx.length) _ rfl HRW.out ⟨w2.heap.size, 0, none⟩ 1 1 [.slice Axe ex.length cxe] rfl rfl HNW.out HONE.out H63x.out HBYx.out HBA.out ?_; intro v9 w9x h1 h2 h3 h4; obtain ⟨K9x, hl9, hn9, hK9, hC9, hb9⟩ := in_step HL1.out HXex.out hclx HCXx.out (box_in HXex.out (HL1.out.va 0 rfl)) h1 h2 h4; obtain ⟨ho9, hd9⟩ := two_step HYex.out HDo.out hC9 hK9 hb9; obtain ⟨A9x, c9x, rfl⟩ := hn9.slice; have HL2 := Lib.hid hl9; have HN9x := Lib.hid hn9; have HO9x := Lib.hid ho9; have HD9x := Lib.hid hd9; clear h1 h2 h3 h4 hl9 hn9 hK9 hC9 hb9 ho9 hd9))
                obtain ⟨ha1, ha2⟩ := HJxb.out.addy hc0y (by omega)
                obtain ⟨Tyb, hTb⟩ : ∃ Tb, addT Txb twoB ey = Tb := ⟨_, rfl⟩
                rw [hTb] at ha2
                have HAEy := Lib.hid ha1
                have HTBy := Lib.hid hTb
                have HJyb := Lib.hid ha2
                clear ha1 ha2 hTb hc0y
                have HL2d : Hid (Law w K9x m [(p, Txb)] (newT 1048576) [PBox6 p m b0] (World.drew _)) := HL2.out.below (Below.refl _ _).drew
                have HXdy := Lib.hid (HN9x.out.below (Below.refl _ _).drew)
                have HYdy := Lib.hid (HO9x.out.below (Below.refl _ _).drew)
                obtain ⟨c0, c1⟩ := (HL2.out.va 0 rfl : PBox6 p m b0 _).cells
                have cexy := (HL2.out.bel.cell (p := ady.add k) hady).trans HCEy.out
                (go_region_held3 (fun W => (W.cell? ⟨b0, 0, none⟩ = some (.pointer (some ⟨p, 0, none⟩)) ∧ W.cell? (ady.add k) = some (.slice Aye ey.length cye)) ∧ Hid (Below w.heap.size w W)) (first | exact ⟨⟨(HL3.out.va 0 rfl : PBox6 p m b0 _).cells.1, (HL3.out.bel.cell (p := ady.add k) hady).trans HCEy.out⟩, HL3.out.bel⟩ | exact ⟨⟨(HL2d.out.va 0 rfl : PBox6 p m b0 _).cells.1, (HL2d.out.bel.cell (p := ady.add k) hady).trans HCEy.out⟩, HL2d.out.bel⟩) (first
                  | (go_at_call 11; refine (HL2d.out.sts.jAdd (i := 0) rfl HL2d.out.glob HJxb.out.inv (by omega) twoB (by decide) Aye cye ey (kd_str_below HCXy.out HL2d.out.bel) hcly (fun y hy => Nat.le_trans (HTXy.out.2 y hy) (by decide))).mono ?_; rintro e w3 ⟨rfl, hs, hk⟩; rw [HAEy.out]; rw [HTBy.out] at hs; have HL3 : Hid (Law w K9x m [(p, Tyb)] (newT 1048576) [PBox6 p m b0] w3) := HL2d.out.step hs hk; have HXey := Lib.hid (HXdy.out.kp hk); have HYey := Lib.hid (HYdy.out.kp hk); clear hs hk)))
                clear c0 c1 cexy HL2 HL2d HXdy HYdy HN9x HO9x
                go_upto_region 14 with fail
                have cexy := (HL3.out.bel.cell (p := ady.add k) hady).trans HCEy.out
                have HRW := Lib.hid ((HYey.out.below (newBelow _ (.cells #[.slice Aye ey.length cye] 33))).row)
                have HNW := Lib.hid (news1 w3 (.slice Aye ey.length cye))
                have HONE : Hid (∀ u ∈ [Value.slice Aye ey.length cye], u.oneCell' = true) := fun u hu => by rw [List.mem_singleton.1 hu]; rfl
                have HBA : Hid (w.heap.size ≤ (w3.alloc (.cells #[.slice Aye ey.length cye] 33)).heap.size) := by rw [Hid, World.size_alloc]; exact Nat.le_succ_of_le HL3.out.bel.size
                have HDo := Lib.hid (fun j (h1 : (Value.slice A9x (zx ++ [ex]).length c9x : Value).ownBlock = some j) (h2 : (Value.slice Ay zy.length cy : Value).ownBlock = some j) => HD9x.out j h2 h1)
                go_wp2_with (first
                  | (at_builtin; refine wpList_append_own_at _ rfl _ _ 22 rfl w.heap.size 33 i0 _ 1 24 Tryz.underlying22 hi hz0 hz1 hz2 rfl (by decide) _ (zy.length) _ rfl HRW.out ⟨w3.heap.size, 0, none⟩ 1 1 [.slice Aye ey.length cye] rfl rfl HNW.out HONE.out H63y.out HBYy.out HBA.out ?_; intro v9 w9y h1 h2 h3 h4; obtain ⟨K9y, hl9, hn9, hK9, hC9, hb9⟩ := in_step HL3.out HYey.out hcly HCXy.out (box_in HYey.out (HL3.out.va 0 rfl)) h1 h2 h4; obtain ⟨ho9, hd9⟩ := two_step HXey.out HDo.out hC9 hK9 hb9; obtain ⟨A9y, c9y, rfl⟩ := hn9.slice; have HL4 := Lib.hid hl9; have HN9y := Lib.hid hn9; have HO9y := Lib.hid ho9; have HD9y := Lib.hid hd9; clear h1 h2 h3 h4 hl9 hn9 hK9 hC9 hb9 ho9 hd9))
                have hzx' : (zx ++ [ex]).length = zx.length + 1 := by rw [List.length_append]; rfl
                have hzy' : (zy ++ [ey]).length = zy.length + 1 := by rw [List.length_append]; rfl
                go_roundw
                case rel =>
                  refine ⟨k + 1, Tyb, K9y, _, _, _, _, _, _, (zx ++ [ex]), (zy ++ [ey]), by omega, by go_num, ?_, ?_, HL4.out, HO9y.out, HN9y.out, (fun j h1 h2 => HD9y.out j h2 h1), HJyb.out.mono (by omega) (by omega), by omega, by omega⟩
                  · rw [hzx']
                  · rw [hzy']
                case measure => simp [intOf]; omega
              · skip
                have hdy : decide ((k : Int) < (lb.length : Int)) = true := decide_eq_true (by omega)
                go_upto_region 13 with (first
                  | (at_builtin; refine wpList_append_own_at _ rfl _ _ 22 rfl w.heap.size 33 i0 _ 1 24 Tryz.underlying22 hi hz0 hz1 hz2 rfl (by decide) _ (zx.length) _ rfl HRW.out ⟨w2.heap.size, 0, none⟩ 1 1 [.slice Axe ex.length cxe] rfl rfl HNW.out HONE.out H63x.out HBYx.out HBA.out ?_; intro v9 w9x h1 h2 h3 h4; obtain ⟨K9x, hl9, hn9, hK9, hC9, hb9⟩ := in_step HL1.out HXex.out hclx HCXx.out (box_in HXex.out (HL1.out.va 0 rfl)) h1 h2 h4; obtain ⟨ho9, hd9⟩ := two_step HYex.out HDo.out hC9 hK9 hb9; obtain ⟨A9x, c9x, rfl⟩ := hn9.slice; have HL2 := Lib.hid hl9; have HN9x := Lib.hid hn9; have HO9x := Lib.hid ho9; have HD9x := Lib.hid hd9; clear h1 h2 h3 h4 hl9 hn9 hK9 hC9 hb9 ho9 hd9))
                obtain ⟨ha1, ha2⟩ := add_bad (T := Txb) (q := twoB) (l := ey) (by kernel_rfl) (by omega)
                rw [hc0y] at ha1
                have HAEy := Lib.hid ha1
                have HTBy := Lib.hid ha2
                clear ha1 ha2 hc0y
                have HL2d : Hid (Law w K9x m [(p, Txb)] (newT 1048576) [PBox6 p m b0] (World.drew _)) := HL2.out.below (Below.refl _ _).drew
                have HXdy := Lib.hid (HN9x.out.below (Below.refl _ _).drew)
                have HYdy := Lib.hid (HO9x.out.below (Below.refl _ _).drew)
                obtain ⟨c0, c1⟩ := (HL2.out.va 0 rfl : PBox6 p m b0 _).cells
                have cexy := (HL2.out.bel.cell (p := ady.add k) hady).trans HCEy.out
                (go_region_held3 (fun W => (W.cell? ⟨b0, 0, none⟩ = some (.pointer (some ⟨p, 0, none⟩)) ∧ W.cell? (ady.add k) = some (.slice Aye ey.length cye)) ∧ Hid (Below w.heap.size w W)) (first | exact ⟨⟨(HL3.out.va 0 rfl : PBox6 p m b0 _).cells.1, (HL3.out.bel.cell (p := ady.add k) hady).trans HCEy.out⟩, HL3.out.bel⟩ | exact ⟨⟨(HL2d.out.va 0 rfl : PBox6 p m b0 _).cells.1, (HL2d.out.bel.cell (p := ady.add k) hady).trans HCEy.out⟩, HL2d.out.bel⟩) (first
                  | (go_at_call 11; refine (HL2d.out.sts.jAdd (i := 0) rfl HL2d.out.glob HJxb.out.inv (by omega) twoB (by decide) Aye cye ey (kd_str_below HCXy.out HL2d.out.bel) hcly (fun y hy => Nat.le_trans (HTXy.out.2 y hy) (by decide))).mono ?_; rintro e w3 ⟨rfl, hs, hk⟩; rw [HAEy.out]; rw [HTBy.out] at hs; have HL3 : Hid (Law w K9x m [(p, Txb)] (newT 1048576) [PBox6 p m b0] w3) := HL2d.out.step hs hk; have HXey := Lib.hid (HXdy.out.kp hk); have HYey := Lib.hid (HYdy.out.kp hk); clear hs hk)))
                clear c0 c1 cexy HL2 HL2d HXdy HYdy HN9x HO9x
                go_wp2_with fail
                have hzx' : (zx ++ [ex]).length = zx.length + 1 := by rw [List.length_append]; rfl
                go_roundw
                case rel =>
                  refine ⟨k + 1, Txb, K9x, _, _, _, _, _, _, (zx ++ [ex]), zy, by omega, by go_num, ?_, ?_, HL3.out, HXey.out, HYey.out, HD9x.out, HJxb.out.mono (by omega) (by omega), by omega, by omega⟩
                  · rw [hzx']
                  · rfl
                case measure => simp [intOf]; omega
              · skip
                have hdy : decide ((k : Int) < (lb.length : Int)) = true := decide_eq_true (by omega)
                go_upto_region 13 with (first
                  | (at_builtin; refine wpList_append_own_at _ rfl _ _ 22 rfl w.heap.size 33 i0 _ 1 24 Tryz.underlying22 hi hz0 hz1 hz2 rfl (by decide) _ (zx.length) _ rfl HRW.out ⟨w2.heap.size, 0, none⟩ 1 1 [.slice Axe ex.length cxe] rfl rfl HNW.out HONE.out H63x.out HBYx.out HBA.out ?_; intro v9 w9x h1 h2 h3 h4; obtain ⟨K9x, hl9, hn9, hK9, hC9, hb9⟩ := in_step HL1.out HXex.out hclx HCXx.out (box_in HXex.out (HL1.out.va 0 rfl)) h1 h2 h4; obtain ⟨ho9, hd9⟩ := two_step HYex.out HDo.out hC9 hK9 hb9; obtain ⟨A9x, c9x, rfl⟩ := hn9.slice; have HL2 := Lib.hid hl9; have HN9x := Lib.hid hn9; have HO9x := Lib.hid ho9; have HD9x := Lib.hid hd9; clear h1 h2 h3 h4 hl9 hn9 hK9 hC9 hb9 ho9 hd9))
                obtain ⟨ha1, ha2⟩ := add_bad (T := Txb) (q := twoB) (l := ey) (by kernel_rfl) (by omega)
                rw [hc0y] at ha1
                have HAEy := Lib.hid ha1
                have HTBy := Lib.hid ha2
                clear ha1 ha2 hc0y
                have HL2d : Hid (Law w K9x m [(p, Txb)] (newT 1048576) [PBox6 p m b0] (World.drew _)) := HL2.out.below (Below.refl _ _).drew
                have HXdy := Lib.hid (HN9x.out.below (Below.refl _ _).drew)
                have HYdy := Lib.hid (HO9x.out.below (Below.refl _ _).drew)
                obtain ⟨c0, c1⟩ := (HL2.out.va 0 rfl : PBox6 p m b0 _).cells
                have cexy := (HL2.out.bel.cell (p := ady.add k) hady).trans HCEy.out
                (go_region_held3 (fun W => (W.cell? ⟨b0, 0, none⟩ = some (.pointer (some ⟨p, 0, none⟩)) ∧ W.cell? (ady.add k) = some (.slice Aye ey.length cye)) ∧ Hid (Below w.heap.size w W)) (first | exact ⟨⟨(HL3.out.va 0 rfl : PBox6 p m b0 _).cells.1, (HL3.out.bel.cell (p := ady.add k) hady).trans HCEy.out⟩, HL3.out.bel⟩ | exact ⟨⟨(HL2d.out.va 0 rfl : PBox6 p m b0 _).cells.1, (HL2d.out.bel.cell (p := ady.add k) hady).trans HCEy.out⟩, HL2d.out.bel⟩) (first
                  | (go_at_call 11; refine (HL2d.out.sts.jAdd (i := 0) rfl HL2d.out.glob HJxb.out.inv (by omega) twoB (by decide) Aye cye ey (kd_str_below HCXy.out HL2d.out.bel) hcly (fun y hy => Nat.le_trans (HTXy.out.2 y hy) (by decide))).mono ?_; rintro e w3 ⟨rfl, hs, hk⟩; rw [HAEy.out]; rw [HTBy.out] at hs; have HL3 : Hid (Law w K9x m [(p, Txb)] (newT 1048576) [PBox6 p m b0] w3) := HL2d.out.step hs hk; have HXey := Lib.hid (HXdy.out.kp hk); have HYey := Lib.hid (HYdy.out.kp hk); clear hs hk)))
                clear c0 c1 cexy HL2 HL2d HXdy HYdy HN9x HO9x
                go_wp2_with fail
                have hzx' : (zx ++ [ex]).length = zx.length + 1 := by rw [List.length_append]; rfl
                go_roundw
                case rel =>
                  refine ⟨k + 1, Txb, K9x, _, _, _, _, _, _, (zx ++ [ex]), zy, by omega, by go_num, ?_, ?_, HL3.out, HXey.out, HYey.out, HD9x.out, HJxb.out.mono (by omega) (by omega), by omega, by omega⟩
                  · rw [hzx']
                  · rfl
                case measure => simp [intOf]; omega
            · skip
              have hdy : decide ((k : Int) < (lb.length : Int)) = false := decide_eq_false (by omega)
              go_upto_region 13 with (first
                | (at_builtin; refine wpList_append_own_at _ rfl _ _ 22 rfl w.heap.size 33 i0 _ 1 24 Tryz.underlying22 hi hz0 hz1 hz2 rfl (by decide) _ (zx.length) _ rfl HRW.out ⟨w2.heap.size, 0, none⟩ 1 1 [.slice Axe ex.length cxe] rfl rfl HNW.out HONE.out H63x.out HBYx.out HBA.out ?_; intro v9 w9x h1 h2 h3 h4; obtain ⟨K9x, hl9, hn9, hK9, hC9, hb9⟩ := in_step HL1.out HXex.out hclx HCXx.out (box_in HXex.out (HL1.out.va 0 rfl)) h1 h2 h4; obtain ⟨ho9, hd9⟩ := two_step HYex.out HDo.out hC9 hK9 hb9; obtain ⟨A9x, c9x, rfl⟩ := hn9.slice; have HL2 := Lib.hid hl9; have HN9x := Lib.hid hn9; have HO9x := Lib.hid ho9; have HD9x := Lib.hid hd9; clear h1 h2 h3 h4 hl9 hn9 hK9 hC9 hb9 ho9 hd9))
              go_quiet (fail)
              go_wp2_with fail
              have hzx' : (zx ++ [ex]).length = zx.length + 1 := by rw [List.length_append]; rfl
              go_roundw
              case rel =>
                refine ⟨k + 1, Txb, K9x, _, _, _, _, _, _, (zx ++ [ex]), zy, by omega, by go_num, ?_, ?_, HL2.out.below (pw_below_drewN (Below.refl _ _) _), HN9x.out.below (pw_below_drewN (Below.refl _ _) _), HO9x.out.below (pw_below_drewN (Below.refl _ _) _), HD9x.out, HJxb.out.mono (by omega) (by omega), by omega, by omega⟩
                · rw [hzx']
                · rfl
              case measure => simp [intOf]; omega
          · skip
            go_upto_region 11 with fail
            obtain ⟨ha1, ha2⟩ := add_bad (T := T) (q := oneB) (l := ex) (by kernel_rfl) (by omega)
            rw [hc0x] at ha1
            have HAEx := Lib.hid ha1
            have HTBx := Lib.hid ha2
            clear ha1 ha2 hc0x
            have HL0d : Hid (Law w K m [(p, T)] (newT 1048576) [PBox6 p m b0] (World.drew _)) := HL0.out.below (Below.refl _ _).drew
            have HXdx := Lib.hid (HX.out.below (Below.refl _ _).drew)
            have HYdx := Lib.hid (HY.out.below (Below.refl _ _).drew)
            obtain ⟨c0, c1⟩ := (HL0.out.va 0 rfl : PBox6 p m b0 _).cells
            have cexx := (HL0.out.bel.cell (p := adx.add k) hadx).trans HCEx.out
            (go_region_held3 (fun W => (W.cell? ⟨b0, 0, none⟩ = some (.pointer (some ⟨p, 0, none⟩)) ∧ W.cell? (adx.add k) = some (.slice Axe ex.length cxe)) ∧ Hid (Below w.heap.size w W)) (first | exact ⟨⟨(HL1.out.va 0 rfl : PBox6 p m b0 _).cells.1, (HL1.out.bel.cell (p := adx.add k) hadx).trans HCEx.out⟩, HL1.out.bel⟩ | exact ⟨⟨(HL0d.out.va 0 rfl : PBox6 p m b0 _).cells.1, (HL0d.out.bel.cell (p := adx.add k) hadx).trans HCEx.out⟩, HL0d.out.bel⟩) (first
              | (go_at_call 11; refine (HL0d.out.sts.jAdd (i := 0) rfl HL0d.out.glob HJ.out.inv (by omega) oneB (by decide) Axe cxe ex (kd_str_below HCXx.out HL0d.out.bel) hclx (fun y hy => Nat.le_trans (HTXx.out.2 y hy) (by decide))).mono ?_; rintro e w2 ⟨rfl, hs, hk⟩; rw [HAEx.out]; rw [HTBx.out] at hs; have HL1 : Hid (Law w K m [(p, T)] (newT 1048576) [PBox6 p m b0] w2) := HL0d.out.step hs hk; have HXex := Lib.hid (HXdx.out.kp hk); have HYex := Lib.hid (HYdx.out.kp hk); clear hs hk)))
            clear c0 c1 cexx HL0 HL0d HXdx HYdx HX HY
            by_cases hky : k < lb.length
            · skip
              obtain ⟨ady, Aye, cye, e, hcey, hcly, hCey⟩ := at_LL HB.out hky
              subst e
              have HTXy := Lib.hid (HTY2.out.2 _ (List.getElem_mem hky))
              have hcodey := put_code lb[k]
              skip
              generalize lb[k] = ey at hcey hcly hCey HTXy hcodey
              have HCEy := Lib.hid hcey
              have HCXy := Lib.hid hCey
              have hady := cell_lt hcey
              clear hcey hCey
              rcases hcodey with hc0y | hc0y | hc0y
              · skip
                have hdy : decide ((k : Int) < (lb.length : Int)) = true := decide_eq_true (by omega)
                go_upto_region 13 with fail
                obtain ⟨ha1, ha2⟩ := HJ.out.addy hc0y (by omega)
                obtain ⟨Tyb, hTb⟩ : ∃ Tb, addT T twoB ey = Tb := ⟨_, rfl⟩
                rw [hTb] at ha2
                have HAEy := Lib.hid ha1
                have HTBy := Lib.hid hTb
                have HJyb := Lib.hid ha2
                clear ha1 ha2 hTb hc0y
                have HL1d : Hid (Law w K m [(p, T)] (newT 1048576) [PBox6 p m b0] (World.drew _)) := HL1.out.below (Below.refl _ _).drew
                have HXdy := Lib.hid (HXex.out.below (Below.refl _ _).drew)
                have HYdy := Lib.hid (HYex.out.below (Below.refl _ _).drew)
                obtain ⟨c0, c1⟩ := (HL1.out.va 0 rfl : PBox6 p m b0 _).cells
                have cexy := (HL1.out.bel.cell (p := ady.add k) hady).trans HCEy.out
                (go_region_held3 (fun W => (W.cell? ⟨b0, 0, none⟩ = some (.pointer (some ⟨p, 0, none⟩)) ∧ W.cell? (ady.add k) = some (.slice Aye ey.length cye)) ∧ Hid (Below w.heap.size w W)) (first | exact ⟨⟨(HL2.out.va 0 rfl : PBox6 p m b0 _).cells.1, (HL2.out.bel.cell (p := ady.add k) hady).trans HCEy.out⟩, HL2.out.bel⟩ | exact ⟨⟨(HL1d.out.va 0 rfl : PBox6 p m b0 _).cells.1, (HL1d.out.bel.cell (p := ady.add k) hady).trans HCEy.out⟩, HL1d.out.bel⟩) (first
                  | (go_at_call 11; refine (HL1d.out.sts.jAdd (i := 0) rfl HL1d.out.glob HJ.out.inv (by omega) twoB (by decide) Aye cye ey (kd_str_below HCXy.out HL1d.out.bel) hcly (fun y hy => Nat.le_trans (HTXy.out.2 y hy) (by decide))).mono ?_; rintro e w3 ⟨rfl, hs, hk⟩; rw [HAEy.out]; rw [HTBy.out] at hs; have HL2 : Hid (Law w K m [(p, Tyb)] (newT 1048576) [PBox6 p m b0] w3) := HL1d.out.step hs hk; have HXey := Lib.hid (HXdy.out.kp hk); have HYey := Lib.hid (HYdy.out.kp hk); clear hs hk)))
                clear c0 c1 cexy HL1 HL1d HXdy HYdy HXex HYex
                go_upto_region 14 with fail
                have cexy := (HL2.out.bel.cell (p := ady.add k) hady).trans HCEy.out
                have HRW := Lib.hid ((HYey.out.below (newBelow _ (.cells #[.slice Aye ey.length cye] 33))).row)
                have HNW := Lib.hid (news1 w3 (.slice Aye ey.length cye))
                have HONE : Hid (∀ u ∈ [Value.slice Aye ey.length cye], u.oneCell' = true) := fun u hu => by rw [List.mem_singleton.1 hu]; rfl
                have HBA : Hid (w.heap.size ≤ (w3.alloc (.cells #[.slice Aye ey.length cye] 33)).heap.size) := by rw [Hid, World.size_alloc]; exact Nat.le_succ_of_le HL2.out.bel.size
                have HDo : Hid (∀ j, (Value.slice Ax zx.length cx).ownBlock = some j → (Value.slice Ay zy.length cy).ownBlock ≠ some j) := fun j h1 h2 => HD.out j h2 h1
                go_wp2_with (first
                  | (at_builtin; refine wpList_append_own_at _ rfl _ _ 22 rfl w.heap.size 33 i0 _ 1 24 Tryz.underlying22 hi hz0 hz1 hz2 rfl (by decide) _ (zy.length) _ rfl HRW.out ⟨w3.heap.size, 0, none⟩ 1 1 [.slice Aye ey.length cye] rfl rfl HNW.out HONE.out H63y.out HBYy.out HBA.out ?_; intro v9 w9y h1 h2 h3 h4; obtain ⟨K9y, hl9, hn9, hK9, hC9, hb9⟩ := in_step HL2.out HYey.out hcly HCXy.out (box_in HYey.out (HL2.out.va 0 rfl)) h1 h2 h4; obtain ⟨ho9, hd9⟩ := two_step HXey.out HDo.out hC9 hK9 hb9; obtain ⟨A9y, c9y, rfl⟩ := hn9.slice; have HL3 := Lib.hid hl9; have HN9y := Lib.hid hn9; have HO9y := Lib.hid ho9; have HD9y := Lib.hid hd9; clear h1 h2 h3 h4 hl9 hn9 hK9 hC9 hb9 ho9 hd9))
                have hzy' : (zy ++ [ey]).length = zy.length + 1 := by rw [List.length_append]; rfl
                go_roundw
                case rel =>
                  refine ⟨k + 1, Tyb, K9y, _, _, _, _, _, _, zx, (zy ++ [ey]), by omega, by go_num, ?_, ?_, HL3.out, HO9y.out, HN9y.out, (fun j h1 h2 => HD9y.out j h2 h1), HJyb.out.mono (by omega) (by omega), by omega, by omega⟩
                  · rfl
                  · rw [hzy']
                case measure => simp [intOf]; omega
              · skip
                have hdy : decide ((k : Int) < (lb.length : Int)) = true := decide_eq_true (by omega)
                go_upto_region 13 with fail
                obtain ⟨ha1, ha2⟩ := add_bad (T := T) (q := twoB) (l := ey) (by kernel_rfl) (by omega)
                rw [hc0y] at ha1
                have HAEy := Lib.hid ha1
                have HTBy := Lib.hid ha2
                clear ha1 ha2 hc0y
                have HL1d : Hid (Law w K m [(p, T)] (newT 1048576) [PBox6 p m b0] (World.drew _)) := HL1.out.below (Below.refl _ _).drew
                have HXdy := Lib.hid (HXex.out.below (Below.refl _ _).drew)
                have HYdy := Lib.hid (HYex.out.below (Below.refl _ _).drew)
                obtain ⟨c0, c1⟩ := (HL1.out.va 0 rfl : PBox6 p m b0 _).cells
                have cexy := (HL1.out.bel.cell (p := ady.add k) hady).trans HCEy.out
                (go_region_held3 (fun W => (W.cell? ⟨b0, 0, none⟩ = some (.pointer (some ⟨p, 0, none⟩)) ∧ W.cell? (ady.add k) = some (.slice Aye ey.length cye)) ∧ Hid (Below w.heap.size w W)) (first | exact ⟨⟨(HL2.out.va 0 rfl : PBox6 p m b0 _).cells.1, (HL2.out.bel.cell (p := ady.add k) hady).trans HCEy.out⟩, HL2.out.bel⟩ | exact ⟨⟨(HL1d.out.va 0 rfl : PBox6 p m b0 _).cells.1, (HL1d.out.bel.cell (p := ady.add k) hady).trans HCEy.out⟩, HL1d.out.bel⟩) (first
                  | (go_at_call 11; refine (HL1d.out.sts.jAdd (i := 0) rfl HL1d.out.glob HJ.out.inv (by omega) twoB (by decide) Aye cye ey (kd_str_below HCXy.out HL1d.out.bel) hcly (fun y hy => Nat.le_trans (HTXy.out.2 y hy) (by decide))).mono ?_; rintro e w3 ⟨rfl, hs, hk⟩; rw [HAEy.out]; rw [HTBy.out] at hs; have HL2 : Hid (Law w K m [(p, T)] (newT 1048576) [PBox6 p m b0] w3) := HL1d.out.step hs hk; have HXey := Lib.hid (HXdy.out.kp hk); have HYey := Lib.hid (HYdy.out.kp hk); clear hs hk)))
                clear c0 c1 cexy HL1 HL1d HXdy HYdy HXex HYex
                go_wp2_with fail
                go_roundw
                case rel =>
                  refine ⟨k + 1, T, K, _, _, _, _, _, _, zx, zy, by omega, by go_num, ?_, ?_, HL2.out, HXey.out, HYey.out, HD.out, HJ.out.mono (by omega) (by omega), by omega, by omega⟩
                  · rfl
                  · rfl
                case measure => simp [intOf]; omega
              · skip
                have hdy : decide ((k : Int) < (lb.length : Int)) = true := decide_eq_true (by omega)
                go_upto_region 13 with fail
                obtain ⟨ha1, ha2⟩ := add_bad (T := T) (q := twoB) (l := ey) (by kernel_rfl) (by omega)
                rw [hc0y] at ha1
                have HAEy := Lib.hid ha1
                have HTBy := Lib.hid ha2
                clear ha1 ha2 hc0y
                have HL1d : Hid (Law w K m [(p, T)] (newT 1048576) [PBox6 p m b0] (World.drew _)) := HL1.out.below (Below.refl _ _).drew
                have HXdy := Lib.hid (HXex.out.below (Below.refl _ _).drew)
                have HYdy := Lib.hid (HYex.out.below (Below.refl _ _).drew)
                obtain ⟨c0, c1⟩ := (HL1.out.va 0 rfl : PBox6 p m b0 _).cells
                have cexy := (HL1.out.bel.cell (p := ady.add k) hady).trans HCEy.out
                (go_region_held3 (fun W => (W.cell? ⟨b0, 0, none⟩ = some (.pointer (some ⟨p, 0, none⟩)) ∧ W.cell? (ady.add k) = some (.slice Aye ey.length cye)) ∧ Hid (Below w.heap.size w W)) (first | exact ⟨⟨(HL2.out.va 0 rfl : PBox6 p m b0 _).cells.1, (HL2.out.bel.cell (p := ady.add k) hady).trans HCEy.out⟩, HL2.out.bel⟩ | exact ⟨⟨(HL1d.out.va 0 rfl : PBox6 p m b0 _).cells.1, (HL1d.out.bel.cell (p := ady.add k) hady).trans HCEy.out⟩, HL1d.out.bel⟩) (first
                  | (go_at_call 11; refine (HL1d.out.sts.jAdd (i := 0) rfl HL1d.out.glob HJ.out.inv (by omega) twoB (by decide) Aye cye ey (kd_str_below HCXy.out HL1d.out.bel) hcly (fun y hy => Nat.le_trans (HTXy.out.2 y hy) (by decide))).mono ?_; rintro e w3 ⟨rfl, hs, hk⟩; rw [HAEy.out]; rw [HTBy.out] at hs; have HL2 : Hid (Law w K m [(p, T)] (newT 1048576) [PBox6 p m b0] w3) := HL1d.out.step hs hk; have HXey := Lib.hid (HXdy.out.kp hk); have HYey := Lib.hid (HYdy.out.kp hk); clear hs hk)))
                clear c0 c1 cexy HL1 HL1d HXdy HYdy HXex HYex
                go_wp2_with fail
                go_roundw
                case rel =>
                  refine ⟨k + 1, T, K, _, _, _, _, _, _, zx, zy, by omega, by go_num, ?_, ?_, HL2.out, HXey.out, HYey.out, HD.out, HJ.out.mono (by omega) (by omega), by omega, by omega⟩
                  · rfl
                  · rfl
                case measure => simp [intOf]; omega
            · skip
              have hdy : decide ((k : Int) < (lb.length : Int)) = false := decide_eq_false (by omega)
              go_upto_region 13 with fail
              go_quiet (fail)
              go_wp2_with fail
              go_roundw
              case rel =>
                refine ⟨k + 1, T, K, _, _, _, _, _, _, zx, zy, by omega, by go_num, ?_, ?_, HL1.out.below (pw_below_drewN (Below.refl _ _) _), HXex.out.below (pw_below_drewN (Below.refl _ _) _), HYex.out.below (pw_below_drewN (Below.refl _ _) _), HD.out, HJ.out.mono (by omega) (by omega), by omega, by omega⟩
                · rfl
                · rfl
              case measure => simp [intOf]; omega
          · skip
            go_upto_region 11 with fail
            obtain ⟨ha1, ha2⟩ := add_bad (T := T) (q := oneB) (l := ex) (by kernel_rfl) (by omega)
            rw [hc0x] at ha1
            have HAEx := Lib.hid ha1
            have HTBx := Lib.hid ha2
            clear ha1 ha2 hc0x
            have HL0d : Hid (Law w K m [(p, T)] (newT 1048576) [PBox6 p m b0] (World.drew _)) := HL0.out.below (Below.refl _ _).drew
            have HXdx := Lib.hid (HX.out.below (Below.refl _ _).drew)
            have HYdx := Lib.hid (HY.out.below (Below.refl _ _).drew)
            obtain ⟨c0, c1⟩ := (HL0.out.va 0 rfl : PBox6 p m b0 _).cells
            have cexx := (HL0.out.bel.cell (p := adx.add k) hadx).trans HCEx.out
            (go_region_held3 (fun W => (W.cell? ⟨b0, 0, none⟩ = some (.pointer (some ⟨p, 0, none⟩)) ∧ W.cell? (adx.add k) = some (.slice Axe ex.length cxe)) ∧ Hid (Below w.heap.size w W)) (first | exact ⟨⟨(HL1.out.va 0 rfl : PBox6 p m b0 _).cells.1, (HL1.out.bel.cell (p := adx.add k) hadx).trans HCEx.out⟩, HL1.out.bel⟩ | exact ⟨⟨(HL0d.out.va 0 rfl : PBox6 p m b0 _).cells.1, (HL0d.out.bel.cell (p := adx.add k) hadx).trans HCEx.out⟩, HL0d.out.bel⟩) (first
              | (go_at_call 11; refine (HL0d.out.sts.jAdd (i := 0) rfl HL0d.out.glob HJ.out.inv (by omega) oneB (by decide) Axe cxe ex (kd_str_below HCXx.out HL0d.out.bel) hclx (fun y hy => Nat.le_trans (HTXx.out.2 y hy) (by decide))).mono ?_; rintro e w2 ⟨rfl, hs, hk⟩; rw [HAEx.out]; rw [HTBx.out] at hs; have HL1 : Hid (Law w K m [(p, T)] (newT 1048576) [PBox6 p m b0] w2) := HL0d.out.step hs hk; have HXex := Lib.hid (HXdx.out.kp hk); have HYex := Lib.hid (HYdx.out.kp hk); clear hs hk)))
            clear c0 c1 cexx HL0 HL0d HXdx HYdx HX HY
            by_cases hky : k < lb.length
            · skip
              obtain ⟨ady, Aye, cye, e, hcey, hcly, hCey⟩ := at_LL HB.out hky
              subst e
              have HTXy := Lib.hid (HTY2.out.2 _ (List.getElem_mem hky))
              have hcodey := put_code lb[k]
              skip
              generalize lb[k] = ey at hcey hcly hCey HTXy hcodey
              have HCEy := Lib.hid hcey
              have HCXy := Lib.hid hCey
              have hady := cell_lt hcey
              clear hcey hCey
              rcases hcodey with hc0y | hc0y | hc0y
              · skip
                have hdy : decide ((k : Int) < (lb.length : Int)) = true := decide_eq_true (by omega)
                go_upto_region 13 with fail
                obtain ⟨ha1, ha2⟩ := HJ.out.addy hc0y (by omega)
                obtain ⟨Tyb, hTb⟩ : ∃ Tb, addT T twoB ey = Tb := ⟨_, rfl⟩
                rw [hTb] at ha2
                have HAEy := Lib.hid ha1
                have HTBy := Lib.hid hTb
                have HJyb := Lib.hid ha2
                clear ha1 ha2 hTb hc0y
                have HL1d : Hid (Law w K m [(p, T)] (newT 1048576) [PBox6 p m b0] (World.drew _)) := HL1.out.below (Below.refl _ _).drew
                have HXdy := Lib.hid (HXex.out.below (Below.refl _ _).drew)
                have HYdy := Lib.hid (HYex.out.below (Below.refl _ _).drew)
                obtain ⟨c0, c1⟩ := (HL1.out.va 0 rfl : PBox6 p m b0 _).cells
                have cexy := (HL1.out.bel.cell (p := ady.add k) hady).trans HCEy.out
                (go_region_held3 (fun W => (W.cell? ⟨b0, 0, none⟩ = some (.pointer (some ⟨p, 0, none⟩)) ∧ W.cell? (ady.add k) = some (.slice Aye ey.length cye)) ∧ Hid (Below w.heap.size w W)) (first | exact ⟨⟨(HL2.out.va 0 rfl : PBox6 p m b0 _).cells.1, (HL2.out.bel.cell (p := ady.add k) hady).trans HCEy.out⟩, HL2.out.bel⟩ | exact ⟨⟨(HL1d.out.va 0 rfl : PBox6 p m b0 _).cells.1, (HL1d.out.bel.cell (p := ady.add k) hady).trans HCEy.out⟩, HL1d.out.bel⟩) (first
                  | (go_at_call 11; refine (HL1d.out.sts.jAdd (i := 0) rfl HL1d.out.glob HJ.out.inv (by omega) twoB (by decide) Aye cye ey (kd_str_below HCXy.out HL1d.out.bel) hcly (fun y hy => Nat.le_trans (HTXy.out.2 y hy) (by decide))).mono ?_; rintro e w3 ⟨rfl, hs, hk⟩; rw [HAEy.out]; rw [HTBy.out] at hs; have HL2 : Hid (Law w K m [(p, Tyb)] (newT 1048576) [PBox6 p m b0] w3) := HL1d.out.step hs hk; have HXey := Lib.hid (HXdy.out.kp hk); have HYey := Lib.hid (HYdy.out.kp hk); clear hs hk)))
                clear c0 c1 cexy HL1 HL1d HXdy HYdy HXex HYex
                go_upto_region 14 with fail
                have cexy := (HL2.out.bel.cell (p := ady.add k) hady).trans HCEy.out
                have HRW := Lib.hid ((HYey.out.below (newBelow _ (.cells #[.slice Aye ey.length cye] 33))).row)
                have HNW := Lib.hid (news1 w3 (.slice Aye ey.length cye))
                have HONE : Hid (∀ u ∈ [Value.slice Aye ey.length cye], u.oneCell' = true) := fun u hu => by rw [List.mem_singleton.1 hu]; rfl
                have HBA : Hid (w.heap.size ≤ (w3.alloc (.cells #[.slice Aye ey.length cye] 33)).heap.size) := by rw [Hid, World.size_alloc]; exact Nat.le_succ_of_le HL2.out.bel.size
                have HDo : Hid (∀ j, (Value.slice Ax zx.length cx).ownBlock = some j → (Value.slice Ay zy.length cy).ownBlock ≠ some j) := fun j h1 h2 => HD.out j h2 h1
                go_wp2_with (first
                  | (at_builtin; refine wpList_append_own_at _ rfl _ _ 22 rfl w.heap.size 33 i0 _ 1 24 Tryz.underlying22 hi hz0 hz1 hz2 rfl (by decide) _ (zy.length) _ rfl HRW.out ⟨w3.heap.size, 0, none⟩ 1 1 [.slice Aye ey.length cye] rfl rfl HNW.out HONE.out H63y.out HBYy.out HBA.out ?_; intro v9 w9y h1 h2 h3 h4; obtain ⟨K9y, hl9, hn9, hK9, hC9, hb9⟩ := in_step HL2.out HYey.out hcly HCXy.out (box_in HYey.out (HL2.out.va 0 rfl)) h1 h2 h4; obtain ⟨ho9, hd9⟩ := two_step HXey.out HDo.out hC9 hK9 hb9; obtain ⟨A9y, c9y, rfl⟩ := hn9.slice; have HL3 := Lib.hid hl9; have HN9y := Lib.hid hn9; have HO9y := Lib.hid ho9; have HD9y := Lib.hid hd9; clear h1 h2 h3 h4 hl9 hn9 hK9 hC9 hb9 ho9 hd9))
                have hzy' : (zy ++ [ey]).length = zy.length + 1 := by rw [List.length_append]; rfl
                go_roundw
                case rel =>
                  refine ⟨k + 1, Tyb, K9y, _, _, _, _, _, _, zx, (zy ++ [ey]), by omega, by go_num, ?_, ?_, HL3.out, HO9y.out, HN9y.out, (fun j h1 h2 => HD9y.out j h2 h1), HJyb.out.mono (by omega) (by omega), by omega, by omega⟩
                  · rfl
                  · rw [hzy']
                case measure => simp [intOf]; omega
              · skip
                have hdy : decide ((k : Int) < (lb.length : Int)) = true := decide_eq_true (by omega)
                go_upto_region 13 with fail
                obtain ⟨ha1, ha2⟩ := add_bad (T := T) (q := twoB) (l := ey) (by kernel_rfl) (by omega)
                rw [hc0y] at ha1
                have HAEy := Lib.hid ha1
                have HTBy := Lib.hid ha2
                clear ha1 ha2 hc0y
                have HL1d : Hid (Law w K m [(p, T)] (newT 1048576) [PBox6 p m b0] (World.drew _)) := HL1.out.below (Below.refl _ _).drew
                have HXdy := Lib.hid (HXex.out.below (Below.refl _ _).drew)
                have HYdy := Lib.hid (HYex.out.below (Below.refl _ _).drew)
                obtain ⟨c0, c1⟩ := (HL1.out.va 0 rfl : PBox6 p m b0 _).cells
                have cexy := (HL1.out.bel.cell (p := ady.add k) hady).trans HCEy.out
                (go_region_held3 (fun W => (W.cell? ⟨b0, 0, none⟩ = some (.pointer (some ⟨p, 0, none⟩)) ∧ W.cell? (ady.add k) = some (.slice Aye ey.length cye)) ∧ Hid (Below w.heap.size w W)) (first | exact ⟨⟨(HL2.out.va 0 rfl : PBox6 p m b0 _).cells.1, (HL2.out.bel.cell (p := ady.add k) hady).trans HCEy.out⟩, HL2.out.bel⟩ | exact ⟨⟨(HL1d.out.va 0 rfl : PBox6 p m b0 _).cells.1, (HL1d.out.bel.cell (p := ady.add k) hady).trans HCEy.out⟩, HL1d.out.bel⟩) (first
                  | (go_at_call 11; refine (HL1d.out.sts.jAdd (i := 0) rfl HL1d.out.glob HJ.out.inv (by omega) twoB (by decide) Aye cye ey (kd_str_below HCXy.out HL1d.out.bel) hcly (fun y hy => Nat.le_trans (HTXy.out.2 y hy) (by decide))).mono ?_; rintro e w3 ⟨rfl, hs, hk⟩; rw [HAEy.out]; rw [HTBy.out] at hs; have HL2 : Hid (Law w K m [(p, T)] (newT 1048576) [PBox6 p m b0] w3) := HL1d.out.step hs hk; have HXey := Lib.hid (HXdy.out.kp hk); have HYey := Lib.hid (HYdy.out.kp hk); clear hs hk)))
                clear c0 c1 cexy HL1 HL1d HXdy HYdy HXex HYex
                go_wp2_with fail
                go_roundw
                case rel =>
                  refine ⟨k + 1, T, K, _, _, _, _, _, _, zx, zy, by omega, by go_num, ?_, ?_, HL2.out, HXey.out, HYey.out, HD.out, HJ.out.mono (by omega) (by omega), by omega, by omega⟩
                  · rfl
                  · rfl
                case measure => simp [intOf]; omega
              · skip
                have hdy : decide ((k : Int) < (lb.length : Int)) = true := decide_eq_true (by omega)
                go_upto_region 13 with fail
                obtain ⟨ha1, ha2⟩ := add_bad (T := T) (q := twoB) (l := ey) (by kernel_rfl) (by omega)
                rw [hc0y] at ha1
                have HAEy := Lib.hid ha1
                have HTBy := Lib.hid ha2
                clear ha1 ha2 hc0y
                have HL1d : Hid (Law w K m [(p, T)] (newT 1048576) [PBox6 p m b0] (World.drew _)) := HL1.out.below (Below.refl _ _).drew
                have HXdy := Lib.hid (HXex.out.below (Below.refl _ _).drew)
                have HYdy := Lib.hid (HYex.out.below (Below.refl _ _).drew)
                obtain ⟨c0, c1⟩ := (HL1.out.va 0 rfl : PBox6 p m b0 _).cells
                have cexy := (HL1.out.bel.cell (p := ady.add k) hady).trans HCEy.out
                (go_region_held3 (fun W => (W.cell? ⟨b0, 0, none⟩ = some (.pointer (some ⟨p, 0, none⟩)) ∧ W.cell? (ady.add k) = some (.slice Aye ey.length cye)) ∧ Hid (Below w.heap.size w W)) (first | exact ⟨⟨(HL2.out.va 0 rfl : PBox6 p m b0 _).cells.1, (HL2.out.bel.cell (p := ady.add k) hady).trans HCEy.out⟩, HL2.out.bel⟩ | exact ⟨⟨(HL1d.out.va 0 rfl : PBox6 p m b0 _).cells.1, (HL1d.out.bel.cell (p := ady.add k) hady).trans HCEy.out⟩, HL1d.out.bel⟩) (first
                  | (go_at_call 11; refine (HL1d.out.sts.jAdd (i := 0) rfl HL1d.out.glob HJ.out.inv (by omega) twoB (by decide) Aye cye ey (kd_str_below HCXy.out HL1d.out.bel) hcly (fun y hy => Nat.le_trans (HTXy.out.2 y hy) (by decide))).mono ?_; rintro e w3 ⟨rfl, hs, hk⟩; rw [HAEy.out]; rw [HTBy.out] at hs; have HL2 : Hid (Law w K m [(p, T)] (newT 1048576) [PBox6 p m b0] w3) := HL1d.out.step hs hk; have HXey := Lib.hid (HXdy.out.kp hk); have HYey := Lib.hid (HYdy.out.kp hk); clear hs hk)))
                clear c0 c1 cexy HL1 HL1d HXdy HYdy HXex HYex
                go_wp2_with fail
                go_roundw
                case rel =>
                  refine ⟨k + 1, T, K, _, _, _, _, _, _, zx, zy, by omega, by go_num, ?_, ?_, HL2.out, HXey.out, HYey.out, HD.out, HJ.out.mono (by omega) (by omega), by omega, by omega⟩
                  · rfl
                  · rfl
                case measure => simp [intOf]; omega
            · skip
              have hdy : decide ((k : Int) < (lb.length : Int)) = false := decide_eq_false (by omega)
              go_upto_region 13 with fail
              go_quiet (fail)
              go_wp2_with fail
              go_roundw
              case rel =>
                refine ⟨k + 1, T, K, _, _, _, _, _, _, zx, zy, by omega, by go_num, ?_, ?_, HL1.out.below (pw_below_drewN (Below.refl _ _) _), HXex.out.below (pw_below_drewN (Below.refl _ _) _), HYex.out.below (pw_below_drewN (Below.refl _ _) _), HD.out, HJ.out.mono (by omega) (by omega), by omega, by omega⟩
                · rfl
                · rfl
              case measure => simp [intOf]; omega
        · have hdx : decide ((k : Int) < (la.length : Int)) = false := decide_eq_false (by omega)
          by_cases hky : k < lb.length
          · have hdy : decide ((k : Int) < (lb.length : Int)) = true := decide_eq_true (by omega)
            obtain ⟨ady, Aye, cye, e, hcey, hcly, hCey⟩ := at_LL HB.out hky
            subst e
            have HTXy := Lib.hid (HTY2.out.2 _ (List.getElem_mem hky))
            have hcodey := put_code lb[k]
            skip
            generalize lb[k] = ey at hcey hcly hCey HTXy hcodey
            have HCEy := Lib.hid hcey
            have HCXy := Lib.hid hCey
            have hady := cell_lt hcey
            clear hcey hCey
            rcases hcodey with hc0y | hc0y | hc0y
            · skip
              go_upto_region 11 with fail
              go_quiet (fail)
              rename_i nq
              have HLq : Hid (Law w K m [(p, T)] (newT 1048576) [PBox6 p m b0] (wr.drewN nq)) := HL0.out.below (pw_below_drewN (Below.refl _ _) nq)
              have HXq := Lib.hid (HX.out.below (pw_below_drewN (Below.refl _ _) nq))
              have HYq := Lib.hid (HY.out.below (pw_below_drewN (Below.refl _ _) nq))
              generalize wr.drewN nq = wq at HLq HXq HYq ⊢
              clear HL0 HX HY
              have HL0 := HLq
              have HX := HXq
              have HY := HYq
              clear HLq HXq HYq
              go_upto_region 13 with fail
              obtain ⟨ha1, ha2⟩ := HJ.out.addy hc0y (by omega)
              obtain ⟨Tyb, hTb⟩ : ∃ Tb, addT T twoB ey = Tb := ⟨_, rfl⟩
              rw [hTb] at ha2
              have HAEy := Lib.hid ha1
              have HTBy := Lib.hid hTb
              have HJyb := Lib.hid ha2
              clear ha1 ha2 hTb hc0y
              have HL0d : Hid (Law w K m [(p, T)] (newT 1048576) [PBox6 p m b0] (World.drew _)) := HL0.out.below (Below.refl _ _).drew
              have HXdy := Lib.hid (HX.out.below (Below.refl _ _).drew)
              have HYdy := Lib.hid (HY.out.below (Below.refl _ _).drew)
              obtain ⟨c0, c1⟩ := (HL0.out.va 0 rfl : PBox6 p m b0 _).cells
              have cexy := (HL0.out.bel.cell (p := ady.add k) hady).trans HCEy.out
              (go_region_held3 (fun W => (W.cell? ⟨b0, 0, none⟩ = some (.pointer (some ⟨p, 0, none⟩)) ∧ W.cell? (ady.add k) = some (.slice Aye ey.length cye)) ∧ Hid (Below w.heap.size w W)) (first | exact ⟨⟨(HL1.out.va 0 rfl : PBox6 p m b0 _).cells.1, (HL1.out.bel.cell (p := ady.add k) hady).trans HCEy.out⟩, HL1.out.bel⟩ | exact ⟨⟨(HL0d.out.va 0 rfl : PBox6 p m b0 _).cells.1, (HL0d.out.bel.cell (p := ady.add k) hady).trans HCEy.out⟩, HL0d.out.bel⟩) (first
                | (go_at_call 11; refine (HL0d.out.sts.jAdd (i := 0) rfl HL0d.out.glob HJ.out.inv (by omega) twoB (by decide) Aye cye ey (kd_str_below HCXy.out HL0d.out.bel) hcly (fun y hy => Nat.le_trans (HTXy.out.2 y hy) (by decide))).mono ?_; rintro e w3 ⟨rfl, hs, hk⟩; rw [HAEy.out]; rw [HTBy.out] at hs; have HL1 : Hid (Law w K m [(p, Tyb)] (newT 1048576) [PBox6 p m b0] w3) := HL0d.out.step hs hk; have HXey := Lib.hid (HXdy.out.kp hk); have HYey := Lib.hid (HYdy.out.kp hk); clear hs hk)))
              clear c0 c1 cexy HL0 HL0d HXdy HYdy HX HY
              go_upto_region 14 with fail
              have cexy := (HL1.out.bel.cell (p := ady.add k) hady).trans HCEy.out
              have HRW := Lib.hid ((HYey.out.below (newBelow _ (.cells #[.slice Aye ey.length cye] 33))).row)
              have HNW := Lib.hid (news1 w3 (.slice Aye ey.length cye))
              have HONE : Hid (∀ u ∈ [Value.slice Aye ey.length cye], u.oneCell' = true) := fun u hu => by rw [List.mem_singleton.1 hu]; rfl
              have HBA : Hid (w.heap.size ≤ (w3.alloc (.cells #[.slice Aye ey.length cye] 33)).heap.size) := by rw [Hid, World.size_alloc]; exact Nat.le_succ_of_le HL1.out.bel.size
              have HDo : Hid (∀ j, (Value.slice Ax zx.length cx).ownBlock = some j → (Value.slice Ay zy.length cy).ownBlock ≠ some j) := fun j h1 h2 => HD.out j h2 h1
              go_wp2_with (first
                | (at_builtin; refine wpList_append_own_at _ rfl _ _ 22 rfl w.heap.size 33 i0 _ 1 24 Tryz.underlying22 hi hz0 hz1 hz2 rfl (by decide) _ (zy.length) _ rfl HRW.out ⟨w3.heap.size, 0, none⟩ 1 1 [.slice Aye ey.length cye] rfl rfl HNW.out HONE.out H63y.out HBYy.out HBA.out ?_; intro v9 w9y h1 h2 h3 h4; obtain ⟨K9y, hl9, hn9, hK9, hC9, hb9⟩ := in_step HL1.out HYey.out hcly HCXy.out (box_in HYey.out (HL1.out.va 0 rfl)) h1 h2 h4; obtain ⟨ho9, hd9⟩ := two_step HXey.out HDo.out hC9 hK9 hb9; obtain ⟨A9y, c9y, rfl⟩ := hn9.slice; have HL2 := Lib.hid hl9; have HN9y := Lib.hid hn9; have HO9y := Lib.hid ho9; have HD9y := Lib.hid hd9; clear h1 h2 h3 h4 hl9 hn9 hK9 hC9 hb9 ho9 hd9))
              have hzy' : (zy ++ [ey]).length = zy.length + 1 := by rw [List.length_append]; rfl
              go_roundw
              case rel =>
                refine ⟨k + 1, Tyb, K9y, _, _, _, _, _, _, zx, (zy ++ [ey]), by omega, by go_num, ?_, ?_, HL2.out, HO9y.out, HN9y.out, (fun j h1 h2 => HD9y.out j h2 h1), HJyb.out.mono (by omega) (by omega), by omega, by omega⟩
                · rfl
                · rw [hzy']
              case measure => simp [intOf]; omega
            · skip
              go_upto_region 11 with fail
              go_quiet (fail)
              rename_i nq
              have HLq : Hid (Law w K m [(p, T)] (newT 1048576) [PBox6 p m b0] (wr.drewN nq)) := HL0.out.below (pw_below_drewN (Below.refl _ _) nq)
              have HXq := Lib.hid (HX.out.below (pw_below_drewN (Below.refl _ _) nq))
              have HYq := Lib.hid (HY.out.below (pw_below_drewN (Below.refl _ _) nq))
              generalize wr.drewN nq = wq at HLq HXq HYq ⊢
              clear HL0 HX HY
              have HL0 := HLq
              have HX := HXq
              have HY := HYq
              clear HLq HXq HYq
              go_upto_region 13 with fail
              obtain ⟨ha1, ha2⟩ := add_bad (T := T) (q := twoB) (l := ey) (by kernel_rfl) (by omega)
              rw [hc0y] at ha1
              have HAEy := Lib.hid ha1
              have HTBy := Lib.hid ha2
              clear ha1 ha2 hc0y
              have HL0d : Hid (Law w K m [(p, T)] (newT 1048576) [PBox6 p m b0] (World.drew _)) := HL0.out.below (Below.refl _ _).drew
              have HXdy := Lib.hid (HX.out.below (Below.refl _ _).drew)
              have HYdy := Lib.hid (HY.out.below (Below.refl _ _).drew)
              obtain ⟨c0, c1⟩ := (HL0.out.va 0 rfl : PBox6 p m b0 _).cells
              have cexy := (HL0.out.bel.cell (p := ady.add k) hady).trans HCEy.out
              (go_region_held3 (fun W => (W.cell? ⟨b0, 0, none⟩ = some (.pointer (some ⟨p, 0, none⟩)) ∧ W.cell? (ady.add k) = some (.slice Aye ey.length cye)) ∧ Hid (Below w.heap.size w W)) (first | exact ⟨⟨(HL1.out.va 0 rfl : PBox6 p m b0 _).cells.1, (HL1.out.bel.cell (p := ady.add k) hady).trans HCEy.out⟩, HL1.out.bel⟩ | exact ⟨⟨(HL0d.out.va 0 rfl : PBox6 p m b0 _).cells.1, (HL0d.out.bel.cell (p := ady.add k) hady).trans HCEy.out⟩, HL0d.out.bel⟩) (first
                | (go_at_call 11; refine (HL0d.out.sts.jAdd (i := 0) rfl HL0d.out.glob HJ.out.inv (by omega) twoB (by decide) Aye cye ey (kd_str_below HCXy.out HL0d.out.bel) hcly (fun y hy => Nat.le_trans (HTXy.out.2 y hy) (by decide))).mono ?_; rintro e w3 ⟨rfl, hs, hk⟩; rw [HAEy.out]; rw [HTBy.out] at hs; have HL1 : Hid (Law w K m [(p, T)] (newT 1048576) [PBox6 p m b0] w3) := HL0d.out.step hs hk; have HXey := Lib.hid (HXdy.out.kp hk); have HYey := Lib.hid (HYdy.out.kp hk); clear hs hk)))
              clear c0 c1 cexy HL0 HL0d HXdy HYdy HX HY
              go_wp2_with fail
              go_roundw
              case rel =>
                refine ⟨k + 1, T, K, _, _, _, _, _, _, zx, zy, by omega, by go_num, ?_, ?_, HL1.out, HXey.out, HYey.out, HD.out, HJ.out.mono (by omega) (by omega), by omega, by omega⟩
                · rfl
                · rfl
              case measure => simp [intOf]; omega
            · skip
              go_upto_region 11 with fail
              go_quiet (fail)
              rename_i nq
              have HLq : Hid (Law w K m [(p, T)] (newT 1048576) [PBox6 p m b0] (wr.drewN nq)) := HL0.out.below (pw_below_drewN (Below.refl _ _) nq)
              have HXq := Lib.hid (HX.out.below (pw_below_drewN (Below.refl _ _) nq))
              have HYq := Lib.hid (HY.out.below (pw_below_drewN (Below.refl _ _) nq))
              generalize wr.drewN nq = wq at HLq HXq HYq ⊢
              clear HL0 HX HY
              have HL0 := HLq
              have HX := HXq
              have HY := HYq
              clear HLq HXq HYq
              go_upto_region 13 with fail
              obtain ⟨ha1, ha2⟩ := add_bad (T := T) (q := twoB) (l := ey) (by kernel_rfl) (by omega)
              rw [hc0y] at ha1
              have HAEy := Lib.hid ha1
              have HTBy := Lib.hid ha2
              clear ha1 ha2 hc0y
              have HL0d : Hid (Law w K m [(p, T)] (newT 1048576) [PBox6 p m b0] (World.drew _)) := HL0.out.below (Below.refl _ _).drew
              have HXdy := Lib.hid (HX.out.below (Below.refl _ _).drew)
              have HYdy := Lib.hid (HY.out.below (Below.refl _ _).drew)
              obtain ⟨c0, c1⟩ := (HL0.out.va 0 rfl : PBox6 p m b0 _).cells
              have cexy := (HL0.out.bel.cell (p := ady.add k) hady).trans HCEy.out
              (go_region_held3 (fun W => (W.cell? ⟨b0, 0, none⟩ = some (.pointer (some ⟨p, 0, none⟩)) ∧ W.cell? (ady.add k) = some (.slice Aye ey.length cye)) ∧ Hid (Below w.heap.size w W)) (first | exact ⟨⟨(HL1.out.va 0 rfl : PBox6 p m b0 _).cells.1, (HL1.out.bel.cell (p := ady.add k) hady).trans HCEy.out⟩, HL1.out.bel⟩ | exact ⟨⟨(HL0d.out.va 0 rfl : PBox6 p m b0 _).cells.1, (HL0d.out.bel.cell (p := ady.add k) hady).trans HCEy.out⟩, HL0d.out.bel⟩) (first
                | (go_at_call 11; refine (HL0d.out.sts.jAdd (i := 0) rfl HL0d.out.glob HJ.out.inv (by omega) twoB (by decide) Aye cye ey (kd_str_below HCXy.out HL0d.out.bel) hcly (fun y hy => Nat.le_trans (HTXy.out.2 y hy) (by decide))).mono ?_; rintro e w3 ⟨rfl, hs, hk⟩; rw [HAEy.out]; rw [HTBy.out] at hs; have HL1 : Hid (Law w K m [(p, T)] (newT 1048576) [PBox6 p m b0] w3) := HL0d.out.step hs hk; have HXey := Lib.hid (HXdy.out.kp hk); have HYey := Lib.hid (HYdy.out.kp hk); clear hs hk)))
              clear c0 c1 cexy HL0 HL0d HXdy HYdy HX HY
              go_wp2_with fail
              go_roundw
              case rel =>
                refine ⟨k + 1, T, K, _, _, _, _, _, _, zx, zy, by omega, by go_num, ?_, ?_, HL1.out, HXey.out, HYey.out, HD.out, HJ.out.mono (by omega) (by omega), by omega, by omega⟩
                · rfl
                · rfl
              case measure => simp [intOf]; omega
          · have hdy : decide ((k : Int) < (lb.length : Int)) = false := decide_eq_false (by omega)
            have ht := HJ.out.t
            have HNU : Hid (2 * k + 8 ≤ 1000000 ∧ 26000 * k + 260000 ≤ 1048576) := by unfold Hid; omega
            cases anew with
            | true =>
              obtain ⟨ha1, ha2⟩ := ht.anew (by omega) HNU.out.2
              have hal : AllOK zx := ⟨fun l hl y hy => Nat.le_trans (word_le (ht.lx l hl) y hy) (by decide), fun j hj => by have h1 := putAll_size (zx.take j); have h2 : (zx.take j).length ≤ zx.length := List.length_take_le' ..; omega, by omega⟩
              have HAL := Lib.hid hal
              clear hal ht
              obtain ⟨T1, hT1⟩ : ∃ T1, anewT T oneB zx = T1 := ⟨_, rfl⟩
              rw [hT1] at ha2
              have HT1 := Lib.hid hT1
              clear hT1
              have HAE := Lib.hid ha1
              clear ha1
              obtain ⟨Aq, cq, eq, hcq, hCq⟩ := HX.out.reads HL0.out.bel
              cases eq
              have HCQ := Lib.hid hCq
              clear hCq
              obtain ⟨c0, c1⟩ := (HL0.out.va 0 rfl : PBox6 p m b0 _).cells
              go_upto_region 18 with (first
                | (go_at_call 12; refine (HL0.out.sts.jAnew (i := 0) rfl HL0.out.gk HJ.out.inv (by omega) oneB (by decide) Ax cx zx HCQ.out HAL.out).mono ?_; rintro e w2 ⟨rfl, hs, hk⟩; rw [HAE.out]; rw [HT1.out] at hs; have HL1 : Hid (Law w K m [(p, T1)] (newT 1048576) [PBox6 p m b0] w2) := HL0.out.step hs hk; have HX1 := Lib.hid (HX.out.kp hk); have HY1 := Lib.hid (HY.out.kp hk); clear hs hk))
              clear c0 c1 HL0
              obtain ⟨o1, o2, o3, o4, o5, o6, o7⟩ := ha2.opens
              have hii := ha2.jn.inv
              have hlx := lines_len ha2.lx
              have hly := lines_len ha2.ly
              obtain ⟨T2, hT2⟩ : ∃ T2, openT T1 twoB = T2 := ⟨_, rfl⟩
              rw [hT2] at o3 o4 o5 o7
              have HT2 := Lib.hid hT2
              clear hT2
              obtain ⟨T3, hT3⟩ : ∃ T3, openT T2 oneB = T3 := ⟨_, rfl⟩
              have HT3 := Lib.hid hT3
              have HO1 := Lib.hid o1
              have HO2 := Lib.hid o2
              have HO3 := Lib.hid o3
              have HO4 := Lib.hid o4
              have HO5 := Lib.hid o5
              have HII := Lib.hid hii
              have HLX : Hid (zx.length ≤ 100000000 ∧ ∀ x ∈ zx, x.length ≤ 100000000) := ⟨by omega, fun x hx => Nat.le_trans (hlx x hx) (by decide)⟩
              have HLY : Hid (zy.length ≤ 100000000 ∧ ∀ x ∈ zy, x.length ≤ 100000000) := ⟨by omega, fun x hx => Nat.le_trans (hly x hx) (by decide)⟩
              clear hT3 o1 o2 o3 o4 o5 hii hlx hly ha2
              obtain ⟨c0, c1⟩ := (HL1.out.va 0 rfl : PBox6 p m b0 _).cells
              go_upto_region 19 with (first
                | (go_at_call 13; refine (HL1.out.sts.jOpen (i := 0) rfl HL1.out.gk HII.out (by omega) o6 twoB (by decide)).mono ?_; rintro e w2 ⟨v1, K1, rfl, hKK, hs, hk, hv⟩; rw [HT2.out] at hs; rw [HO1.out]; rw [HO2.out] at hv; obtain ⟨A1, n1, rfl⟩ := Kd.S_slice hv; have HL2 := Lib.hid (HL1.out.opened hKK hs hk hv); have HXo1 := Lib.hid ((HX1.out.kp hk).more hKK); have HYo1 := Lib.hid ((HY1.out.kp hk).more hKK); clear hKK hs hk hv))
              clear c0 c1 HL1
              obtain ⟨c0, c1⟩ := (HL2.out.va 1 rfl : PBox6 p m b0 _).cells
              go_upto_region 20 with (first
                | (go_at_call 13; refine (HL2.out.sts.jOpen (i := 0) rfl HL2.out.gk HO5.out (by omega) o7 oneB (by decide)).mono ?_; rintro e w2 ⟨v2, K2, rfl, hKK, hs, hk, hv⟩; rw [HT3.out] at hs; rw [HO3.out]; rw [HO4.out] at hv; obtain ⟨A2, n2, rfl⟩ := Kd.S_slice hv; have HL3 := Lib.hid (HL2.out.opened hKK hs hk hv); have HXo2 := Lib.hid ((HXo1.out.kp hk).more hKK); have HYo2 := Lib.hid ((HYo1.out.kp hk).more hKK); clear hKK hs hk hv))
              clear c0 c1 HL2
              obtain ⟨-, hc2, hC2⟩ := Kd.S_reads' (HL3.out.va 0 rfl : Kd.S kLL _ _ _ _ (Value.slice A2 _ n2) zx)
              obtain ⟨-, hc1, hC1⟩ := Kd.S_reads' (HL3.out.va 1 rfl : Kd.S kLL _ _ _ _ (Value.slice A1 _ n1) zy)
              obtain ⟨Aq, cq, eq, hcq, hCq⟩ := HXo2.out.reads HL3.out.bel
              cases eq
              obtain ⟨Ar, cr, er, hcr, hCr⟩ := HYo2.out.reads HL3.out.bel
              cases er
              have SY := Lib.hid (same_at hC1 hc1 hCr hcr HLY.out (decide_eq_true rfl))
              have SX := Lib.hid (same_at hC2 hc2 hCq hcq HLX.out (decide_eq_true rfl))
              clear hc1 hC1 hc2 hC2 hcq hCq hcr hCr
              have HRF := Lib.hid (Below.refl w2.heap.size w2)
              go_wp2_with (first
                | (go_at_call 14; ((with_reducible refine (SY.out.at _ (by first | exact HRF.out)).mono ?_); rintro e w20 ⟨rfl, hb⟩; have HF0 := Lib.hid hb; clear hb))
                | (go_at_call 14; ((with_reducible refine (SX.out.at _ (by first | exact HF0.out | exact HRF.out)).mono ?_); rintro e w21 ⟨rfl, hb⟩; have HF1 := Lib.hid hb; clear hb)))
              go_ret
              exact ⟨rfl, HL3.out.bel.trans (HF1.out.mono HL3.out.bel.size)⟩
            | false =>
              have ha2 := ht
              clear ht
              go_upto_region 18 with fail
              obtain ⟨o1, o2, o3, o4, o5, o6, o7⟩ := ha2.opens
              have hii := ha2.jn.inv
              have hlx := lines_len ha2.lx
              have hly := lines_len ha2.ly
              obtain ⟨T2, hT2⟩ : ∃ T2, openT T twoB = T2 := ⟨_, rfl⟩
              rw [hT2] at o3 o4 o5 o7
              have HT2 := Lib.hid hT2
              clear hT2
              obtain ⟨T3, hT3⟩ : ∃ T3, openT T2 oneB = T3 := ⟨_, rfl⟩
              have HT3 := Lib.hid hT3
              have HO1 := Lib.hid o1
              have HO2 := Lib.hid o2
              have HO3 := Lib.hid o3
              have HO4 := Lib.hid o4
              have HO5 := Lib.hid o5
              have HII := Lib.hid hii
              have HLX : Hid (zx.length ≤ 100000000 ∧ ∀ x ∈ zx, x.length ≤ 100000000) := ⟨by omega, fun x hx => Nat.le_trans (hlx x hx) (by decide)⟩
              have HLY : Hid (zy.length ≤ 100000000 ∧ ∀ x ∈ zy, x.length ≤ 100000000) := ⟨by omega, fun x hx => Nat.le_trans (hly x hx) (by decide)⟩
              clear hT3 o1 o2 o3 o4 o5 hii hlx hly ha2
              obtain ⟨c0, c1⟩ := (HL0.out.va 0 rfl : PBox6 p m b0 _).cells
              go_upto_region 19 with (first
                | (go_at_call 13; refine (HL0.out.sts.jOpen (i := 0) rfl HL0.out.gk HII.out (by omega) o6 twoB (by decide)).mono ?_; rintro e w2 ⟨v1, K1, rfl, hKK, hs, hk, hv⟩; rw [HT2.out] at hs; rw [HO1.out]; rw [HO2.out] at hv; obtain ⟨A1, n1, rfl⟩ := Kd.S_slice hv; have HL1 := Lib.hid (HL0.out.opened hKK hs hk hv); have HXo1 := Lib.hid ((HX.out.kp hk).more hKK); have HYo1 := Lib.hid ((HY.out.kp hk).more hKK); clear hKK hs hk hv))
              clear c0 c1 HL0
              obtain ⟨c0, c1⟩ := (HL1.out.va 1 rfl : PBox6 p m b0 _).cells
              go_upto_region 20 with (first
                | (go_at_call 13; refine (HL1.out.sts.jOpen (i := 0) rfl HL1.out.gk HO5.out (by omega) o7 oneB (by decide)).mono ?_; rintro e w2 ⟨v2, K2, rfl, hKK, hs, hk, hv⟩; rw [HT3.out] at hs; rw [HO3.out]; rw [HO4.out] at hv; obtain ⟨A2, n2, rfl⟩ := Kd.S_slice hv; have HL2 := Lib.hid (HL1.out.opened hKK hs hk hv); have HXo2 := Lib.hid ((HXo1.out.kp hk).more hKK); have HYo2 := Lib.hid ((HYo1.out.kp hk).more hKK); clear hKK hs hk hv))
              clear c0 c1 HL1
              obtain ⟨-, hc2, hC2⟩ := Kd.S_reads' (HL2.out.va 0 rfl : Kd.S kLL _ _ _ _ (Value.slice A2 _ n2) zx)
              obtain ⟨-, hc1, hC1⟩ := Kd.S_reads' (HL2.out.va 1 rfl : Kd.S kLL _ _ _ _ (Value.slice A1 _ n1) zy)
              obtain ⟨Aq, cq, eq, hcq, hCq⟩ := HXo2.out.reads HL2.out.bel
              cases eq
              obtain ⟨Ar, cr, er, hcr, hCr⟩ := HYo2.out.reads HL2.out.bel
              cases er
              have SY := Lib.hid (same_at hC1 hc1 hCr hcr HLY.out (decide_eq_true rfl))
              have SX := Lib.hid (same_at hC2 hc2 hCq hcq HLX.out (decide_eq_true rfl))
              clear hc1 hC1 hc2 hC2 hcq hCq hcr hCr
              have HRF := Lib.hid (Below.refl w2.heap.size w2)
              go_wp2_with (first
                | (go_at_call 14; ((with_reducible refine (SY.out.at _ (by first | exact HRF.out)).mono ?_); rintro e w20 ⟨rfl, hb⟩; have HF0 := Lib.hid hb; clear hb))
                | (go_at_call 14; ((with_reducible refine (SX.out.at _ (by first | exact HF0.out | exact HRF.out)).mono ?_); rintro e w21 ⟨rfl, hb⟩; have HF1 := Lib.hid hb; clear hb)))
              go_ret
              exact ⟨rfl, HL2.out.bel.trans (HF1.out.mono HL2.out.bel.size)⟩
end
end Go.Proofs.YtebfkifhkaeknaaGreatDoor.Fr
