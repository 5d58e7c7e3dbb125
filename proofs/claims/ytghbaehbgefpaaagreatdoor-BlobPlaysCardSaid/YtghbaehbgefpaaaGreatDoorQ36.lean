import Derived.Test.YtghbaehbgefpaaaGreatDoorQ35
import Derived.Test.YtghbaehbgefpaaaGreatDoorQ34
import Derived.Test.YtghbaehbgefpaaaGreatDoorQ33
import Derived.Test.YtghbaehbgefpaaaGreatDoorQ23
/- Several texts of this session in one: the walks of the functions that the laws reach, and what they tell. -/
set_option linter.unusedVariables false
set_option linter.unusedSimpArgs false
namespace Go.Proofs.YtghbaehbgefpaaaGreatDoor.Fr
open Go.RowKit Go.Proofs.YtghbaehbgefpaaaGreatDoor.F Go.Proofs.YtghbaehbgefpaaaGreatDoorW.PrintWords Go.Maps
open Go.Proofs.YtghbaehbgefpaaaGreatDoor.Hand (putV takeV scanV)
open Go.Proofs.YtghbaehbgefpaaaGreatDoor.PureL (cat cat_app cat_behind cat_size put_of line_len putV_size)
theorem idx_take (l : List ByteArray) (t : ByteArray) (j : Nat) : idxB (l.take j) t = if idxB l t ≤ j then idxB l t else 0 := by
  induction l generalizing j with
  | nil =>
    rw [List.take_nil]
    have e : idxB [] t = 0 := rfl
    rw [e]
    split <;> rfl
  | cons x r ih =>
    cases j with
    | zero =>
      rw [List.take_zero]
      have e : idxB [] t = 0 := rfl
      rw [e]
      split <;> omega
    | succ j =>
      rw [List.take_succ_cons, idx_cons, idx_cons, ih]
      by_cases h : x = t
      · rw [if_pos h, if_pos h, if_pos (by omega)]
      · rw [if_neg h, if_neg h]
        by_cases h1 : idxB r t ≤ j
        · rw [if_pos h1]
          by_cases h2 : idxB r t = 0
          · rw [if_pos h2, if_pos (by omega)]
          · rw [if_neg h2, if_pos (by omega)]
        · rw [if_neg h1, if_pos rfl]
          by_cases h2 : idxB r t = 0
          · omega
          · rw [if_neg h2, if_neg (by omega)]
section
variable {w W W' : World} {K : Nat → Prop} {m s p n u k R : Nat} {L L' : List (Nat × TS)} {T Tm Tm' : TS} {V : List Vw} {nm : ByteArray} {l l' : List ByteArray} {t : ByteArray}
section
variable {v v' : Value} {ns : List Nat}
end
end
theorem int_wf {x : Int} (h : (Lit.int .i64 x).wf = true) : -9223372036854775808 ≤ x ∧ x ≤ 9223372036854775807 := by
  have h2 : (decide (IntKind.i64.min ≤ x) && decide (x ≤ IntKind.i64.max)) = true := h
  rw [Bool.and_eq_true, decide_eq_true_eq, decide_eq_true_eq] at h2
  exact h2
def pickI (c n : Int) : Int := if c < 0 then Int.tmod (-(c + 1)) n else Int.tmod c n
theorem pickn_f (c n : Int) (h0 : -9223372036854775808 ≤ c ∧ c ≤ 9223372036854775807) (h1 : 1 ≤ n) : cooperagelaw7_pick.f c n = some (pickI c n) := by
  unfold cooperagelaw7_pick.f pickI
  by_cases h : c < 0
  · rw [if_pos h, if_neg (by omega), if_pos h]
    have e : wrap64 (-(wrap64 (c + 1))) = -(c + 1) := by unfold wrap64; omega
    rw [e]
  · rw [if_neg h, if_neg (by omega), if_neg h]
theorem pickn_lt (c n : Int) (h1 : 1 ≤ n) : 0 ≤ pickI c n ∧ pickI c n < n := by
  unfold pickI
  split
  · rw [Int.tmod_eq_emod_of_nonneg (by omega)]
    exact ⟨Int.emod_nonneg _ (by omega), Int.emod_lt_of_pos _ (by omega)⟩
  · rw [Int.tmod_eq_emod_of_nonneg (by omega)]
    exact ⟨Int.emod_nonneg _ (by omega), Int.emod_lt_of_pos _ (by omega)⟩
theorem pick7_call (c n : Int) (h0 : -9223372036854775808 ≤ c ∧ c ≤ 9223372036854775807) (h1 : 1 ≤ n) (W : World) : Calls Tryz.prog 15 #[.int .i64 c, .int .i64 n] W fun e w' => e = .returned (.int .i64 (pickI c n)) ∧ Below W.heap.size W w' :=
  (cooperagelaw7_pick.calls c n _ W (pickn_f c n h0 h1)).mono fun e w' h => ⟨h.1, h.2.below⟩
end Go.Proofs.YtghbaehbgefpaaaGreatDoor.Fr
namespace Go.Proofs.YtghbaehbgefpaaaGreatDoor.Fr
open Go.RowKit Go.Proofs.YtghbaehbgefpaaaGreatDoor.F Go.Proofs.YtghbaehbgefpaaaGreatDoorW.PrintWords Go.Maps
open Go.Proofs.YtghbaehbgefpaaaGreatDoor.Hand (putV takeV scanV)
def keptL (acc : List ByteArray) : List (List ByteArray) → List ByteArray
  | [] => acc
  | l :: r => if l.length = 1 ∧ idxB acc (l.headD e0) = 0 then keptL (acc ++ [l.headD e0]) r else acc
theorem keptL_one (acc : List ByteArray) (x : ByteArray) (r : List (List ByteArray)) : keptL acc ([x] :: r) = if idxB acc x = 0 then keptL (acc ++ [x]) r else acc := by
  rw [keptL]
  show (if ([x] : List ByteArray).length = 1 ∧ idxB acc x = 0 then keptL (acc ++ [x]) r else acc) = _
  by_cases h : idxB acc x = 0
  · rw [if_pos ⟨rfl, h⟩, if_pos h]
  · rw [if_neg (fun e => h e.2), if_neg h]
theorem keptL_other (acc : List ByteArray) (l : List ByteArray) (r : List (List ByteArray)) (h : l.length ≠ 1) : keptL acc (l :: r) = acc := by rw [keptL, if_neg fun e => h e.1]
theorem keptL_pre : ∀ (all pre : List (List ByteArray)) (acc : List ByteArray), acc.map (fun x => [x]) = pre → ∃ k, acc.length + k = (keptL acc all).length ∧ k ≤ all.length ∧ (keptL acc all).map (fun x => [x]) = pre ++ all.take k := by
  intro all
  induction all with
  | nil => intro pre acc h; exact ⟨0, rfl, Nat.le_refl _, by rw [keptL, h]; simp⟩
  | cons l r ih =>
    intro pre acc h
    rw [keptL]
    by_cases hc : l.length = 1 ∧ idxB acc (l.headD e0) = 0
    · rw [if_pos hc]
      have hl : [l.headD e0] = l := by
        obtain ⟨h1, -⟩ := hc
        cases l with
        | nil => cases h1
        | cons y t =>
          cases t with
          | nil => rfl
          | cons _ _ => simp at h1
      obtain ⟨k, h1, h2, h3⟩ := ih (pre ++ [l]) (acc ++ [l.headD e0]) (by rw [List.map_append, h, List.map_singleton, hl])
      refine ⟨k + 1, ?_, by rw [List.length_cons]; omega, by rw [h3, List.take_succ_cons, List.append_assoc]; rfl⟩
      rw [← h1, List.length_append]
      simp
      omega
    · rw [if_neg hc]
      exact ⟨0, rfl, Nat.zero_le _, by rw [h]; simp⟩
theorem keptL_take (all : List (List ByteArray)) : (keptL [] all).length ≤ all.length ∧ (keptL [] all).map (fun x => [x]) = all.take (keptL [] all).length := by
  obtain ⟨k, h1, h2, h3⟩ := keptL_pre all [] [] rfl
  have : k = (keptL [] all).length := by rw [← h1]; simp
  rw [← this]
  exact ⟨h2, by rw [h3]; simp⟩
def bOpE (T : TS) (q : ByteArray) : Int := if openE T q = 0 then (if (keptL [] (openL T q)).length < (openL T q).length then anewE (openT T q) q ((openL T q).take (keptL [] (openL T q)).length) else 0) else openE T q
def bOpT (T : TS) (q : ByteArray) : TS := if openE T q = 0 then (if (keptL [] (openL T q)).length < (openL T q).length then anewT (openT T q) q ((openL T q).take (keptL [] (openL T q)).length) else openT T q) else openT T q
theorem open_code (T : TS) (q : ByteArray) : openE T q = 0 ∨ openE T q = 1 ∨ openE T q = 3 ∨ openE T q = 4 ∨ openE T q = 5 ∨ openE T q = 6 := by
  unfold openE
  split
  · exact .inr (.inl rfl)
  · split
    · exact .inl rfl
    · exact anew_code _ _ _
theorem AllOK.take {all : List (List ByteArray)} (h : AllOK all) (k : Nat) : AllOK (all.take k) where
  small := fun l hl => h.small l (List.mem_of_mem_take hl)
  size := fun j hj => by
    rw [List.take_take]
    refine h.size _ ?_
    rw [List.length_take] at hj
    omega
  many := by
    have := h.many
    rw [List.length_take]
    omega
theorem openL_ok {n : Nat} {T : TS} (hI : Inv n T) (hr : T.room ≤ 2000000) (q : ByteArray) : AllOK (openL T q) := by
  unfold openL
  split
  · exact readAll_ok (inv_remove hI _) (by rw [remove_room]; exact hr) q
  · exact { small := (fun l hl => by cases hl), size := (fun k hk => by rw [List.take_nil]; exact Nat.zero_le _), many := Nat.zero_le _ }
theorem openL_many {n : Nat} {T : TS} (hI : Inv n T) (hr : T.room ≤ 900000) (q : ByteArray) : (openL T q).length ≤ 900001 := by
  unfold openL
  split
  · have h1 := readL_many (inv_remove hI (besN q)) q
    rw [remove_room] at h1
    omega
  · exact Nat.zero_le _
theorem C_take {α : Type} {R : Kd α} {w : World} {A : Option Addr} {l : List α} (h : Kd.C R w A l.length l) {k : Nat} (hk : k ≤ l.length) : Kd.C R w A k (l.take k) := by
  obtain ⟨h1, h2, h3⟩ := h
  refine ⟨List.length_take_of_le hk, by omega, fun hn => ?_⟩
  obtain ⟨ad, e, hc⟩ := h3 (by omega)
  refine ⟨ad, e, fun j p hj => ?_⟩
  have hjk : j < k := by
    have := (List.getElem?_eq_some_iff.1 hj).1
    rw [List.length_take] at this
    omega
  rw [List.getElem?_take_of_lt hjk] at hj
  exact hc j p hj
section
variable {K : Nat → Prop} {L L' : List (Nat × TS)} {m p i n s b : Nat} {T Tm Tm' : TS} {W W' : World} {nm : ByteArray} {l : List ByteArray} {v : Value} {D : DataW Unit}
def BOp2 (K : Nat → Prop) (L : List (Nat × TS)) (m : Nat) (Tm : TS) (p : Nat) (nm : ByteArray) (l : List ByteArray) (er : Int) (W : World) (e : Ending) (W' : World) : Prop :=
  (er = 0 ∧ ∃ s, e = .returned (.tuple #[.pointer (some ⟨s, 0, none⟩), .int .i64 0]) ∧ StS K L m Tm s p nm l W' ∧ Kp K W W') ∨ (er ≠ 0 ∧ e = .returned (.tuple #[.pointer none, .int .i64 er]) ∧ Sts K L m Tm W' ∧ Kp K W W')
theorem StS.sts' (h : StS K L m Tm s p nm l W) : Sts K L m Tm W := by
  obtain ⟨v, b, D, h⟩ := h
  exact h.sts.drop fun k hk => .inl hk
set_option maxHeartbeats 8000000 in
set_option maxRecDepth 100000 in
theorem Sts.bOpen2 (h : Sts K L m Tm W) (hi : L[i]? = some (p, T)) (hG : GK K W) (hI : Inv n T) (hn : n + 8 ≤ 1000000) (hr : T.room ≤ 900000) (nm : ByteArray) (hq : nm.size ≤ 99000) :
    Calls Tryz.prog 10 #[.pointer (some ⟨p, 0, none⟩), .string nm] W (BOp2 K (L.set i (p, bOpT T nm)) m Tm p nm (keptL [] (openL T nm)) (bOpE T nm) W) := by
  have HJ := Lib.hid (h.jOpen hi hG hI (by omega) (by omega) nm hq)
  have HAL := Lib.hid (openL_ok hI (by omega) nm)
  have HMN := Lib.hid (openL_many hI hr nm)
  have HI1 := Lib.hid (inv_open hI nm (by omega))
  have hcode := open_code T nm
  have HE0 : Hid (bOpE T nm = if openE T nm = 0 then (if (keptL [] (openL T nm)).length < (openL T nm).length then anewE (openT T nm) nm ((openL T nm).take (keptL [] (openL T nm)).length) else 0) else openE T nm) := rfl
  have HT0 : Hid (bOpT T nm = if openE T nm = 0 then (if (keptL [] (openL T nm)).length < (openL T nm).length then anewT (openT T nm) nm ((openL T nm).take (keptL [] (openL T nm)).length) else openT T nm) else openT T nm) := rfl
  generalize bOpE T nm = EE at HE0 ⊢
  generalize bOpT T nm = TT at HT0 ⊢
  have HIX : Hid (∀ T', (L.set i (p, openT T nm))[i]? = some (p, openT T nm) ∧ (L.set i (p, openT T nm)).set i (p, T') = L.set i (p, T')) := fun T' => ⟨set_at hi _, set_set' _ _⟩
  generalize openT T nm = T1 at HJ HI1 HIX HE0 HT0
  generalize openE T nm = eo at HJ hcode HE0 HT0
  generalize openL T nm = all at HJ HAL HMN HE0 HT0 ⊢
  have HG := Lib.hid hG
  clear h hG hI hr
  have hmm := @run_makeMap Tryz.prog
  rcases hcode with rfl | hcode
  · have HE1 : Hid (EE = if (keptL [] all).length < all.length then anewE T1 nm (all.take (keptL [] all).length) else 0) := HE0.out.trans (if_pos rfl)
    have HT1 : Hid (TT = if (keptL [] all).length < all.length then anewT T1 nm (all.take (keptL [] all).length) else T1) := HT0.out.trans (if_pos rfl)
    clear HE0 HT0
    obtain ⟨F, hF⟩ : ∃ F, keptL [] all = F := ⟨_, rfl⟩
    rw [hF] at HE1 HT1 ⊢
    have HF := Lib.hid hF
    have HFT := Lib.hid (hF ▸ keptL_take all)
    clear hF
    go_enter Tryz.func10, Tryz.ntmps10
    go_upto_region 4 with (go_at_call 29; refine HJ.out.mono ?_; rintro e w1 hE; obtain ⟨v, K1, rfl, hKK, hs1, hk1, hv⟩ := hE; obtain ⟨A1, n1, rfl⟩ := Kd.S_slice hv; have HKK := Lib.hid hKK; have HS1 := Lib.hid hs1; have HK1 := Lib.hid hk1; have HV := Lib.hid hv; clear hKK hs1 hk1 hv)
    have HST := Lib.hid (HS1.out.store p nm)
    have HB2 := Lib.hid (newBelow2 w1 (.map #[] 0) (.cells #[.pointer (some ⟨p, 0, none⟩), .string nm, .slice none 0 0, .map (some w1.heap.size)] 68))
    go_upto_region 5 with fail
    clear hmm
    generalize w1.heap.size + 1 = s at HST ⊢
    generalize ((w1.alloc (.map #[] 0)).alloc (.cells #[.pointer (some ⟨p, 0, none⟩), .string nm, .slice none 0 0, .map (some w1.heap.size)] 68)) = w2 at HST HB2 ⊢
    have HK2 := Lib.hid (Kp.of (K := K1) HB2.out)
    -- behind the loop: the store has F
    have HAN : Hid (∀ (k : Nat) (wr : World), k ≤ all.length → StS K1 (L.set i (p, T1)) m Tm s p nm F wr → Kp K1 w1 wr → Calls Tryz.prog 31 #[.pointer (some ⟨p, 0, none⟩), .string nm, .slice A1 k n1] wr fun e W' => e = .returned (.int .i64 (anewE T1 nm (all.take k))) ∧ StS K1 (L.set i (p, anewT T1 nm (all.take k))) m Tm s p nm F W' ∧ Kp K1 wr W') := fun k wr hk hs hkp => by
      obtain ⟨v, b, D, hB⟩ := hs
      have hC := (Kd.S_reads' (Kd.S_step HV.out (fun j hj hlt => hkp.block hj.1 hlt))).2.2
      have hC2 := C_take hC hk
      have hlt : (all.take k).length = k := List.length_take_of_le hk
      have hG2 : GK (fun k => K1 k ∨ BsF s v b k) wr := ((HG.out.step HK1.out).step (hkp.mono HKK.out)).more fun k hk => .inl (HKK.out k hk)
      have := hB.sts.jAnew (HIX.out T1).1 hG2 HI1.out (by omega) nm hq A1 n1 (all.take k) (by rw [hlt]; exact hC2) (HAL.out.take k)
      rw [hlt, (HIX.out _).2] at this
      refine this.mono ?_
      rintro e W' ⟨rfl, h1, h2⟩
      exact ⟨rfl, ⟨v, b, D, hB.step h1 h2⟩, h2.mono fun k hk => .inl hk⟩
    go_upto_region 6 with fail
    go_loopw [29] (fun i0 wr => ∃ (k : Nat) (acc : List ByteArray), k ≤ all.length ∧ i0 = .int .i64 k ∧ Hid (StS K1 (L.set i (p, T1)) m Tm s p nm acc wr) ∧ Hid (Kp K1 w1 wr) ∧ Hid (acc.length = k ∧ keptL acc (all.drop k) = F))
      (fun i0 _ => all.length - (intOf i0).toNat)
    case atStart => exact ⟨0, [], Nat.zero_le _, rfl, HST, HK2, rfl, HF.out⟩
    case round =>
      clear HST HK2 HB2
      obtain ⟨k, acc, hk, rfl, HST, HK2, HA⟩ := hrel
      by_cases hlk : k < all.length
      · obtain ⟨-, hc1, hC1⟩ := Kd.S_reads' (Kd.S_step HV.out (fun j hj hlt => HK2.out.block hj.1 hlt))
        obtain ⟨ad, Ae, ce, e, hce, hcl, hCe⟩ := at_LL hC1 hlk
        subst e
        have HDR : Hid (all.drop k = all[k] :: all.drop (k + 1)) := List.drop_eq_getElem_cons hlk
        have HSM := Lib.hid (HAL.out.small _ (List.getElem_mem hlk))
        generalize all[k] = x at hce hcl hCe HDR HSM
        have hkm : k ≤ 900001 := by have := HMN.out; omega
        have hkn : k ≤ n1 := by omega
        obtain ⟨v, b, D, hB⟩ := HST.out
        have HBB := Lib.hid hB
        obtain ⟨c0, c1, c2, c3⟩ := hB.at_.cells
        have hlook0 := hB.at_.kept (W' := wr.drew) fun _ _ => rfl
        clear hB
        have HBR : Hid (k < all.length → acc = F → ∀ (w3 : World), Below wr.heap.size wr w3 → StS K1 (L.set i (p, T1)) m Tm s p nm F w3 ∧ Kp K1 w1 w3) := fun _ e w3 hb => by
          rw [← e]
          exact ⟨⟨v, b, D, HBB.out.below hb⟩, HK2.out.trans (Kp.of hb)⟩
        by_cases hx1 : x.length = 1
        · obtain ⟨y, rfl⟩ : ∃ y, x = [y] := by
            cases x with
            | nil => cases hx1
            | cons y t =>
              cases t with
              | nil => exact ⟨y, rfl⟩
              | cons _ _ => simp at hx1
          obtain ⟨ad2, e3, hx⟩ := at_one hCe
          subst e3
          have hce : wr.cell? (ad.add k) = some (.slice (some ad2) 1 ce) := hce
          have HX : Hid (y.size ≤ 100000) := HSM.out y (List.mem_cons_self ..)
          have hlook := hlook0.look y (by have := HX.out; unfold maxLen; omega)
          have HKE : Hid ((if idxB acc y = 0 then keptL (acc ++ [y]) (all.drop (k + 1)) else acc) = F) := by
            rw [Hid, ← HA.out.2, HDR.out, keptL_one]
          clear hx1 hC1 hCe hc1 hcl hlook0
          by_cases hz : idxB acc y = 0
          · rw [hz] at hlook
            have HI0 := Lib.hid hz
            rw [if_pos hz] at HKE
            clear hz
            go_upto_region 8 with fail
            have HBd := Lib.hid (HBB.out.below (Below.refl _ wr).drew)
            have HLT : Hid (acc.length ≤ 1000000) := by rw [Hid, HA.out.1]; omega
            go_region
            go_wp2_with (go_at_call 30; refine (keep_call HBd.out.at_ y HX.out HLT.out HI0.out).mono ?_; rintro e w3 ⟨rfl, hk3⟩; have HE := Lib.hid (HBd.out.keep hk3); clear hk3)
            go_roundw
            case rel => exact ⟨k + 1, acc ++ [y], by omega, by go_num, HE.out.1, HK2.out.trans ((Kp.of (Below.refl _ wr).drew).trans HE.out.2), by rw [List.length_append, HA.out.1]; rfl, HKE.out⟩
            case measure => simp [intOf]; omega
          · rw [if_neg hz] at HKE
            have hz0 : 0 < idxB acc y := by omega
            generalize idxB acc y = nn at hlook hz0
            clear hz
            go_upto_region 8 with fail
            have hgt : decide ((0 : Int) < (nn : Int)) = true := decide_eq_true (by omega)
            go_region
            have HFL : Hid (F.length = k) := by rw [Hid, ← HKE.out]; exact HA.out.1
            have HEk : Hid (EE = anewE T1 nm (all.take k)) := by rw [Hid, HE1.out, HFL.out]; exact if_pos hlk
            have HTk : Hid (TT = anewT T1 nm (all.take k)) := by rw [Hid, HT1.out, HFL.out]; exact if_pos hlk
            obtain ⟨hsF, hkF⟩ := HBR.out hlk HKE.out wr.drew (Below.refl _ wr).drew
            obtain ⟨v9, b9, D9, hB9⟩ := hsF
            have hlc := len_call hB9.at_
            rw [HFL.out] at hlc
            have HLC := Lib.hid hlc
            have HS9 := Lib.hid hB9
            have HK9 := Lib.hid hkF
            clear hlc hB9 hkF
            have hdk : decide ((k : Int) < (all.length : Int)) = true := decide_eq_true (by omega)
            go_upto_region 12 with (go_at_call 14; refine HLC.out.mono ?_; rintro e w3 ⟨rfl, hb⟩; have HS3 := Lib.hid (HS9.out.below hb); have HK3 := Lib.hid (HK9.out.trans (Kp.of hb)); clear hb)
            have han := HAN.out k _ (Nat.le_of_lt hlk) ⟨_, _, _, HS3.out⟩ HK3.out
            have hcode := anew_code T1 nm (all.take k)
            rw [← HEk.out] at han hcode
            rw [← HTk.out] at han
            have HA9 := Lib.hid han
            clear han HEk HTk HFL
            rcases hcode with rfl | hcode
            · go_wp2_with (go_at_call 31; refine HA9.out.mono ?_; rintro e w4 ⟨rfl, hs4, hk4⟩; have HS4 := Lib.hid hs4; have HK4 := Lib.hid (HK3.out.trans hk4); clear hs4 hk4)
              go_ret2
              exact .inl ⟨rfl, s, rfl, HS4.out.drop HKK.out, HK1.out.trans (HK4.out.mono HKK.out)⟩
            · rcases hcode with rfl | rfl | rfl | rfl | rfl
              all_goals
                go_wp2_with (go_at_call 31; refine HA9.out.mono ?_; rintro e w4 ⟨rfl, hs4, hk4⟩; have HS4 := Lib.hid hs4; have HK4 := Lib.hid (HK3.out.trans hk4); clear hs4 hk4)
                go_ret2
                exact .inr ⟨by decide, rfl, HS4.out.sts'.drop HKK.out, HK1.out.trans (HK4.out.mono HKK.out)⟩
        · have HKE : Hid (acc = F) := by rw [Hid, ← HA.out.2, HDR.out, keptL_other _ _ _ hx1]
          have hq1 : ((x.length : Int) == 1) = false := beq_eq_false_iff_ne.2 (by omega)
          have hq2 : ((x.length : Int) != 1) = true := bne_iff_ne.2 (by omega)
          have hq3 : decide ((x.length : Int) = 1) = false := decide_eq_false (by omega)
          have hq4 : (x.length == 1) = false := beq_eq_false_iff_ne.2 hx1
          have hq5 : decide (x.length = 1) = false := decide_eq_false hx1
          clear hC1 hCe hc1 hcl hlook0
          go_upto_region 8 with fail
          go_quiet (fail)
          rename_i nq
          have HFL : Hid (F.length = k) := by rw [Hid, ← HKE.out]; exact HA.out.1
          have HEk : Hid (EE = anewE T1 nm (all.take k)) := by rw [Hid, HE1.out, HFL.out]; exact if_pos hlk
          have HTk : Hid (TT = anewT T1 nm (all.take k)) := by rw [Hid, HT1.out, HFL.out]; exact if_pos hlk
          obtain ⟨hsF, hkF⟩ := HBR.out hlk HKE.out (wr.drewN nq) (pw_below_drewN (Below.refl _ wr) nq)
          obtain ⟨v9, b9, D9, hB9⟩ := hsF
          have hlc := len_call hB9.at_
          rw [HFL.out] at hlc
          have HLC := Lib.hid hlc
          have HS9 := Lib.hid hB9
          have HK9 := Lib.hid hkF
          clear hlc hB9 hkF
          have hdk : decide ((k : Int) < (all.length : Int)) = true := decide_eq_true (by omega)
          go_upto_region 12 with (go_at_call 14; refine HLC.out.mono ?_; rintro e w3 ⟨rfl, hb⟩; have HS3 := Lib.hid (HS9.out.below hb); have HK3 := Lib.hid (HK9.out.trans (Kp.of hb)); clear hb)
          have han := HAN.out k _ (Nat.le_of_lt hlk) ⟨_, _, _, HS3.out⟩ HK3.out
          have hcode := anew_code T1 nm (all.take k)
          rw [← HEk.out] at han hcode
          rw [← HTk.out] at han
          have HA9 := Lib.hid han
          clear han HEk HTk HFL
          rcases hcode with rfl | hcode
          · go_wp2_with (go_at_call 31; refine HA9.out.mono ?_; rintro e w4 ⟨rfl, hs4, hk4⟩; have HS4 := Lib.hid hs4; have HK4 := Lib.hid (HK3.out.trans hk4); clear hs4 hk4)
            go_ret2
            exact .inl ⟨rfl, s, rfl, HS4.out.drop HKK.out, HK1.out.trans (HK4.out.mono HKK.out)⟩
          · rcases hcode with rfl | rfl | rfl | rfl | rfl
            all_goals
              go_wp2_with (go_at_call 31; refine HA9.out.mono ?_; rintro e w4 ⟨rfl, hs4, hk4⟩; have HS4 := Lib.hid hs4; have HK4 := Lib.hid (HK3.out.trans hk4); clear hs4 hk4)
              go_ret2
              exact .inr ⟨by decide, rfl, HS4.out.sts'.drop HKK.out, HK1.out.trans (HK4.out.mono HKK.out)⟩
      · obtain rfl : k = all.length := by omega
        have HKE : Hid (acc = F) := by
          have := HA.out.2
          rw [List.drop_length] at this
          exact this
        have HFL : Hid (F.length = all.length) := by rw [Hid, ← HKE.out]; exact HA.out.1
        have hee : EE = 0 := by rw [HE1.out, HFL.out]; exact if_neg (Nat.lt_irrefl _)
        have htt : TT = T1 := by rw [HT1.out, HFL.out]; exact if_neg (Nat.lt_irrefl _)
        have hS := HST.out
        rw [HKE.out] at hS
        obtain ⟨v, b, D, hB⟩ := hS
        have hlc := len_call hB.at_
        rw [HFL.out] at hlc
        have HLC := Lib.hid hlc
        have HBB := Lib.hid hB
        subst hee
        subst htt
        clear hlc hB HFL HKE HST HAN HE1 HT1
        go_wp2_with (go_at_call 14; refine HLC.out.mono ?_; rintro e w3 ⟨rfl, hb⟩; have HB3 := Lib.hid hb; clear hb)
        go_ret2
        exact .inl ⟨rfl, s, rfl, StS.drop ⟨v, b, D, HBB.out.below HB3.out⟩ HKK.out, HK1.out.trans ((HK2.out.trans (Kp.of HB3.out)).mono HKK.out)⟩
  · have hee : EE = eo := HE0.out.trans (if_neg (by omega))
    have htt : TT = T1 := HT0.out.trans (if_neg (by omega))
    subst hee
    subst htt
    clear HE0 HT0 HIX
    rcases hcode with rfl | rfl | rfl | rfl | rfl
    all_goals
      go_enter Tryz.func10, Tryz.ntmps10
      go_wp2_with (go_at_call 29; refine HJ.out.mono ?_; rintro e w1 hE; obtain ⟨v, K1, rfl, hKK, hs1, hk1, hv⟩ := hE; obtain ⟨A1, n1, rfl⟩ := Kd.S_slice hv; have HKK := Lib.hid hKK; have HS1 := Lib.hid hs1; have HK1 := Lib.hid hk1; clear hKK hs1 hk1 hv)
      go_ret2
      exact .inr ⟨by decide, rfl, HS1.out.drop HKK.out, HK1.out⟩
end
end Go.Proofs.YtghbaehbgefpaaaGreatDoor.Fr
namespace Go.Proofs.YtghbaehbgefpaaaGreatDoor.Fr
open Go.RowKit Go.Proofs.YtghbaehbgefpaaaGreatDoor.F Go.Proofs.YtghbaehbgefpaaaGreatDoorW.PrintWords
open Go.Proofs.YtghbaehbgefpaaaGreatDoor.Hand (putV takeV scanV)
open Go.Proofs.YtghbaehbgefpaaaGreatDoor.PureL (cat cat_app cat_behind cat_size)
theorem rput_line (A : Option Addr) (c : Nat) (l : List ByteArray) (w : World) (hC : Kd.C Kd.string w A l.length l) (hc : l.length ≤ c) (hx : ∀ x ∈ l, x.size ≤ 100000) :
    Calls Tryz.prog 47 #[.slice A l.length c] w fun e w' => e = .returned (.tuple #[.string (putV l).1, .int .i64 (putV l).2]) ∧ Below w.heap.size w w' := by
  obtain ⟨k, hk⟩ := (PureL.refPut_f l hx).get
  exact (L.cooperageref4_Put.calls k A c l _ _ w hC hc hk).mono fun e w' h => ⟨h.1, h.2.below⟩
theorem rscan_call (s : ByteArray) (hs : s.size ≤ 100000) (w : World) :
    Calls Tryz.prog 86 #[.string s] w fun e w' => ∃ v, e = .returned (.tuple #[v, .int .i64 (scanV s).2]) ∧ Kd.S kLL 22 w' w.heap.size (fun _ => True) v (scanV s).1 ∧ Below w.heap.size w w' := by
  obtain ⟨k, hk⟩ := (PureL.refScan_f s hs).get
  exact L.cooperageref4_Scan.calls k s _ _ w hk
theorem rpath_bes (q : ByteArray) (hq : q.size ≤ 99000) (w : World) : Calls Tryz.prog 46 #[.string (besN q)] w fun e w' => e = .returned (.bool (pathV (besN q))) ∧ Below w.heap.size w w' :=
  (rpath_call (besN q) (by rw [besN_size]; omega) w).mono fun e w' h => ⟨h.1, h.2.below⟩
section
variable {K : Nat → Prop} {L : List (Nat × TS)} {m p i n : Nat} {T Tm T' : TS} {W W' : World}
theorem StEnd.rsame {v : Value} (h : Sts K L m Tm W) (hb : Below W.heap.size W W') : StEnd K L m Tm W v (.returned v) W' := ⟨rfl, h.below hb, Kp.of hb⟩
set_option maxHeartbeats 4000000 in
set_option maxRecDepth 100000 in
theorem Sts.rjRead (h : Sts K L m Tm W) (hI : Inv n Tm) (hr : Tm.room ≤ 90000) (q : ByteArray) :
    Calls Tryz.prog 56 #[.pointer (some ⟨m, 0, none⟩), .string q] W (RdEnd W (readL Tm q) (readW Tm q)) := by
  have hsz : (readT Tm q).1.size ≤ 90000 := by
    have h1 := read_used Tm q
    have h2 := hI.good.used
    omega
  have HR := Lib.hid (h.rRead hI q)
  have hw : (((scanV (readT Tm q).1).2 == (((readT Tm q).1.size : Nat) : Int)) : Bool) = readW Tm q := rfl
  have hl : (scanV (readT Tm q).1).1 = readL Tm q := rfl
  have HSC : Hid (∀ W1, Calls Tryz.prog 86 #[.string (readT Tm q).1] W1 fun e w' => ∃ v, e = .returned (.tuple #[v, .int .i64 (scanV (readT Tm q).1).2]) ∧ Kd.S kLL 22 w' W1.heap.size (fun _ => True) v (scanV (readT Tm q).1).1 ∧ Below W1.heap.size W1 w') := fun W1 => rscan_call _ (by omega) W1
  rw [hl] at HSC
  generalize readT Tm q = r at HR hw hl hsz HSC
  obtain ⟨s, er⟩ := r
  simp only at HR hw hl hsz HSC
  generalize (scanV s).2 = z at hw HSC
  generalize readL Tm q = ls at HSC
  have HW := Lib.hid hw
  clear h hw hl
  go_enter Tryz.func56, Tryz.ntmps56
  go_wp2_with (first
    | (go_at_call 85; refine HR.out.mono ?_; rintro e w1 ⟨rfl, hb⟩; have HB := Lib.hid hb; clear hb)
    | (go_at_call 86; refine (HSC.out _).mono ?_; rintro e w2 ⟨v, rfl, hv, hb⟩; have HV := Lib.hid (Kd.S_lower hv HB.out.size); have HB2 := Lib.hid (HB.out.trans (hb.mono HB.out.size)); clear hv hb))
  go_ret2
  exact ⟨v, by rw [HW.out]; rfl, HV.out, HB2.out⟩
set_option maxHeartbeats 4000000 in
set_option maxRecDepth 100000 in
theorem Sts.rjAdd (h : Sts K L m Tm W) (hI : Inv n Tm) (hn : n ≤ 1000000) (q : ByteArray) (hq : q.size ≤ 99000) (A : Option Addr) (c : Nat) (l : List ByteArray)
    (hC : Kd.C Kd.string W A l.length l) (hc : l.length ≤ c) (hx : ∀ x ∈ l, x.size ≤ 100000) :
    Calls Tryz.prog 24 #[.pointer (some ⟨m, 0, none⟩), .string q, .slice A l.length c] W (StEnd K L m (addT Tm q l) W (.int .i64 (addE Tm q l))) := by
  have HS := Lib.hid h
  have HC := Lib.hid hC
  have HX := Lib.hid hx
  have HI := Lib.hid hI
  have HP := Lib.hid (rpath_bes q hq W)
  cases hb : pathV (besN q) with
  | false =>
    have HE : Hid (addE Tm q l = 1 ∧ addT Tm q l = Tm) := by unfold Hid addE addT; rw [hb]; exact ⟨rfl, rfl⟩
    rw [hb] at HP
    rw [HE.out.1, HE.out.2]
    clear h hC hx hI hb HE
    go_enter Tryz.func24, Tryz.ntmps24
    go_wp2_with (first
      | (go_at_call 46; refine HP.out.mono ?_; rintro e w2 ⟨rfl, hb⟩; have HB := Lib.hid hb; clear hb))
    go_ret
    exact StEnd.rsame HS.out HB.out
  | true =>
    rw [hb] at HP
    have HQ : Hid (∀ W1, Below W.heap.size W W1 → Calls Tryz.prog 47 #[.slice A l.length c] W1 fun e w' => e = .returned (.tuple #[.string (putV l).1, .int .i64 (putV l).2]) ∧ Below W1.heap.size W1 w') :=
      fun W1 hb => rput_line A c l W1 (Kd.C_below hC hb) hc hx
    have hcode := put_code l
    have hln := lineL_le (l := l)
    obtain ⟨s, er, hp⟩ : ∃ s er, putV l = (s, er) := ⟨_, _, rfl⟩
    have HA : Hid (addE Tm q l = if er = 0 then writeE Tm true q s else er) := by unfold Hid addE; rw [hb, if_neg (by decide), hp]
    have HT : Hid (addT Tm q l = if er = 0 then writeT Tm true q s else Tm) := by unfold Hid addT; rw [hb, if_neg (by decide), hp]
    rw [hp] at HQ hcode hln
    simp only at HQ hcode hln
    rw [HA.out, HT.out]
    clear h hC hx hI hb hp HA HT
    rcases hcode with rfl | rfl | rfl
    · have hs : s.size ≤ 13000 := hln rfl
      rw [if_pos rfl, if_pos rfl]
      clear hln
      go_enter Tryz.func24, Tryz.ntmps24
      go_wp2_with (first
        | (go_at_call 46; refine HP.out.mono ?_; rintro e w2 ⟨rfl, hb⟩; have HB := Lib.hid hb; clear hb)
        | (go_at_call 47; refine (HQ.out _ HB.out).mono ?_; rintro e w3 ⟨rfl, hb⟩; have HB3 := Lib.hid (HB.out.trans (hb.mono HB.out.size)); clear hb)
        | (go_at_call 48; refine ((HS.out.below HB3.out).rAppend HI.out hn q s (by omega) (by omega)).mono ?_; rintro e w4 ⟨rfl, hs4, hk4⟩; have HE := Lib.hid hs4; have HK := Lib.hid ((Kp.of (K := K) HB3.out).trans hk4); clear hs4 hk4))
      go_ret
      exact ⟨rfl, HE.out, HK.out⟩
    all_goals
      rw [if_neg (by decide), if_neg (by decide)]
      clear hln
      go_enter Tryz.func24, Tryz.ntmps24
      go_wp2_with (first
        | (go_at_call 46; refine HP.out.mono ?_; rintro e w2 ⟨rfl, hb⟩; have HB := Lib.hid hb; clear hb)
        | (go_at_call 47; refine (HQ.out _ HB.out).mono ?_; rintro e w3 ⟨rfl, hb⟩; have HB3 := Lib.hid (HB.out.trans (hb.mono HB.out.size)); clear hb))
      go_ret
      exact StEnd.rsame HS.out HB3.out
set_option maxHeartbeats 16000000 in
set_option maxRecDepth 100000 in
theorem Sts.rjAnew (h : Sts K L m Tm W) (hI : Inv n Tm) (hn : n + 3 ≤ 1000000) (q : ByteArray) (hq : q.size ≤ 99000) (A : Option Addr) (c : Nat) (all : List (List ByteArray))
    (hC : Kd.C kLL W A all.length all) (hA : AllOK all) :
    Calls Tryz.prog 35 #[.pointer (some ⟨m, 0, none⟩), .string q, .slice A all.length c] W (StEnd K L m (anewT Tm q all) W (.int .i64 (anewE Tm q all))) := by
  have HS := Lib.hid h
  have HC := Lib.hid hC
  have HP := Lib.hid (rpath_bes q hq W)
  cases hb : pathV (besN q) with
  | false =>
    have HE : Hid (anewE Tm q all = 1 ∧ anewT Tm q all = Tm) := by unfold Hid anewE anewT; rw [hb]; exact ⟨rfl, rfl⟩
    rw [hb] at HP
    rw [HE.out.1, HE.out.2]
    clear h hC hI hb HE hA
    go_enter Tryz.func35, Tryz.ntmps35
    go_wp2_with (first
      | (go_at_call 46; refine HP.out.mono ?_; rintro e w2 ⟨rfl, hb⟩; have HB := Lib.hid hb; clear hb))
    go_ret
    exact StEnd.rsame HS.out HB.out
  | true =>
    rw [hb] at HP
    have HSM := Lib.hid hA.small
    have HSZ := Lib.hid hA.size
    have hmany := hA.many
    have HI := Lib.hid hI
    have HE1 : Hid (∀ er, er ≠ 0 → (putAll all).2 = er → anewE Tm q all = er ∧ anewT Tm q all = Tm) := fun er h0 h1 => by
      have hbf : ¬ (true = false) := by decide
      unfold anewE anewT
      rw [hb, if_neg hbf, if_neg hbf, h1, if_neg h0, if_neg h0]
      exact ⟨rfl, rfl⟩
    have HE2 : Hid (putAll all = (cat all e0, 0) → anewE Tm q all = anew1E Tm q (cat all e0) ∧ anewT Tm q all = anew1T Tm q (cat all e0)) := fun h1 => by
      have hbf : ¬ (true = false) := by decide
      unfold anewE anewT
      rw [hb, if_neg hbf, if_neg hbf, h1]
      exact ⟨if_pos rfl, if_pos rfl⟩
    clear h hC hI hb hA
    generalize anewE Tm q all = EE at HE1 HE2 ⊢
    generalize anewT Tm q all = TT at HE1 HE2 ⊢
    go_enter Tryz.func35, Tryz.ntmps35
    go_upto_region 6 with (first | (go_at_call 46; refine HP.out.mono ?_; rintro e w2 ⟨rfl, hb⟩; have HB := Lib.hid hb; clear hb))
    go_loopw [8, 9] (fun s i wr => ∃ k : Nat, k ≤ all.length ∧ s = .string (cat (all.take k) e0) ∧ i = .int .i64 k ∧ Hid (Below W.heap.size W wr) ∧ Hid (Lines (all.take k)))
      (fun _ i _ => all.length - (intOf i).toNat)
    case atStart => exact ⟨0, Nat.zero_le _, rfl, rfl, HB.out, fun l hl => by cases hl⟩
    case round =>
      clear HB
      obtain ⟨k, hk, rfl, rfl, HB, HL⟩ := hrel
      have hlen : (cat (all.take k) e0).size ≤ 90000000 := by
        have := HSZ.out k hk
        rw [putAll_ok HL.out] at this
        exact this
      by_cases hlt : k < all.length
      · obtain ⟨ad, A', c', rfl, hc1, hc2, hC'⟩ := at_LL (Kd.C_below HC.out HB.out) hlt
        have HC' := Lib.hid hC'
        have HX' := Lib.hid (HSM.out _ (List.getElem_mem hlt))
        have HST := Lib.hid (putAll_stop all k hlt ⟨#[]⟩ HL.out)
        have HNX := Lib.hid (lines_take_succ hlt HL.out)
        have HTK : Hid (cat (all.take (k + 1)) e0 = cat (all.take k) e0 ++ (putV all[k]).1) := by
          rw [Hid, List.take_succ_eq_append_getElem hlt, cat_snoc]
        have hcode := put_code all[k]
        have hln := lineL_le (l := all[k])
        clear hC'
        generalize all[k] = x at hc1 hc2 HC' HX' HST HNX HTK hcode hln
        have HP2 := Lib.hid (rput_line A' c' x wr HC'.out hc2 HX'.out)
        obtain ⟨s, er, hp⟩ : ∃ s er, Hid (putV x = (s, er)) := ⟨_, _, Lib.hid rfl⟩
        rw [hp.out] at hcode HP2 HST HNX hln HTK
        simp only at HP2
        simp only at hcode hln HTK
        generalize cat (all.take k) e0 = S at hlen HTK ⊢
        rcases hcode with rfl | rfl | rfl
        · have hs : s.size ≤ 13000 := hln rfl
          go_wp2_with (first | (go_at_call 47; refine HP2.out.mono ?_; rintro e W1 ⟨rfl, hb1⟩; have HB2 := Lib.hid (HB.out.trans (hb1.mono HB.out.size)); clear hb1))
          go_roundw
          case rel => exact ⟨k + 1, by omega, by rw [HTK.out], by go_num, HB2.out, HNX.out (by first | rfl | exact trivial)⟩
          case measure => simp [intOf]; omega
        all_goals
          have HE : Hid (putAll all = (e0, _)) := HST.out (by simp)
          have HEE := Lib.hid (HE1.out (putAll all).2 (by rw [HE.out]; simp) rfl)
          rw [HE.out] at HEE
          simp only at HEE
          go_wp2_with (first | (go_at_call 47; refine HP2.out.mono ?_; rintro e W1 ⟨rfl, hb1⟩; have HB2 := Lib.hid (HB.out.trans (hb1.mono HB.out.size)); clear hb1))
          go_ret
          rw [HEE.out.1, HEE.out.2]
          exact StEnd.rsame HS.out HB2.out
      · obtain rfl : k = all.length := by omega
        rw [List.take_length] at HL hlen ⊢
        obtain ⟨hX, hY⟩ := HE2.out (putAll_ok HL.out)
        have hE : anew1E Tm q (cat all e0) = if writeE Tm false (besN q) (cat all e0) = 0 then renameE (writeT Tm false (besN q) (cat all e0)) (besN q) q else writeE Tm false (besN q) (cat all e0) := rfl
        have hT : anew1T Tm q (cat all e0) = if writeE Tm false (besN q) (cat all e0) = 0 then
          if renameE (writeT Tm false (besN q) (cat all e0)) (besN q) q = 0 then syncT (renameT (writeT Tm false (besN q) (cat all e0)) (besN q) q) else removeT (renameT (writeT Tm false (besN q) (cat all e0)) (besN q) q) (besN q)
          else removeT (writeT Tm false (besN q) (cat all e0)) (besN q) := rfl
        rw [hE] at hX
        rw [hT] at hY
        clear hE hT HE1 HE2 HSZ HSM HL
        generalize cat all e0 = s at hlen hX hY ⊢
        have HbQ : (besN q).size ≤ 100000 := by rw [besN_size]; omega
        have hI1 := Lib.hid (inv_write HI.out false (q := besN q) (s := s) (by omega))
        have hI2 := Lib.hid (inv_rename hI1.out (besN q) q)
        have HW := Lib.hid ((HS.out.below HB.out).rWrite HI.out (by omega) (besN q) s HbQ (by omega))
        have hw := write_code Tm false (besN q) s
        generalize writeE Tm false (besN q) s = ew at HW hw hX hY
        generalize writeT Tm false (besN q) s = T1 at HW hI1 hI2 hX hY
        rcases hw with rfl | hw
        · rw [if_pos rfl] at hX hY
          have hr := rename_code T1 (besN q) q
          have HR : Hid (∀ W1, Sts K L m T1 W1 → Calls Tryz.prog 59 #[.pointer (some ⟨m, 0, none⟩), .string (besN q), .string q] W1 (StEnd K L m (renameT T1 (besN q) q) W1 (.int .i64 (renameE T1 (besN q) q)))) :=
            fun W1 h1 => h1.rRename hI1.out (by omega) (besN q) q HbQ (by omega)
          generalize renameE T1 (besN q) q = er at HR hr hX hY
          generalize renameT T1 (besN q) q = T2 at HR hI2 hY
          have HR2 : Hid (∀ W1, Sts K L m T2 W1 → Calls Tryz.prog 55 #[.pointer (some ⟨m, 0, none⟩), .string (besN q)] W1 (StEnd K L m (removeT T2 (besN q)) W1 (.int .i64 (removeE T2 (besN q))))) :=
            fun W1 h1 => h1.rRemove hI2.out (by omega) (besN q) HbQ
          have HXY : Hid (EE = er ∧ TT = if er = 0 then syncT T2 else removeT T2 (besN q)) := ⟨hX, hY⟩
          clear hX hY
          rcases hr with rfl | rfl | rfl | rfl
          · go_wp2_with (first
              | (go_at_call 58; refine HW.out.mono ?_; rintro e w4 ⟨rfl, hs4, hk4⟩; have HE4 := Lib.hid hs4; have HK4 := Lib.hid ((Kp.of (K := K) HB.out).trans hk4); clear hs4 hk4)
              | (go_at_call 59; refine (HR.out _ HE4.out).mono ?_; rintro e w5 ⟨rfl, hs5, hk5⟩; have HE5 := Lib.hid hs5; have HK5 := Lib.hid (HK4.out.trans hk5); clear hs5 hk5)
              | (go_at_call 57; refine (HE5.out.rSync).mono ?_; rintro e w6 ⟨rfl, hs6, hk6⟩; have HE6 := Lib.hid hs6; have HK6 := Lib.hid (HK5.out.trans hk6); clear hs6 hk6))
            go_ret
            rw [HXY.out.1, HXY.out.2]
            simp only [if_true]
            exact ⟨rfl, HE6.out, HK6.out⟩
          all_goals
            go_wp2_with (first
              | (go_at_call 58; refine HW.out.mono ?_; rintro e w4 ⟨rfl, hs4, hk4⟩; have HE4 := Lib.hid hs4; have HK4 := Lib.hid ((Kp.of (K := K) HB.out).trans hk4); clear hs4 hk4)
              | (go_at_call 59; refine (HR.out _ HE4.out).mono ?_; rintro e w5 ⟨rfl, hs5, hk5⟩; have HE5 := Lib.hid hs5; have HK5 := Lib.hid (HK4.out.trans hk5); clear hs5 hk5)
              | (go_at_call 55; refine (HR2.out _ HE5.out).mono ?_; rintro e w6 ⟨rfl, hs6, hk6⟩; have HE6 := Lib.hid hs6; have HK6 := Lib.hid (HK5.out.trans hk6); clear hs6 hk6))
            go_ret
            rw [HXY.out.1, HXY.out.2, if_neg (by decide)]
            exact ⟨rfl, HE6.out, HK6.out⟩
        · have HR2 : Hid (∀ W1, Sts K L m T1 W1 → Calls Tryz.prog 55 #[.pointer (some ⟨m, 0, none⟩), .string (besN q)] W1 (StEnd K L m (removeT T1 (besN q)) W1 (.int .i64 (removeE T1 (besN q))))) :=
            fun W1 h1 => h1.rRemove hI1.out (by omega) (besN q) HbQ
          have hne : ew ≠ 0 := by omega
          rw [if_neg hne] at hX hY
          have HXY : Hid (EE = ew ∧ TT = removeT T1 (besN q)) := ⟨hX, hY⟩
          clear hX hY hI2 hne
          rcases hw with rfl | rfl | rfl | rfl
          all_goals
            go_wp2_with (first
              | (go_at_call 58; refine HW.out.mono ?_; rintro e w4 ⟨rfl, hs4, hk4⟩; have HE4 := Lib.hid hs4; have HK4 := Lib.hid ((Kp.of (K := K) HB.out).trans hk4); clear hs4 hk4)
              | (go_at_call 55; refine (HR2.out _ HE4.out).mono ?_; rintro e w6 ⟨rfl, hs6, hk6⟩; have HE6 := Lib.hid hs6; have HK6 := Lib.hid (HK4.out.trans hk6); clear hs6 hk6))
            go_ret
            rw [HXY.out.1, HXY.out.2]
            exact ⟨rfl, HE6.out, HK6.out⟩
end
end Go.Proofs.YtghbaehbgefpaaaGreatDoor.Fr
