import Derived.Test.YtgdanenhbjfhaaaGreatDoorQ35
import Derived.Maps.AppendAt
/- Several texts of this session in one: the walks of the functions that the laws reach, and what they tell. -/
/- journal's calls over the trees that a law holds: Add, Anew, Open. -/
namespace Go.Proofs.YtgdanenhbjfhaaaGreatDoor.Fr
open Go.RowKit Go.Proofs.YtgdanenhbjfhaaaGreatDoor.F Go.Proofs.YtgdanenhbjfhaaaGreatDoorW.PrintWords
open Go.Proofs.YtgdanenhbjfhaaaGreatDoor.Hand (putV takeV scanV)
open Go.Proofs.YtgdanenhbjfhaaaGreatDoor.PureL (cat cat_app cat_behind cat_size)
set_option linter.unusedVariables false
set_option linter.unusedSimpArgs false
section
variable {K : Nat → Prop} {L : List (Nat × TS)} {m p i n : Nat} {T Tm T' : TS} {W W' : World}
theorem set_same {x : Nat × TS} (hi : L[i]? = some x) : L.set i x = L := by
  obtain ⟨h1, h2⟩ := List.getElem?_eq_some_iff.1 hi
  subst h2
  exact List.set_getElem_self h1
theorem set_set' (x y : Nat × TS) : (L.set i x).set i y = L.set i y := List.set_set ..
theorem set_at (hi : L[i]? = some (p, T)) (T' : TS) : (L.set i (p, T'))[i]? = some (p, T') := List.getElem?_set_self (List.getElem?_eq_some_iff.1 hi).1
theorem StEnd.same {v : Value} (h : Sts K L m Tm W) (hi : L[i]? = some (p, T)) (hb : Below W.heap.size W W') : StEnd K (L.set i (p, T)) m Tm W v (.returned v) W' := ⟨rfl, by rw [set_same hi]; exact h.below hb, Kp.of hb⟩
/-- What the library's variables hold stays as long as K is kept. -/
def GK (K : Nat → Prop) (W : World) : Prop := ∀ W', Kp K W W' → Hand2.Glob W'
theorem GK.now (h : GK K W) : Hand2.Glob W := h _ (Kp.of (Below.refl _ _))
theorem GK.step (h : GK K W) (hk : Kp K W W') : GK K W' := fun W2 h2 => h W2 (hk.trans h2)
theorem GK.more {K' : Nat → Prop} (h : GK K W) (hK : ∀ k, K k → K' k) : GK K' W := fun W2 h2 => h W2 (h2.mono hK)
theorem Kp.glob {w : World} (hG : Hand2.Glob w) (hK : ∀ k, k < w.heap.size → K k) (hk : Kp K w W') : Hand2.Glob W' := hG.below (hk.below (Nat.le_refl _) hK)
set_option maxHeartbeats 4000000 in
set_option maxRecDepth 100000 in
theorem Sts.jAdd (h : Sts K L m Tm W) (hi : L[i]? = some (p, T)) (hG : Hand2.Glob W) (hI : Inv n T) (hn : n ≤ 1000000) (q : ByteArray) (hq : q.size ≤ 99000) (A : Option Addr) (c : Nat) (l : List ByteArray)
    (hC : Kd.C Kd.string W A l.length l) (hc : l.length ≤ c) (hx : ∀ x ∈ l, x.size ≤ 100000) :
    Calls Tryz.prog 8 #[.pointer (some ⟨p, 0, none⟩), .string q, .slice A l.length c] W (StEnd K (L.set i (p, addT T q l)) m Tm W (.int .i64 (addE T q l))) := by
  have HS := Lib.hid h
  have HC := Lib.hid hC
  have HG := Lib.hid hG
  have HX := Lib.hid hx
  have HI := Lib.hid hI
  have hbs := besN_size q
  have HBs := Lib.hid (beside_call q (by omega))
  obtain ⟨m0, hm0⟩ := hG.g.cell
  have HP := Lib.hid (path_walk (besN q) (by omega) m0 W hG.g.lt hm0)
  clear hm0
  cases hb : pathV (besN q) with
  | false =>
    have HE : Hid (addE T q l = 1 ∧ addT T q l = T) := by unfold Hid addE addT; rw [hb]; exact ⟨rfl, rfl⟩
    rw [hb] at HP
    rw [HE.out.1, HE.out.2]
    clear h hC hG hx hI hb hbs HE
    go_enter Tryz.func8, Tryz.ntmps8
    go_wp2_with (first
      | (go_at_call 25; refine (HBs.out _).mono ?_; rintro e w1 ⟨rfl, rfl⟩)
      | (go_at_call 29; refine HP.out.mono ?_; rintro e w2 ⟨rfl, hb⟩; have HB := Lib.hid hb; clear hb))
    go_ret
    exact StEnd.same HS.out hi HB.out
  | true =>
    rw [hb] at HP
    have HQ : Hid (∀ W1, Below W.heap.size W W1 → Calls Tryz.prog 30 #[.slice A l.length c] W1 fun e w' => e = .returned (.tuple #[.string (putV l).1, .int .i64 (putV l).2]) ∧ Below W1.heap.size W1 w') :=
      fun W1 hb => Hand.put_walk A c l W1 (hG.below hb) (Kd.C_below hC hb) hc hx
    have hcode := put_code l
    have hln := lineL_le (l := l)
    obtain ⟨s, er, hp⟩ : ∃ s er, putV l = (s, er) := ⟨_, _, rfl⟩
    have HA : Hid (addE T q l = if er = 0 then writeE T true q s else er) := by unfold Hid addE; rw [hb, if_neg (by decide), hp]
    have HT : Hid (addT T q l = if er = 0 then writeT T true q s else T) := by unfold Hid addT; rw [hb, if_neg (by decide), hp]
    rw [hp] at HQ hcode hln
    simp only at HQ hcode hln
    rw [HA.out, HT.out]
    clear h hC hG hx hI hb hbs hp HA HT
    rcases hcode with rfl | rfl | rfl
    · have hs : s.size ≤ 13000 := hln rfl
      rw [if_pos rfl, if_pos rfl]
      clear hln
      go_enter Tryz.func8, Tryz.ntmps8
      go_wp2_with (first
        | (go_at_call 25; refine (HBs.out _).mono ?_; rintro e w1 ⟨rfl, rfl⟩)
        | (go_at_call 29; refine HP.out.mono ?_; rintro e w2 ⟨rfl, hb⟩; have HB := Lib.hid hb; clear hb)
        | (go_at_call 30; refine (HQ.out _ HB.out).mono ?_; rintro e w3 ⟨rfl, hb⟩; have HB3 := Lib.hid (HB.out.trans (hb.mono HB.out.size)); clear hb)
        | (go_at_call 20; refine ((HS.out.below HB3.out).Append hi (HG.out.below HB3.out).g HI.out hn q s (by omega) (by omega)).mono ?_; rintro e w4 ⟨rfl, hs4, hk4⟩; have HE := Lib.hid hs4; have HK := Lib.hid ((Kp.of (K := K) HB3.out).trans hk4); clear hs4 hk4))
      go_ret
      exact ⟨rfl, HE.out, HK.out⟩
    all_goals
      rw [if_neg (by decide), if_neg (by decide)]
      clear hln
      go_enter Tryz.func8, Tryz.ntmps8
      go_wp2_with (first
        | (go_at_call 25; refine (HBs.out _).mono ?_; rintro e w1 ⟨rfl, rfl⟩)
        | (go_at_call 29; refine HP.out.mono ?_; rintro e w2 ⟨rfl, hb⟩; have HB := Lib.hid hb; clear hb)
        | (go_at_call 30; refine (HQ.out _ HB.out).mono ?_; rintro e w3 ⟨rfl, hb⟩; have HB3 := Lib.hid (HB.out.trans (hb.mono HB.out.size)); clear hb))
      go_ret
      exact StEnd.same HS.out hi HB3.out
theorem write_code (T : TS) (st : Bool) (q s : ByteArray) : writeE T st q s = 0 ∨ writeE T st q s = 1 ∨ writeE T st q s = 3 ∨ writeE T st q s = 5 ∨ writeE T st q s = 6 := by
  unfold writeE
  split
  · simp
  · split
    · simp
    · split
      · simp
      · split <;> simp
theorem rename_code (T : TS) (a b : ByteArray) : renameE T a b = 0 ∨ renameE T a b = 1 ∨ renameE T a b = 4 ∨ renameE T a b = 5 := by
  unfold renameE
  split
  · simp
  · split
    · simp
    · split
      · simp
      · split <;> simp
theorem anew1_code (T : TS) (q s : ByteArray) : anew1E T q s = 0 ∨ anew1E T q s = 1 ∨ anew1E T q s = 3 ∨ anew1E T q s = 4 ∨ anew1E T q s = 5 ∨ anew1E T q s = 6 := by
  have h1 := write_code T false (besN q) s
  have h2 := rename_code (writeT T false (besN q) s) (besN q) q
  unfold anew1E
  split <;> omega
theorem anew_code (T : TS) (q : ByteArray) (l : List (List ByteArray)) : anewE T q l = 0 ∨ anewE T q l = 1 ∨ anewE T q l = 3 ∨ anewE T q l = 4 ∨ anewE T q l = 5 ∨ anewE T q l = 6 := by
  have h1 := anew1_code T q (putAll l).1
  have h2 : (putAll l).2 = 0 ∨ (putAll l).2 = 1 ∨ (putAll l).2 = 3 := putAllA_code l _
  unfold anewE
  split
  · omega
  · split <;> omega
theorem flat_ge : ∀ l : List UInt8, l.length ≤ (l.flatMap Hand.quoteB).length := by
  intro l
  induction l with
  | nil => exact Nat.le_refl _
  | cons c r ih =>
    rw [List.flatMap_cons, List.length_append, List.length_cons]
    have := PureR.quoteB_pos c
    omega
theorem quote_ge (s : ByteArray) : s.size ≤ (Hand.quoteV s).size := by
  unfold Hand.quoteV
  split
  next h => rw [h]; exact Nat.zero_le _
  next h =>
    have := flat_ge s.data.toList
    rw [Array.length_toList] at this
    show s.size ≤ (s.data.toList.flatMap Hand.quoteB).toArray.size
    rw [List.size_toArray]
    exact this
theorem body_mem {x : ByteArray} : ∀ l : List ByteArray, x ∈ l → (Hand.quoteV x).size ≤ (Hand.bodyL l).length := by
  intro l
  induction l with
  | nil => intro h; cases h
  | cons y r ih =>
    intro h
    have e : Hand.bodyL (y :: r) = ((Hand.quoteV y).data.toList ++ [32]) ++ Hand.bodyL r := by simp [Hand.bodyL]
    have e2 : (Hand.quoteV y).data.size = (Hand.quoteV y).size := rfl
    rw [e, List.length_append, List.length_append, Array.length_toList]
    rcases List.mem_cons.1 h with rfl | h
    · omega
    · have := ih h
      omega
theorem word_le {l : List ByteArray} (h : (putV l).2 = 0) : ∀ x ∈ l, x.size ≤ 13000 := fun x hx => by
  have h1 := lineL_le h
  rw [PureL.putV_size h] at h1
  have h2 := body_mem l hx
  have h3 : (Hand.bodyL l).length ≤ (Hand.lineL l).length := by
    unfold Hand.lineL
    rw [List.length_append, List.length_append]
    omega
  have h4 := quote_ge x
  omega
/-- What a journal's text may be that is written anew. -/
structure AllOK (all : List (List ByteArray)) : Prop where
  small : ∀ l ∈ all, ∀ x ∈ l, x.size ≤ 100000
  size : ∀ k, k ≤ all.length → (putAll (all.take k)).1.size ≤ 90000000
  many : all.length ≤ 10000000
theorem AllOK.all {all : List (List ByteArray)} (h : AllOK all) : (putAll all).1.size ≤ 90000000 := by
  have := h.size all.length (Nat.le_refl _)
  rwa [List.take_length] at this
theorem pathV_size {q : ByteArray} (h : pathV (besN q) = true) : q.size ≤ 96 := by
  have h1 := path_size h
  have h2 := besN_size q
  omega
set_option maxHeartbeats 16000000 in
set_option maxRecDepth 100000 in
theorem Sts.jAnew (h : Sts K L m Tm W) (hi : L[i]? = some (p, T)) (hGK : GK K W) (hI : Inv n T) (hn : n + 3 ≤ 1000000) (q : ByteArray) (hq : q.size ≤ 99000) (A : Option Addr) (c : Nat) (all : List (List ByteArray))
    (hC : Kd.C kLL W A all.length all) (hA : AllOK all) :
    Calls Tryz.prog 14 #[.pointer (some ⟨p, 0, none⟩), .string q, .slice A all.length c] W (StEnd K (L.set i (p, anewT T q all)) m Tm W (.int .i64 (anewE T q all))) := by
  have hG : Hand2.Glob W := hGK _ (Kp.of (Below.refl _ _))
  have hGl : ∀ W', Kp K W W' → Fr.Glob W' := fun W' h => (hGK W' h).g
  clear hGK
  have HS := Lib.hid h
  have HGl := Lib.hid hGl
  have hbs := besN_size q
  have HBs := Lib.hid (beside_call q (by omega))
  obtain ⟨m0, hm0⟩ := hG.g.cell
  have HP := Lib.hid (path_walk (besN q) (by omega) m0 W hG.g.lt hm0)
  clear hm0
  cases hb : pathV (besN q) with
  | false =>
    have HE : Hid (anewE T q all = 1 ∧ anewT T q all = T) := by unfold Hid anewE anewT; rw [hb]; exact ⟨rfl, rfl⟩
    rw [hb] at HP
    rw [HE.out.1, HE.out.2]
    clear h hC hG hGl hI hb hbs HE hA
    go_enter Tryz.func14, Tryz.ntmps14
    go_wp2_with (first
      | (go_at_call 25; refine (HBs.out _).mono ?_; rintro e w1 ⟨rfl, rfl⟩)
      | (go_at_call 29; refine HP.out.mono ?_; rintro e w2 ⟨rfl, hb⟩; have HB := Lib.hid hb; clear hb))
    go_ret
    exact StEnd.same HS.out hi HB.out
  | true =>
    rw [hb] at HP
    have HQ : Hid (∀ W1, Below W.heap.size W W1 → Calls Tryz.prog 35 #[.slice A all.length c, .func (.func 30) #[] #[]] W1 fun e w' => e = .returned (.tuple #[.string (putAll all).1, .int .i64 (putAll all).2]) ∧ Below W1.heap.size W1 w') :=
      fun W1 hb => putAll_walk A c all W1 (hG.below hb) (Kd.C_below hC hb) hA.small hA.size hA.many
    have hqs := pathV_size hb
    have hcode : (putAll all).2 = 0 ∨ (putAll all).2 = 1 ∨ (putAll all).2 = 3 := by
      by_cases hL : Lines all
      · rw [putAll_ok hL]; exact .inl rfl
      · exact putAllA_code all _
    have hln := hA.all
    obtain ⟨s, er, hp⟩ : ∃ s er, putAll all = (s, er) := ⟨_, _, rfl⟩
    have HA1 : Hid (anewE T q all = if er = 0 then anew1E T q s else er) := by unfold Hid anewE; rw [hb, if_neg (by decide), hp]
    have HT1 : Hid (anewT T q all = if er = 0 then anew1T T q s else T) := by unfold Hid anewT; rw [hb, if_neg (by decide), hp]
    rw [hp] at HQ hcode hln
    simp only at HQ hcode hln
    rw [HA1.out, HT1.out]
    have HbQ : (besN q).size ≤ 100 := by omega
    have hI1 := Lib.hid (inv_write hI false (q := besN q) (s := s) (by omega))
    have hI2 := Lib.hid (inv_rename hI1.out (besN q) q)
    have HI := Lib.hid hI
    clear h hC hG hGl hI hb hbs hp HA1 HT1 hA
    have hE : anew1E T q s = if writeE T false (besN q) s = 0 then renameE (writeT T false (besN q) s) (besN q) q else writeE T false (besN q) s := rfl
    have hT : anew1T T q s = if writeE T false (besN q) s = 0 then
    if renameE (writeT T false (besN q) s) (besN q) q = 0 then syncT (renameT (writeT T false (besN q) s) (besN q) q) else removeT (renameT (writeT T false (besN q) s) (besN q) q) (besN q)
  else removeT (writeT T false (besN q) s) (besN q) := rfl
    rw [hE, hT]
    clear hE hT
    obtain ⟨B, hB⟩ : ∃ B, besN q = B := ⟨_, rfl⟩
    rw [hB] at HBs HP hI1 hI2 HbQ ⊢
    clear hB
    rcases hcode with rfl | rfl | rfl
    · rw [if_pos rfl, if_pos rfl]
      have HW : Hid (∀ W1, Below W.heap.size W W1 → Calls Tryz.prog 36 #[.pointer (some ⟨p, 0, none⟩), .string B, .string s] W1 (StEnd K (L.set i (p, writeT T false B s)) m Tm W1 (.int .i64 (writeE T false B s)))) :=
        fun W1 hb => (HS.out.below hb).Write hi (HGl.out _ (Kp.of hb)) HI.out (by omega) B s (by omega) (by omega)
      have hw := write_code T false B s
      generalize writeE T false B s = ew at HW hw ⊢
      generalize writeT T false B s = T1 at HW hI1 hI2 ⊢
      rcases hw with rfl | hw
      · rw [if_pos rfl, if_pos rfl]
        have hr := rename_code T1 B q
        have HR : Hid (∀ W1, Sts K (L.set i (p, T1)) m Tm W1 → Kp K W W1 → Calls Tryz.prog 37 #[.pointer (some ⟨p, 0, none⟩), .string B, .string q] W1 (StEnd K (L.set i (p, renameT T1 B q)) m Tm W1 (.int .i64 (renameE T1 B q)))) := fun W1 h1 h2 => by
          have := h1.Rename (set_at hi T1) (HGl.out _ h2) hI1.out (by omega) B q (by omega) (by omega)
          rwa [set_set'] at this
        generalize renameE T1 B q = er at HR hr ⊢
        generalize renameT T1 B q = T2 at HR hI2 ⊢
        have HR2 : Hid (∀ W1, Sts K (L.set i (p, T2)) m Tm W1 → Kp K W W1 → Calls Tryz.prog 33 #[.pointer (some ⟨p, 0, none⟩), .string B] W1 (StEnd K (L.set i (p, removeT T2 B)) m Tm W1 (.int .i64 (removeE T2 B)))) := fun W1 h1 h2 => by
          have := h1.Remove (set_at hi T2) (HGl.out _ h2) hI2.out (by omega) B (by omega)
          rwa [set_set'] at this
        have HR3 : Hid (∀ W1, Sts K (L.set i (p, T2)) m Tm W1 → Kp K W W1 → Calls Tryz.prog 16 #[.pointer (some ⟨p, 0, none⟩)] W1 (StEnd K (L.set i (p, syncT T2)) m Tm W1 (.tuple #[]))) := fun W1 h1 h2 => by
          have := h1.Sync (set_at hi T2) (HGl.out _ h2) hI2.out (by omega)
          rwa [set_set'] at this
        rcases hr with rfl | rfl | rfl | rfl
        · rw [if_pos rfl]
          go_enter Tryz.func14, Tryz.ntmps14
          go_wp2_with (first
            | (go_at_call 25; refine (HBs.out _).mono ?_; rintro e w1 ⟨rfl, rfl⟩)
            | (go_at_call 29; refine HP.out.mono ?_; rintro e w2 ⟨rfl, hb⟩; have HB := Lib.hid hb; clear hb)
            | (go_at_call 35; refine (HQ.out _ HB.out).mono ?_; rintro e w3 ⟨rfl, hb⟩; have HB3 := Lib.hid (HB.out.trans (hb.mono HB.out.size)); clear hb)
            | (go_at_call 36; refine (HW.out _ HB3.out).mono ?_; rintro e w4 ⟨rfl, hs4, hk4⟩; have HE4 := Lib.hid hs4; have HK4 := Lib.hid ((Kp.of (K := K) HB3.out).trans hk4); clear hs4 hk4)
            | (go_at_call 37; refine (HR.out _ HE4.out HK4.out).mono ?_; rintro e w5 ⟨rfl, hs5, hk5⟩; have HE5 := Lib.hid hs5; have HK5 := Lib.hid (HK4.out.trans hk5); clear hs5 hk5)
            | (go_at_call 16; refine (HR3.out _ HE5.out HK5.out).mono ?_; rintro e w6 ⟨rfl, hs6, hk6⟩; have HE6 := Lib.hid hs6; have HK6 := Lib.hid (HK5.out.trans hk6); clear hs6 hk6))
          go_ret
          exact ⟨rfl, HE6.out, HK6.out⟩
        all_goals
          rw [if_neg (by decide)]
          go_enter Tryz.func14, Tryz.ntmps14
          go_wp2_with (first
            | (go_at_call 25; refine (HBs.out _).mono ?_; rintro e w1 ⟨rfl, rfl⟩)
            | (go_at_call 29; refine HP.out.mono ?_; rintro e w2 ⟨rfl, hb⟩; have HB := Lib.hid hb; clear hb)
            | (go_at_call 35; refine (HQ.out _ HB.out).mono ?_; rintro e w3 ⟨rfl, hb⟩; have HB3 := Lib.hid (HB.out.trans (hb.mono HB.out.size)); clear hb)
            | (go_at_call 36; refine (HW.out _ HB3.out).mono ?_; rintro e w4 ⟨rfl, hs4, hk4⟩; have HE4 := Lib.hid hs4; have HK4 := Lib.hid ((Kp.of (K := K) HB3.out).trans hk4); clear hs4 hk4)
            | (go_at_call 37; refine (HR.out _ HE4.out HK4.out).mono ?_; rintro e w5 ⟨rfl, hs5, hk5⟩; have HE5 := Lib.hid hs5; have HK5 := Lib.hid (HK4.out.trans hk5); clear hs5 hk5)
            | (go_at_call 33; refine (HR2.out _ HE5.out HK5.out).mono ?_; rintro e w6 ⟨rfl, hs6, hk6⟩; have HE6 := Lib.hid hs6; have HK6 := Lib.hid (HK5.out.trans hk6); clear hs6 hk6))
          go_ret
          exact ⟨rfl, HE6.out, HK6.out⟩
      · have HR2 : Hid (∀ W1, Sts K (L.set i (p, T1)) m Tm W1 → Kp K W W1 → Calls Tryz.prog 33 #[.pointer (some ⟨p, 0, none⟩), .string B] W1 (StEnd K (L.set i (p, removeT T1 B)) m Tm W1 (.int .i64 (removeE T1 B)))) := fun W1 h1 h2 => by
          have := h1.Remove (set_at hi T1) (HGl.out _ h2) hI1.out (by omega) B (by omega)
          rwa [set_set'] at this
        clear hI2
        rcases hw with rfl | rfl | rfl | rfl
        all_goals
          rw [if_neg (by decide), if_neg (by decide)]
          go_enter Tryz.func14, Tryz.ntmps14
          go_wp2_with (first
            | (go_at_call 25; refine (HBs.out _).mono ?_; rintro e w1 ⟨rfl, rfl⟩)
            | (go_at_call 29; refine HP.out.mono ?_; rintro e w2 ⟨rfl, hb⟩; have HB := Lib.hid hb; clear hb)
            | (go_at_call 35; refine (HQ.out _ HB.out).mono ?_; rintro e w3 ⟨rfl, hb⟩; have HB3 := Lib.hid (HB.out.trans (hb.mono HB.out.size)); clear hb)
            | (go_at_call 36; refine (HW.out _ HB3.out).mono ?_; rintro e w4 ⟨rfl, hs4, hk4⟩; have HE4 := Lib.hid hs4; have HK4 := Lib.hid ((Kp.of (K := K) HB3.out).trans hk4); clear hs4 hk4)
            | (go_at_call 33; refine (HR2.out _ HE4.out HK4.out).mono ?_; rintro e w6 ⟨rfl, hs6, hk6⟩; have HE6 := Lib.hid hs6; have HK6 := Lib.hid (HK4.out.trans hk6); clear hs6 hk6))
          go_ret
          exact ⟨rfl, HE6.out, HK6.out⟩
    all_goals
      rw [if_neg (by decide), if_neg (by decide)]
      clear hI1 hI2
      go_enter Tryz.func14, Tryz.ntmps14
      go_wp2_with (first
        | (go_at_call 25; refine (HBs.out _).mono ?_; rintro e w1 ⟨rfl, rfl⟩)
        | (go_at_call 29; refine HP.out.mono ?_; rintro e w2 ⟨rfl, hb⟩; have HB := Lib.hid hb; clear hb)
        | (go_at_call 35; refine (HQ.out _ HB.out).mono ?_; rintro e w3 ⟨rfl, hb⟩; have HB3 := Lib.hid (HB.out.trans (hb.mono HB.out.size)); clear hb))
      go_ret
      exact StEnd.same HS.out hi HB3.out
/-- Open. -/
def JOEnd (K : Nat → Prop) (L : List (Nat × TS)) (m : Nat) (Tm : TS) (W : World) (l : List (List ByteArray)) (er : Int) (e : Ending) (w' : World) : Prop :=
  ∃ v K', e = .returned (.tuple #[v, .int .i64 er]) ∧ (∀ k, K k → K' k) ∧ Sts K' L m Tm w' ∧ Kp K W w' ∧ Kd.S kLL 37 w' W.heap.size (fun k => K' k ∧ W.heap.size ≤ k) v l
theorem JOEnd.none {e : Int} (h : Sts K L m Tm W') (hk : Kp K W W') : JOEnd K L m Tm W [] e (.returned (.tuple #[.slice none 0 0, .int .i64 e])) W' :=
  ⟨_, K, rfl, fun k h => h, h, hk, Kd.S_nil _ _ _ _ _⟩
theorem readAll_ok {n : Nat} {T : TS} (hI : Inv n T) (hr : T.room ≤ 2000000) (q : ByteArray) : AllOK (readL T q) where
  small := fun l hl x hx => by
    have h1 := scan_lines (readT T q).1 l hl
    have h2 := lineL_le h1
    have h3 := word_le h1 x hx
    omega
  size := fun k hk => by
    have h1 := scan_lines (readT T q).1
    have h2 : Lines ((readL T q).take k) := fun l hl => h1 l (List.mem_of_mem_take hl)
    rw [putAll_ok h2]
    obtain ⟨r, hd⟩ := scan_dec (readT T q).1
    have h3 := hd.size
    have h4 := read_used T q
    have h5 := hI.good.used
    have e : readL T q = (readL T q).take k ++ (readL T q).drop k := (List.take_append_drop k _).symm
    have h6 : (cat (readL T q) e0).size = (cat ((readL T q).take k) e0).size + (cat ((readL T q).drop k) e0).size := by
      conv => lhs; rw [e, cat_app]
      exact cat_size _ _
    have h7 : (scanV (readT T q).1).1 = readL T q := rfl
    rw [h7] at h3
    show (cat _ e0).size ≤ _
    omega
  many := by
    have := readL_many hI q
    omega
set_option maxHeartbeats 8000000 in
set_option maxRecDepth 100000 in
theorem Sts.jOpen (h : Sts K L m Tm W) (hi : L[i]? = some (p, T)) (hGK : GK K W) (hI : Inv n T) (hn : n + 4 ≤ 1000000) (hr : T.room ≤ 2000000) (q : ByteArray) (hq : q.size ≤ 99000) :
    Calls Tryz.prog 11 #[.pointer (some ⟨p, 0, none⟩), .string q] W (JOEnd K (L.set i (p, openT T q)) m Tm W (openL T q) (openE T q)) := by
  have hG : Hand2.Glob W := hGK.now
  have HS := Lib.hid h
  have HGK := Lib.hid hGK
  have hbs := besN_size q
  have HBs := Lib.hid (beside_call q (by omega))
  obtain ⟨m0, hm0⟩ := hG.g.cell
  have HP := Lib.hid (path_walk (besN q) (by omega) m0 W hG.g.lt hm0)
  clear hm0
  cases hb : pathV (besN q) with
  | false =>
    have HE : Hid (openE T q = 1 ∧ openT T q = T ∧ openL T q = []) := by
      have h1 : openE T q = 1 := by unfold openE; rw [hb]; rfl
      exact ⟨h1, by unfold openT; rw [hb]; rfl, by unfold openL; rw [h1]; rfl⟩
    rw [hb] at HP
    rw [HE.out.1, HE.out.2.1, HE.out.2.2, set_same hi]
    clear h hG hGK hI hb hbs HE
    go_enter Tryz.func11, Tryz.ntmps11
    go_wp2_with (first
      | (go_at_call 25; refine (HBs.out _).mono ?_; rintro e w1 ⟨rfl, rfl⟩)
      | (go_at_call 29; refine HP.out.mono ?_; rintro e w2 ⟨rfl, hb⟩; have HB := Lib.hid hb; clear hb))
    go_ret2
    exact JOEnd.none (HS.out.below HB.out) (Kp.of HB.out)
  | true =>
    rw [hb] at HP
    have hqs := pathV_size hb
    have HbQ : (besN q).size ≤ 100 := by omega
    have hI1 := inv_remove hI (besN q)
    have hr1 : (removeT T (besN q)).room ≤ 2000000 := by rw [remove_room]; exact hr
    have HI := Lib.hid hI
    have HR : Hid (∀ W1, Below W.heap.size W W1 → Calls Tryz.prog 33 #[.pointer (some ⟨p, 0, none⟩), .string (besN q)] W1 (StEnd K (L.set i (p, removeT T (besN q))) m Tm W1 (.int .i64 (removeE T (besN q))))) :=
      fun W1 hb => (HS.out.below hb).Remove hi (HGK.out _ (Kp.of hb)).g hI (by omega) (besN q) (by omega)
    have hall := readAll_ok hI1 hr1 q
    have hoE : openE T q = if readW (removeT T (besN q)) q = true then 0 else anewE (removeT T (besN q)) q (readL (removeT T (besN q)) q) := by unfold openE; rw [hb, if_neg (by decide)]
    have hoT : openT T q = if readW (removeT T (besN q)) q = true then syncT (removeT T (besN q)) else anewT (removeT T (besN q)) q (readL (removeT T (besN q)) q) := by unfold openT; rw [hb, if_neg (by decide)]
    have hoL : openL T q = if openE T q = 0 then readL (removeT T (besN q)) q else [] := rfl
    rw [hoL, hoT, hoE]
    clear hoL hoT hoE h hG hGK hI hb
    obtain ⟨B, hB⟩ : ∃ B, besN q = B := ⟨_, rfl⟩
    rw [hB] at HBs HP HR HbQ hI1 hr1 hall hbs ⊢
    clear hB
    have HRD : Hid (∀ W1, Sts K (L.set i (p, removeT T B)) m Tm W1 → Kp K W W1 → Calls Tryz.prog 22 #[.pointer (some ⟨p, 0, none⟩), .string q] W1 (RdEnd W1 (readL (removeT T B) q) (readW (removeT T B) q))) :=
      fun W1 h1 h2 => h1.jRead (set_at hi _) (HGK.out _ h2) hI1 hr1 q (by omega)
    generalize removeE T B = re at HR
    generalize removeT T B = T1 at HR HRD hI1 hr1 hall ⊢
    generalize readL T1 q = ls at HRD hall ⊢
    have HI1 := Lib.hid hI1
    have HALL := Lib.hid hall
    clear hI1 hr1 hall
    have HSY : Hid (∀ W1, Sts K (L.set i (p, T1)) m Tm W1 → Kp K W W1 → ∀ W2, Below W1.heap.size W1 W2 → ∀ K2 : Nat → Prop, (∀ k, K2 k → K k ∨ (W1.heap.size ≤ k ∧ k < W2.heap.size)) → (∀ k, K k → K2 k) → Calls Tryz.prog 16 #[.pointer (some ⟨p, 0, none⟩)] W2 (StEnd K2 (L.set i (p, syncT T1)) m Tm W2 (.tuple #[]))) := fun W1 h1 h2 W2 hb K2 hk hk' => by
      have := (h1.kept hb hk).Sync (set_at hi T1) (HGK.out _ (h2.trans (Kp.of hb))).g HI1.out (by omega)
      rwa [set_set'] at this
    have HAN : Hid (∀ W1, Sts K (L.set i (p, T1)) m Tm W1 → Kp K W W1 → ∀ W2, Below W1.heap.size W1 W2 → ∀ K2 : Nat → Prop, (∀ k, K2 k → K k ∨ (W1.heap.size ≤ k ∧ k < W2.heap.size)) → (∀ k, K k → K2 k) → ∀ A c, Kd.C kLL W2 A ls.length ls → Calls Tryz.prog 14 #[.pointer (some ⟨p, 0, none⟩), .string q, .slice A ls.length c] W2 (StEnd K2 (L.set i (p, anewT T1 q ls)) m Tm W2 (.int .i64 (anewE T1 q ls)))) := fun W1 h1 h2 W2 hb K2 hk hk' A c hC => by
      have := (h1.kept hb hk).jAnew (set_at hi T1) (((HGK.out.step h2).step (Kp.of hb)).more hk') HI1.out (by omega) q hq A c ls hC HALL.out
      rwa [set_set'] at this
    have hcode := anew_code T1 q ls
    obtain ⟨bw, hbw⟩ : ∃ bw, readW T1 q = bw := ⟨_, rfl⟩
    rw [hbw] at HRD ⊢
    clear hbw
    have HVK : Hid (∀ (w1 w2 w3 : World) (v : Value), Kp K W w1 → Below w1.heap.size w1 w2 → Kd.S kLL 37 w2 w1.heap.size (fun _ => True) v ls → Kp (fun k => K k ∨ (w1.heap.size ≤ k ∧ k < w2.heap.size)) w2 w3 →
        Kd.S kLL 37 w3 W.heap.size (fun k => (K k ∨ (w1.heap.size ≤ k ∧ k < w2.heap.size)) ∧ W.heap.size ≤ k) v ls) := fun w1 w2 w3 v h1 h2 h3 h4 => by
      have hle : W.heap.size ≤ w1.heap.size := h1.size
      refine Kd.S_lower (Kd.S_mono (Kd.S_step (Kd.S_bound h3) (w1 := w3) fun k hk hlt => h4.block (.inr ⟨hk.2.1, hk.2.2.1⟩) hlt) fun k hk => ?_) hle
      exact ⟨.inr ⟨hk.2.1, hk.2.2.1⟩, Nat.le_trans hle hk.2.1⟩
    cases bw with
    | true =>
      rw [if_pos rfl, if_pos rfl, if_pos rfl]
      go_enter Tryz.func11, Tryz.ntmps11
      go_wp2_with (first
        | (go_at_call 25; refine (HBs.out _).mono ?_; rintro e w1 ⟨rfl, rfl⟩)
        | (go_at_call 29; refine HP.out.mono ?_; rintro e w2 ⟨rfl, hb⟩; have HB := Lib.hid hb; clear hb)
        | (go_at_call 33; refine (HR.out _ HB.out).mono ?_; rintro e w3 ⟨rfl, hs3, hk3⟩; have HE3 := Lib.hid hs3; have HK3 := Lib.hid ((Kp.of (K := K) HB.out).trans hk3); clear hs3 hk3)
        | (go_at_call 22; refine (HRD.out _ HE3.out HK3.out).mono ?_; rintro e w4 ⟨v, rfl, hv, hb⟩; obtain ⟨Av, cv, rfl⟩ := Kd.S_slice hv; have HV := Lib.hid hv; have HB4 := Lib.hid hb; clear hv hb)
        | (go_at_call 16; refine (HSY.out _ HE3.out HK3.out _ HB4.out _ (fun k hk => hk) (fun k hk => .inl hk)).mono ?_; rintro e w5 ⟨rfl, hs5, hk5⟩; have HE5 := Lib.hid hs5; have HK5 := Lib.hid hk5; clear hs5 hk5))
      go_ret2
      exact ⟨_, _, rfl, fun k hk => .inl hk, HE5.out, (HK3.out.trans (Kp.of HB4.out)).trans (HK5.out.mono fun k hk => .inl hk), HVK.out _ _ _ _ HK3.out HB4.out HV.out HK5.out⟩
    | false =>
      have hff : ¬ (false = true) := by decide
      simp only [if_neg hff]
      clear hff
      generalize anewE T1 q ls = er at hcode HAN ⊢
      generalize anewT T1 q ls = T2 at HAN ⊢
      clear HSY
      rcases hcode with rfl | hcode
      · rw [if_pos rfl]
        go_enter Tryz.func11, Tryz.ntmps11
        go_wp2_with (first
          | (go_at_call 25; refine (HBs.out _).mono ?_; rintro e w1 ⟨rfl, rfl⟩)
          | (go_at_call 29; refine HP.out.mono ?_; rintro e w2 ⟨rfl, hb⟩; have HB := Lib.hid hb; clear hb)
          | (go_at_call 33; refine (HR.out _ HB.out).mono ?_; rintro e w3 ⟨rfl, hs3, hk3⟩; have HE3 := Lib.hid hs3; have HK3 := Lib.hid ((Kp.of (K := K) HB.out).trans hk3); clear hs3 hk3)
          | (go_at_call 22; refine (HRD.out _ HE3.out HK3.out).mono ?_; rintro e w4 ⟨v, rfl, hv, hb⟩; obtain ⟨Av, cv, rfl⟩ := Kd.S_slice hv; have HC4 := Lib.hid (Kd.S_reads' hv).2.2; have HV := Lib.hid hv; have HB4 := Lib.hid hb; clear hv hb)
          | (go_at_call 14; refine (HAN.out _ HE3.out HK3.out _ HB4.out _ (fun k hk => hk) (fun k hk => .inl hk) _ _ HC4.out).mono ?_; rintro e w5 ⟨rfl, hs5, hk5⟩; have HE5 := Lib.hid hs5; have HK5 := Lib.hid hk5; clear hs5 hk5))
        go_ret2
        exact ⟨_, _, rfl, fun k hk => .inl hk, HE5.out, (HK3.out.trans (Kp.of HB4.out)).trans (HK5.out.mono fun k hk => .inl hk), HVK.out _ _ _ _ HK3.out HB4.out HV.out HK5.out⟩
      · rcases hcode with rfl | rfl | rfl | rfl | rfl
        all_goals
          rw [if_neg (by decide)]
          go_enter Tryz.func11, Tryz.ntmps11
          go_wp2_with (first
            | (go_at_call 25; refine (HBs.out _).mono ?_; rintro e w1 ⟨rfl, rfl⟩)
            | (go_at_call 29; refine HP.out.mono ?_; rintro e w2 ⟨rfl, hb⟩; have HB := Lib.hid hb; clear hb)
            | (go_at_call 33; refine (HR.out _ HB.out).mono ?_; rintro e w3 ⟨rfl, hs3, hk3⟩; have HE3 := Lib.hid hs3; have HK3 := Lib.hid ((Kp.of (K := K) HB.out).trans hk3); clear hs3 hk3)
            | (go_at_call 22; refine (HRD.out _ HE3.out HK3.out).mono ?_; rintro e w4 ⟨v, rfl, hv, hb⟩; obtain ⟨Av, cv, rfl⟩ := Kd.S_slice hv; have HC4 := Lib.hid (Kd.S_reads' hv).2.2; have HV := Lib.hid hv; have HB4 := Lib.hid hb; clear hv hb)
            | (go_at_call 14; refine (HAN.out _ HE3.out HK3.out _ HB4.out _ (fun k hk => hk) (fun k hk => .inl hk) _ _ HC4.out).mono ?_; rintro e w5 ⟨rfl, hs5, hk5⟩; have HE5 := Lib.hid hs5; have HK5 := Lib.hid hk5; clear hs5 hk5))
          go_ret2
          exact JOEnd.none (HE5.out.drop fun k hk => .inl hk) ((HK3.out.trans (Kp.of HB4.out)).trans (HK5.out.mono fun k hk => .inl hk))
end
end Go.Proofs.YtgdanenhbjfhaaaGreatDoor.Fr
/- Rows of lists that a law gathers; what Open told is kept. -/
namespace Go.Proofs.YtgdanenhbjfhaaaGreatDoor.Fr
open Go.RowKit Go.Proofs.YtgdanenhbjfhaaaGreatDoor.F Go.Proofs.YtgdanenhbjfhaaaGreatDoorW.PrintWords
set_option linter.unusedVariables false
set_option linter.unusedSimpArgs false
section
variable {w W W' W1 : World} {K K' : Nat → Prop} {m n p : Nat} {L L' : List (Nat × TS)} {T T' Tm Tm' : TS} {V V' : List Vw}
theorem Law.gk (h : Law w K m L Tm V W) : GK K W := fun W' hk => h.g0.below (h.bel.trans (hk.below h.bel.size h.kw))
/-- What is new and was told is kept. -/
theorem Law.told (h : Law w K m L Tm V W) {P : Vw} (hK : ∀ k, K k → K' k) (hs : Sts K' L' m Tm' W') (hk : Kp K W W') (hP : P W') (hst : ∀ W1 W2, Kp K' W1 W2 → P W1 → P W2) : Law w K' m L' Tm' (P :: V) W' :=
  { h.step (hs.drop hK) hk with
    sts := hs
    kw := fun k hk => hK k (h.kw k hk)
    vs := fun x hx => by
      rcases List.mem_cons.1 hx with rfl | hx
      · exact ⟨hP, hst⟩
      · exact ⟨((h.step (hs.drop hK) hk).vs x hx).1, fun W1 W2 hk => (h.vs x hx).2 W1 W2 (hk.mono hK)⟩ }
/-- Open's list: kept. -/
theorem Law.opened (h : Law w K m L Tm V W) {l : List (List ByteArray)} {v : Value} (hK : ∀ k, K k → K' k) (hs : Sts K' L' m Tm W') (hk : Kp K W W') (hv : Kd.S kLL 37 W' W.heap.size (fun k => K' k ∧ W.heap.size ≤ k) v l) :
    Law w K' m L' Tm ((fun W2 => Kd.S kLL 37 W2 W.heap.size (fun k => K' k ∧ W.heap.size ≤ k) v l) :: V) W' :=
  h.told hK hs hk hv fun W1 W2 hk h1 => Kd.S_step h1 fun k hk1 hlt => hk.block hk1.1 hlt
/-- Read's list: kept. -/
theorem Law.reads (h : Law w K m L Tm V W) {l : List (List ByteArray)} {v : Value} (hb : Below W.heap.size W W') (hv : Kd.S kLL 37 W' W.heap.size (fun _ => True) v l) :
    ∃ (K' O : Nat → Prop), Law w K' m L Tm ((fun W2 => Kd.S kLL 37 W2 W.heap.size O v l) :: V) W' ∧ ∀ k, K k → K' k := by
  refine ⟨fun k => K k ∨ (W.heap.size ≤ k ∧ k < W'.heap.size), fun k => W.heap.size ≤ k ∧ k < W'.heap.size, ?_, fun k hk => .inl hk⟩
  refine h.told (fun k hk => .inl hk) (h.sts.kept hb fun k hk => hk) (Kp.of hb) ?_ ?_
  · exact Kd.S_mono (Kd.S_bound hv) fun k hk => ⟨hk.2.1, hk.2.2.1⟩
  · intro W1 W2 hk h1
    exact Kd.S_step h1 fun k hk1 hlt => hk.block (.inr hk1) hlt
theorem S_at {W : World} {b : Nat} {ok : Nat → Prop} {v : Value} {l : List (List ByteArray)} (h : Kd.S kLL 37 W b ok v l) : ∃ A c, v = .slice A l.length c ∧ l.length ≤ c ∧ Kd.C kLL W A l.length l := Kd.S_reads h
/-- v: a row of the law's own, of lists that lay there when the law began. -/
structure InAt (w : World) (K : Nat → Prop) (W : World) (v : Value) (xs : List (List ByteArray)) (cells : List Value) : Prop where
  len : cells.length = xs.length
  row : W.ownsRow w.heap.size 37 1 v xs.length cells
  rk : ∀ k, v.ownBlock = some k → K k
  el : ∀ (i : Nat) (x : List ByteArray), xs[i]? = some x → ∃ A c, cells[i]? = some (Value.slice A x.length c) ∧ x.length ≤ c ∧ Kd.C Kd.string w A x.length x
section
variable {v v' : Value} {xs : List (List ByteArray)} {cells : List Value}
theorem InAt.kp (h : InAt w K W v xs cells) (hk : Kp K W W') : InAt w K W' v xs cells where
  len := h.len
  row := ownsRow_block h.row fun k hv => hk.block (h.rk k hv) (own_lt h.row k hv)
  rk := h.rk
  el := h.el
theorem InAt.below (h : InAt w K W v xs cells) (hb : Below W.heap.size W W') : InAt w K W' v xs cells := h.kp (Kp.of hb)
theorem InAt.more (h : InAt w K W v xs cells) (hK : ∀ k, K k → K' k) : InAt w K' W v xs cells := { h with rk := fun k hk => hK k (h.rk k hk) }
theorem InAt.slice (h : InAt w K W v xs cells) : ∃ A c, v = .slice A xs.length c := by
  rcases h.row.2 with ⟨rfl, e⟩ | ⟨g, cap, cur, rfl, _⟩
  · exact ⟨none, 0, by rw [e]⟩
  · exact ⟨_, _, rfl⟩
theorem InAt.reads (h : InAt w K W v xs cells) (hb : Below w.heap.size w W) : ∃ A c, v = .slice A xs.length c ∧ xs.length ≤ c ∧ Kd.C kLL W A xs.length xs := by
  have hR : OwnRow (kLL.K W) 37 1 W w.heap.size v xs := by
    refine ⟨cells, h.row, by rw [h.len, Nat.mul_one], fun j x hj => ?_⟩
    obtain ⟨A, c, h1, h2, h3⟩ := h.el j x hj
    refine ⟨A, c, ?_, h2, Kd.C_below h3 hb⟩
    rw [Nat.mul_one]
    obtain ⟨hlt, hget⟩ := List.getElem?_eq_some_iff.1 h1
    rw [List.drop_eq_getElem_cons hlt, hget]
    rfl
  obtain ⟨A, c, h1, h2, h3⟩ := hR.reads
  exact ⟨A, c, h1, h2, h3⟩
end
end
end Go.Proofs.YtgdanenhbjfhaaaGreatDoor.Fr
