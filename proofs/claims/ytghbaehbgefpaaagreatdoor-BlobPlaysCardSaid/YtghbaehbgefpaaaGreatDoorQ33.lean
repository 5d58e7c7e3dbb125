import Derived.Test.YtghbaehbgefpaaaGreatDoorQ32
import Derived.Maps.Own
import Derived.Maps.OwnSet
import Derived.Maps.Views
import Derived.StringKeys
import Derived.WalkArith
/- Several texts of this session in one: the walks of the functions that the laws reach, and what they tell. -/
set_option linter.unusedVariables false
set_option linter.unusedSimpArgs false
namespace Go.Proofs.YtghbaehbgefpaaaGreatDoor.Fr
open Go.RowKit Go.Proofs.YtghbaehbgefpaaaGreatDoor.F Go.Proofs.YtghbaehbgefpaaaGreatDoorW.PrintWords
open Go.Proofs.YtghbaehbgefpaaaGreatDoor.Hand (putV takeV scanV)
open Go.Proofs.YtghbaehbgefpaaaGreatDoor.PureL (cat cat_app cat_behind cat_size)
section
variable {K : Nat → Prop} {L : List (Nat × TS)} {m p i n : Nat} {T Tm T' : TS} {W W' : World}
theorem set_same {x : Nat × TS} (hi : L[i]? = some x) : L.set i x = L := by
  obtain ⟨h1, h2⟩ := List.getElem?_eq_some_iff.1 hi
  subst h2
  exact List.set_getElem_self h1
theorem set_set' (x y : Nat × TS) : (L.set i x).set i y = L.set i y := List.set_set ..
theorem set_at (hi : L[i]? = some (p, T)) (T' : TS) : (L.set i (p, T'))[i]? = some (p, T') := List.getElem?_set_self (List.getElem?_eq_some_iff.1 hi).1
theorem StEnd.same {v : Value} (h : Sts K L m Tm W) (hi : L[i]? = some (p, T)) (hb : Below W.heap.size W W') : StEnd K (L.set i (p, T)) m Tm W v (.returned v) W' := ⟨rfl, by rw [set_same hi]; exact h.below hb, Kp.of hb⟩
def GK (K : Nat → Prop) (W : World) : Prop := ∀ W', Kp K W W' → Hand2.Glob W'
theorem GK.now (h : GK K W) : Hand2.Glob W := h _ (Kp.of (Below.refl _ _))
theorem GK.step (h : GK K W) (hk : Kp K W W') : GK K W' := fun W2 h2 => h W2 (hk.trans h2)
theorem GK.more {K' : Nat → Prop} (h : GK K W) (hK : ∀ k, K k → K' k) : GK K' W := fun W2 h2 => h W2 (h2.mono hK)
set_option maxHeartbeats 4000000 in
set_option maxRecDepth 100000 in
theorem Sts.jAdd (h : Sts K L m Tm W) (hi : L[i]? = some (p, T)) (hG : Hand2.Glob W) (hI : Inv n T) (hn : n ≤ 1000000) (q : ByteArray) (hq : q.size ≤ 99000) (A : Option Addr) (c : Nat) (l : List ByteArray)
    (hC : Kd.C Kd.string W A l.length l) (hc : l.length ≤ c) (hx : ∀ x ∈ l, x.size ≤ 100000) :
    Calls Tryz.prog 23 #[.pointer (some ⟨p, 0, none⟩), .string q, .slice A l.length c] W (StEnd K (L.set i (p, addT T q l)) m Tm W (.int .i64 (addE T q l))) := by
  have HS := Lib.hid h
  have HC := Lib.hid hC
  have HG := Lib.hid hG
  have HX := Lib.hid hx
  have HI := Lib.hid hI
  have hbs := besN_size q
  have HBs := Lib.hid (beside_call q (by omega))
  obtain ⟨m0, hm0⟩ := hG.g.cell
  have HP := Lib.hid (path_walk (besN q) (by omega) m0 W hG.g.lt hm0)
  clear hm0
  cases hb : pathV (besN q) with
  | false =>
    have HE : Hid (addE T q l = 1 ∧ addT T q l = T) := by unfold Hid addE addT; rw [hb]; exact ⟨rfl, rfl⟩
    rw [hb] at HP
    rw [HE.out.1, HE.out.2]
    clear h hC hG hx hI hb hbs HE
    go_enter Tryz.func23, Tryz.ntmps23
    go_wp2_with (first
      | (go_at_call 43; refine (HBs.out _).mono ?_; rintro e w1 ⟨rfl, rfl⟩)
      | (go_at_call 42; refine HP.out.mono ?_; rintro e w2 ⟨rfl, hb⟩; have HB := Lib.hid hb; clear hb))
    go_ret
    exact StEnd.same HS.out hi HB.out
  | true =>
    rw [hb] at HP
    have HQ : Hid (∀ W1, Below W.heap.size W W1 → Calls Tryz.prog 44 #[.slice A l.length c] W1 fun e w' => e = .returned (.tuple #[.string (putV l).1, .int .i64 (putV l).2]) ∧ Below W1.heap.size W1 w') :=
      fun W1 hb => Hand.put_walk A c l W1 (hG.below hb) (Kd.C_below hC hb) hc hx
    have hcode := put_code l
    have hln := lineL_le (l := l)
    obtain ⟨s, er, hp⟩ : ∃ s er, putV l = (s, er) := ⟨_, _, rfl⟩
    have HA : Hid (addE T q l = if er = 0 then writeE T true q s else er) := by unfold Hid addE; rw [hb, if_neg (by decide), hp]
    have HT : Hid (addT T q l = if er = 0 then writeT T true q s else T) := by unfold Hid addT; rw [hb, if_neg (by decide), hp]
    rw [hp] at HQ hcode hln
    simp only at HQ hcode hln
    rw [HA.out, HT.out]
    clear h hC hG hx hI hb hbs hp HA HT
    rcases hcode with rfl | rfl | rfl
    · have hs : s.size ≤ 13000 := hln rfl
      rw [if_pos rfl, if_pos rfl]
      clear hln
      go_enter Tryz.func23, Tryz.ntmps23
      go_wp2_with (first
        | (go_at_call 43; refine (HBs.out _).mono ?_; rintro e w1 ⟨rfl, rfl⟩)
        | (go_at_call 42; refine HP.out.mono ?_; rintro e w2 ⟨rfl, hb⟩; have HB := Lib.hid hb; clear hb)
        | (go_at_call 44; refine (HQ.out _ HB.out).mono ?_; rintro e w3 ⟨rfl, hb⟩; have HB3 := Lib.hid (HB.out.trans (hb.mono HB.out.size)); clear hb)
        | (go_at_call 45; refine ((HS.out.below HB3.out).Append hi (HG.out.below HB3.out).g HI.out hn q s (by omega) (by omega)).mono ?_; rintro e w4 ⟨rfl, hs4, hk4⟩; have HE := Lib.hid hs4; have HK := Lib.hid ((Kp.of (K := K) HB3.out).trans hk4); clear hs4 hk4))
      go_ret
      exact ⟨rfl, HE.out, HK.out⟩
    all_goals
      rw [if_neg (by decide), if_neg (by decide)]
      clear hln
      go_enter Tryz.func23, Tryz.ntmps23
      go_wp2_with (first
        | (go_at_call 43; refine (HBs.out _).mono ?_; rintro e w1 ⟨rfl, rfl⟩)
        | (go_at_call 42; refine HP.out.mono ?_; rintro e w2 ⟨rfl, hb⟩; have HB := Lib.hid hb; clear hb)
        | (go_at_call 44; refine (HQ.out _ HB.out).mono ?_; rintro e w3 ⟨rfl, hb⟩; have HB3 := Lib.hid (HB.out.trans (hb.mono HB.out.size)); clear hb))
      go_ret
      exact StEnd.same HS.out hi HB3.out
theorem write_code (T : TS) (st : Bool) (q s : ByteArray) : writeE T st q s = 0 ∨ writeE T st q s = 1 ∨ writeE T st q s = 3 ∨ writeE T st q s = 5 ∨ writeE T st q s = 6 := by
  unfold writeE
  split
  · simp
  · split
    · simp
    · split
      · simp
      · split <;> simp
theorem rename_code (T : TS) (a b : ByteArray) : renameE T a b = 0 ∨ renameE T a b = 1 ∨ renameE T a b = 4 ∨ renameE T a b = 5 := by
  unfold renameE
  split
  · simp
  · split
    · simp
    · split
      · simp
      · split <;> simp
theorem anew1_code (T : TS) (q s : ByteArray) : anew1E T q s = 0 ∨ anew1E T q s = 1 ∨ anew1E T q s = 3 ∨ anew1E T q s = 4 ∨ anew1E T q s = 5 ∨ anew1E T q s = 6 := by
  have h1 := write_code T false (besN q) s
  have h2 := rename_code (writeT T false (besN q) s) (besN q) q
  unfold anew1E
  split <;> omega
theorem anew_code (T : TS) (q : ByteArray) (l : List (List ByteArray)) : anewE T q l = 0 ∨ anewE T q l = 1 ∨ anewE T q l = 3 ∨ anewE T q l = 4 ∨ anewE T q l = 5 ∨ anewE T q l = 6 := by
  have h1 := anew1_code T q (putAll l).1
  have h2 : (putAll l).2 = 0 ∨ (putAll l).2 = 1 ∨ (putAll l).2 = 3 := putAllA_code l _
  unfold anewE
  split
  · omega
  · split <;> omega
theorem flat_ge : ∀ l : List UInt8, l.length ≤ (l.flatMap Hand.quoteB).length := by
  intro l
  induction l with
  | nil => exact Nat.le_refl _
  | cons c r ih =>
    rw [List.flatMap_cons, List.length_append, List.length_cons]
    have := PureR.quoteB_pos c
    omega
theorem quote_ge (s : ByteArray) : s.size ≤ (Hand.quoteV s).size := by
  unfold Hand.quoteV
  split
  next h => rw [h]; exact Nat.zero_le _
  next h =>
    have := flat_ge s.data.toList
    rw [Array.length_toList] at this
    show s.size ≤ (s.data.toList.flatMap Hand.quoteB).toArray.size
    rw [List.size_toArray]
    exact this
theorem body_mem {x : ByteArray} : ∀ l : List ByteArray, x ∈ l → (Hand.quoteV x).size ≤ (Hand.bodyL l).length := by
  intro l
  induction l with
  | nil => intro h; cases h
  | cons y r ih =>
    intro h
    have e : Hand.bodyL (y :: r) = ((Hand.quoteV y).data.toList ++ [32]) ++ Hand.bodyL r := by simp [Hand.bodyL]
    have e2 : (Hand.quoteV y).data.size = (Hand.quoteV y).size := rfl
    rw [e, List.length_append, List.length_append, Array.length_toList]
    rcases List.mem_cons.1 h with rfl | h
    · omega
    · have := ih h
      omega
theorem word_le {l : List ByteArray} (h : (putV l).2 = 0) : ∀ x ∈ l, x.size ≤ 13000 := fun x hx => by
  have h1 := lineL_le h
  rw [PureL.putV_size h] at h1
  have h2 := body_mem l hx
  have h3 : (Hand.bodyL l).length ≤ (Hand.lineL l).length := by
    unfold Hand.lineL
    rw [List.length_append, List.length_append]
    omega
  have h4 := quote_ge x
  omega
structure AllOK (all : List (List ByteArray)) : Prop where
  small : ∀ l ∈ all, ∀ x ∈ l, x.size ≤ 100000
  size : ∀ k, k ≤ all.length → (putAll (all.take k)).1.size ≤ 90000000
  many : all.length ≤ 10000000
theorem AllOK.all {all : List (List ByteArray)} (h : AllOK all) : (putAll all).1.size ≤ 90000000 := by
  have := h.size all.length (Nat.le_refl _)
  rwa [List.take_length] at this
theorem pathV_size {q : ByteArray} (h : pathV (besN q) = true) : q.size ≤ 96 := by
  have h1 := path_size h
  have h2 := besN_size q
  omega
set_option maxHeartbeats 16000000 in
set_option maxRecDepth 100000 in
theorem Sts.jAnew (h : Sts K L m Tm W) (hi : L[i]? = some (p, T)) (hGK : GK K W) (hI : Inv n T) (hn : n + 3 ≤ 1000000) (q : ByteArray) (hq : q.size ≤ 99000) (A : Option Addr) (c : Nat) (all : List (List ByteArray))
    (hC : Kd.C kLL W A all.length all) (hA : AllOK all) :
    Calls Tryz.prog 31 #[.pointer (some ⟨p, 0, none⟩), .string q, .slice A all.length c] W (StEnd K (L.set i (p, anewT T q all)) m Tm W (.int .i64 (anewE T q all))) := by
  have hG : Hand2.Glob W := hGK _ (Kp.of (Below.refl _ _))
  have hGl : ∀ W', Kp K W W' → Fr.Glob W' := fun W' h => (hGK W' h).g
  clear hGK
  have HS := Lib.hid h
  have HGl := Lib.hid hGl
  have hbs := besN_size q
  have HBs := Lib.hid (beside_call q (by omega))
  obtain ⟨m0, hm0⟩ := hG.g.cell
  have HP := Lib.hid (path_walk (besN q) (by omega) m0 W hG.g.lt hm0)
  clear hm0
  cases hb : pathV (besN q) with
  | false =>
    have HE : Hid (anewE T q all = 1 ∧ anewT T q all = T) := by unfold Hid anewE anewT; rw [hb]; exact ⟨rfl, rfl⟩
    rw [hb] at HP
    rw [HE.out.1, HE.out.2]
    clear h hC hG hGl hI hb hbs HE hA
    go_enter Tryz.func31, Tryz.ntmps31
    go_wp2_with (first
      | (go_at_call 43; refine (HBs.out _).mono ?_; rintro e w1 ⟨rfl, rfl⟩)
      | (go_at_call 42; refine HP.out.mono ?_; rintro e w2 ⟨rfl, hb⟩; have HB := Lib.hid hb; clear hb))
    go_ret
    exact StEnd.same HS.out hi HB.out
  | true =>
    rw [hb] at HP
    have HQ : Hid (∀ W1, Below W.heap.size W W1 → Calls Tryz.prog 51 #[.slice A all.length c, .func (.func 44) #[] #[]] W1 fun e w' => e = .returned (.tuple #[.string (putAll all).1, .int .i64 (putAll all).2]) ∧ Below W1.heap.size W1 w') :=
      fun W1 hb => putAll_walk A c all W1 (hG.below hb) (Kd.C_below hC hb) hA.small hA.size hA.many
    have hqs := pathV_size hb
    have hcode : (putAll all).2 = 0 ∨ (putAll all).2 = 1 ∨ (putAll all).2 = 3 := by
      by_cases hL : Lines all
      · rw [putAll_ok hL]; exact .inl rfl
      · exact putAllA_code all _
    have hln := hA.all
    obtain ⟨s, er, hp⟩ : ∃ s er, putAll all = (s, er) := ⟨_, _, rfl⟩
    have HA1 : Hid (anewE T q all = if er = 0 then anew1E T q s else er) := by unfold Hid anewE; rw [hb, if_neg (by decide), hp]
    have HT1 : Hid (anewT T q all = if er = 0 then anew1T T q s else T) := by unfold Hid anewT; rw [hb, if_neg (by decide), hp]
    rw [hp] at HQ hcode hln
    simp only at HQ hcode hln
    rw [HA1.out, HT1.out]
    have HbQ : (besN q).size ≤ 100 := by omega
    have hI1 := Lib.hid (inv_write hI false (q := besN q) (s := s) (by omega))
    have hI2 := Lib.hid (inv_rename hI1.out (besN q) q)
    have HI := Lib.hid hI
    clear h hC hG hGl hI hb hbs hp HA1 HT1 hA
    have hE : anew1E T q s = if writeE T false (besN q) s = 0 then renameE (writeT T false (besN q) s) (besN q) q else writeE T false (besN q) s := rfl
    have hT : anew1T T q s = if writeE T false (besN q) s = 0 then
    if renameE (writeT T false (besN q) s) (besN q) q = 0 then syncT (renameT (writeT T false (besN q) s) (besN q) q) else removeT (renameT (writeT T false (besN q) s) (besN q) q) (besN q)
  else removeT (writeT T false (besN q) s) (besN q) := rfl
    rw [hE, hT]
    clear hE hT
    obtain ⟨B, hB⟩ : ∃ B, besN q = B := ⟨_, rfl⟩
    rw [hB] at HBs HP hI1 hI2 HbQ ⊢
    clear hB
    rcases hcode with rfl | rfl | rfl
    · rw [if_pos rfl, if_pos rfl]
      have HW : Hid (∀ W1, Below W.heap.size W W1 → Calls Tryz.prog 52 #[.pointer (some ⟨p, 0, none⟩), .string B, .string s] W1 (StEnd K (L.set i (p, writeT T false B s)) m Tm W1 (.int .i64 (writeE T false B s)))) :=
        fun W1 hb => (HS.out.below hb).Write hi (HGl.out _ (Kp.of hb)) HI.out (by omega) B s (by omega) (by omega)
      have hw := write_code T false B s
      generalize writeE T false B s = ew at HW hw ⊢
      generalize writeT T false B s = T1 at HW hI1 hI2 ⊢
      rcases hw with rfl | hw
      · rw [if_pos rfl, if_pos rfl]
        have hr := rename_code T1 B q
        have HR : Hid (∀ W1, Sts K (L.set i (p, T1)) m Tm W1 → Kp K W W1 → Calls Tryz.prog 53 #[.pointer (some ⟨p, 0, none⟩), .string B, .string q] W1 (StEnd K (L.set i (p, renameT T1 B q)) m Tm W1 (.int .i64 (renameE T1 B q)))) := fun W1 h1 h2 => by
          have := h1.Rename (set_at hi T1) (HGl.out _ h2) hI1.out (by omega) B q (by omega) (by omega)
          rwa [set_set'] at this
        generalize renameE T1 B q = er at HR hr ⊢
        generalize renameT T1 B q = T2 at HR hI2 ⊢
        have HR2 : Hid (∀ W1, Sts K (L.set i (p, T2)) m Tm W1 → Kp K W W1 → Calls Tryz.prog 49 #[.pointer (some ⟨p, 0, none⟩), .string B] W1 (StEnd K (L.set i (p, removeT T2 B)) m Tm W1 (.int .i64 (removeE T2 B)))) := fun W1 h1 h2 => by
          have := h1.Remove (set_at hi T2) (HGl.out _ h2) hI2.out (by omega) B (by omega)
          rwa [set_set'] at this
        have HR3 : Hid (∀ W1, Sts K (L.set i (p, T2)) m Tm W1 → Kp K W W1 → Calls Tryz.prog 16 #[.pointer (some ⟨p, 0, none⟩)] W1 (StEnd K (L.set i (p, syncT T2)) m Tm W1 (.tuple #[]))) := fun W1 h1 h2 => by
          have := h1.Sync (set_at hi T2) (HGl.out _ h2) hI2.out (by omega)
          rwa [set_set'] at this
        rcases hr with rfl | rfl | rfl | rfl
        · rw [if_pos rfl]
          go_enter Tryz.func31, Tryz.ntmps31
          go_wp2_with (first
            | (go_at_call 43; refine (HBs.out _).mono ?_; rintro e w1 ⟨rfl, rfl⟩)
            | (go_at_call 42; refine HP.out.mono ?_; rintro e w2 ⟨rfl, hb⟩; have HB := Lib.hid hb; clear hb)
            | (go_at_call 51; refine (HQ.out _ HB.out).mono ?_; rintro e w3 ⟨rfl, hb⟩; have HB3 := Lib.hid (HB.out.trans (hb.mono HB.out.size)); clear hb)
            | (go_at_call 52; refine (HW.out _ HB3.out).mono ?_; rintro e w4 ⟨rfl, hs4, hk4⟩; have HE4 := Lib.hid hs4; have HK4 := Lib.hid ((Kp.of (K := K) HB3.out).trans hk4); clear hs4 hk4)
            | (go_at_call 53; refine (HR.out _ HE4.out HK4.out).mono ?_; rintro e w5 ⟨rfl, hs5, hk5⟩; have HE5 := Lib.hid hs5; have HK5 := Lib.hid (HK4.out.trans hk5); clear hs5 hk5)
            | (go_at_call 16; refine (HR3.out _ HE5.out HK5.out).mono ?_; rintro e w6 ⟨rfl, hs6, hk6⟩; have HE6 := Lib.hid hs6; have HK6 := Lib.hid (HK5.out.trans hk6); clear hs6 hk6))
          go_ret
          exact ⟨rfl, HE6.out, HK6.out⟩
        all_goals
          rw [if_neg (by decide)]
          go_enter Tryz.func31, Tryz.ntmps31
          go_wp2_with (first
            | (go_at_call 43; refine (HBs.out _).mono ?_; rintro e w1 ⟨rfl, rfl⟩)
            | (go_at_call 42; refine HP.out.mono ?_; rintro e w2 ⟨rfl, hb⟩; have HB := Lib.hid hb; clear hb)
            | (go_at_call 51; refine (HQ.out _ HB.out).mono ?_; rintro e w3 ⟨rfl, hb⟩; have HB3 := Lib.hid (HB.out.trans (hb.mono HB.out.size)); clear hb)
            | (go_at_call 52; refine (HW.out _ HB3.out).mono ?_; rintro e w4 ⟨rfl, hs4, hk4⟩; have HE4 := Lib.hid hs4; have HK4 := Lib.hid ((Kp.of (K := K) HB3.out).trans hk4); clear hs4 hk4)
            | (go_at_call 53; refine (HR.out _ HE4.out HK4.out).mono ?_; rintro e w5 ⟨rfl, hs5, hk5⟩; have HE5 := Lib.hid hs5; have HK5 := Lib.hid (HK4.out.trans hk5); clear hs5 hk5)
            | (go_at_call 49; refine (HR2.out _ HE5.out HK5.out).mono ?_; rintro e w6 ⟨rfl, hs6, hk6⟩; have HE6 := Lib.hid hs6; have HK6 := Lib.hid (HK5.out.trans hk6); clear hs6 hk6))
          go_ret
          exact ⟨rfl, HE6.out, HK6.out⟩
      · have HR2 : Hid (∀ W1, Sts K (L.set i (p, T1)) m Tm W1 → Kp K W W1 → Calls Tryz.prog 49 #[.pointer (some ⟨p, 0, none⟩), .string B] W1 (StEnd K (L.set i (p, removeT T1 B)) m Tm W1 (.int .i64 (removeE T1 B)))) := fun W1 h1 h2 => by
          have := h1.Remove (set_at hi T1) (HGl.out _ h2) hI1.out (by omega) B (by omega)
          rwa [set_set'] at this
        clear hI2
        rcases hw with rfl | rfl | rfl | rfl
        all_goals
          rw [if_neg (by decide), if_neg (by decide)]
          go_enter Tryz.func31, Tryz.ntmps31
          go_wp2_with (first
            | (go_at_call 43; refine (HBs.out _).mono ?_; rintro e w1 ⟨rfl, rfl⟩)
            | (go_at_call 42; refine HP.out.mono ?_; rintro e w2 ⟨rfl, hb⟩; have HB := Lib.hid hb; clear hb)
            | (go_at_call 51; refine (HQ.out _ HB.out).mono ?_; rintro e w3 ⟨rfl, hb⟩; have HB3 := Lib.hid (HB.out.trans (hb.mono HB.out.size)); clear hb)
            | (go_at_call 52; refine (HW.out _ HB3.out).mono ?_; rintro e w4 ⟨rfl, hs4, hk4⟩; have HE4 := Lib.hid hs4; have HK4 := Lib.hid ((Kp.of (K := K) HB3.out).trans hk4); clear hs4 hk4)
            | (go_at_call 49; refine (HR2.out _ HE4.out HK4.out).mono ?_; rintro e w6 ⟨rfl, hs6, hk6⟩; have HE6 := Lib.hid hs6; have HK6 := Lib.hid (HK4.out.trans hk6); clear hs6 hk6))
          go_ret
          exact ⟨rfl, HE6.out, HK6.out⟩
    all_goals
      rw [if_neg (by decide), if_neg (by decide)]
      clear hI1 hI2
      go_enter Tryz.func31, Tryz.ntmps31
      go_wp2_with (first
        | (go_at_call 43; refine (HBs.out _).mono ?_; rintro e w1 ⟨rfl, rfl⟩)
        | (go_at_call 42; refine HP.out.mono ?_; rintro e w2 ⟨rfl, hb⟩; have HB := Lib.hid hb; clear hb)
        | (go_at_call 51; refine (HQ.out _ HB.out).mono ?_; rintro e w3 ⟨rfl, hb⟩; have HB3 := Lib.hid (HB.out.trans (hb.mono HB.out.size)); clear hb))
      go_ret
      exact StEnd.same HS.out hi HB3.out
def JOEnd (K : Nat → Prop) (L : List (Nat × TS)) (m : Nat) (Tm : TS) (W : World) (l : List (List ByteArray)) (er : Int) (e : Ending) (w' : World) : Prop :=
  ∃ v K', e = .returned (.tuple #[v, .int .i64 er]) ∧ (∀ k, K k → K' k) ∧ Sts K' L m Tm w' ∧ Kp K W w' ∧ Kd.S kLL 22 w' W.heap.size (fun k => K' k ∧ W.heap.size ≤ k) v l
theorem JOEnd.none {e : Int} (h : Sts K L m Tm W') (hk : Kp K W W') : JOEnd K L m Tm W [] e (.returned (.tuple #[.slice none 0 0, .int .i64 e])) W' :=
  ⟨_, K, rfl, fun k h => h, h, hk, Kd.S_nil _ _ _ _ _⟩
theorem readAll_ok {n : Nat} {T : TS} (hI : Inv n T) (hr : T.room ≤ 2000000) (q : ByteArray) : AllOK (readL T q) where
  small := fun l hl x hx => by
    have h1 := scan_lines (readT T q).1 l hl
    have h2 := lineL_le h1
    have h3 := word_le h1 x hx
    omega
  size := fun k hk => by
    have h1 := scan_lines (readT T q).1
    have h2 : Lines ((readL T q).take k) := fun l hl => h1 l (List.mem_of_mem_take hl)
    rw [putAll_ok h2]
    obtain ⟨r, hd⟩ := scan_dec (readT T q).1
    have h3 := hd.size
    have h4 := read_used T q
    have h5 := hI.good.used
    have e : readL T q = (readL T q).take k ++ (readL T q).drop k := (List.take_append_drop k _).symm
    have h6 : (cat (readL T q) e0).size = (cat ((readL T q).take k) e0).size + (cat ((readL T q).drop k) e0).size := by
      conv => lhs; rw [e, cat_app]
      exact cat_size _ _
    have h7 : (scanV (readT T q).1).1 = readL T q := rfl
    rw [h7] at h3
    show (cat _ e0).size ≤ _
    omega
  many := by
    have := readL_many hI q
    omega
set_option maxHeartbeats 8000000 in
set_option maxRecDepth 100000 in
theorem Sts.jOpen (h : Sts K L m Tm W) (hi : L[i]? = some (p, T)) (hGK : GK K W) (hI : Inv n T) (hn : n + 4 ≤ 1000000) (hr : T.room ≤ 2000000) (q : ByteArray) (hq : q.size ≤ 99000) :
    Calls Tryz.prog 29 #[.pointer (some ⟨p, 0, none⟩), .string q] W (JOEnd K (L.set i (p, openT T q)) m Tm W (openL T q) (openE T q)) := by
  have hG : Hand2.Glob W := hGK.now
  have HS := Lib.hid h
  have HGK := Lib.hid hGK
  have hbs := besN_size q
  have HBs := Lib.hid (beside_call q (by omega))
  obtain ⟨m0, hm0⟩ := hG.g.cell
  have HP := Lib.hid (path_walk (besN q) (by omega) m0 W hG.g.lt hm0)
  clear hm0
  cases hb : pathV (besN q) with
  | false =>
    have HE : Hid (openE T q = 1 ∧ openT T q = T ∧ openL T q = []) := by
      have h1 : openE T q = 1 := by unfold openE; rw [hb]; rfl
      exact ⟨h1, by unfold openT; rw [hb]; rfl, by unfold openL; rw [h1]; rfl⟩
    rw [hb] at HP
    rw [HE.out.1, HE.out.2.1, HE.out.2.2, set_same hi]
    clear h hG hGK hI hb hbs HE
    go_enter Tryz.func29, Tryz.ntmps29
    go_wp2_with (first
      | (go_at_call 43; refine (HBs.out _).mono ?_; rintro e w1 ⟨rfl, rfl⟩)
      | (go_at_call 42; refine HP.out.mono ?_; rintro e w2 ⟨rfl, hb⟩; have HB := Lib.hid hb; clear hb))
    go_ret2
    exact JOEnd.none (HS.out.below HB.out) (Kp.of HB.out)
  | true =>
    rw [hb] at HP
    have hqs := pathV_size hb
    have HbQ : (besN q).size ≤ 100 := by omega
    have hI1 := inv_remove hI (besN q)
    have hr1 : (removeT T (besN q)).room ≤ 2000000 := by rw [remove_room]; exact hr
    have HI := Lib.hid hI
    have HR : Hid (∀ W1, Below W.heap.size W W1 → Calls Tryz.prog 49 #[.pointer (some ⟨p, 0, none⟩), .string (besN q)] W1 (StEnd K (L.set i (p, removeT T (besN q))) m Tm W1 (.int .i64 (removeE T (besN q))))) :=
      fun W1 hb => (HS.out.below hb).Remove hi (HGK.out _ (Kp.of hb)).g hI (by omega) (besN q) (by omega)
    have hall := readAll_ok hI1 hr1 q
    have hoE : openE T q = if readW (removeT T (besN q)) q = true then 0 else anewE (removeT T (besN q)) q (readL (removeT T (besN q)) q) := by unfold openE; rw [hb, if_neg (by decide)]
    have hoT : openT T q = if readW (removeT T (besN q)) q = true then syncT (removeT T (besN q)) else anewT (removeT T (besN q)) q (readL (removeT T (besN q)) q) := by unfold openT; rw [hb, if_neg (by decide)]
    have hoL : openL T q = if openE T q = 0 then readL (removeT T (besN q)) q else [] := rfl
    rw [hoL, hoT, hoE]
    clear hoL hoT hoE h hG hGK hI hb
    obtain ⟨B, hB⟩ : ∃ B, besN q = B := ⟨_, rfl⟩
    rw [hB] at HBs HP HR HbQ hI1 hr1 hall hbs ⊢
    clear hB
    have HRD : Hid (∀ W1, Sts K (L.set i (p, removeT T B)) m Tm W1 → Kp K W W1 → Calls Tryz.prog 50 #[.pointer (some ⟨p, 0, none⟩), .string q] W1 (RdEnd W1 (readL (removeT T B) q) (readW (removeT T B) q))) :=
      fun W1 h1 h2 => h1.jRead (set_at hi _) (HGK.out _ h2) hI1 hr1 q (by omega)
    generalize removeE T B = re at HR
    generalize removeT T B = T1 at HR HRD hI1 hr1 hall ⊢
    generalize readL T1 q = ls at HRD hall ⊢
    have HI1 := Lib.hid hI1
    have HALL := Lib.hid hall
    clear hI1 hr1 hall
    have HSY : Hid (∀ W1, Sts K (L.set i (p, T1)) m Tm W1 → Kp K W W1 → ∀ W2, Below W1.heap.size W1 W2 → ∀ K2 : Nat → Prop, (∀ k, K2 k → K k ∨ (W1.heap.size ≤ k ∧ k < W2.heap.size)) → (∀ k, K k → K2 k) → Calls Tryz.prog 16 #[.pointer (some ⟨p, 0, none⟩)] W2 (StEnd K2 (L.set i (p, syncT T1)) m Tm W2 (.tuple #[]))) := fun W1 h1 h2 W2 hb K2 hk hk' => by
      have := (h1.kept hb hk).Sync (set_at hi T1) (HGK.out _ (h2.trans (Kp.of hb))).g HI1.out (by omega)
      rwa [set_set'] at this
    have HAN : Hid (∀ W1, Sts K (L.set i (p, T1)) m Tm W1 → Kp K W W1 → ∀ W2, Below W1.heap.size W1 W2 → ∀ K2 : Nat → Prop, (∀ k, K2 k → K k ∨ (W1.heap.size ≤ k ∧ k < W2.heap.size)) → (∀ k, K k → K2 k) → ∀ A c, Kd.C kLL W2 A ls.length ls → Calls Tryz.prog 31 #[.pointer (some ⟨p, 0, none⟩), .string q, .slice A ls.length c] W2 (StEnd K2 (L.set i (p, anewT T1 q ls)) m Tm W2 (.int .i64 (anewE T1 q ls)))) := fun W1 h1 h2 W2 hb K2 hk hk' A c hC => by
      have := (h1.kept hb hk).jAnew (set_at hi T1) (((HGK.out.step h2).step (Kp.of hb)).more hk') HI1.out (by omega) q hq A c ls hC HALL.out
      rwa [set_set'] at this
    have hcode := anew_code T1 q ls
    obtain ⟨bw, hbw⟩ : ∃ bw, readW T1 q = bw := ⟨_, rfl⟩
    rw [hbw] at HRD ⊢
    clear hbw
    have HVK : Hid (∀ (w1 w2 w3 : World) (v : Value), Kp K W w1 → Below w1.heap.size w1 w2 → Kd.S kLL 22 w2 w1.heap.size (fun _ => True) v ls → Kp (fun k => K k ∨ (w1.heap.size ≤ k ∧ k < w2.heap.size)) w2 w3 →
        Kd.S kLL 22 w3 W.heap.size (fun k => (K k ∨ (w1.heap.size ≤ k ∧ k < w2.heap.size)) ∧ W.heap.size ≤ k) v ls) := fun w1 w2 w3 v h1 h2 h3 h4 => by
      have hle : W.heap.size ≤ w1.heap.size := h1.size
      refine Kd.S_lower (Kd.S_mono (Kd.S_step (Kd.S_bound h3) (w1 := w3) fun k hk hlt => h4.block (.inr ⟨hk.2.1, hk.2.2.1⟩) hlt) fun k hk => ?_) hle
      exact ⟨.inr ⟨hk.2.1, hk.2.2.1⟩, Nat.le_trans hle hk.2.1⟩
    cases bw with
    | true =>
      rw [if_pos rfl, if_pos rfl, if_pos rfl]
      go_enter Tryz.func29, Tryz.ntmps29
      go_wp2_with (first
        | (go_at_call 43; refine (HBs.out _).mono ?_; rintro e w1 ⟨rfl, rfl⟩)
        | (go_at_call 42; refine HP.out.mono ?_; rintro e w2 ⟨rfl, hb⟩; have HB := Lib.hid hb; clear hb)
        | (go_at_call 49; refine (HR.out _ HB.out).mono ?_; rintro e w3 ⟨rfl, hs3, hk3⟩; have HE3 := Lib.hid hs3; have HK3 := Lib.hid ((Kp.of (K := K) HB.out).trans hk3); clear hs3 hk3)
        | (go_at_call 50; refine (HRD.out _ HE3.out HK3.out).mono ?_; rintro e w4 ⟨v, rfl, hv, hb⟩; obtain ⟨Av, cv, rfl⟩ := Kd.S_slice hv; have HV := Lib.hid hv; have HB4 := Lib.hid hb; clear hv hb)
        | (go_at_call 16; refine (HSY.out _ HE3.out HK3.out _ HB4.out _ (fun k hk => hk) (fun k hk => .inl hk)).mono ?_; rintro e w5 ⟨rfl, hs5, hk5⟩; have HE5 := Lib.hid hs5; have HK5 := Lib.hid hk5; clear hs5 hk5))
      go_ret2
      exact ⟨_, _, rfl, fun k hk => .inl hk, HE5.out, (HK3.out.trans (Kp.of HB4.out)).trans (HK5.out.mono fun k hk => .inl hk), HVK.out _ _ _ _ HK3.out HB4.out HV.out HK5.out⟩
    | false =>
      have hff : ¬ (false = true) := by decide
      simp only [if_neg hff]
      clear hff
      generalize anewE T1 q ls = er at hcode HAN ⊢
      generalize anewT T1 q ls = T2 at HAN ⊢
      clear HSY
      rcases hcode with rfl | hcode
      · rw [if_pos rfl]
        go_enter Tryz.func29, Tryz.ntmps29
        go_wp2_with (first
          | (go_at_call 43; refine (HBs.out _).mono ?_; rintro e w1 ⟨rfl, rfl⟩)
          | (go_at_call 42; refine HP.out.mono ?_; rintro e w2 ⟨rfl, hb⟩; have HB := Lib.hid hb; clear hb)
          | (go_at_call 49; refine (HR.out _ HB.out).mono ?_; rintro e w3 ⟨rfl, hs3, hk3⟩; have HE3 := Lib.hid hs3; have HK3 := Lib.hid ((Kp.of (K := K) HB.out).trans hk3); clear hs3 hk3)
          | (go_at_call 50; refine (HRD.out _ HE3.out HK3.out).mono ?_; rintro e w4 ⟨v, rfl, hv, hb⟩; obtain ⟨Av, cv, rfl⟩ := Kd.S_slice hv; have HC4 := Lib.hid (Kd.S_reads' hv).2.2; have HV := Lib.hid hv; have HB4 := Lib.hid hb; clear hv hb)
          | (go_at_call 31; refine (HAN.out _ HE3.out HK3.out _ HB4.out _ (fun k hk => hk) (fun k hk => .inl hk) _ _ HC4.out).mono ?_; rintro e w5 ⟨rfl, hs5, hk5⟩; have HE5 := Lib.hid hs5; have HK5 := Lib.hid hk5; clear hs5 hk5))
        go_ret2
        exact ⟨_, _, rfl, fun k hk => .inl hk, HE5.out, (HK3.out.trans (Kp.of HB4.out)).trans (HK5.out.mono fun k hk => .inl hk), HVK.out _ _ _ _ HK3.out HB4.out HV.out HK5.out⟩
      · rcases hcode with rfl | rfl | rfl | rfl | rfl
        all_goals
          rw [if_neg (by decide)]
          go_enter Tryz.func29, Tryz.ntmps29
          go_wp2_with (first
            | (go_at_call 43; refine (HBs.out _).mono ?_; rintro e w1 ⟨rfl, rfl⟩)
            | (go_at_call 42; refine HP.out.mono ?_; rintro e w2 ⟨rfl, hb⟩; have HB := Lib.hid hb; clear hb)
            | (go_at_call 49; refine (HR.out _ HB.out).mono ?_; rintro e w3 ⟨rfl, hs3, hk3⟩; have HE3 := Lib.hid hs3; have HK3 := Lib.hid ((Kp.of (K := K) HB.out).trans hk3); clear hs3 hk3)
            | (go_at_call 50; refine (HRD.out _ HE3.out HK3.out).mono ?_; rintro e w4 ⟨v, rfl, hv, hb⟩; obtain ⟨Av, cv, rfl⟩ := Kd.S_slice hv; have HC4 := Lib.hid (Kd.S_reads' hv).2.2; have HV := Lib.hid hv; have HB4 := Lib.hid hb; clear hv hb)
            | (go_at_call 31; refine (HAN.out _ HE3.out HK3.out _ HB4.out _ (fun k hk => hk) (fun k hk => .inl hk) _ _ HC4.out).mono ?_; rintro e w5 ⟨rfl, hs5, hk5⟩; have HE5 := Lib.hid hs5; have HK5 := Lib.hid hk5; clear hs5 hk5))
          go_ret2
          exact JOEnd.none (HE5.out.drop fun k hk => .inl hk) ((HK3.out.trans (Kp.of HB4.out)).trans (HK5.out.mono fun k hk => .inl hk))
end
end Go.Proofs.YtghbaehbgefpaaaGreatDoor.Fr
namespace Go.Proofs.YtghbaehbgefpaaaGreatDoor.Fr
open Go.RowKit Go.Proofs.YtghbaehbgefpaaaGreatDoor.F Go.Proofs.YtghbaehbgefpaaaGreatDoorW.PrintWords Go.Maps
open Go.Proofs.YtghbaehbgefpaaaGreatDoor.Hand (putV takeV scanV)
def idxB : List ByteArray → ByteArray → Nat
  | [], _ => 0
  | x :: r, t => if x = t then 1 else if idxB r t = 0 then 0 else idxB r t + 1
theorem idx_le (l : List ByteArray) (t : ByteArray) : idxB l t ≤ l.length := by
  induction l with
  | nil => exact Nat.le_refl _
  | cons x r ih =>
    rw [idxB, List.length_cons]
    split
    · omega
    · split <;> omega
theorem idx_cons (x : ByteArray) (r : List ByteArray) (t : ByteArray) : idxB (x :: r) t = if x = t then 1 else if idxB r t = 0 then 0 else idxB r t + 1 := rfl
theorem idx_zero {l : List ByteArray} {t : ByteArray} : idxB l t = 0 ↔ t ∉ l := by
  induction l with
  | nil => exact ⟨fun _ => List.not_mem_nil, fun _ => rfl⟩
  | cons x r ih =>
    rw [idx_cons, List.mem_cons]
    by_cases h : x = t
    · rw [if_pos h]
      exact ⟨fun e => absurd e (by decide), fun e => absurd (.inl h.symm) e⟩
    · rw [if_neg h]
      by_cases h2 : idxB r t = 0
      · rw [if_pos h2]
        exact ⟨fun _ e => e.elim (fun e => h e.symm) (ih.1 h2), fun _ => rfl⟩
      · rw [if_neg h2]
        exact ⟨fun e => absurd e (by omega), fun e => absurd (ih.2 fun m => e (.inr m)) h2⟩
theorem idx_snoc (l : List ByteArray) (t u : ByteArray) : idxB (l ++ [t]) u = if idxB l u ≠ 0 then idxB l u else if t = u then l.length + 1 else 0 := by
  induction l with
  | nil =>
    have e : idxB [] u = 0 := rfl
    rw [List.nil_append, idx_cons, e, if_neg (fun h : (0 : Nat) ≠ 0 => h rfl), if_pos rfl]
    rfl
  | cons x r ih =>
    rw [List.cons_append, idx_cons, idx_cons, ih, List.length_cons]
    by_cases h : x = u
    · rw [if_pos h, if_pos h, if_pos (by decide)]
    · rw [if_neg h, if_neg h]
      by_cases h2 : idxB r u = 0
      · rw [h2, if_neg (fun h : (0 : Nat) ≠ 0 => h rfl), if_pos rfl, if_neg (fun h : (0 : Nat) ≠ 0 => h rfl)]
        by_cases h3 : t = u
        · rw [if_pos h3, if_pos h3, if_neg (by omega)]
        · rw [if_neg h3, if_neg h3, if_pos rfl]
      · rw [if_pos h2, if_neg h2, if_pos (by omega)]
def idT (T : TS) (q : ByteArray) (l : List ByteArray) (t : ByteArray) : TS := if idxB l t ≠ 0 then T else addT T q [t]
def idL (T : TS) (q : ByteArray) (l : List ByteArray) (t : ByteArray) : List ByteArray := if idxB l t ≠ 0 then l else if addE T q [t] = 0 then l ++ [t] else l
def idN (T : TS) (q : ByteArray) (l : List ByteArray) (t : ByteArray) : Int := if idxB l t ≠ 0 then (idxB l t : Nat) else if addE T q [t] = 0 then ((l.length + 1 : Nat) : Int) else 0
def idE (T : TS) (q : ByteArray) (l : List ByteArray) (t : ByteArray) : Int := if idxB l t ≠ 0 then 0 else addE T q [t]
def textN (l : List ByteArray) (i : Int) : ByteArray × Bool := if h : 1 ≤ i ∧ i ≤ l.length then (l[(i - 1).toNat]'(by omega), true) else (⟨#[]⟩, false)
end Go.Proofs.YtghbaehbgefpaaaGreatDoor.Fr
namespace Go.Proofs.YtghbaehbgefpaaaGreatDoor.Fr
open Go.RowKit Go.Proofs.YtghbaehbgefpaaaGreatDoor.F Go.Proofs.YtghbaehbgefpaaaGreatDoorW.PrintWords Go.Maps
theorem zeroI (w : World) : (zeroValue 3).run Tryz.prog w = .ok (.int .i64 0) w := by kernel_rfl
abbrev strV (l : List ByteArray) : List Value := l.map Value.string
structure BsAt (W : World) (s p : Nat) (nm : ByteArray) (l : List ByteArray) (v : Value) (b : Nat) (D : DataW Unit) : Prop where
  box : W.heap[s]? = some (.cells #[.pointer (some ⟨p, 0, none⟩), .string nm, v, .map (some b)] 68 (0, 0))
  row : W.ownsRow 0 9 1 v l.length (strV l)
  ids : W.ownsMap Tryz.prog 9 (plainElem Tryz.prog 3) b l.length D
  at_ : ∀ t : ByteArray, D.atKey (.string t.data.toList) (.lit (.int .i64 0)) = .lit (.int .i64 (idxB l t : Nat))
def BsF (s : Nat) (v : Value) (b : Nat) (k : Nat) : Prop := k = s ∨ k = b ∨ v.ownBlock = some k
section
variable {W W' : World} {s p b : Nat} {nm : ByteArray} {l : List ByteArray} {v : Value} {D : DataW Unit}
theorem BsAt.lt (h : BsAt W s p nm l v b D) : ∀ k, BsF s v b k → k < W.heap.size := fun k hk => by
  rcases hk with rfl | rfl | hk
  · exact (Array.getElem?_eq_some_iff.1 h.box).1
  · exact World.ownsMap.lt h.ids
  · exact own_lt h.row k hk
theorem BsAt.kept (h : BsAt W s p nm l v b D) (hk : ∀ k, BsF s v b k → W'.heap[k]? = W.heap[k]?) : BsAt W' s p nm l v b D where
  box := (hk s (.inl rfl)).trans h.box
  row := ownsRow_block h.row fun k e => hk k (.inr (.inr e))
  ids := by
    obtain ⟨es, clock, hb, F, hs, hD⟩ := h.ids
    exact ⟨es, clock, (hk b (.inr (.inl rfl))).trans hb, F, hs, hD⟩
  at_ := h.at_
theorem BsAt.cells (h : BsAt W s p nm l v b D) : W.cell? ⟨s, 0, none⟩ = some (.pointer (some ⟨p, 0, none⟩)) ∧ W.cell? ⟨s, 1, none⟩ = some (.string nm) ∧ W.cell? ⟨s, 2, none⟩ = some v ∧ W.cell? ⟨s, 3, none⟩ = some (.map (some b)) :=
  ⟨cell_box h.box 0 rfl, cell_box h.box 1 rfl, cell_box h.box 2 rfl, cell_box h.box 3 rfl⟩
theorem BsAt.slice (h : BsAt W s p nm l v b D) : ∃ A c, v = .slice A l.length c := by
  rcases h.row.2 with ⟨rfl, e⟩ | ⟨g, cap, cur, rfl, _⟩
  · exact ⟨none, 0, by rw [e]⟩
  · exact ⟨_, _, rfl⟩
theorem BsAt.look (h : BsAt W s p nm l v b D) (t : ByteArray) (ht : t.size ≤ maxLen) : (Instr.lookup 66 (.map (some b)) (.string t) false).run Tryz.prog W = .ok (.int .i64 (idxB l t : Nat)) W := by
  obtain ⟨c, hrun, hat, -⟩ := World.ownsMap.lookup_int h.ids lawK Tryz.underlying66 Tryz.underlying3 (zeroI W) (Go.WideMaps.keyOf_string_mk Tryz.underlying9 ht)
  have e : DataW.lit (.int .i64 ((idxB l t : Nat) : Int)) = DataW.lit (H := Unit) (.int .i64 c) := (h.at_ t).symm.trans hat
  have e2 : ((idxB l t : Nat) : Int) = c := by
    have e3 := DataW.lit.inj e
    exact (Lit.int.inj e3).2
  rw [hrun, e2]
end
end Go.Proofs.YtghbaehbgefpaaaGreatDoor.Fr
