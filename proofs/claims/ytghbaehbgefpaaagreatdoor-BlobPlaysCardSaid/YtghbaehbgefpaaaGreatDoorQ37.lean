import Derived.Test.YtghbaehbgefpaaaGreatDoorQ36
import Derived.Test.YtghbaehbgefpaaaGreatDoorQ34
/- Several texts of this session in one: the walks of the functions that the laws reach, and what they tell. -/
set_option linter.unusedVariables false
set_option linter.unusedSimpArgs false
namespace Go.Proofs.YtghbaehbgefpaaaGreatDoor.Fr
open Go.RowKit Go.Proofs.YtghbaehbgefpaaaGreatDoor.F Go.Proofs.YtghbaehbgefpaaaGreatDoorW.PrintWords
open Go.Proofs.YtghbaehbgefpaaaGreatDoor.Hand (putV takeV scanV)
open Go.Proofs.YtghbaehbgefpaaaGreatDoor.PureL (cat cat_app cat_behind cat_size)
section
variable {K : Nat → Prop} {L : List (Nat × TS)} {m n : Nat} {T : TS} {W W' : World}
set_option maxHeartbeats 8000000 in
set_option maxRecDepth 100000 in
theorem Sts.rjOpen (h : Sts K L m T W) (hI : Inv n T) (hn : n + 4 ≤ 1000000) (hr : T.room ≤ 90000) (q : ByteArray) (hq : q.size ≤ 99000) :
    Calls Tryz.prog 34 #[.pointer (some ⟨m, 0, none⟩), .string q] W (JOEnd K L m (openT T q) W (openL T q) (openE T q)) := by
  have HS := Lib.hid h
  have hbs := besN_size q
  have HP := Lib.hid (rpath_bes q hq W)
  cases hb : pathV (besN q) with
  | false =>
    have HE : Hid (openE T q = 1 ∧ openT T q = T ∧ openL T q = []) := by
      have h1 : openE T q = 1 := by unfold openE; rw [hb]; rfl
      exact ⟨h1, by unfold openT; rw [hb]; rfl, by unfold openL; rw [h1]; rfl⟩
    rw [hb] at HP
    rw [HE.out.1, HE.out.2.1, HE.out.2.2]
    clear h hI hb hbs HE
    go_enter Tryz.func34, Tryz.ntmps34
    go_wp2_with (first
      | (go_at_call 46; refine HP.out.mono ?_; rintro e w2 ⟨rfl, hb⟩; have HB := Lib.hid hb; clear hb))
    go_ret2
    exact JOEnd.none (HS.out.below HB.out) (Kp.of HB.out)
  | true =>
    rw [hb] at HP
    have hqs := pathV_size hb
    have HbQ : (besN q).size ≤ 100 := by omega
    have hI1 := inv_remove hI (besN q)
    have hr1 : (removeT T (besN q)).room ≤ 90000 := by rw [remove_room]; exact hr
    have HI := Lib.hid hI
    have HR : Hid (∀ W1, Below W.heap.size W W1 → Calls Tryz.prog 55 #[.pointer (some ⟨m, 0, none⟩), .string (besN q)] W1 (StEnd K L m (removeT T (besN q)) W1 (.int .i64 (removeE T (besN q))))) :=
      fun W1 hb => (HS.out.below hb).rRemove hI (by omega) (besN q) (by omega)
    have hall := readAll_ok hI1 (by omega) q
    have hoE : openE T q = if readW (removeT T (besN q)) q = true then 0 else anewE (removeT T (besN q)) q (readL (removeT T (besN q)) q) := by unfold openE; rw [hb, if_neg (by decide)]
    have hoT : openT T q = if readW (removeT T (besN q)) q = true then syncT (removeT T (besN q)) else anewT (removeT T (besN q)) q (readL (removeT T (besN q)) q) := by unfold openT; rw [hb, if_neg (by decide)]
    have hoL : openL T q = if openE T q = 0 then readL (removeT T (besN q)) q else [] := rfl
    rw [hoL, hoT, hoE]
    clear hoL hoT hoE h hI hb
    have HRD : Hid (∀ W1, Sts K L m (removeT T (besN q)) W1 → Kp K W W1 → Calls Tryz.prog 56 #[.pointer (some ⟨m, 0, none⟩), .string q] W1 (RdEnd W1 (readL (removeT T (besN q)) q) (readW (removeT T (besN q)) q))) :=
      fun W1 h1 h2 => h1.rjRead hI1 hr1 q
    generalize removeE T (besN q) = re at HR
    generalize removeT T (besN q) = T1 at HR HRD hI1 hr1 hall ⊢
    generalize readL T1 q = ls at HRD hall ⊢
    have HI1 := Lib.hid hI1
    have HALL := Lib.hid hall
    clear hI1 hr1 hall
    have HSY : Hid (∀ W1, Sts K L m T1 W1 → Kp K W W1 → ∀ W2, Below W1.heap.size W1 W2 → ∀ K2 : Nat → Prop, (∀ k, K2 k → K k ∨ (W1.heap.size ≤ k ∧ k < W2.heap.size)) → (∀ k, K k → K2 k) → Calls Tryz.prog 57 #[.pointer (some ⟨m, 0, none⟩)] W2 (StEnd K2 L m (syncT T1) W2 (.tuple #[]))) := fun W1 h1 h2 W2 hb K2 hk hk' => by
      exact (h1.kept hb hk).rSync
    have HAN : Hid (∀ W1, Sts K L m T1 W1 → Kp K W W1 → ∀ W2, Below W1.heap.size W1 W2 → ∀ K2 : Nat → Prop, (∀ k, K2 k → K k ∨ (W1.heap.size ≤ k ∧ k < W2.heap.size)) → (∀ k, K k → K2 k) → ∀ A c, Kd.C kLL W2 A ls.length ls → Calls Tryz.prog 35 #[.pointer (some ⟨m, 0, none⟩), .string q, .slice A ls.length c] W2 (StEnd K2 L m (anewT T1 q ls) W2 (.int .i64 (anewE T1 q ls)))) := fun W1 h1 h2 W2 hb K2 hk hk' A c hC => by
      exact (h1.kept hb hk).rjAnew HI1.out (by omega) q hq A c ls hC HALL.out
    have hcode := anew_code T1 q ls
    obtain ⟨bw, hbw⟩ : ∃ bw, readW T1 q = bw := ⟨_, rfl⟩
    rw [hbw] at HRD ⊢
    clear hbw
    have HVK : Hid (∀ (w1 w2 w3 : World) (v : Value), Kp K W w1 → Below w1.heap.size w1 w2 → Kd.S kLL 22 w2 w1.heap.size (fun _ => True) v ls → Kp (fun k => K k ∨ (w1.heap.size ≤ k ∧ k < w2.heap.size)) w2 w3 →
        Kd.S kLL 22 w3 W.heap.size (fun k => (K k ∨ (w1.heap.size ≤ k ∧ k < w2.heap.size)) ∧ W.heap.size ≤ k) v ls) := fun w1 w2 w3 v h1 h2 h3 h4 => by
      have hle : W.heap.size ≤ w1.heap.size := h1.size
      refine Kd.S_lower (Kd.S_mono (Kd.S_step (Kd.S_bound h3) (w1 := w3) fun k hk hlt => h4.block (.inr ⟨hk.2.1, hk.2.2.1⟩) hlt) fun k hk => ?_) hle
      exact ⟨.inr ⟨hk.2.1, hk.2.2.1⟩, Nat.le_trans hle hk.2.1⟩
    cases bw with
    | true =>
      rw [if_pos rfl, if_pos rfl, if_pos rfl]
      go_enter Tryz.func34, Tryz.ntmps34
      go_wp2_with (first
        | (go_at_call 46; refine HP.out.mono ?_; rintro e w2 ⟨rfl, hb⟩; have HB := Lib.hid hb; clear hb)
        | (go_at_call 55; refine (HR.out _ HB.out).mono ?_; rintro e w3 ⟨rfl, hs3, hk3⟩; have HE3 := Lib.hid hs3; have HK3 := Lib.hid ((Kp.of (K := K) HB.out).trans hk3); clear hs3 hk3)
        | (go_at_call 56; refine (HRD.out _ HE3.out HK3.out).mono ?_; rintro e w4 ⟨v, rfl, hv, hb⟩; obtain ⟨Av, cv, rfl⟩ := Kd.S_slice hv; have HV := Lib.hid hv; have HB4 := Lib.hid hb; clear hv hb)
        | (go_at_call 57; refine (HSY.out _ HE3.out HK3.out _ HB4.out _ (fun k hk => hk) (fun k hk => .inl hk)).mono ?_; rintro e w5 ⟨rfl, hs5, hk5⟩; have HE5 := Lib.hid hs5; have HK5 := Lib.hid hk5; clear hs5 hk5))
      go_ret2
      exact ⟨_, _, rfl, fun k hk => .inl hk, HE5.out, (HK3.out.trans (Kp.of HB4.out)).trans (HK5.out.mono fun k hk => .inl hk), HVK.out _ _ _ _ HK3.out HB4.out HV.out HK5.out⟩
    | false =>
      have hff : ¬ (false = true) := by decide
      simp only [if_neg hff]
      clear hff
      generalize anewE T1 q ls = er at hcode HAN ⊢
      generalize anewT T1 q ls = T2 at HAN ⊢
      clear HSY
      rcases hcode with rfl | hcode
      · rw [if_pos rfl]
        go_enter Tryz.func34, Tryz.ntmps34
        go_wp2_with (first
          | (go_at_call 46; refine HP.out.mono ?_; rintro e w2 ⟨rfl, hb⟩; have HB := Lib.hid hb; clear hb)
          | (go_at_call 55; refine (HR.out _ HB.out).mono ?_; rintro e w3 ⟨rfl, hs3, hk3⟩; have HE3 := Lib.hid hs3; have HK3 := Lib.hid ((Kp.of (K := K) HB.out).trans hk3); clear hs3 hk3)
          | (go_at_call 56; refine (HRD.out _ HE3.out HK3.out).mono ?_; rintro e w4 ⟨v, rfl, hv, hb⟩; obtain ⟨Av, cv, rfl⟩ := Kd.S_slice hv; have HC4 := Lib.hid (Kd.S_reads' hv).2.2; have HV := Lib.hid hv; have HB4 := Lib.hid hb; clear hv hb)
          | (go_at_call 35; refine (HAN.out _ HE3.out HK3.out _ HB4.out _ (fun k hk => hk) (fun k hk => .inl hk) _ _ HC4.out).mono ?_; rintro e w5 ⟨rfl, hs5, hk5⟩; have HE5 := Lib.hid hs5; have HK5 := Lib.hid hk5; clear hs5 hk5))
        go_ret2
        exact ⟨_, _, rfl, fun k hk => .inl hk, HE5.out, (HK3.out.trans (Kp.of HB4.out)).trans (HK5.out.mono fun k hk => .inl hk), HVK.out _ _ _ _ HK3.out HB4.out HV.out HK5.out⟩
      · rcases hcode with rfl | rfl | rfl | rfl | rfl
        all_goals
          rw [if_neg (by decide)]
          go_enter Tryz.func34, Tryz.ntmps34
          go_wp2_with (first
            | (go_at_call 46; refine HP.out.mono ?_; rintro e w2 ⟨rfl, hb⟩; have HB := Lib.hid hb; clear hb)
            | (go_at_call 55; refine (HR.out _ HB.out).mono ?_; rintro e w3 ⟨rfl, hs3, hk3⟩; have HE3 := Lib.hid hs3; have HK3 := Lib.hid ((Kp.of (K := K) HB.out).trans hk3); clear hs3 hk3)
            | (go_at_call 56; refine (HRD.out _ HE3.out HK3.out).mono ?_; rintro e w4 ⟨v, rfl, hv, hb⟩; obtain ⟨Av, cv, rfl⟩ := Kd.S_slice hv; have HC4 := Lib.hid (Kd.S_reads' hv).2.2; have HV := Lib.hid hv; have HB4 := Lib.hid hb; clear hv hb)
            | (go_at_call 35; refine (HAN.out _ HE3.out HK3.out _ HB4.out _ (fun k hk => hk) (fun k hk => .inl hk) _ _ HC4.out).mono ?_; rintro e w5 ⟨rfl, hs5, hk5⟩; have HE5 := Lib.hid hs5; have HK5 := Lib.hid hk5; clear hs5 hk5))
          go_ret2
          exact JOEnd.none (HE5.out.drop fun k hk => .inl hk) ((HK3.out.trans (Kp.of HB4.out)).trans (HK5.out.mono fun k hk => .inl hk))
end
end Go.Proofs.YtghbaehbgefpaaaGreatDoor.Fr
namespace Go.Proofs.YtghbaehbgefpaaaGreatDoor.Fr
open Go.RowKit Go.Proofs.YtghbaehbgefpaaaGreatDoor.F Go.Proofs.YtghbaehbgefpaaaGreatDoorW.PrintWords Go.Maps
open Go.Proofs.YtghbaehbgefpaaaGreatDoor.Hand (putV takeV scanV)
theorem tl_eq8 {a b : ByteArray} : a.toList = b.toList ↔ a = b := ⟨fun h => ba_eq (by rw [← ByteArray.toList_eq, ← ByteArray.toList_eq]; exact h), fun h => by rw [h]⟩
structure RsAt (W : World) (r m : Nat) (nm : ByteArray) (l : List ByteArray) (v : Value) : Prop where
  box : W.heap[r]? = some (.cells #[.pointer (some ⟨m, 0, none⟩), .string nm, v] 57 (0, 0))
  row : W.ownsRow 0 9 1 v l.length (strV l)
def RsF (r : Nat) (v : Value) (k : Nat) : Prop := k = r ∨ v.ownBlock = some k
section
variable {W W' : World} {r m : Nat} {nm : ByteArray} {l : List ByteArray} {v : Value}
theorem RsAt.lt (h : RsAt W r m nm l v) : ∀ k, RsF r v k → k < W.heap.size := fun k hk => by
  rcases hk with rfl | hk
  · exact (Array.getElem?_eq_some_iff.1 h.box).1
  · exact own_lt h.row k hk
theorem RsAt.kept (h : RsAt W r m nm l v) (hk : ∀ k, RsF r v k → W'.heap[k]? = W.heap[k]?) : RsAt W' r m nm l v where
  box := (hk r (.inl rfl)).trans h.box
  row := ownsRow_block h.row fun k e => hk k (.inr e)
theorem RsAt.cells (h : RsAt W r m nm l v) : W.cell? ⟨r, 0, none⟩ = some (.pointer (some ⟨m, 0, none⟩)) ∧ W.cell? ⟨r, 1, none⟩ = some (.string nm) ∧ W.cell? ⟨r, 2, none⟩ = some v :=
  ⟨cell_box h.box 0 rfl, cell_box h.box 1 rfl, cell_box h.box 2 rfl⟩
theorem RsAt.slice (h : RsAt W r m nm l v) : ∃ A c, v = .slice A l.length c := by
  rcases h.row.2 with ⟨rfl, e⟩ | ⟨g, cap, cur, rfl, _⟩
  · exact ⟨none, 0, by rw [e]⟩
  · exact ⟨_, _, rfl⟩
theorem RsAt.row_ne (h : RsAt W r m nm l v) {k : Nat} (hk : v.ownBlock = some k) : k ≠ r := by
  rcases h.row.2 with ⟨e, -⟩ | ⟨g, cap, cur, e, -, hg, -⟩
  · rw [e] at hk
    cases hk
  · rw [e] at hk
    obtain rfl : g = k := Option.some.inj hk
    intro e2
    have h1 := h.box
    rw [← e2, hg] at h1
    have h2 := Option.some.inj h1
    injection h2 with _ h3
    exact absurd h3 (by decide)
theorem RsAt.text (h : RsAt W r m nm l v) {i : Nat} (hi : i < l.length) : ∃ g n, v = .slice (some ⟨g, 0, none⟩) l.length n ∧ W.cell? ⟨g, i, none⟩ = some (.string l[i]) ∧ l.length ≤ n := by
  rcases h.row with ⟨h1, ⟨-, h2⟩ | ⟨g, cap, cur, rfl, -, hg, hc, -, hz, ht⟩⟩
  · omega
  · refine ⟨g, cap, rfl, ?_, hc⟩
    have e : cur[i]? = some (.string l[i]) := by
      have e1 : (cur.toList.take (l.length * 1))[i]? = (strV l)[i]? := by rw [ht]
      rw [List.getElem?_take_of_lt (by omega)] at e1
      rw [← Array.getElem?_toList, e1]
      simp [strV, hi]
    exact cell_box hg i e
theorem RsAt.at {A : Option Addr} {n c : Nat} (h : RsAt W r m nm l (.slice A n c)) {i : Nat} (hi : i < l.length) : ∃ ad, A = some ad ∧ W.cell? (ad.add i) = some (.string l[i]) := by
  rcases h.row.2 with ⟨e1, e⟩ | ⟨g, cap, cur, e1, _⟩
  · omega
  · injection e1 with e1 e2 e3
    subst e1 e2
    exact ⟨_, rfl, h.row.cells (g := g) rfl i _ (by simp [strV, hi])⟩
theorem idx_first {t : ByteArray} {k : Nat} (hk : k < l.length) (h : idxB (l.take k) t = 0) : (l[k] = t → idxB l t = k + 1) ∧ (l[k] ≠ t → idxB (l.take (k + 1)) t = 0) := by
  have e : l.take (k + 1) = l.take k ++ [l[k]] := List.take_succ_eq_append_getElem hk
  have e2 : idxB (l.take (k + 1)) t = if l[k] = t then k + 1 else 0 := by
    rw [e, idx_snoc, if_neg (fun x => x h), List.length_take_of_le (by omega)]
  constructor
  · intro hx
    rw [if_pos hx, idx_take] at e2
    split at e2
    · exact e2
    · omega
  · intro hx
    rw [e2, if_neg hx]
set_option maxHeartbeats 4000000 in
set_option maxRecDepth 100000 in
theorem rb_find (h : RsAt W r m nm l v) (t : ByteArray) (hl : l.length ≤ 1000000) :
    Calls Tryz.prog 26 #[.pointer (some ⟨r, 0, none⟩), .string t] W fun e W' => e = .returned (.int .i64 (idxB l t : Nat)) ∧ W' = W := by
  obtain ⟨c0, c1, c2⟩ := h.cells
  have HR := Lib.hid h
  obtain ⟨A0, n0, rfl⟩ := h.slice
  clear h
  go_enter Tryz.func26, Tryz.ntmps26
  go_upto_region 2 with fail
  go_loopw [5] (fun i wr => ∃ k : Nat, k ≤ l.length ∧ i = .int .i64 k ∧ wr = W ∧ Hid (idxB (l.take k) t = 0))
    (fun i _ => l.length - (intOf i).toNat)
  case atStart => exact ⟨0, Nat.zero_le _, rfl, rfl, rfl⟩
  case round =>
    obtain ⟨k, hk, rfl, rfl, HZ⟩ := hrel
    by_cases hlt : k < l.length
    · obtain ⟨ad, e, hx⟩ := HR.out.at hlt
      subst e
      have HF := Lib.hid (idx_first hlt HZ.out)
      generalize l[k] = x at hx HF
      by_cases hxt : x = t
      · subst hxt
        have hi := HF.out.1 rfl
        have HII := Lib.hid hi
        have hd2 : (x.toList == x.toList) = true := beq_self_eq_true _
        clear hi HF
        go_wp2
        go_ret
        exact ⟨by rw [HII.out]; rfl, rfl⟩
      · have HZ2 := Lib.hid (HF.out.2 hxt)
        have hd2 : (x.toList == t.toList) = false := beq_eq_false_iff_ne.2 fun e => hxt (tl_eq8.1 e)
        clear HF
        go_wp2
        go_roundw
        case rel => exact ⟨k + 1, by omega, by go_num, (by first | exact trivial | exact rfl), HZ2.out⟩
        case measure => simp [intOf]; omega
    · obtain rfl : k = l.length := by omega
      have hz := HZ.out
      rw [List.take_length] at hz
      have HZ2 := Lib.hid hz
      clear hz
      go_wp2
      go_ret
      exact ⟨by rw [HZ2.out]; rfl, rfl⟩
set_option maxHeartbeats 4000000 in
set_option maxRecDepth 100000 in
theorem rb_text (h : RsAt W r m nm l v) (hlm : l.length ≤ 1000000) (i : Int) :
    Calls Tryz.prog 25 #[.pointer (some ⟨r, 0, none⟩), .int .i64 i] W fun e W' => e = .returned (.tuple #[.string (textN l i).1, .bool (textN l i).2]) ∧ Below W.heap.size W W' := by
  obtain ⟨c0, c1, c2⟩ := h.cells
  by_cases hin : 1 ≤ i ∧ i ≤ l.length
  · obtain ⟨k, rfl⟩ : ∃ k : Nat, i = (k : Int) + 1 := ⟨(i - 1).toNat, by omega⟩
    have hk : k < l.length := by omega
    obtain ⟨g, n, rfl, hx, hn⟩ := h.text hk
    rw [textN_in hk]
    generalize l[k] = x at hx ⊢
    have d1 : decide ((k : Int) + 1 < 1) = false := decide_eq_false (by omega)
    have d2 : decide ((l.length : Int) < (k : Int) + 1) = false := decide_eq_false (by omega)
    clear h
    go_enter Tryz.func25, Tryz.ntmps25
    go_wp2
    exact bodyPost_ret (v := .tuple #[.string x, .bool true]) (by simp [results, Tryz.results25, go_sem]) rfl ⟨rfl, Below.refl _ _⟩
  · rw [textN_out hin]
    obtain ⟨A, n, rfl⟩ := h.slice
    clear h
    go_enter Tryz.func25, Tryz.ntmps25
    by_cases h1 : i < 1
    · have d1 : decide (i < 1) = true := decide_eq_true h1
      go_wp2
      exact bodyPost_ret (v := .tuple #[.string ⟨#[]⟩, .bool false]) (by simp [results, Tryz.results25, go_sem]) rfl ⟨rfl, Below.refl _ _⟩
    · have d1 : decide (i < 1) = false := decide_eq_false h1
      have d2 : decide ((l.length : Int) < i) = true := decide_eq_true (by omega)
      go_wp2
      exact bodyPost_ret (v := .tuple #[.string ⟨#[]⟩, .bool false]) (by simp [results, Tryz.results25, go_sem]) rfl ⟨rfl, Below.refl _ _⟩
end
structure RsB (K : Nat → Prop) (L : List (Nat × TS)) (m : Nat) (Tm : TS) (W : World) (r : Nat) (nm : ByteArray) (l : List ByteArray) (v : Value) : Prop where
  sts : Sts (fun k => K k ∨ RsF r v k) L m Tm W
  at_ : RsAt W r m nm l v
  off : ∀ k, RsF r v k → ¬ K k
def RsS (K : Nat → Prop) (L : List (Nat × TS)) (m : Nat) (Tm : TS) (r : Nat) (nm : ByteArray) (l : List ByteArray) (W : World) : Prop := ∃ v, RsB K L m Tm W r nm l v
theorem own_sl {W : World} {b : Nat} {e : TypeId} {v : Value} {n : Nat} {xs : List Value} (h : W.ownsRow b e 1 v n xs) : ∃ A c, v = .slice A n c := by
  rcases h.2 with ⟨rfl, e⟩ | ⟨g, cap, cur, e, -⟩
  · exact ⟨none, 0, by rw [e]⟩
  · exact ⟨_, _, e⟩
theorem own_emptyS (W : World) : (W.alloc (.cells #[] 9)).ownsRow 0 9 1 (.slice (some ⟨W.heap.size, 0, none⟩) 0 0) 0 [] := ⟨rfl, .inr ⟨W.heap.size, 0, #[], rfl, Nat.zero_le _, World.alloc_heap_new W _, Nat.le_refl _, by unfold maxLen; omega, rfl, rfl⟩⟩
section
variable {K : Nat → Prop} {L L' : List (Nat × TS)} {m n r : Nat} {Tm Tm' : TS} {W W' : World} {nm : ByteArray} {l : List ByteArray} {v : Value}
theorem RsB.step (h : RsB K L m Tm W r nm l v) (hs : Sts (fun k => K k ∨ RsF r v k) L' m Tm' W') (hk : Kp (fun k => K k ∨ RsF r v k) W W') : RsB K L' m Tm' W' r nm l v where
  sts := hs
  at_ := h.at_.kept fun k hb => hk.block (.inr hb) (h.at_.lt k hb)
  off := h.off
theorem RsB.below (h : RsB K L m Tm W r nm l v) (hb : Below W.heap.size W W') : RsB K L m Tm W' r nm l v := h.step (h.sts.below hb) (Kp.of hb)
theorem RsS.sts (h : RsS K L m Tm r nm l W) : Sts K L m Tm W := by
  obtain ⟨v, h⟩ := h
  exact h.sts.drop fun k hk => .inl hk
theorem RsS.drop {K' : Nat → Prop} (h : RsS K' L m Tm r nm l W) (hK : ∀ k, K k → K' k) : RsS K L m Tm r nm l W := by
  obtain ⟨v, h⟩ := h
  exact ⟨v, ⟨h.sts.drop fun k hk => hk.imp (hK k) id, h.at_, fun k hk e => h.off k hk (hK k e)⟩⟩
theorem RsAt.nofile (h : RsAt W r m nm l v) {φ : Phi} (hF : FilesOK W φ) : ∀ q, φ q ≠ none → q ≠ r := by
  intro q hq hb
  subst hb
  cases e : φ q with
  | none => exact hq e
  | some f =>
    have hc := hF q f e
    rw [h.box] at hc
    have h2 := Option.some.inj hc
    injection h2 with _ h3
    exact absurd h3 (by decide)
theorem RsB.store {v' : Value} {l' : List ByteArray} {w9 : World} (h : RsB K L m Tm W r nm l v) (hb : Below W.heap.size W w9) (hr : w9.ownsRow 0 9 1 v' l'.length (strV l')) (hn : ∀ k, v'.ownBlock = some k → W.heap.size ≤ k) :
    RsS K L m Tm r nm l' (w9.setCell ⟨r, 2, none⟩ v') ∧ Kp K W (w9.setCell ⟨r, 2, none⟩ v') := by
  have hrl := h.at_.lt r (.inl rfl)
  have hbx : w9.heap[r]? = some (.cells #[.pointer (some ⟨m, 0, none⟩), .string nm, v] 57 (0, 0)) := (hb.block r hrl).trans h.at_.box
  have hC : Chg (fun k => k = r) W (w9.setCell ⟨r, 2, none⟩ v') := (Chg.of_below hb (fun k => k = r)).setCell (S := fun k => k = r) (p := ⟨r, 2, none⟩) (fun _ => rfl) _
  have hrow : (w9.setCell ⟨r, 2, none⟩ v').ownsRow 0 9 1 v' l'.length (strV l') := ownsRow_block hr fun k hk => heap_setCell_other w9 ⟨r, 2, none⟩ k v' (fun e => by have := hn k hk; subst e; omega)
  obtain ⟨φ, F, B, hs⟩ := h.sts
  refine ⟨⟨v', ⟨φ, F, B, hs.chg hC (fun k e => .inr (.inl e)) (h.at_.nofile hs.fl) fun k hk => ?_⟩, ⟨?_, hrow⟩, fun k hk e => ?_⟩, hC.mono fun k _ e hk => h.off r (.inl rfl) (e ▸ hk)⟩
  · rcases hk with hk | rfl | hk
    · exact .inl (.inl hk)
    · exact .inl (.inr (.inl rfl))
    · exact .inr ⟨hn k hk, own_lt hrow k hk⟩
  · rw [heap_setCell_same w9 r 2 _ _ _ hbx]
    rfl
  · rcases hk with rfl | hk
    · exact h.off _ (.inl rfl) e
    · have := h.sts.kb k (.inl e)
      have := hn k hk
      omega
def RIdEnd (K : Nat → Prop) (L : List (Nat × TS)) (m : Nat) (Tm : TS) (r : Nat) (nm : ByteArray) (l : List ByteArray) (W : World) (x : Value) (e : Ending) (W' : World) : Prop :=
  e = .returned x ∧ RsS K L m Tm r nm l W' ∧ Kp K W W'
theorem b1S {w2 w8 : World} (h2 : (w2.alloc (.cells #[] 9)).grownBy w8 (Value.slice (some ⟨w2.heap.size, 0, none⟩) 0 0).ownBlock) : Below w2.heap.size w2 w8 :=
  (newBelow w2 _).grown h2 (by rw [World.size_alloc]; omega) fun k hk => by
    have hk : w2.heap.size = k := by simpa [Value.ownBlock] using hk
    omega
theorem v1S {w2 : World} {v8 : Value} (h4 : v8.ownBlock = (Value.slice (some ⟨w2.heap.size, 0, none⟩) 0 0).ownBlock ∨ v8.ownBlock = some (w2.alloc (.cells #[] 9)).heap.size) : ∀ k, v8.ownBlock = some k → w2.heap.size ≤ k := fun k hk => by
  rcases h4 with h4 | h4
  · rw [h4] at hk
    have hk : w2.heap.size = k := by simpa [Value.ownBlock] using hk
    omega
  · rw [h4, World.size_alloc] at hk
    have hk : w2.heap.size + 1 = k := by simpa using hk
    omega
theorem b2S {w2 w8 w9 : World} {u v8 : Value} (hB : Below w2.heap.size w2 w8) (hv : ∀ k, v8.ownBlock = some k → w2.heap.size ≤ k) (h2 : (w8.alloc (.cells #[u] 9)).grownBy w9 v8.ownBlock) : Below w2.heap.size w2 w9 :=
  (hB.alloc hB.size _).grown h2 (by rw [World.size_alloc]; have := hB.size; omega) hv
theorem v2S {w2 w8 : World} {o : Obj} {v8 v9 : Value} (hB : Below w2.heap.size w2 w8) (hv : ∀ k, v8.ownBlock = some k → w2.heap.size ≤ k) (h4 : v9.ownBlock = v8.ownBlock ∨ v9.ownBlock = some (w8.alloc o).heap.size) : ∀ k, v9.ownBlock = some k → w2.heap.size ≤ k := fun k hk => by
  have := hB.size
  rcases h4 with h4 | h4
  · rw [h4] at hk
    exact hv k hk
  · rw [h4, World.size_alloc] at hk
    have hk : w8.heap.size + 1 = k := by simpa using hk
    omega
set_option maxHeartbeats 8000000 in
set_option maxRecDepth 100000 in
theorem RsS.Id (h : RsS K L m Tm r nm l W) (hI : Inv n Tm) (hn : n ≤ 1000000) (hq : nm.size ≤ 99000) (t : ByteArray) (ht : t.size ≤ 100000) (hl : l.length ≤ 1000000) :
    Calls Tryz.prog 21 #[.pointer (some ⟨r, 0, none⟩), .string t] W (RIdEnd K L m (idT Tm nm l t) r nm (idL Tm nm l t) W (.tuple #[.int .i64 (idN Tm nm l t), .int .i64 (idE Tm nm l t)])) := by
  obtain ⟨v, h⟩ := h
  obtain ⟨c0, c1, c2⟩ := h.at_.cells
  have HH := Lib.hid h
  have HI := Lib.hid hI
  have hle := idx_le l t
  have HFD : Hid (∀ W1, Below W.heap.size W W1 → Calls Tryz.prog 26 #[.pointer (some ⟨r, 0, none⟩), .string t] W1 fun e W' => e = .returned (.int .i64 (idxB l t : Nat)) ∧ W' = W1) := fun W1 hb => rb_find (h.below hb).at_ t hl
  by_cases h0 : idxB l t = 0
  · have HN : Hid (idN Tm nm l t = if addE Tm nm [t] = 0 then ((l.length + 1 : Nat) : Int) else 0) := by unfold Hid idN; rw [if_neg (fun e => e h0)]
    have HE : Hid (idE Tm nm l t = addE Tm nm [t]) := by unfold Hid idE; rw [if_neg (fun e => e h0)]
    have HL : Hid (idL Tm nm l t = if addE Tm nm [t] = 0 then l ++ [t] else l) := by unfold Hid idL; rw [if_neg (fun e => e h0)]
    have HT : Hid (idT Tm nm l t = addT Tm nm [t]) := by unfold Hid idT; rw [if_neg (fun e => e h0)]
    have HX : Hid (∀ x ∈ [t], x.size ≤ 100000) := fun x hx => by rw [List.mem_singleton.1 hx]; exact ht
    rw [HN.out, HE.out, HL.out, HT.out]
    rw [h0] at HFD
    clear h hI h0 hle HN HE HL HT
    have HC1 := Lib.hid fun w1 : World => C_one w1 t
    have HNL : Hid (([t] : List ByteArray).length ≤ 1) := Nat.le_refl _
    generalize hadE : addE Tm nm [t] = er
    generalize hadT : addT Tm nm [t] = T1
    have HAD : Hid (∀ W1, Below W.heap.size W W1 → Calls Tryz.prog 24 #[.pointer (some ⟨m, 0, none⟩), .string nm, .slice (some ⟨W1.heap.size, 0, none⟩) 1 1] (W1.alloc (.cells #[.string t] 9)) (StEnd (fun k => K k ∨ RsF r v k) L m T1 (W1.alloc (.cells #[.string t] 9)) (.int .i64 er))) := fun W1 hb => by
      have hb2 := hb.trans ((newBelow W1 (.cells #[.string t] 9)).mono hb.size)
      have := (HH.out.below hb2).sts.rjAdd HI.out hn nm hq (some ⟨W1.heap.size, 0, none⟩) 1 [t] (HC1.out W1) (Nat.le_refl _) HX.out
      rw [hadE, hadT] at this
      exact this
    clear hadT HI HC1 HNL HX
    by_cases he : er = 0
    · subst he
      rw [if_pos rfl, if_pos rfl]
      obtain ⟨i0, hi, hz0, hz1, hz2⟩ := info_parts Hand.infoStr2
      go_enter Tryz.func21, Tryz.ntmps21
      go_upto_region 4 with (go_at_call 26; refine (HFD.out _ (Below.refl _ _)).mono ?_; rintro e w1 ⟨rfl, rfl⟩)
      have HAL : Hid (∀ o : Obj, (w1.drew.alloc o).cell? ⟨r, 0, none⟩ = some (.pointer (some ⟨m, 0, none⟩)) ∧ (w1.drew.alloc o).cell? ⟨r, 1, none⟩ = some (.string nm)) := fun o => ⟨((newBelow w1.drew o).cell (p := ⟨r, 0, none⟩) (HH.out.at_.lt r (.inl rfl))).trans c0, ((newBelow w1.drew o).cell (p := ⟨r, 1, none⟩) (HH.out.at_.lt r (.inl rfl))).trans c1⟩
      go_region_held3 (fun W => W.cell? ⟨r, 0, none⟩ = some (.pointer (some ⟨m, 0, none⟩)) ∧ W.cell? ⟨r, 1, none⟩ = some (.string nm)) (first | exact ⟨HS.out.at_.cells.1, HS.out.at_.cells.2.1⟩ | exact HAL.out _ | exact ⟨c0, c1⟩) (first | (go_at_call 24; refine (HAD.out w1.drew (Below.refl _ w1).drew).mono ?_; rintro e w2 ⟨rfl, hs, hk⟩; have hk2 := (Kp.of (K := fun k => K k ∨ RsF r v k) ((Below.refl _ w1).drew.trans (newBelow w1.drew (.cells #[.string t] 9)))).trans hk; have HS := Lib.hid (HH.out.step hs hk2); have HK := Lib.hid (hk2.mono (K' := K) fun k hk => .inl hk); clear hs hk hk2))
      clear c0 c1 c2
      obtain ⟨c0, c1, c2⟩ := HS.out.at_.cells
      go_upto_region 7 with fail
      have HLN : Hid (l.length ≤ 1000000) := hl
      have HO0 := Lib.hid (own_emptyS w2)
      have H63a : Hid (0 + l.length ≤ maxLen) := by unfold Hid maxLen; omega
      have HBYa : Hid ((0 + l.length) * 16 ≤ 140737488355328) := by unfold Hid; omega
      have H63b : Hid (l.length + 1 ≤ maxLen) := by unfold Hid maxLen; omega
      have HBYb : Hid ((l.length + 1) * 16 ≤ 140737488355328) := by unfold Hid; omega
      have HONE : Hid (∀ u ∈ [Value.string t], u.oneCell' = true) := fun u hu => by rw [List.mem_singleton.1 hu]; rfl
      have HSTO : Hid (∀ (v' : Value) (w9 : World), Below w2.heap.size w2 w9 → w9.ownsRow 0 9 1 v' (l.length + 1) (strV l ++ [.string t]) → (∀ k, v'.ownBlock = some k → w2.heap.size ≤ k) → RsS K L m T1 r nm (l ++ [t]) (w9.setCell ⟨r, 2, none⟩ v') ∧ Kp K w2 (w9.setCell ⟨r, 2, none⟩ v')) := fun v' w9 hb hr hn => by
        refine HS.out.store hb ?_ hn
        rw [List.length_append, str_app]
        exact hr
      have ca2 := ((newBelow w2 (.cells #[] 9)).cell (p := ⟨r, 2, none⟩) (HS.out.at_.lt r (.inl rfl))).trans c2
      rcases HS.out.at_.row.2 with ⟨e, en⟩ | ⟨g, cap, cur, e, -⟩
      · subst e
        have hl0 : l = [] := List.length_eq_zero_iff.1 en
        subst hl0
        have HRW := Lib.hid (HO0.out.alloc (.cells #[.string t] 9))
        have hnw := newS (w2.alloc (.cells #[] 9)) (.string t)
        rw [World.size_alloc] at hnw
        have HNW := Lib.hid hnw
        clear hnw
        go_upto_region 9 with (first
          | (at_builtin; refine wpList_append_own_at _ rfl _ _ 22 rfl 0 9 i0 _ 1 16 Tryz.underlying22 hi hz0 hz1 hz2 rfl (by decide) (.slice (some ⟨w2.heap.size, 0, none⟩) 0 0) 0 [] rfl HRW.out ⟨w2.heap.size + 1, 0, none⟩ 1 1 [.string t] rfl rfl HNW.out HONE.out (by unfold maxLen; omega) (by omega) (Nat.zero_le _) ?_; intro v9 w9 h1 h2 h3 h4; have hB9 := b2S (newBelow w2 _) (v1S (.inl rfl)) h2; have hv9 := v2S (newBelow w2 _) (v1S (.inl rfl)) h4; obtain ⟨A9, n9, rfl⟩ : ∃ A9 n9, v9 = .slice A9 (0 + 1) n9 := (by rcases h1.2 with ⟨-, e⟩ | ⟨g, cap, cur, e, -⟩; exact absurd e (by omega); exact ⟨_, _, e⟩); have HEND := Lib.hid (HSTO.out _ _ hB9 h1 hv9); have hrl := HS.out.at_.lt r (.inl rfl); have hbx := (hB9.block r hrl).trans HS.out.at_.box; have d2 : w9.cell? ⟨r, 2, none⟩ = some (.slice none 0 0) := cell_box hbx 2 rfl; have f2 : w9.frozen? ⟨r, 2, none⟩ = false := (by simp [World.frozen?, hbx]); rw [Nat.zero_add] at HEND; rw [Nat.zero_add]; clear h1 h2 h3 h4 hB9 hv9 hrl hbx))
        go_wp2
        exact bodyPost_ret (v := .tuple #[.int .i64 ((1 : Nat) : Int), .int .i64 0]) (by simp [results, Tryz.results21, go_sem]) rfl ⟨rfl, HEND.out.1, HK.out.trans HEND.out.2⟩
      · subst e
        have HNWa : Hid (∀ (j : Nat) u, (strV l)[j]? = some u → (w2.alloc (.cells #[] 9)).cell? ((⟨g, 0, none⟩ : Addr).add j) = some u) := fun j u h => (HS.out.at_.row.alloc (.cells #[] 9)).cells (g := g) rfl j u h
        have HONa : Hid (∀ u ∈ strV l, u.oneCell' = true) := fun u hu => by obtain ⟨x, -, rfl⟩ := List.mem_map.1 hu; rfl
        have HLNa : Hid ((strV l).length = l.length * 1) := by rw [Hid, List.length_map, Nat.mul_one]
        go_upto_region 9 with (first
          | (at_builtin; refine wpList_append_own_at _ rfl _ _ 22 rfl 0 9 i0 _ 1 16 Tryz.underlying22 hi hz0 hz1 hz2 rfl (by decide) (.slice (some ⟨w2.heap.size, 0, none⟩) 0 0) 0 [] rfl HO0.out ⟨g, 0, none⟩ l.length cap (strV l) rfl HLNa.out HNWa.out HONa.out H63a.out HBYa.out (Nat.zero_le _) ?_; intro v8 w8 h1 h2 h3 h4; rw [Nat.zero_add, List.nil_append] at h1; have HB8 := Lib.hid (b1S h2); have HR8 := Lib.hid h1; have HV8 := Lib.hid (v1S h4); obtain ⟨A8, n8, rfl⟩ : ∃ A8 n8, v8 = .slice A8 l.length n8 := (own_sl h1); have HRW := Lib.hid (h1.alloc (.cells #[.string t] 9)); have HNW := Lib.hid (newS w8 (.string t)); clear h1 h2 h3 h4)
          | (at_builtin; refine wpList_append_own_at _ rfl _ _ 22 rfl 0 9 i0 _ 1 16 Tryz.underlying22 hi hz0 hz1 hz2 rfl (by decide) (.slice A8 l.length n8) l.length (strV l) rfl HRW.out ⟨w8.heap.size, 0, none⟩ 1 1 [.string t] rfl rfl HNW.out HONE.out H63b.out HBYb.out (Nat.zero_le _) ?_; intro v9 w9 h1 h2 h3 h4; have hB9 := b2S HB8.out HV8.out h2; have hv9 := v2S HB8.out HV8.out h4; obtain ⟨A9, n9, rfl⟩ : ∃ A9 n9, v9 = .slice A9 (l.length + 1) n9 := (by rcases h1.2 with ⟨-, e⟩ | ⟨g, cap, cur, e, -⟩; exact absurd e (by omega); exact ⟨_, _, e⟩); have HEND := Lib.hid (HSTO.out _ _ hB9 h1 hv9); have hrl := HS.out.at_.lt r (.inl rfl); have hbx := (hB9.block r hrl).trans HS.out.at_.box; have d2 : w9.cell? ⟨r, 2, none⟩ = some (.slice (some ⟨g, 0, none⟩) l.length cap) := cell_box hbx 2 rfl; have f2 : w9.frozen? ⟨r, 2, none⟩ = false := (by simp [World.frozen?, hbx]); clear h1 h2 h3 h4 hB9 hv9 hrl hbx))
        go_wp2
        exact bodyPost_ret (v := .tuple #[.int .i64 ((l.length + 1 : Nat) : Int), .int .i64 0]) (by simp [results, Tryz.results21, go_sem]) rfl ⟨rfl, HEND.out.1, HK.out.trans HEND.out.2⟩
    · rw [if_neg he, if_neg he]
      go_enter Tryz.func21, Tryz.ntmps21
      go_upto_region 4 with (go_at_call 26; refine (HFD.out _ (Below.refl _ _)).mono ?_; rintro e w1 ⟨rfl, rfl⟩)
      have HAL : Hid (∀ o : Obj, (w1.drew.alloc o).cell? ⟨r, 0, none⟩ = some (.pointer (some ⟨m, 0, none⟩)) ∧ (w1.drew.alloc o).cell? ⟨r, 1, none⟩ = some (.string nm)) := fun o => ⟨((newBelow w1.drew o).cell (p := ⟨r, 0, none⟩) (HH.out.at_.lt r (.inl rfl))).trans c0, ((newBelow w1.drew o).cell (p := ⟨r, 1, none⟩) (HH.out.at_.lt r (.inl rfl))).trans c1⟩
      go_region_held3 (fun W => W.cell? ⟨r, 0, none⟩ = some (.pointer (some ⟨m, 0, none⟩)) ∧ W.cell? ⟨r, 1, none⟩ = some (.string nm)) (first | exact ⟨HS.out.at_.cells.1, HS.out.at_.cells.2.1⟩ | exact HAL.out _ | exact ⟨c0, c1⟩) (first | (go_at_call 24; refine (HAD.out w1.drew (Below.refl _ w1).drew).mono ?_; rintro e w2 ⟨rfl, hs, hk⟩; have hk2 := (Kp.of (K := fun k => K k ∨ RsF r v k) ((Below.refl _ w1).drew.trans (newBelow w1.drew (.cells #[.string t] 9)))).trans hk; have HS := Lib.hid (HH.out.step hs hk2); have HK := Lib.hid (hk2.mono (K' := K) fun k hk => .inl hk); clear hs hk hk2))
      go_wp2_with fail
      exact bodyPost_ret (v := .tuple #[.int .i64 0, .int .i64 er]) (by simp [results, Tryz.results21, go_sem]) rfl ⟨rfl, ⟨v, HS.out⟩, HK.out⟩
  · have HN : Hid (idN Tm nm l t = (idxB l t : Nat)) := by unfold Hid idN; rw [if_pos h0]
    have HE : Hid (idE Tm nm l t = 0) := by unfold Hid idE; rw [if_pos h0]
    have HL : Hid (idL Tm nm l t = l) := by unfold Hid idL; rw [if_pos h0]
    have HT : Hid (idT Tm nm l t = Tm) := by unfold Hid idT; rw [if_pos h0]
    rw [HN.out, HE.out, HL.out, HT.out]
    generalize idxB l t = k at HFD h0 hle ⊢
    have h1 : 0 < k := by omega
    clear h hI h0 HN HE HL HT
    go_enter Tryz.func21, Tryz.ntmps21
    go_wp2_with (go_at_call 26; refine (HFD.out _ (Below.refl _ _)).mono ?_; rintro e w1 ⟨rfl, rfl⟩)
    exact bodyPost_ret (v := .tuple #[.int .i64 (k : Nat), .int .i64 0]) (by simp [results, Tryz.results21, go_sem]) rfl ⟨rfl, ⟨v, HH.out⟩, Kp.of (Below.refl _ _)⟩
end
end Go.Proofs.YtghbaehbgefpaaaGreatDoor.Fr
