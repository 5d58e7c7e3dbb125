import Derived.Test.YtghbaehbgefpaaaGreatDoorQ24
import Derived.Maps.AppendAt
/- Several texts of this session in one: the walks of the functions that the laws reach, and what they tell. -/
set_option linter.unusedVariables false
set_option linter.unusedSimpArgs false
namespace Go.Proofs.YtghbaehbgefpaaaGreatDoor.Fr
open Go.RowKit Go.Proofs.YtghbaehbgefpaaaGreatDoor.F Go.Maps
section
variable {φ : Phi} {p : Nat} {T : TS} {A : Nat → Prop}
theorem errEnd {w w' : World} {k : Int} {e : Ending} (hT : Tr w φ p T A) {stays : Bool} {q s : ByteArray} (hk : writeE T stays q s = k) (hk0 : k ≠ 0) (h : e = .returned (.int .i64 k) ∧ Below w.heap.size w w') :
    e = .returned (.int .i64 (writeE T stays q s)) ∧ TrEnd w φ p A (writeT T stays q s) w' := by
  unfold writeT
  rw [hk, if_neg hk0]
  exact ⟨h.1, TrEnd.same hT h.2⟩
theorem okEnd {w w' : World} {e : Ending} {stays : Bool} {q s : ByteArray} (hk : writeE T stays q s = 0) (h : e = .returned (.int .i64 0) ∧ TrEnd w φ p A (doneT T (writeC T stays q s)) w') :
    e = .returned (.int .i64 (writeE T stays q s)) ∧ TrEnd w φ p A (writeT T stays q s) w' := by
  unfold writeT
  rw [hk, if_pos rfl]
  exact h
theorem wE1 {T : TS} {stays : Bool} {q s : ByteArray} (h : pathV q = false) : writeE T stays q s = 1 := by unfold writeE; rw [if_pos h]
theorem wE3 {T : TS} {stays : Bool} {q s : ByteArray} (h : pathV q = true) (h2 : 16777216 < sizeT T stays q s) : writeE T stays q s = 3 := by
  unfold writeE
  rw [if_neg (by rw [h]; decide), if_pos h2]
theorem wE5 {T : TS} {stays : Bool} {q s : ByteArray} (h : pathV q = true) (h2 : sizeT T stays q s ≤ 16777216) (h3 : blockT T.l q ⟨#[]⟩ = true) : writeE T stays q s = 5 := by
  unfold writeE
  rw [if_neg (by rw [h]; decide), if_neg (by omega), if_pos h3]
theorem wE6 {T : TS} {stays : Bool} {q s : ByteArray} (h : pathV q = true) (h2 : sizeT T stays q s ≤ 16777216) (h3 : blockT T.l q ⟨#[]⟩ = false) (h4 : fullT T stays q s = true) : writeE T stays q s = 6 := by
  unfold writeE
  rw [if_neg (by rw [h]; decide), if_neg (by omega), if_neg (by rw [h3]; decide), if_pos h4]
theorem wE0 {T : TS} {stays : Bool} {q s : ByteArray} (h : pathV q = true) (h2 : sizeT T stays q s ≤ 16777216) (h3 : blockT T.l q ⟨#[]⟩ = false) (h4 : fullT T stays q s = false) : writeE T stays q s = 0 := by
  unfold writeE
  rw [if_neg (by rw [h]; decide), if_neg (by omega), if_neg (by rw [h3]; decide), if_neg (by rw [h4]; decide)]
theorem full_room {T : TS} {stays : Bool} {q s : ByteArray} (h : T.room < (usedF T.l : Int) - hadT T q + sizeT T stays q s) : fullT T stays q s = true := by
  unfold fullT
  rw [decide_eq_true h]
  rfl
theorem full_many {T : TS} {stays : Bool} {q s : ByteArray} (h : 200 < manyT T q) : fullT T stays q s = true := by
  unfold fullT
  rw [decide_eq_true h]
  simp
theorem full_no {T : TS} {stays : Bool} {q s : ByteArray} (h : ¬ T.room < (usedF T.l : Int) - hadT T q + sizeT T stays q s) (h2 : manyT T q ≤ 200) : fullT T stays q s = false := by
  unfold fullT
  rw [decide_eq_false h, decide_eq_false (by omega)]
  rfl
theorem write_call (w : World) (hT : Tr w φ p T A) (hG : Glob w) (hO : TOK T) (stays : Bool) (q s : ByteArray) (hq : q.size ≤ 100000) (hs : s.size ≤ 1000000000) :
    Calls Tryz.prog 74 #[.pointer (some ⟨p, 0, none⟩), .string q, .string s, .bool stays] w fun e w' => e = .returned (.int .i64 (writeE T stays q s)) ∧ TrEnd w φ p A (writeT T stays q s) w' := by
  cases hf : findF T.l q with
  | none =>
    have hh : hadT T q = 0 := by unfold hadT textF; rw [hf]; rfl
    have hm : manyT T q = T.l.length + 1 := by unfold manyT; rw [hf]; rfl
    cases stays with
    | true =>
      have hz : sizeT T true q s = s.size := by unfold sizeT; rw [if_pos rfl, hh]; rfl
      cases hp : pathV q with
      | false => exact (wr_n_true_e1 hT hG hO hq hs hf hp).mono fun e w' h => errEnd hT (wE1 hp) (by decide) h
      | true =>
        by_cases h2 : 16777216 < s.size
        · exact (wr_n_true_e3 hT hG hO hq hs hf hp h2).mono fun e w' h => errEnd hT (wE3 hp (by omega)) (by decide) h
        · cases h3 : blockT T.l q ⟨#[]⟩ with
          | true => exact (wr_n_true_e5 hT hG hO hq hs hf hp (by omega) h3).mono fun e w' h => errEnd hT (wE5 hp (by omega) h3) (by decide) h
          | false =>
            by_cases h4 : T.room < (usedF T.l : Int) - 0 + ((s.size : Nat) : Int)
            · exact (wr_n_true_e6 hT hG hO hq hs hf hp (by omega) h3 h4).mono fun e w' h => errEnd hT (wE6 hp (by omega) h3 (full_room (by rw [hh, hz]; exact h4))) (by decide) h
            · by_cases h5 : 200 < T.l.length + 1
              · exact (wr_n_true_e7 hT hG hO hq hs hf hp (by omega) h3 h4 h5).mono fun e w' h => errEnd hT (wE6 hp (by omega) h3 (full_many (by rw [hm]; exact h5))) (by decide) h
              · exact (wr_n_true_ok hT hG hO hq hs hf hp (by omega) h3 h4 (by omega)).mono fun e w' h => okEnd (wE0 hp (by omega) h3 (full_no (by rw [hh, hz]; exact h4) (by omega))) h
    | false =>
      have hz : sizeT T false q s = s.size := by unfold sizeT; rw [if_neg (by decide)]
      cases hp : pathV q with
      | false => exact (wr_n_false_e1 hT hG hO hq hs hf hp).mono fun e w' h => errEnd hT (wE1 hp) (by decide) h
      | true =>
        by_cases h2 : 16777216 < s.size
        · exact (wr_n_false_e3 hT hG hO hq hs hf hp h2).mono fun e w' h => errEnd hT (wE3 hp (by omega)) (by decide) h
        · cases h3 : blockT T.l q ⟨#[]⟩ with
          | true => exact (wr_n_false_e5 hT hG hO hq hs hf hp (by omega) h3).mono fun e w' h => errEnd hT (wE5 hp (by omega) h3) (by decide) h
          | false =>
            by_cases h4 : T.room < (usedF T.l : Int) - 0 + ((s.size : Nat) : Int)
            · exact (wr_n_false_e6 hT hG hO hq hs hf hp (by omega) h3 h4).mono fun e w' h => errEnd hT (wE6 hp (by omega) h3 (full_room (by rw [hh, hz]; exact h4))) (by decide) h
            · by_cases h5 : 200 < T.l.length + 1
              · exact (wr_n_false_e7 hT hG hO hq hs hf hp (by omega) h3 h4 h5).mono fun e w' h => errEnd hT (wE6 hp (by omega) h3 (full_many (by rw [hm]; exact h5))) (by decide) h
              · exact (wr_n_false_ok hT hG hO hq hs hf hp (by omega) h3 h4 (by omega)).mono fun e w' h => okEnd (wE0 hp (by omega) h3 (full_no (by rw [hh, hz]; exact h4) (by omega))) h
  | some f =>
    have hf1 : f.f1.size ≤ 1000000000 := hO.texts f (mem_of_find hf)
    have hh : hadT T q = f.f1.size := by unfold hadT textF; rw [hf]
    have hm : manyT T q = T.l.length := by unfold manyT; rw [hf]; rfl
    cases stays with
    | true =>
      have hz : sizeT T true q s = s.size + f.f1.size := by unfold sizeT; rw [if_pos rfl, hh]
      cases hp : pathV q with
      | false => exact (wr_s_true_e1 hT hG hO hq hs f hf hf1 hp).mono fun e w' h => errEnd hT (wE1 hp) (by decide) h
      | true =>
        by_cases h2 : 16777216 < s.size + f.f1.size
        · exact (wr_s_true_e3 hT hG hO hq hs f hf hf1 hp h2).mono fun e w' h => errEnd hT (wE3 hp (by omega)) (by decide) h
        · cases h3 : blockT T.l q ⟨#[]⟩ with
          | true => exact (wr_s_true_e5 hT hG hO hq hs f hf hf1 hp (by omega) h3).mono fun e w' h => errEnd hT (wE5 hp (by omega) h3) (by decide) h
          | false =>
            by_cases h4 : T.room < (usedF T.l : Int) - (f.f1.size : Int) + ((s.size + f.f1.size : Nat) : Int)
            · exact (wr_s_true_e6 hT hG hO hq hs f hf hf1 hp (by omega) h3 h4).mono fun e w' h => errEnd hT (wE6 hp (by omega) h3 (full_room (by rw [hh, hz]; exact h4))) (by decide) h
            · by_cases h5 : 200 < T.l.length
              · exact (wr_s_true_e7 hT hG hO hq hs f hf hf1 hp (by omega) h3 h4 h5).mono fun e w' h => errEnd hT (wE6 hp (by omega) h3 (full_many (by rw [hm]; exact h5))) (by decide) h
              · exact (wr_s_true_ok hT hG hO hq hs f hf hf1 hp (by omega) h3 h4 (by omega)).mono fun e w' h => okEnd (wE0 hp (by omega) h3 (full_no (by rw [hh, hz]; exact h4) (by omega))) h
    | false =>
      have hz : sizeT T false q s = s.size := by unfold sizeT; rw [if_neg (by decide)]
      cases hp : pathV q with
      | false => exact (wr_s_false_e1 hT hG hO hq hs f hf hf1 hp).mono fun e w' h => errEnd hT (wE1 hp) (by decide) h
      | true =>
        by_cases h2 : 16777216 < s.size
        · exact (wr_s_false_e3 hT hG hO hq hs f hf hf1 hp h2).mono fun e w' h => errEnd hT (wE3 hp (by omega)) (by decide) h
        · cases h3 : blockT T.l q ⟨#[]⟩ with
          | true => exact (wr_s_false_e5 hT hG hO hq hs f hf hf1 hp (by omega) h3).mono fun e w' h => errEnd hT (wE5 hp (by omega) h3) (by decide) h
          | false =>
            by_cases h4 : T.room < (usedF T.l : Int) - (f.f1.size : Int) + ((s.size : Nat) : Int)
            · exact (wr_s_false_e6 hT hG hO hq hs f hf hf1 hp (by omega) h3 h4).mono fun e w' h => errEnd hT (wE6 hp (by omega) h3 (full_room (by rw [hh, hz]; exact h4))) (by decide) h
            · by_cases h5 : 200 < T.l.length
              · exact (wr_s_false_e7 hT hG hO hq hs f hf hf1 hp (by omega) h3 h4 h5).mono fun e w' h => errEnd hT (wE6 hp (by omega) h3 (full_many (by rw [hm]; exact h5))) (by decide) h
              · exact (wr_s_false_ok hT hG hO hq hs f hf hf1 hp (by omega) h3 h4 (by omega)).mono fun e w' h => okEnd (wE0 hp (by omega) h3 (full_no (by rw [hh, hz]; exact h4) (by omega))) h
set_option maxHeartbeats 1000000 in
set_option maxRecDepth 100000 in
theorem Write_call (w : World) (hT : Tr w φ p T A) (hG : Glob w) (hO : TOK T) (q s : ByteArray) (hq : q.size ≤ 100000) (hs : s.size ≤ 1000000000) :
    Calls Tryz.prog 52 #[.pointer (some ⟨p, 0, none⟩), .string q, .string s] w fun e w' => e = .returned (.int .i64 (writeE T false q s)) ∧ TrEnd w φ p A (writeT T false q s) w' := by
  have H := Lib.hid (write_call w hT hG hO false q s hq hs)
  clear hT hG hO
  go_enter Tryz.func52, Tryz.ntmps52
  go_wp2_with (first | (go_at_call 74; refine H.out.mono ?_; rintro e w' ⟨rfl, h⟩; have HE := Lib.hid h; clear h))
  go_ret
  exact ⟨rfl, HE.out⟩
set_option maxHeartbeats 1000000 in
set_option maxRecDepth 100000 in
theorem Append_call (w : World) (hT : Tr w φ p T A) (hG : Glob w) (hO : TOK T) (q s : ByteArray) (hq : q.size ≤ 100000) (hs : s.size ≤ 1000000000) :
    Calls Tryz.prog 45 #[.pointer (some ⟨p, 0, none⟩), .string q, .string s] w fun e w' => e = .returned (.int .i64 (writeE T true q s)) ∧ TrEnd w φ p A (writeT T true q s) w' := by
  have H := Lib.hid (write_call w hT hG hO true q s hq hs)
  clear hT hG hO
  go_enter Tryz.func45, Tryz.ntmps45
  go_wp2_with (first | (go_at_call 74; refine H.out.mono ?_; rintro e w' ⟨rfl, h⟩; have HE := Lib.hid h; clear h))
  go_ret
  exact ⟨rfl, HE.out⟩
def removeE (T : TS) (q : ByteArray) : Int := if (findF T.l q).isSome = true then 0 else 4
def removeT (T : TS) (q : ByteArray) : TS := if removeE T q = 0 then doneT T ⟨3, q, ⟨#[]⟩, 0⟩ else T
set_option maxHeartbeats 1000000 in
set_option maxRecDepth 100000 in
theorem Remove_call (w : World) (hT : Tr w φ p T A) (hO : TOK T) (q : ByteArray) (hq : q.size ≤ 100000) :
    Calls Tryz.prog 49 #[.pointer (some ⟨p, 0, none⟩), .string q] w fun e w' => e = .returned (.int .i64 (removeE T q)) ∧ TrEnd w φ p A (removeT T q) w' := by
  have HX := Lib.hid hT
  have HO := Lib.hid hO
  obtain ⟨bn, bl, v, h⟩ := hT
  have HT := Lib.hid h
  have c2 := h.c2
  clear h hO
  cases hf : findF T.l q with
  | none =>
    have HN := Lib.hid hf
    have h1 : Hid (removeE T q = 4) := by unfold removeE; rw [Hid, hf]; rfl
    have h2 : Hid (removeT T q = T) := by unfold removeT; rw [Hid, h1.out]; rfl
    clear hf
    rw [h1.out, h2.out]
    go_enter Tryz.func49, Tryz.ntmps49
    go_wp2_with (first
      | (at_lookup; refine wpList_look_none _ rfl _ _ rfl bn q rfl HT.out.now rfl hq HN.out ?_))
    go_ret
    exact ⟨rfl, TrEnd.same HX.out (Below.refl _ _)⟩
  | some f =>
    have HN := Lib.hid hf
    have h1 : Hid (removeE T q = 0) := by unfold removeE; rw [Hid, hf]; rfl
    have h2 : Hid (removeT T q = doneT T ⟨3, q, ⟨#[]⟩, 0⟩) := by unfold removeT; rw [Hid, h1.out]; rfl
    clear hf
    rw [h1.out, h2.out]
    have HD : Hid (Calls Tryz.prog 80 #[.pointer (some ⟨p, 0, none⟩), .agg #[.int .i64 2, .string q, .string ⟨#[]⟩, .int .i64 0]] w fun e w' => e = .returned (.int .i64 0) ∧ TrEnd w φ p A (doneT T ⟨3, q, ⟨#[]⟩, 0⟩) w') :=
      done_call w HX.out ⟨3, q, ⟨#[]⟩, 0⟩ ⟨.inr (.inr (.inl rfl)), hq, Nat.zero_le _, fun e => absurd e (show ¬ ((3 : Int) = 4) by decide)⟩ HO.out.many (fun f hf => Nat.le_trans (HO.out.texts f hf) (by decide)) HO.out.clock HO.out.chs
    go_enter Tryz.func49, Tryz.ntmps49
    go_wp2_with (first
      | (at_lookup; refine wpList_look_some _ rfl _ _ rfl bn q rfl HT.out.now rfl hq _ HN.out ?_; intro qb hqb; clear hqb)
      | (go_at_call 80; refine HD.out.mono ?_; rintro e w4 ⟨rfl, he4⟩; have HE4 := Lib.hid he4; clear he4))
    go_ret
    exact ⟨rfl, HE4.out⟩
def renameE (T : TS) (a b : ByteArray) : Int :=
  if (findF T.l a).isSome = false then 4 else if pathV b = false then 1 else if sameB a b = true then 0 else if blockT T.l b a = true then 5 else 0
def renameT (T : TS) (a b : ByteArray) : TS := if (findF T.l a).isSome = true ∧ pathV b = true ∧ sameB a b = false ∧ blockT T.l b a = false then doneT T ⟨4, a, b, 0⟩ else T
set_option maxHeartbeats 4000000 in
set_option maxRecDepth 100000 in
theorem Rename_call (w : World) (hT : Tr w φ p T A) (hG : Glob w) (hO : TOK T) (q r : ByteArray) (hq : q.size ≤ 100000) (hr : r.size ≤ 100000) :
    Calls Tryz.prog 53 #[.pointer (some ⟨p, 0, none⟩), .string q, .string r] w fun e w' => e = .returned (.int .i64 (renameE T q r)) ∧ TrEnd w φ p A (renameT T q r) w' := by
  have HX := Lib.hid hT
  have HO := Lib.hid hO
  have HG := Lib.hid hG
  obtain ⟨bn, bl, v, h⟩ := hT
  have HT := Lib.hid h
  have c2 := h.c2
  clear h hO hG
  cases hf : findF T.l q with
  | none =>
    have HN := Lib.hid hf
    have h1 : Hid (renameE T q r = 4) := by unfold renameE; rw [Hid, hf]; rfl
    have h2 : Hid (renameT T q r = T) := by unfold renameT; rw [Hid, hf]; exact if_neg (by simp)
    clear hf
    rw [h1.out, h2.out]
    go_enter Tryz.func53, Tryz.ntmps53
    go_wp2_with (first
      | (at_lookup; refine wpList_look_none _ rfl _ _ rfl bn q rfl HT.out.now rfl hq HN.out ?_))
    go_ret
    exact ⟨rfl, TrEnd.same HX.out (Below.refl _ _)⟩
  | some f =>
    have HN := Lib.hid hf
    cases hp : pathV r with
    | false =>
      have h1 : Hid (renameE T q r = 1) := by unfold renameE; rw [Hid, hf, hp]; rfl
      have h2 : Hid (renameT T q r = T) := by unfold renameT; rw [Hid, hp]; exact if_neg (by simp)
      have HP := Lib.hid hp
      clear hf hp
      rw [h1.out, h2.out]
      go_enter Tryz.func53, Tryz.ntmps53
      go_wp2_with (first
        | (at_lookup; refine wpList_look_some _ rfl _ _ rfl bn q rfl HT.out.now rfl hq _ HN.out ?_; intro qb hqb; clear hqb)
        | (go_at_call 42; refine (path_call r hr _ HG.out).mono ?_; rintro e w1 ⟨rfl, hb1⟩; rw [HP.out]; have HB1 := Lib.hid hb1; clear hb1))
      go_ret
      exact ⟨rfl, TrEnd.same HX.out HB1.out⟩
    | true =>
      have HP := Lib.hid hp
      have hse : (q.toList == r.toList) = sameB q r := by unfold sameB; rw [ByteArray.toList_eq, ByteArray.toList_eq]
      cases hs : sameB q r with
      | true =>
        have h1 : Hid (renameE T q r = 0) := by unfold renameE; rw [Hid, hf, hp, hs]; rfl
        have h2 : Hid (renameT T q r = T) := by unfold renameT; rw [Hid, hs]; exact if_neg (by simp)
        rw [hs] at hse
        clear hf hp hs
        rw [h1.out, h2.out]
        go_enter Tryz.func53, Tryz.ntmps53
        go_wp2_with (first
          | (at_lookup; refine wpList_look_some _ rfl _ _ rfl bn q rfl HT.out.now rfl hq _ HN.out ?_; intro qb hqb; clear hqb)
          | (go_at_call 42; refine (path_call r hr _ HG.out).mono ?_; rintro e w1 ⟨rfl, hb1⟩; rw [HP.out]; have HB1 := Lib.hid hb1; clear hb1))
        go_ret
        exact ⟨rfl, TrEnd.same HX.out HB1.out⟩
      | false =>
        cases hb : blockT T.l r q with
        | true =>
          have h1 : Hid (renameE T q r = 5) := by unfold renameE; rw [Hid, hf, hp, hs, hb]; rfl
          have h2 : Hid (renameT T q r = T) := by unfold renameT; rw [Hid, hb]; exact if_neg (by simp)
          have H3 := Lib.hid hb
          rw [hs] at hse
          clear hf hp hs hb
          rw [h1.out, h2.out]
          go_enter Tryz.func53, Tryz.ntmps53
          go_wp2_with (first
            | (at_lookup; refine wpList_look_some _ rfl _ _ rfl bn q rfl HT.out.now rfl hq _ HN.out ?_; intro qb hqb; clear hqb)
            | (go_at_call 42; refine (path_call r hr _ HG.out).mono ?_; rintro e w1 ⟨rfl, hb1⟩; rw [HP.out]; have HB1 := Lib.hid hb1; clear hb1)
            | (go_at_call 83; refine (blocked_call _ (HX.out.below HB1.out) r q hr HO.out.paths).mono ?_; rintro e w2 ⟨rfl, hb2⟩; rw [H3.out]; have HB2 := Lib.hid (HB1.out.trans (hb2.mono HB1.out.size)); clear hb2))
          go_ret
          exact ⟨rfl, TrEnd.same HX.out HB2.out⟩
        | false =>
          have h1 : Hid (renameE T q r = 0) := by unfold renameE; rw [Hid, hf, hp, hs, hb]; rfl
          have h2 : Hid (renameT T q r = doneT T ⟨4, q, r, 0⟩) := by unfold renameT; rw [Hid, hf, hp, hs, hb]; exact if_pos ⟨rfl, rfl, rfl, rfl⟩
          have H3 := Lib.hid hb
          have HD : Hid (∀ W, Tr W φ p T A → Calls Tryz.prog 80 #[.pointer (some ⟨p, 0, none⟩), .agg #[.int .i64 3, .string q, .string r, .int .i64 0]] W fun e w' => e = .returned (.int .i64 0) ∧ TrEnd W φ p A (doneT T ⟨4, q, r, 0⟩) w') := fun W hW =>
            done_call W hW ⟨4, q, r, 0⟩ ⟨.inr (.inr (.inr rfl)), hq, Nat.le_trans hr (by decide), fun _ => hr⟩ HO.out.many (fun f hf => Nat.le_trans (HO.out.texts f hf) (by decide)) HO.out.clock HO.out.chs
          rw [hs] at hse
          clear hf hp hs hb
          rw [h1.out, h2.out]
          go_enter Tryz.func53, Tryz.ntmps53
          go_wp2_with (first
            | (at_lookup; refine wpList_look_some _ rfl _ _ rfl bn q rfl HT.out.now rfl hq _ HN.out ?_; intro qb hqb; clear hqb)
            | (go_at_call 42; refine (path_call r hr _ HG.out).mono ?_; rintro e w1 ⟨rfl, hb1⟩; rw [HP.out]; have HB1 := Lib.hid hb1; clear hb1)
            | (go_at_call 83; refine (blocked_call _ (HX.out.below HB1.out) r q hr HO.out.paths).mono ?_; rintro e w2 ⟨rfl, hb2⟩; rw [H3.out]; have HB2 := Lib.hid (HB1.out.trans (hb2.mono HB1.out.size)); clear hb2)
            | (go_at_call 80; refine (HD.out _ (HX.out.below HB2.out)).mono ?_; rintro e w4 ⟨rfl, he4⟩; have HE4 := Lib.hid he4; clear he4))
          go_ret
          exact ⟨rfl, HE4.out.left HB2.out⟩
end
def newT (room : Int) : TS := ⟨room, 0, [], [], []⟩
def NewEnd (w : World) (φ : Phi) (T : TS) (e : Ending) (w' : World) : Prop :=
  ∃ p A, e = .returned (.tuple #[.pointer (some ⟨p, 0, none⟩), .int .i64 0]) ∧ Tr w' φ p T A ∧ Below w.heap.size w w' ∧ ∀ k, A k → w.heap.size ≤ k
theorem new_end {w : World} {φ : Phi} (hF : FilesOK w φ) (room : Int) :
    NewEnd w φ (newT room) (.returned (.tuple #[.pointer (some ⟨w.heap.size + 1 + 1, 0, none⟩), .int .i64 0])) (((w.alloc (.map #[] 0)).alloc (.map #[] 0)).alloc (.cells #[.int .i64 room, .int .i64 0, .map (some w.heap.size), .map (some (w.heap.size + 1)), .slice none 0 0] 76)) := by
  obtain ⟨W1, hW1⟩ : ∃ W1, W1 = w.alloc (.map #[] 0) := ⟨_, rfl⟩
  obtain ⟨W2, hW2⟩ : ∃ W2, W2 = W1.alloc (.map #[] 0) := ⟨_, rfl⟩
  rw [← hW1, ← hW2]
  have s1 : W1.heap.size = w.heap.size + 1 := by rw [hW1, World.size_alloc]
  have s2 : W2.heap.size = w.heap.size + 1 + 1 := by rw [hW2, World.size_alloc, s1]
  have hb1 : Below w.heap.size w W1 := by rw [hW1]; exact newBelow _ _
  have hb2 : Below W1.heap.size W1 W2 := by rw [hW2]; exact newBelow _ _
  have hb3 := newBelow W2 (.cells #[.int .i64 room, .int .i64 0, .map (some w.heap.size), .map (some (w.heap.size + 1)), .slice none 0 0] 76)
  have hb : Below w.heap.size w (W2.alloc (.cells #[.int .i64 room, .int .i64 0, .map (some w.heap.size), .map (some (w.heap.size + 1)), .slice none 0 0] 76)) := (hb1.trans (hb2.mono (by omega))).trans (hb3.mono (by omega))
  have i1 : Img W1 φ w.heap.size [] := by rw [hW1]; exact Img.made w φ
  have i2 : Img W2 φ (w.heap.size + 1) [] := by
    have := Img.made W1 φ
    rw [← hW2, s1] at this
    exact this
  refine ⟨w.heap.size + 1 + 1, fun k => w.heap.size ≤ k ∧ k < w.heap.size + 1 + 1 + 1, rfl, ⟨w.heap.size, w.heap.size + 1, .slice none 0 0, ?_⟩, hb, fun k hk => hk.1⟩
  have hat := World.alloc_heap_new W2 (.cells #[.int .i64 room, .int .i64 0, .map (some w.heap.size), .map (some (w.heap.size + 1)), .slice none 0 0] 76)
  rw [s2] at hat
  exact {
    files := hF.below hb
    at_ := hat
    now := (i1.below hb2).below hb3
    last := i2.below hb3
    row := ⟨rfl, .inl ⟨rfl, rfl⟩⟩
    ne := by omega
    ap := ⟨by omega, by omega⟩
    an := ⟨by omega, by omega⟩
    al := ⟨by omega, by omega⟩
    ar := fun k hk => by simp [Value.ownBlock] at hk
    free := fun k hk => by
      refine ⟨by rw [World.size_alloc, s2]; exact hk.2, ?_⟩
      cases e : φ k with
      | none => rfl
      | some f =>
        have := hF.lt (q := k) (by rw [e]; simp)
        have := hk.1
        omega }
set_option maxHeartbeats 1000000 in
set_option maxRecDepth 100000 in
theorem new_call (w : World) (φ : Phi) (hF : FilesOK w φ) (room : Int) (h1 : 1 ≤ room) (h2 : room ≤ 1073741824) : Calls Tryz.prog 27 #[.int .i64 room] w (NewEnd w φ (newT room)) := by
  have H := Lib.hid (new_end hF room)
  have hmm := @run_makeMap Tryz.prog
  clear hF
  go_enter Tryz.func27, Tryz.ntmps27
  go_wp2
  go_ret2
  exact H.out
def syncT (T : TS) : TS := { T with last := T.l, ch := [] }
theorem sync_end {w w1 : World} {φ : Phi} {p bn bl : Nat} {T : TS} {A : Nat → Prop} {v : Value} (h : TrAt w φ p T A bn bl v) (hI : Img w1 φ w.heap.size T.l) (hB : Below w.heap.size w w1) :
    TrEnd w φ p A (syncT T) ((w1.setCell ⟨p, 3, none⟩ (.map (some w.heap.size))).setCell ⟨p, 4, none⟩ (.slice none 0 0)) := by
  have hat1 : w1.heap[p]? = some (.cells #[.int .i64 T.room, .int .i64 T.clock, .map (some bn), .map (some bl), v] 76 (0, 0)) := (hB.block p h.lt).trans h.at_
  have hat2 := heap_setCell_same w1 p 3 _ _ (.map (some w.heap.size)) hat1
  have hat3 := heap_setCell_same _ p 4 _ _ (.slice none 0 0) hat2
  have hC : Chg (fun k => k = p) w ((w1.setCell ⟨p, 3, none⟩ (.map (some w.heap.size))).setCell ⟨p, 4, none⟩ (.slice none 0 0)) :=
    (((Chg.refl (fun k => k = p) w).below hB).setCell (p := ⟨p, 3, none⟩) (fun _ => rfl) _).setCell (p := ⟨p, 4, none⟩) (fun _ => rfl) _
  have hC1 : Chg (fun k => k = p) w1 ((w1.setCell ⟨p, 3, none⟩ (.map (some w.heap.size))).setCell ⟨p, 4, none⟩ (.slice none 0 0)) :=
    ((Chg.refl (fun k => k = p) w1).setCell (p := ⟨p, 3, none⟩) (fun _ => rfl) _).setCell (p := ⟨p, 4, none⟩) (fun _ => rfl) _
  have hplt := h.lt
  have hF : FilesOK ((w1.setCell ⟨p, 3, none⟩ (.map (some w.heap.size))).setCell ⟨p, 4, none⟩ (.slice none 0 0)) φ := h.files.chg hC fun q hq e => hq (by rw [e]; exact (h.free p h.ap).2)
  have hN := hI.lt
  refine ⟨φ, fun k => A k ∨ k = w.heap.size, ⟨bn, w.heap.size, .slice none 0 0, ?_⟩, Ext.refl _ _, hC.mono fun k _ e => e ▸ h.ap, fun k hk => hk.imp id fun e => by omega⟩
  exact {
    files := hF
    at_ := by rw [hat3]; simp [syncT]
    now := h.now.chg hC fun e => h.p_ne.1 e.symm
    last := hI.chg hC1 fun e => by omega
    row := ⟨rfl, .inl ⟨rfl, rfl⟩⟩
    ne := by have := h.now.lt; omega
    ap := .inl h.ap
    an := .inl h.an
    al := .inr rfl
    ar := fun k hk => by simp [Value.ownBlock] at hk
    free := fun k hk => by
      rcases hk with hk | rfl
      · obtain ⟨h1, h2⟩ := h.free k hk
        exact ⟨Nat.lt_of_lt_of_le h1 hC.size, h2⟩
      · refine ⟨Nat.lt_of_lt_of_le hN hC1.size, ?_⟩
        cases e : φ w.heap.size with
        | none => rfl
        | some f =>
          have := h.files.lt (q := w.heap.size) (by rw [e]; simp)
          omega }
theorem clone_img {w : World} {φ : Phi} {b : Nat} {l : List Fl} (h : Img w φ b l) :
    Calls Tryz.prog 32 #[.map (some b)] w fun e w' => e = .returned (.map (some w.heap.size)) ∧ Img w' φ w.heap.size l ∧ Below w.heap.size w w' ∧ w'.heap.size = w.heap.size + 1 := by
  exact clone_call _ _ b _ _ w h
section
variable {φ : Phi} {p : Nat} {T : TS} {A : Nat → Prop}
set_option maxHeartbeats 1000000 in
set_option maxRecDepth 100000 in
theorem sync_call (w : World) (hT : Tr w φ p T A) : Calls Tryz.prog 16 #[.pointer (some ⟨p, 0, none⟩)] w fun e w' => e = .returned (.tuple #[]) ∧ TrEnd w φ p A (syncT T) w' := by
  obtain ⟨bn, bl, v, h⟩ := hT
  have HT := Lib.hid h
  have c2 := h.c2
  have hlt := h.lt
  have hn := h.now
  clear h
  go_enter Tryz.func16, Tryz.ntmps16
  go_wp2_with (first
    | (go_at_call 32; (refine (clone_img hn).mono ?_; rintro e w1 ⟨rfl, hI, hB, hs⟩; have hat1 := (hB.block p hlt).trans HT.out.at_; have d3 : w1.cell? ⟨p, 3, none⟩ = some (.map (some bl)) := (by simp [World.cell?, hat1]); have d4 : w1.cell? ⟨p, 4, none⟩ = some v := (by simp [World.cell?, hat1]); have g3 : w1.frozen? ⟨p, 3, none⟩ = false := (by simp [World.frozen?, hat1]); have g4 : w1.frozen? ⟨p, 4, none⟩ = false := (by simp [World.frozen?, hat1]); have HE := Lib.hid (sync_end HT.out hI hB); clear hI hB hs hat1)))
  go_end0
  exact ⟨rfl, HE.out⟩
end
section
variable {φ : Phi} {p : Nat} {T : TS} {A : Nat → Prop}
end
end Go.Proofs.YtghbaehbgefpaaaGreatDoor.Fr
