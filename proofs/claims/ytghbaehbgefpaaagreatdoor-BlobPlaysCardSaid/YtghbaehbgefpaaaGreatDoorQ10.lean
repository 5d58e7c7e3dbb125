import Derived.Test.YtghbaehbgefpaaaGreatDoorQ09
import Derived.Outline
import Derived.WalkLawsBesides
import Derived.Deep.RegionLaw
import Derived.StillTailTactics
import Derived.BigQuiet
import Derived.RegionTactic
import Derived.BigRegion
/- Several texts of this session in one: the walks of the functions that the laws reach, and what they tell. -/
set_option linter.unusedVariables false
set_option linter.unusedSimpArgs false
set_option linter.unusedSectionVars false
namespace Go.Proofs.YtghbaehbgefpaaaGreatDoor.Fr
open Go.RowKit Go.Proofs.YtghbaehbgefpaaaGreatDoor.F Go.Maps
def cgV (c : Cg) : Value := .agg #[.int .i64 (c.f0 - 1), .string c.f1, .string c.f2, .int .i64 c.f3]
def DoEnd (φ : Phi) (b : Nat) (L' : List Fl) (w : World) (e : Ending) (w' : World) : Prop :=
  e = .returned (.tuple #[]) ∧ ∃ φ', Ext w φ φ' ∧ FilesOK w' φ' ∧ Img w' φ' b L' ∧ Chg (fun k => k = b) w w'
theorem newBelow2 (w : World) (o o2 : Obj) : Below w.heap.size w ((w.alloc o).alloc o2) := ((Below.refl _ _).alloc (Nat.le_refl _) _).alloc (by rw [World.size_alloc]; omega) _
theorem new2 (w : World) (o : Obj) (o2 : Obj) : ((w.alloc o).alloc o2).heap[w.heap.size + 1]? = some o2 := by
  have := World.alloc_heap_new (w.alloc o) o2
  rwa [World.size_alloc] at this
theorem newBelow (w : World) (o : Obj) : Below w.heap.size w (w.alloc o) := (Below.refl _ _).alloc (Nat.le_refl _) _
theorem files_add {w W : World} {φ : Phi} {f : ByteArray × Int} {q : Nat} (hF : FilesOK w φ) (hb : Below w.heap.size w W) (hq : W.heap[q]? = some (.cells #[.string f.1, .int .i64 f.2] 110 (0, 0))) (hn : w.heap.size ≤ q) : FilesOK W (φ.add q f) := by
  intro k g e
  unfold Phi.add at e
  split at e
  next h =>
    subst h
    obtain rfl := Option.some.inj e
    exact hq
  next h => exact (hF.below hb) k g e
theorem add_self (φ : Phi) (q : Nat) (f : ByteArray × Int) : φ.add q f q = some f := by simp [Phi.add]
theorem ext_add {w : World} {φ : Phi} (hF : FilesOK w φ) (f : ByteArray × Int) {q : Nat} (h : w.heap.size ≤ q) : Ext w φ (φ.add q f) := Ext.add w φ f (fun k e => hF.lt e) h
theorem end_add {w W w' : World} {φ : Phi} {b q : Nat} {L' : List Fl} {f : ByteArray × Int} (hF : FilesOK w φ) (hb0 : φ b = none) (hbl : b < w.heap.size) (hB : Below w.heap.size w W) (hq : W.heap[q]? = some (.cells #[.string f.1, .int .i64 f.2] 110 (0, 0))) (hn : w.heap.size ≤ q)
    (hI : Img w' (φ.add q f) b L') (hC : Chg (fun k => k = b) W w') : DoEnd φ b L' w (.returned (.tuple #[])) w' := by
  refine ⟨rfl, φ.add q f, ext_add hF f hn, (files_add hF hB hq hn).chg hC ?_, hI, (Chg.of_below hB _).trans hC fun _ _ e => e⟩
  rintro k hk rfl
  unfold Phi.add at hk
  rw [if_neg (by omega)] at hk
  exact hk hb0
def cutS (s0 : ByteArray) (part : Int) : ByteArray := if part < 0 then s0 else s0.extract 0 (min part (s0.size : Int)).toNat
theorem cutS_neg {s0 : ByteArray} {part : Int} (h : part < 0) : cutS s0 part = s0 := if_pos h
theorem cutS_pos {s0 : ByteArray} {part : Int} (h : 0 ≤ part) : cutS s0 part = s0.extract 0 (min part (s0.size : Int)).toNat := if_neg (by omega)
section
variable (p s0 : ByteArray) (tm part : Int) (b : Nat) (L : List Fl) (φ : Phi) (w : World) (hF : FilesOK w φ) (hI : Img w φ b L) (hb : φ b = none) (hL : L.length ≤ 100000) (hp : p.size ≤ 100000) (hs0 : s0.size ≤ 1000000000) (hpart : part ≤ 9223372036854775807)
include hF hI hb hL hp hs0 hpart
set_option maxHeartbeats 4000000 in
set_option maxRecDepth 100000 in
theorem do_written : Calls Tryz.prog 33 #[cgV ⟨1, p, s0, tm⟩, .map (some b), .int .i64 part] w (DoEnd φ b (putF L ⟨p, cutS s0 part, tm⟩) w) := by
  have HF := Lib.hid hF
  have HI := Lib.hid hI
  have HB := Lib.hid hb
  have hbl := hI.lt
  have HX : Hid (∀ (W : World) (q : Nat) (g : ByteArray × Int), Below w.heap.size w W → w.heap.size ≤ q → Img W (φ.add q g) b L) := fun W q g hB hq => (hI.below hB).ext (ext_add hF g hq).keeps
  clear hF hI hb
  unfold cgV
  rcases Int.lt_or_le part 0 with h1 | h1
  all_goals
    first
      | rw [cutS_neg h1]
      | rw [cutS_pos h1]
    cases hf : findF L p
    all_goals
      have HN := Lib.hid hf
      clear hf
      go_enter Tryz.func33, Tryz.ntmps33
      go_wp2_with (first
        | (at_lookup; refine wpList_look_none _ rfl _ _ rfl b p rfl (HI.out.below (newBelow _ _)) rfl hp HN.out ?_)
        | (at_lookup; refine wpList_look_some _ rfl _ _ rfl b p rfl (HI.out.below (newBelow _ _)) rfl hp _ HN.out ?_; intro q hq)
        | (at_mapUpdate; have _t : part < 0 := h1; refine wpList_store_img (φ := φ.add (w.heap.size + 1) (s0, tm)) _ rfl _ _ _ rfl b (w.heap.size + 1) ⟨p, s0, tm⟩ rfl (HX.out _ _ _ (newBelow2 _ _ _) (Nat.le_succ _)) (Nat.le_trans hL (by decide)) rfl rfl (add_self _ _ _) hp ?_; intro w' hI' hC hz)
        | (at_mapUpdate; refine wpList_store_img (φ := φ.add (w.heap.size + 1) (s0.extract 0 (min part (s0.size : Int)).toNat, tm)) _ rfl _ _ _ rfl b (w.heap.size + 1) ⟨p, s0.extract 0 (min part (s0.size : Int)).toNat, tm⟩ rfl (HX.out _ _ _ (newBelow2 _ _ _) (Nat.le_succ _)) (Nat.le_trans hL (by decide)) rfl rfl (add_self _ _ _) hp ?_; intro w' hI' hC hz))
      go_end0
      exact end_add (f := (_, _)) HF.out HB.out hbl (newBelow2 _ _ _) (new2 _ _ _) (Nat.le_succ _) hI' hC
set_option maxHeartbeats 4000000 in
set_option maxRecDepth 100000 in
theorem do_app_none (hf : findF L p = none) : Calls Tryz.prog 33 #[cgV ⟨2, p, s0, tm⟩, .map (some b), .int .i64 part] w (DoEnd φ b (putF L ⟨p, cutS s0 part, tm⟩) w) := by
  have HF := Lib.hid hF
  have HI := Lib.hid hI
  have HB := Lib.hid hb
  have hbl := hI.lt
  have HX : Hid (∀ (W : World) (q : Nat) (g : ByteArray × Int), Below w.heap.size w W → w.heap.size ≤ q → Img W (φ.add q g) b L) := fun W q g hB hq => (hI.below hB).ext (ext_add hF g hq).keeps
  have HN := Lib.hid hf
  clear hF hI hb hf
  unfold cgV
  rcases Int.lt_or_le part 0 with h1 | h1
  all_goals
    first
      | rw [cutS_neg h1]
      | rw [cutS_pos h1]
    go_enter Tryz.func33, Tryz.ntmps33
    go_wp2_with (first
      | (at_lookup; refine wpList_look_none _ rfl _ _ rfl b p rfl (HI.out.below (newBelow _ _)) rfl hp HN.out ?_)
      | (at_mapUpdate; have _t : part < 0 := h1; refine wpList_store_img (φ := φ.add (w.heap.size + 1) (s0, tm)) _ rfl _ _ _ rfl b (w.heap.size + 1) ⟨p, s0, tm⟩ rfl (HX.out _ _ _ (newBelow2 _ _ _) (Nat.le_succ _)) (Nat.le_trans hL (by decide)) rfl rfl (add_self _ _ _) hp ?_; intro w' hI' hC hz)
      | (at_mapUpdate; refine wpList_store_img (φ := φ.add (w.heap.size + 1) (s0.extract 0 (min part (s0.size : Int)).toNat, tm)) _ rfl _ _ _ rfl b (w.heap.size + 1) ⟨p, s0.extract 0 (min part (s0.size : Int)).toNat, tm⟩ rfl (HX.out _ _ _ (newBelow2 _ _ _) (Nat.le_succ _)) (Nat.le_trans hL (by decide)) rfl rfl (add_self _ _ _) hp ?_; intro w' hI' hC hz))
    go_end0
    exact end_add (f := (_, _)) HF.out HB.out hbl (newBelow2 _ _ _) (new2 _ _ _) (Nat.le_succ _) hI' hC
set_option maxHeartbeats 4000000 in
set_option maxRecDepth 100000 in
theorem do_app_some (f : Fl) (hf : findF L p = some f) (hf1 : f.f1.size ≤ 1000000000000) : Calls Tryz.prog 33 #[cgV ⟨2, p, s0, tm⟩, .map (some b), .int .i64 part] w (DoEnd φ b (putF L ⟨p, f.f1 ++ cutS s0 part, tm⟩) w) := by
  have HF := Lib.hid hF
  have HI := Lib.hid hI
  have HB := Lib.hid hb
  have hbl := hI.lt
  have HX : Hid (∀ (W : World) (q : Nat) (g : ByteArray × Int), Below w.heap.size w W → w.heap.size ≤ q → Img W (φ.add q g) b L) := fun W q g hB hq => (hI.below hB).ext (ext_add hF g hq).keeps
  have HN := Lib.hid hf
  clear hF hI hb hf
  unfold cgV
  rcases Int.lt_or_le part 0 with h1 | h1
  all_goals
    first
      | rw [cutS_neg h1]
      | rw [cutS_pos h1]
    go_enter Tryz.func33, Tryz.ntmps33
    go_wp2_with (first
      | (at_lookup; refine wpList_look_some _ rfl _ _ rfl b p rfl (HI.out.below (newBelow _ _)) rfl hp _ HN.out ?_; intro q hq))
    have hq0 := (HF.out.below (newBelow w (.cells #[.int .i64 1, .string p, .string s0, .int .i64 tm] 78))).cell0 hq
    first
      | (have _t : part < 0 := h1
         obtain ⟨w', hrun, hI', hturn⟩ := (HX.out (((w.alloc (.cells #[.int .i64 1, .string p, .string s0, .int .i64 tm] 78)).alloc (.cells #[.string (f.f1 ++ s0), .int .i64 tm] 110)).drew) (w.heap.size + 1) (f.f1 ++ s0, tm) (newBelow2 _ _ _).drew (Nat.le_succ _)).store (f := ⟨p, f.f1 ++ s0, tm⟩) (Nat.le_trans hL (by decide)) (add_self _ _ _) hp)
      | (obtain ⟨w', hrun, hI', hturn⟩ := (HX.out (((w.alloc (.cells #[.int .i64 1, .string p, .string s0, .int .i64 tm] 78)).alloc (.cells #[.string (f.f1 ++ s0.extract 0 (min part (s0.size : Int)).toNat), .int .i64 tm] 110)).drew) (w.heap.size + 1) (f.f1 ++ s0.extract 0 (min part (s0.size : Int)).toNat, tm) (newBelow2 _ _ _).drew (Nat.le_succ _)).store (f := ⟨p, f.f1 ++ s0.extract 0 (min part (s0.size : Int)).toNat, tm⟩) (Nat.le_trans hL (by decide)) (add_self _ _ _) hp)
    have hturn' := Lib.hid hturn
    have hI2 := Lib.hid hI'
    clear hturn hI'
    go_region
    go_wp2
    go_end0
    exact end_add (f := (_, _)) HF.out HB.out hbl (newBelow2 _ _ _).drew (new2 _ _ _) (Nat.le_succ _) hI2.out (turned_chg hturn'.out)
end
theorem end_same {w w' : World} {φ : Phi} {b : Nat} {L : List Fl} (hF : FilesOK w φ) (hI : Img w φ b L) (h : Below w.heap.size w w') : DoEnd φ b L w (.returned (.tuple #[])) w' := ⟨rfl, φ, Ext.refl _ _, hF.below h, hI.below h, Chg.of_below h _⟩
theorem end_drop {w W w' : World} {φ : Phi} {b : Nat} {L' : List Fl} (hF : FilesOK w φ) (hb : φ b = none) (hB : Below w.heap.size w W) (hI' : Img w' φ b L') (hC : Chg (fun k => k = b) W w') : DoEnd φ b L' w (.returned (.tuple #[])) w' :=
  ⟨rfl, φ, Ext.refl _ _, (hF.below hB).chg hC (fun k hk e => hk (by rw [e]; exact hb)), hI', (Chg.of_below hB _).trans hC fun _ _ e => e⟩
section
variable (p s0 : ByteArray) (tm : Int) (b : Nat) (L : List Fl) (φ : Phi) (w : World) (hF : FilesOK w φ) (hI : Img w φ b L) (hb : φ b = none) (hL : L.length ≤ 100000) (hp : p.size ≤ 100000)
include hF hI hb hL hp
set_option maxHeartbeats 4000000 in
set_option maxRecDepth 100000 in
theorem do_none (kind : Int) (hk : kind = 3 ∨ kind = 4) (hf : findF L p = none) : Calls Tryz.prog 33 #[cgV ⟨kind, p, s0, tm⟩, .map (some b), .int .i64 (-1)] w (DoEnd φ b L w) := by
  have HF := Lib.hid hF
  have HI := Lib.hid hI
  have HN := Lib.hid hf
  clear hF hI hb hf
  unfold cgV
  rcases hk with rfl | rfl
  all_goals
    go_enter Tryz.func33, Tryz.ntmps33
    go_wp2_with (first
      | (at_lookup; refine wpList_look_none _ rfl _ _ rfl b p rfl (HI.out.below (newBelow _ _)) rfl hp HN.out ?_))
    go_end0
    exact end_same HF.out HI.out (newBelow _ _)
set_option maxHeartbeats 4000000 in
set_option maxRecDepth 100000 in
theorem do_removed (f : Fl) (hf : findF L p = some f) : Calls Tryz.prog 33 #[cgV ⟨3, p, s0, tm⟩, .map (some b), .int .i64 (-1)] w (DoEnd φ b (dropF L p) w) := by
  have HF := Lib.hid hF
  have HI := Lib.hid hI
  have HB := Lib.hid hb
  have HN := Lib.hid hf
  have hbl := hI.lt
  clear hF hI hb hf
  unfold cgV
  go_enter Tryz.func33, Tryz.ntmps33
  go_wp2_with (first
    | (at_lookup; refine wpList_look_some _ rfl _ _ rfl b p rfl (HI.out.below (newBelow _ _)) rfl hp _ HN.out ?_; intro q hq)
    | (at_delete; refine wpList_delete_img _ rfl _ _ rfl b p rfl (HI.out.below (newBelow _ _)) rfl hp ?_; intro w' hI' hC hz; have hc0 := hC.cell (p := ⟨w.heap.size, 0, none⟩) (by simp) (by show w.heap.size ≠ b; omega); have HC := Lib.hid hC; have HI2 := Lib.hid hI'; clear hC hI' hz))
  go_end0
  exact end_drop HF.out HB.out (newBelow _ _) HI2.out HC.out
set_option maxHeartbeats 4000000 in
set_option maxRecDepth 100000 in
theorem do_renamed (f : Fl) (hf : findF L p = some f) (hs0 : s0.size ≤ 100000) : Calls Tryz.prog 33 #[cgV ⟨4, p, s0, tm⟩, .map (some b), .int .i64 (-1)] w (DoEnd φ b (putF (dropF L p) ⟨s0, f.f1, f.f2⟩) w) := by
  have HF := Lib.hid hF
  have HI := Lib.hid hI
  have HB := Lib.hid hb
  have HN := Lib.hid hf
  have hbl := hI.lt
  have hdl : (dropF L p).length ≤ 1000000 := Nat.le_trans (List.length_filter_le _ _) (Nat.le_trans hL (by decide))
  clear hF hI hb hf
  unfold cgV
  go_enter Tryz.func33, Tryz.ntmps33
  go_wp2_with (first
    | (at_lookup; refine wpList_look_some _ rfl _ _ rfl b p rfl (HI.out.below (newBelow _ _)) rfl hp _ HN.out ?_; intro q hq; have HQ := Lib.hid hq; clear hq)
    | (at_delete; refine wpList_delete_img _ rfl _ _ rfl b p rfl (HI.out.below (newBelow _ _)) rfl hp ?_; intro w' hI' hC hz; have hc0 := hC.cell (p := ⟨w.heap.size, 0, none⟩) (by simp) (by show w.heap.size ≠ b; omega); have hc2 := hC.cell (p := ⟨w.heap.size, 2, none⟩) (by simp) (by show w.heap.size ≠ b; omega); have HC := Lib.hid hC; have HI2 := Lib.hid hI'; clear hC hI' hz)
    | (at_mapUpdate; refine wpList_store_img (φ := φ) _ rfl _ _ _ rfl b q ⟨s0, f.f1, f.f2⟩ rfl HI2.out hdl rfl rfl HQ.out hs0 ?_; intro w2 hI3 hC3 hz3; have HC3 := Lib.hid hC3; have HI3 := Lib.hid hI3; clear hC3 hI3 hz3))
  go_end0
  exact end_drop HF.out HB.out (newBelow _ _) HI3.out (HC.out.trans HC3.out fun _ _ e => e)
end
structure TS where
  room : Int
  clock : Int
  l : List Fl
  last : List Fl
  ch : List Cg
def chCells (c : Cg) : List Value := [.int .i64 (c.f0 - 1), .string c.f1, .string c.f2, .int .i64 c.f3]
structure TrAt (w : World) (φ : Phi) (p : Nat) (T : TS) (A : Nat → Prop) (bn bl : Nat) (v : Value) : Prop where
  files : FilesOK w φ
  at_ : w.heap[p]? = some (.cells #[.int .i64 T.room, .int .i64 T.clock, .map (some bn), .map (some bl), v] 76 (0, 0))
  now : Img w φ bn T.l
  last : Img w φ bl T.last
  row : w.ownsRow 0 78 4 v T.ch.length (T.ch.flatMap chCells)
  ne : bn ≠ bl
  ap : A p
  an : A bn
  al : A bl
  ar : ∀ k, v.ownBlock = some k → A k
  free : ∀ k, A k → k < w.heap.size ∧ φ k = none
def Tr (w : World) (φ : Phi) (p : Nat) (T : TS) (A : Nat → Prop) : Prop := ∃ bn bl v, TrAt w φ p T A bn bl v
section
variable {w w' : World} {φ φ' : Phi} {p bn bl : Nat} {T : TS} {A S : Nat → Prop} {v : Value}
theorem TrAt.lt (h : TrAt w φ p T A bn bl v) : p < w.heap.size := (Array.getElem?_eq_some_iff.1 h.at_).1
theorem TrAt.c0 (h : TrAt w φ p T A bn bl v) : w.cell? ⟨p, 0, none⟩ = some (.int .i64 T.room) := by simp [World.cell?, h.at_]
theorem TrAt.c1 (h : TrAt w φ p T A bn bl v) : w.cell? ⟨p, 1, none⟩ = some (.int .i64 T.clock) := by simp [World.cell?, h.at_]
theorem TrAt.c2 (h : TrAt w φ p T A bn bl v) : w.cell? ⟨p, 2, none⟩ = some (.map (some bn)) := by simp [World.cell?, h.at_]
theorem TrAt.c3 (h : TrAt w φ p T A bn bl v) : w.cell? ⟨p, 3, none⟩ = some (.map (some bl)) := by simp [World.cell?, h.at_]
theorem TrAt.c4 (h : TrAt w φ p T A bn bl v) : w.cell? ⟨p, 4, none⟩ = some v := by simp [World.cell?, h.at_]
theorem TrAt.slice (h : TrAt w φ p T A bn bl v) : ∃ a c, v = .slice a T.ch.length c := by
  rcases h.row.2 with ⟨rfl, e⟩ | ⟨g, cap, cur, rfl, _⟩
  · exact ⟨none, 0, by rw [e]⟩
  · exact ⟨_, _, rfl⟩
theorem TrAt.row_ne (h : TrAt w φ p T A bn bl v) {k : Nat} (hk : v.ownBlock = some k) : k ≠ p ∧ k ≠ bn ∧ k ≠ bl := by
  rcases h.row.2 with ⟨rfl, e⟩ | ⟨g, cap, cur, rfl, _, hh, _⟩
  · simp [Value.ownBlock] at hk
  · have : g = k := by simpa [Value.ownBlock] using hk
    subst this
    obtain ⟨es, clock, h1, _⟩ := h.now
    obtain ⟨es2, clock2, h2, _⟩ := h.last
    refine ⟨?_, ?_, ?_⟩
    · rintro rfl
      rw [h.at_] at hh
      simp at hh
    · rintro rfl
      rw [h1] at hh
      simp at hh
    · rintro rfl
      rw [h2] at hh
      simp at hh
theorem TrAt.p_ne (h : TrAt w φ p T A bn bl v) : p ≠ bn ∧ p ≠ bl := by
  obtain ⟨es, clock, h1, _⟩ := h.now
  obtain ⟨es2, clock2, h2, _⟩ := h.last
  constructor
  · rintro rfl
    have := h.at_
    rw [h1] at this
    simp at this
  · rintro rfl
    have := h.at_
    rw [h2] at this
    simp at this
theorem ownsRow_block {base e size n : Nat} {xs : List Value} (h : w.ownsRow base e size v n xs) (hb : ∀ k, v.ownBlock = some k → w'.heap[k]? = w.heap[k]?) : w'.ownsRow base e size v n xs := by
  rcases h with ⟨h1, h2 | ⟨g, cap, cur, rfl, hg, hh, r⟩⟩
  · exact ⟨h1, .inl h2⟩
  · exact ⟨h1, .inr ⟨g, cap, cur, rfl, hg, (hb g rfl).trans hh, r⟩⟩
theorem TrAt.chg (h : TrAt w φ p T A bn bl v) (hc : Chg S w w') (hs : ∀ k, A k → ¬ S k) (he : Ext w φ φ') (hf : FilesOK w' φ') : TrAt w' φ' p T A bn bl v where
  files := hf
  at_ := (hc.block p h.lt (hs p h.ap)).trans h.at_
  now := (h.now.chg hc (hs bn h.an)).ext he.keeps
  last := (h.last.chg hc (hs bl h.al)).ext he.keeps
  row := ownsRow_block h.row fun k hk => hc.block k (h.free k (h.ar k hk)).1 (hs k (h.ar k hk))
  ne := h.ne
  ap := h.ap
  an := h.an
  al := h.al
  ar := h.ar
  free := fun k hk => by
    obtain ⟨h1, h2⟩ := h.free k hk
    refine ⟨Nat.lt_of_lt_of_le h1 hc.size, ?_⟩
    cases e : φ' k with
    | none => rfl
    | some f =>
      rcases he.new k (by rw [e]; simp) with h3 | h3
      · exact absurd h2 h3
      · omega
theorem TrAt.below (h : TrAt w φ p T A bn bl v) (hb : Below w.heap.size w w') : TrAt w' φ p T A bn bl v :=
  h.chg (Chg.of_below hb fun _ => False) (fun _ _ e => e) (Ext.refl _ _) (h.files.below hb)
theorem Tr.chg (h : Tr w φ p T A) (hc : Chg S w w') (hs : ∀ k, A k → ¬ S k) (he : Ext w φ φ') (hf : FilesOK w' φ') : Tr w' φ' p T A := by
  obtain ⟨bn, bl, v, h⟩ := h
  exact ⟨bn, bl, v, h.chg hc hs he hf⟩
theorem Tr.below (h : Tr w φ p T A) (hb : Below w.heap.size w w') : Tr w' φ p T A := by
  obtain ⟨bn, bl, v, h⟩ := h
  exact ⟨bn, bl, v, h.below hb⟩
end
section
variable {φ : Phi} {p : Nat} {T : TS} {A : Nat → Prop}
def readT (T : TS) (q : ByteArray) : ByteArray × Int := match findF T.l q with
  | none => (⟨#[]⟩, 4)
  | some f => (f.f1, 0)
set_option maxHeartbeats 1000000 in
set_option maxRecDepth 100000 in
theorem read_call (w : World) (hT : Tr w φ p T A) (q : ByteArray) (hq : q.size ≤ 100000) :
    Calls Tryz.prog 81 #[.pointer (some ⟨p, 0, none⟩), .string q] w fun e w' => e = .returned (.tuple #[.string (readT T q).1, .int .i64 (readT T q).2]) ∧ w = w' := by
  obtain ⟨bn, bl, v, h⟩ := hT
  have HT := Lib.hid h
  have c2 := h.c2
  cases hf : findF T.l q with
  | none =>
    have HN := Lib.hid hf
    have HR : Hid (readT T q = (⟨#[]⟩, 4)) := by unfold readT; rw [Hid, hf]
    clear hf h
    rw [HR.out]
    go_enter Tryz.func81, Tryz.ntmps81
    go_wp2_with (first
      | (at_lookup; refine wpList_look_none _ rfl _ _ rfl bn q rfl HT.out.now rfl hq HN.out ?_))
    go_ret2
    exact ⟨rfl, rfl⟩
  | some f =>
    have HN := Lib.hid hf
    have HR : Hid (readT T q = (f.f1, 0)) := by unfold readT; rw [Hid, hf]
    clear hf h
    rw [HR.out]
    go_enter Tryz.func81, Tryz.ntmps81
    go_wp2_with (first
      | (at_lookup; refine wpList_look_some _ rfl _ _ rfl bn q rfl HT.out.now rfl hq _ HN.out ?_; intro qb hqb; have hq0 := HT.out.files.cell0 hqb; clear hqb))
    go_ret2
    exact ⟨rfl, rfl⟩
set_option maxHeartbeats 1000000 in
set_option maxRecDepth 100000 in
theorem pending_call (w : World) (hT : Tr w φ p T A) : Calls Tryz.prog 39 #[.pointer (some ⟨p, 0, none⟩)] w fun e w' => e = .returned (.int .i64 T.ch.length) ∧ w = w' := by
  obtain ⟨bn, bl, v, h⟩ := hT
  obtain ⟨a, c, rfl⟩ := h.slice
  have c4 := h.c4
  clear h
  go_enter Tryz.func39, Tryz.ntmps39
  go_wp2
  go_ret
  exact ⟨rfl, rfl⟩
end
section
variable {φ : Phi} {p : Nat} {T : TS} {A : Nat → Prop}
def statT (T : TS) (q : ByteArray) : Int × Int × Int := match findF T.l q with
  | none => (0, 0, 4)
  | some f => (f.f1.size, f.f2, 0)
set_option maxHeartbeats 2000000 in
set_option maxRecDepth 100000 in
theorem stat_call (w : World) (hT : Tr w φ p T A) (q : ByteArray) (hq : q.size ≤ 100000) :
    Calls Tryz.prog 40 #[.pointer (some ⟨p, 0, none⟩), .string q] w fun e w' => e = .returned (.tuple #[.agg #[.int .i64 (statT T q).1, .int .i64 (statT T q).2.1], .int .i64 (statT T q).2.2]) ∧ Below w.heap.size w w' := by
  obtain ⟨bn, bl, v, h⟩ := hT
  have HT := Lib.hid h
  have c2 := h.c2
  have hlt := h.lt
  cases hf : findF T.l q with
  | none =>
    have HN := Lib.hid hf
    have HR : Hid (statT T q = (0, 0, 4)) := by unfold statT; rw [Hid, hf]
    clear hf h
    rw [HR.out]
    go_enter Tryz.func40, Tryz.ntmps40
    go_wp2_with (first
      | (at_lookup; refine wpList_look_none _ rfl _ _ rfl bn q rfl (HT.out.now.below (newBelow _ _)) rfl hq HN.out ?_))
    exact bodyPost_ret (v := .tuple #[.agg #[.int .i64 0, .int .i64 0], .int .i64 4]) (by simp [results, Tryz.results40, go_sem]) rfl ⟨rfl, newBelow _ _⟩
  | some f =>
    have HN := Lib.hid hf
    have HR : Hid (statT T q = ((f.f1.size : Int), f.f2, 0)) := by unfold statT; rw [Hid, hf]
    clear hf h
    rw [HR.out]
    go_enter Tryz.func40, Tryz.ntmps40
    go_wp2_with (first
      | (at_lookup; refine wpList_look_some _ rfl _ _ rfl bn q rfl (HT.out.now.below (newBelow _ _)) rfl hq _ HN.out ?_; intro qb hqb; have hq0 := (HT.out.files.below (newBelow w (.cells #[.int .i64 0, .int .i64 0] 91))).cell0 hqb; have hq1 := (HT.out.files.below (newBelow w (.cells #[.int .i64 0, .int .i64 0] 91))).cell1 hqb; have hql := HT.out.files.lt (q := qb) (by rw [hqb]; simp); clear hqb))
    go_region
    go_wp2
    exact bodyPost_ret (v := .tuple #[.agg #[.int .i64 f.f1.size, .int .i64 f.f2], .int .i64 0]) (by simp [results, Tryz.results40, go_sem]) rfl ⟨rfl, (newBelow _ _).drew⟩
def Apart (L : List Fl) : Prop := L.Pairwise fun a b => a.f0.data.toList ≠ b.f0.data.toList
theorem Img.apart {w : World} {b : Nat} {L : List Fl} (h : Img w φ b L) : Apart L := by
  obtain ⟨es, he, hp⟩ := World.ownsMap.tidy h lawK
  have he' : L.map fent = es := by
    have := he
    unfold fdat at this
    injection this
  rw [← he', List.pairwise_map] at hp
  refine hp.imp fun {a b} hab e => hab ?_
  show Lit.string _ = Lit.string _
  rw [e]
def doneF (left : Lit → Bool) (g : Fl → Nat) (L : List Fl) : Nat := (L.map fun f => if left (.string f.f0.data.toList) = true then 0 else g f).sum
theorem doneF_none (g : Fl → Nat) (L : List Fl) : doneF (Maps.has (fdat L)) g L = 0 := by
  have : ∀ f ∈ L, (if Maps.has (fdat L) (.string f.f0.data.toList) = true then 0 else g f) = 0 := by
    intro f hf
    rw [if_pos]
    rw [fdat_has]
    unfold findF
    rw [List.find?_isSome]
    exact ⟨f, hf, by simp⟩
  unfold doneF
  rw [List.map_congr_left this]
  clear this
  induction L with
  | nil => rfl
  | cons a r ih => simpa using ih
theorem doneF_all {left : Lit → Bool} (h : ∀ kl, left kl = false) (g : Fl → Nat) (L : List Fl) : doneF left g L = (L.map g).sum := by
  unfold doneF
  congr 1
  refine List.map_congr_left fun f _ => ?_
  rw [if_neg]
  rw [h]
  decide
theorem doneF_le (left : Lit → Bool) (g : Fl → Nat) : ∀ L : List Fl, doneF left g L ≤ (L.map g).sum := by
  intro L
  unfold doneF
  induction L with
  | nil => exact Nat.le_refl _
  | cons a r ih =>
    rw [List.map_cons, List.map_cons, List.sum_cons, List.sum_cons]
    split <;> omega
theorem mem_of_find {L : List Fl} {f : Fl} {q : ByteArray} (h : findF L q = some f) : f ∈ L := List.mem_of_find?_eq_some h
theorem doneF_off (left : Lit → Bool) (g : Fl → Nat) (k : List UInt8) : ∀ L : List Fl, (∀ f ∈ L, f.f0.data.toList ≠ k) → doneF (fun z => left z && !z.sameKey (.string k)) g L = doneF left g L := by
  intro L h
  unfold doneF
  congr 1
  refine List.map_congr_left fun f hf => ?_
  have : (Lit.string f.f0.data.toList).sameKey (.string k) = false := by
    show (f.f0.data.toList == k) = false
    rw [beq_eq_false_iff_ne]
    exact h f hf
  simp [this]
theorem doneF_step (left : Lit → Bool) (g : Fl → Nat) (f : Fl) (hl : left (.string f.f0.data.toList) = true) : ∀ L : List Fl, Apart L → f ∈ L →
    doneF (fun z => left z && !z.sameKey (.string f.f0.data.toList)) g L = doneF left g L + g f := by
  intro L
  induction L with
  | nil => intro _ h; simp at h
  | cons a r ih =>
    intro hA hm
    rw [Apart, List.pairwise_cons] at hA
    have hcons : ∀ lf : Lit → Bool, doneF lf g (a :: r) = (if lf (.string a.f0.data.toList) = true then 0 else g a) + doneF lf g r := by
      intro lf
      unfold doneF
      rw [List.map_cons, List.sum_cons]
    rw [hcons, hcons]
    rcases List.mem_cons.1 hm with e | e
    · subst e
      rw [doneF_off left g f.f0.data.toList r (fun x hx e => hA.1 x hx e.symm), if_pos hl]
      have : (Lit.string f.f0.data.toList).sameKey (.string f.f0.data.toList) = true := by
        show (f.f0.data.toList == f.f0.data.toList) = true
        simp
      simp only [this, hl]
      simp
      omega
    · rw [ih hA.2 e]
      have hne := hA.1 f e
      have : (Lit.string a.f0.data.toList).sameKey (.string f.f0.data.toList) = false := by
        show (a.f0.data.toList == f.f0.data.toList) = false
        rw [beq_eq_false_iff_ne]
        exact hne
      simp only [this]
      simp
      omega
set_option maxHeartbeats 2000000 in
set_option maxRecDepth 100000 in
theorem used_call (w : World) (hT : Tr w φ p T A) (hu : usedF T.l ≤ 1000000000000000) :
    Calls Tryz.prog 37 #[.pointer (some ⟨p, 0, none⟩)] w fun e w' => e = .returned (.int .i64 (usedF T.l : Nat)) ∧ Below w.heap.size w w' := by
  obtain ⟨bn, bl, v, h⟩ := hT
  have HT := Lib.hid h
  have c2 := h.c2
  have HA := Lib.hid h.now.apart
  have hbl := h.now.lt
  clear h
  go_enter Tryz.func37, Tryz.ntmps37
  go_wp2_with (first
    | (at_range; refine wpList_range_own _ rfl _ 71 rfl 9 73 lawK Tryz.underlying71 _ bn T.l.length (fdat T.l) rfl HT.out.now ?_; intro w0 hrg0 hg0 hs0; have HR0 := Lib.hid hrg0; have HG0 := Lib.hid hg0; clear hrg0 hg0))
  go_frame
  go_loopw [3] (fun s wr => ∃ (left : Lit → Bool) (cnt n : Nat), Hid (wr.ranges Tryz.prog 9 (elemR φ) bn w.heap.size T.l.length (fdat T.l) left cnt) ∧ s = .int .i64 (n : Int) ∧ Hid (n = doneF left (fun f => f.f1.size) T.l) ∧ n ≤ 1000000000000000 ∧ Hid (Below w.heap.size w wr))
    (fun _ wr => wr.rangeLeft bn w.heap.size)
  case atStart =>
    refine ⟨_, _, 0, HR0, rfl, ?_, by omega, ?_⟩
    · rw [Hid, doneF_none]
    · exact (Below.refl _ _).grown HG0.out (Nat.le_refl _) (fun k e => by cases e)
  case round =>
    obtain ⟨left, cnt, n, hrg, rfl, hn, hn9, hB⟩ := hrel
    go_wp2_with (first
      | (at_next; refine wpList_next_img _ rfl _ rfl bn w.heap.size T.l.length left cnt rfl hrg.out ?_ ?_))
    · intro hc0 hl0
      have HL := Lib.hid hl0
      clear hl0
      go_wp2
      go_ret
      refine ⟨?_, hB.out⟩
      have e : n = usedF T.l := by rw [hn.out, doneF_all HL.out]; rfl
      rw [← e]
      rfl
    · intro f q w1 cnt1 hfl hlk hq hrg1 hlt hg1 hs1 hen
      have hB1 : Hid (Below w.heap.size w w1) := hB.out.grown hg1 hB.out.size (fun k e => by cases e; exact Nat.le_refl _)
      have hc0 := (HT.out.files.below hB1.out).cell0 hq
      have hst := doneF_step left (fun f => f.f1.size) f hlk T.l HA.out (mem_of_find hfl)
      have hle := doneF_le (fun z => left z && !z.sameKey (.string f.f0.data.toList)) (fun f => f.f1.size) T.l
      have hn1 : n + f.f1.size ≤ 1000000000000000 := by
        rw [hst, ← hn.out] at hle
        exact Nat.le_trans hle hu
      have HR1 := Lib.hid hrg1
      have HST : Hid (n + f.f1.size = doneF (fun z => left z && !z.sameKey (.string f.f0.data.toList)) (fun f => f.f1.size) T.l) := by rw [Hid, hst, ← hn.out]
      have HRG := hrg
      clear hrg1 hg1 hs1 hst hle hq hlk hfl
      go_wp2
      go_roundw
      case rel => exact ⟨_, cnt1, n + f.f1.size, HR1, by go_num, HST, hn1, hB1⟩
      case measure => rw [HR1.out.left_eq, HRG.out.left_eq]; exact hlt
end
section
variable {φ : Phi} {p : Nat} {T : TS} {A : Nat → Prop}
def sameB (a b : ByteArray) : Bool := a.data.toList == b.data.toList
def testB (q but : ByteArray) (f : Fl) : Bool := !(sameB f.f0 but) && (wayF f.f0 q || wayF q f.f0)
def blockT (L : List Fl) (q but : ByteArray) : Bool := L.any (testB q but)
theorem block_true {L : List Fl} {q but : ByteArray} {f : Fl} (hm : f ∈ L) (h : testB q but f = true) : blockT L q but = true := List.any_eq_true.2 ⟨f, hm, h⟩
theorem block_false {L : List Fl} {q but : ByteArray} (h : ∀ f ∈ L, testB q but f = false) : blockT L q but = false := by
  unfold blockT
  rw [List.any_eq_false]
  intro f hf
  rw [h f hf]
  decide
theorem pre_way (a b : ByteArray) : Lib.hasPrefix b.data.toList (a ++ (⟨#[47]⟩ : ByteArray)).data.toList = wayF a b := by
  unfold wayF
  rw [ByteArray.data_append, Array.toList_append]
  rfl
set_option maxHeartbeats 4000000 in
set_option maxRecDepth 100000 in
theorem blocked_call (w : World) (hT : Tr w φ p T A) (q but : ByteArray) (hq : q.size ≤ 100000) (hps : ∀ f ∈ T.l, f.f0.size ≤ 100000) :
    Calls Tryz.prog 83 #[.pointer (some ⟨p, 0, none⟩), .string q, .string but] w fun e w' => e = .returned (.bool (blockT T.l q but)) ∧ Below w.heap.size w w' := by
  obtain ⟨bn, bl, v, h⟩ := hT
  have HT := Lib.hid h
  have c2 := h.c2
  have HA := Lib.hid h.now.apart
  have HP := Lib.hid hps
  have hbl := h.now.lt
  clear h hps
  obtain ⟨r, hr⟩ : ∃ r, Hid (blockT T.l q but = r) := ⟨_, rfl⟩
  rw [hr.out]
  go_enter Tryz.func83, Tryz.ntmps83
  go_wp2_with (first
    | (at_range; refine wpList_range_own _ rfl _ 71 rfl 9 73 lawK Tryz.underlying71 _ bn T.l.length (fdat T.l) rfl HT.out.now ?_; intro w0 hrg0 hg0 hs0; have HR0 := Lib.hid hrg0; have HG0 := Lib.hid hg0; clear hrg0 hg0))
  go_frame
  go_loopw [7] (fun _ wr => ∃ (left : Lit → Bool) (cnt : Nat), Hid (wr.ranges Tryz.prog 9 (elemR φ) bn w.heap.size T.l.length (fdat T.l) left cnt) ∧ Hid (∀ f ∈ T.l, left (.string f.f0.data.toList) = false → testB q but f = false) ∧ Hid (Below w.heap.size w wr))
    (fun _ wr => wr.rangeLeft bn w.heap.size)
  case atStart =>
    refine ⟨_, _, HR0, ?_, ?_⟩
    · intro f hf hl
      rw [fdat_has] at hl
      unfold findF at hl
      have h2 : (T.l.find? fun g => g.f0.data.toList == f.f0.data.toList).isSome = true := List.find?_isSome.2 ⟨f, hf, by simp⟩
      rw [h2] at hl
      cases hl
    · exact (Below.refl _ _).grown HG0.out (Nat.le_refl _) (fun k e => by cases e)
  case round =>
    obtain ⟨left, cnt, hrg, hn, hB⟩ := hrel
    go_wp2_with (first
      | (at_next; refine wpList_next_img _ rfl _ rfl bn w.heap.size T.l.length left cnt rfl hrg.out ?_ ?_))
    · intro hc0 hl0
      have HL := Lib.hid hl0
      clear hl0
      have hfin : Hid (r = false) := by rw [Hid, ← hr.out]; exact block_false fun f hf => hn.out f hf (HL.out _)
      go_wp2
      go_ret
      exact ⟨by rw [hfin.out]; rfl, hB.out⟩
    · intro f qb w1 cnt1 hfl hlk hqb hrg1 hlt hg1 hs1 hen
      have hB1 : Hid (Below w.heap.size w w1) := hB.out.grown hg1 hB.out.size (fun k e => by cases e; exact Nat.le_refl _)
      have hfm := mem_of_find hfl
      have hfs := HP.out f hfm
      have HM := Lib.hid hfm
      have hstep : Hid (testB q but f = false → ∀ g ∈ T.l, (fun z => left z && !z.sameKey (.string f.f0.data.toList)) (.string g.f0.data.toList) = false → testB q but g = false) := by
        intro ht g hg he
        by_cases hgf : g.f0.data.toList = f.f0.data.toList
        · have e1 : findF T.l f.f0 = findF T.l g.f0 := by unfold findF; rw [hgf]
          have hgs : g = f := by
            have h1 := HA.out
            rw [Apart] at h1
            refine Classical.byContradiction fun hne => ?_
            obtain ⟨i, hi, rfl⟩ := List.mem_iff_getElem.1 hg
            obtain ⟨j, hj, hje⟩ := List.mem_iff_getElem.1 hfm
            rcases Nat.lt_trichotomy i j with h | h | h
            · exact List.pairwise_iff_getElem.1 h1 i j hi hj h (by rw [hje]; exact hgf)
            · subst h
              exact hne hje
            · exact List.pairwise_iff_getElem.1 h1 j i hj hi h (by rw [hje]; exact hgf.symm)
          rw [hgs]
          exact ht
        · refine hn.out g hg ?_
          have : (Lit.string g.f0.data.toList).sameKey (.string f.f0.data.toList) = false := by
            show (g.f0.data.toList == f.f0.data.toList) = false
            rw [beq_eq_false_iff_ne]
            exact hgf
          simpa [this] using he
      have HR1 := Lib.hid hrg1
      clear hrg1 hg1 hs1 hlk hfl hqb hfm
      have hbt : Hid (testB q but f = (!(sameB f.f0 but) && (wayF f.f0 q || wayF q f.f0))) := rfl
      have t2 := fun W => Lib.hid (prefix_call q (f.f0 ++ (⟨#[47]⟩ : ByteArray)) W)
      have t3 := fun W => Lib.hid (prefix_call f.f0 (q ++ (⟨#[47]⟩ : ByteArray)) W)
      simp only [pre_way] at t2 t3
      have h1a : (f.f0.toList == but.toList) = sameB f.f0 but := by unfold sameB; rw [ByteArray.toList_eq, ByteArray.toList_eq]
      have h1b : (f.f0.toList != but.toList) = !(sameB f.f0 but) := by rw [← h1a]; rfl
      have HRG := hrg
      have hrt : Hid (testB q but f = true → r = true) := fun ht => by rw [← hr.out]; exact block_true HM.out ht
      generalize sameB f.f0 but = b1 at h1a h1b hbt
      generalize wayF f.f0 q = b2 at t2 hbt
      generalize wayF q f.f0 = b3 at t3 hbt
      generalize testB q but f = tt at hbt hstep hrt
      have hbt' : tt = (!b1 && (b2 || b3)) := hbt.out
      clear hbt
      cases b1 <;> cases b2 <;> cases b3
      all_goals
        simp only [Bool.not_true, Bool.not_false, Bool.true_and, Bool.false_and, Bool.or_false, Bool.false_or, Bool.or_true, Bool.true_or] at h1b hbt'
        subst hbt'
        first
          | have hgo := Lib.hid (hstep.out rfl)
          | have hgo := Lib.hid (hrt.out rfl)
        clear hstep hrt
        go_wp2_with (first
          | (go_at_call 99; refine (t2 _).out.mono ?_; rintro e w' ⟨rfl, rfl⟩)
          | (go_at_call 99; refine (t3 _).out.mono ?_; rintro e w' ⟨rfl, rfl⟩))
        first
          | (go_roundw
             case rel => exact ⟨_, cnt1, HR1, hgo, hB1⟩
             case measure => rw [HR1.out.left_eq, HRG.out.left_eq]; exact hlt)
          | (go_ret
             exact ⟨by rw [hgo.out]; rfl, hB1.out⟩)
end
end Go.Proofs.YtghbaehbgefpaaaGreatDoor.Fr
