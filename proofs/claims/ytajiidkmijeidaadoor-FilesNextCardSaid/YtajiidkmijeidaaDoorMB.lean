import Derived.Test.YtajiidkmijeidaaDoorMA
import Derived.BigQuiet
import Derived.RegionTactic
import Derived.BigRegion
import Derived.Deep.AppendLies
import Derived.Deep.RegionWith
import Derived.Deep.RegionLaw
import Derived.Deep.Cut
import Derived.Deep.CutRange
import Derived.Deep.DeepCutAuto
import Derived.Lib.Builder
import Derived.Test.YtajiidkmijeidaaDoorShelf
import Derived.Lib.Hide
import Derived.Deep.RegionHeld3
import Derived.IntWalk
import Derived.Maps.AppendAt
import Derived.Deep.Onto
/- Several texts of this session in one (merge.py): the walks of the functions that the laws reach. -/
/- A tree in memory, and what only reads it. -/
namespace Go.Proofs.YtajiidkmijeidaaDoor.Fr
open Go.RowKit Go.Proofs.YtajiidkmijeidaaDoor.F Go.Maps
set_option linter.unusedVariables false
set_option linter.unusedSimpArgs false
/-- A tree: its room, its clock, its files, those of the last sync, the changes since. -/
structure TS where
  room : Int
  clock : Int
  l : List Fl
  last : List Fl
  ch : List Cg
def chCells (c : Cg) : List Value := [.int .i64 (c.f0 - 1), .string c.f1, .string c.f2, .int .i64 c.f3]
/-- Block p is a tree, whose own blocks are among A. -/
structure TrAt (w : World) (φ : Phi) (p : Nat) (T : TS) (A : Nat → Prop) (bn bl : Nat) (v : Value) : Prop where
  files : FilesOK w φ
  at_ : w.heap[p]? = some (.cells #[.int .i64 T.room, .int .i64 T.clock, .map (some bn), .map (some bl), v] 73 (0, 0))
  now : Img w φ bn T.l
  last : Img w φ bl T.last
  row : w.ownsRow 0 79 4 v T.ch.length (T.ch.flatMap chCells)
  ne : bn ≠ bl
  ap : A p
  an : A bn
  al : A bl
  ar : ∀ k, v.ownBlock = some k → A k
  free : ∀ k, A k → k < w.heap.size ∧ φ k = none
def Tr (w : World) (φ : Phi) (p : Nat) (T : TS) (A : Nat → Prop) : Prop := ∃ bn bl v, TrAt w φ p T A bn bl v
section
variable {w w' : World} {φ φ' : Phi} {p bn bl : Nat} {T : TS} {A S : Nat → Prop} {v : Value}
theorem TrAt.lt (h : TrAt w φ p T A bn bl v) : p < w.heap.size := (Array.getElem?_eq_some_iff.1 h.at_).1
theorem TrAt.c0 (h : TrAt w φ p T A bn bl v) : w.cell? ⟨p, 0, none⟩ = some (.int .i64 T.room) := by simp [World.cell?, h.at_]
theorem TrAt.c1 (h : TrAt w φ p T A bn bl v) : w.cell? ⟨p, 1, none⟩ = some (.int .i64 T.clock) := by simp [World.cell?, h.at_]
theorem TrAt.c2 (h : TrAt w φ p T A bn bl v) : w.cell? ⟨p, 2, none⟩ = some (.map (some bn)) := by simp [World.cell?, h.at_]
theorem TrAt.c3 (h : TrAt w φ p T A bn bl v) : w.cell? ⟨p, 3, none⟩ = some (.map (some bl)) := by simp [World.cell?, h.at_]
theorem TrAt.c4 (h : TrAt w φ p T A bn bl v) : w.cell? ⟨p, 4, none⟩ = some v := by simp [World.cell?, h.at_]
theorem TrAt.slice (h : TrAt w φ p T A bn bl v) : ∃ a c, v = .slice a T.ch.length c := by
  rcases h.row.2 with ⟨rfl, e⟩ | ⟨g, cap, cur, rfl, _⟩
  · exact ⟨none, 0, by rw [e]⟩
  · exact ⟨_, _, rfl⟩
theorem TrAt.row_ne (h : TrAt w φ p T A bn bl v) {k : Nat} (hk : v.ownBlock = some k) : k ≠ p ∧ k ≠ bn ∧ k ≠ bl := by
  rcases h.row.2 with ⟨rfl, e⟩ | ⟨g, cap, cur, rfl, _, hh, _⟩
  · simp [Value.ownBlock] at hk
  · have : g = k := by simpa [Value.ownBlock] using hk
    subst this
    obtain ⟨es, clock, h1, _⟩ := h.now
    obtain ⟨es2, clock2, h2, _⟩ := h.last
    refine ⟨?_, ?_, ?_⟩
    · rintro rfl
      rw [h.at_] at hh
      simp at hh
    · rintro rfl
      rw [h1] at hh
      simp at hh
    · rintro rfl
      rw [h2] at hh
      simp at hh
theorem TrAt.p_ne (h : TrAt w φ p T A bn bl v) : p ≠ bn ∧ p ≠ bl := by
  obtain ⟨es, clock, h1, _⟩ := h.now
  obtain ⟨es2, clock2, h2, _⟩ := h.last
  constructor
  · rintro rfl
    have := h.at_
    rw [h1] at this
    simp at this
  · rintro rfl
    have := h.at_
    rw [h2] at this
    simp at this
theorem ownsRow_block {base e size n : Nat} {xs : List Value} (h : w.ownsRow base e size v n xs) (hb : ∀ k, v.ownBlock = some k → w'.heap[k]? = w.heap[k]?) : w'.ownsRow base e size v n xs := by
  rcases h with ⟨h1, h2 | ⟨g, cap, cur, rfl, hg, hh, r⟩⟩
  · exact ⟨h1, .inl h2⟩
  · exact ⟨h1, .inr ⟨g, cap, cur, rfl, hg, (hb g rfl).trans hh, r⟩⟩
/-- A tree stays what it is where nothing of it is changed. -/
theorem TrAt.chg (h : TrAt w φ p T A bn bl v) (hc : Chg S w w') (hs : ∀ k, A k → ¬ S k) (he : Ext w φ φ') (hf : FilesOK w' φ') : TrAt w' φ' p T A bn bl v where
  files := hf
  at_ := (hc.block p h.lt (hs p h.ap)).trans h.at_
  now := (h.now.chg hc (hs bn h.an)).ext he.keeps
  last := (h.last.chg hc (hs bl h.al)).ext he.keeps
  row := ownsRow_block h.row fun k hk => hc.block k (h.free k (h.ar k hk)).1 (hs k (h.ar k hk))
  ne := h.ne
  ap := h.ap
  an := h.an
  al := h.al
  ar := h.ar
  free := fun k hk => by
    obtain ⟨h1, h2⟩ := h.free k hk
    refine ⟨Nat.lt_of_lt_of_le h1 hc.size, ?_⟩
    cases e : φ' k with
    | none => rfl
    | some f =>
      rcases he.new k (by rw [e]; simp) with h3 | h3
      · exact absurd h2 h3
      · omega
theorem TrAt.below (h : TrAt w φ p T A bn bl v) (hb : Below w.heap.size w w') : TrAt w' φ p T A bn bl v :=
  h.chg (Chg.of_below hb fun _ => False) (fun _ _ e => e) (Ext.refl _ _) (h.files.below hb)
theorem Tr.chg (h : Tr w φ p T A) (hc : Chg S w w') (hs : ∀ k, A k → ¬ S k) (he : Ext w φ φ') (hf : FilesOK w' φ') : Tr w' φ' p T A := by
  obtain ⟨bn, bl, v, h⟩ := h
  exact ⟨bn, bl, v, h.chg hc hs he hf⟩
theorem Tr.below (h : Tr w φ p T A) (hb : Below w.heap.size w w') : Tr w' φ p T A := by
  obtain ⟨bn, bl, v, h⟩ := h
  exact ⟨bn, bl, v, h.below hb⟩
theorem Tr.lt (h : Tr w φ p T A) : p < w.heap.size := by
  obtain ⟨bn, bl, v, h⟩ := h
  exact h.lt
end
/-! ### What only reads -/
section
variable {φ : Phi} {p : Nat} {T : TS} {A : Nat → Prop}
def readT (T : TS) (q : ByteArray) : ByteArray × Int := match findF T.l q with
  | none => (⟨#[]⟩, 4)
  | some f => (f.f1, 0)
set_option maxHeartbeats 1000000 in
set_option maxRecDepth 100000 in
theorem read_call (w : World) (hT : Tr w φ p T A) (q : ByteArray) (hq : q.size ≤ 100000) :
    Calls Tryd.prog 29 #[.pointer (some ⟨p, 0, none⟩), .string q] w fun e w' => e = .returned (.tuple #[.string (readT T q).1, .int .i64 (readT T q).2]) ∧ w = w' := by
  obtain ⟨bn, bl, v, h⟩ := hT
  have HT := Lib.hid h
  have c2 := h.c2
  cases hf : findF T.l q with
  | none =>
    have HN := Lib.hid hf
    have HR : Hid (readT T q = (⟨#[]⟩, 4)) := by unfold readT; rw [Hid, hf]
    clear hf h
    rw [HR.out]
    go_enter Tryd.func29, Tryd.ntmps29
    go_wp2_with (first
      | (at_lookup; refine wpList_look_none _ rfl _ _ rfl bn q rfl HT.out.now rfl hq HN.out ?_))
    go_ret2
    exact ⟨rfl, rfl⟩
  | some f =>
    have HN := Lib.hid hf
    have HR : Hid (readT T q = (f.f1, 0)) := by unfold readT; rw [Hid, hf]
    clear hf h
    rw [HR.out]
    go_enter Tryd.func29, Tryd.ntmps29
    go_wp2_with (first
      | (at_lookup; refine wpList_look_some _ rfl _ _ rfl bn q rfl HT.out.now rfl hq _ HN.out ?_; intro qb hqb; have hq0 := HT.out.files.cell0 hqb; clear hqb))
    go_ret2
    exact ⟨rfl, rfl⟩
set_option maxHeartbeats 1000000 in
set_option maxRecDepth 100000 in
theorem pending_call (w : World) (hT : Tr w φ p T A) : Calls Tryd.prog 21 #[.pointer (some ⟨p, 0, none⟩)] w fun e w' => e = .returned (.int .i64 T.ch.length) ∧ w = w' := by
  obtain ⟨bn, bl, v, h⟩ := hT
  obtain ⟨a, c, rfl⟩ := h.slice
  have c4 := h.c4
  clear h
  go_enter Tryd.func21, Tryd.ntmps21
  go_wp2
  go_ret
  exact ⟨rfl, rfl⟩
end
end Go.Proofs.YtajiidkmijeidaaDoor.Fr
/- How many bytes a tree has, and what is in the way. -/
namespace Go.Proofs.YtajiidkmijeidaaDoor.Fr
open Go.RowKit Go.Proofs.YtajiidkmijeidaaDoor.F Go.Maps
set_option linter.unusedVariables false
set_option linter.unusedSimpArgs false
section
variable {φ : Phi} {p : Nat} {T : TS} {A : Nat → Prop}
def statT (T : TS) (q : ByteArray) : Int × Int × Int := match findF T.l q with
  | none => (0, 0, 4)
  | some f => (f.f1.size, f.f2, 0)
set_option maxHeartbeats 2000000 in
set_option maxRecDepth 100000 in
theorem stat_call (w : World) (hT : Tr w φ p T A) (q : ByteArray) (hq : q.size ≤ 100000) :
    Calls Tryd.prog 23 #[.pointer (some ⟨p, 0, none⟩), .string q] w fun e w' => e = .returned (.tuple #[.agg #[.int .i64 (statT T q).1, .int .i64 (statT T q).2.1], .int .i64 (statT T q).2.2]) ∧ Below w.heap.size w w' := by
  obtain ⟨bn, bl, v, h⟩ := hT
  have HT := Lib.hid h
  have c2 := h.c2
  have hlt := h.lt
  cases hf : findF T.l q with
  | none =>
    have HN := Lib.hid hf
    have HR : Hid (statT T q = (0, 0, 4)) := by unfold statT; rw [Hid, hf]
    clear hf h
    rw [HR.out]
    go_enter Tryd.func23, Tryd.ntmps23
    go_wp2_with (first
      | (at_lookup; refine wpList_look_none _ rfl _ _ rfl bn q rfl (HT.out.now.below (newBelow _ _)) rfl hq HN.out ?_))
    exact bodyPost_ret (v := .tuple #[.agg #[.int .i64 0, .int .i64 0], .int .i64 4]) (by simp [results, Tryd.results23, go_sem]) rfl ⟨rfl, newBelow _ _⟩
  | some f =>
    have HN := Lib.hid hf
    have HR : Hid (statT T q = ((f.f1.size : Int), f.f2, 0)) := by unfold statT; rw [Hid, hf]
    clear hf h
    rw [HR.out]
    go_enter Tryd.func23, Tryd.ntmps23
    go_wp2_with (first
      | (at_lookup; refine wpList_look_some _ rfl _ _ rfl bn q rfl (HT.out.now.below (newBelow _ _)) rfl hq _ HN.out ?_; intro qb hqb; have hq0 := (HT.out.files.below (newBelow w (.cells #[.int .i64 0, .int .i64 0] 46))).cell0 hqb; have hq1 := (HT.out.files.below (newBelow w (.cells #[.int .i64 0, .int .i64 0] 46))).cell1 hqb; have hql := HT.out.files.lt (q := qb) (by rw [hqb]; simp); clear hqb))
    go_region
    go_wp2
    exact bodyPost_ret (v := .tuple #[.agg #[.int .i64 f.f1.size, .int .i64 f.f2], .int .i64 0]) (by simp [results, Tryd.results23, go_sem]) rfl ⟨rfl, (newBelow _ _).drew⟩
/-! ### a range over a tree's files -/
/-- No two files have one path. -/
def Apart (L : List Fl) : Prop := L.Pairwise fun a b => a.f0.data.toList ≠ b.f0.data.toList
theorem Img.apart {w : World} {b : Nat} {L : List Fl} (h : Img w φ b L) : Apart L := by
  obtain ⟨es, he, hp⟩ := World.ownsMap.tidy h lawK
  have he' : L.map fent = es := by
    have := he
    unfold fdat at this
    injection this
  rw [← he', List.pairwise_map] at hp
  refine hp.imp fun {a b} hab e => hab ?_
  show Lit.string _ = Lit.string _
  rw [e]
/-- What has been gone through. -/
def doneF (left : Lit → Bool) (g : Fl → Nat) (L : List Fl) : Nat := (L.map fun f => if left (.string f.f0.data.toList) = true then 0 else g f).sum
theorem doneF_none (g : Fl → Nat) (L : List Fl) : doneF (Maps.has (fdat L)) g L = 0 := by
  have : ∀ f ∈ L, (if Maps.has (fdat L) (.string f.f0.data.toList) = true then 0 else g f) = 0 := by
    intro f hf
    rw [if_pos]
    rw [fdat_has]
    unfold findF
    rw [List.find?_isSome]
    exact ⟨f, hf, by simp⟩
  unfold doneF
  rw [List.map_congr_left this]
  clear this
  induction L with
  | nil => rfl
  | cons a r ih => simpa using ih
theorem doneF_all {left : Lit → Bool} (h : ∀ kl, left kl = false) (g : Fl → Nat) (L : List Fl) : doneF left g L = (L.map g).sum := by
  unfold doneF
  congr 1
  refine List.map_congr_left fun f _ => ?_
  rw [if_neg]
  rw [h]
  decide
theorem doneF_le (left : Lit → Bool) (g : Fl → Nat) : ∀ L : List Fl, doneF left g L ≤ (L.map g).sum := by
  intro L
  unfold doneF
  induction L with
  | nil => exact Nat.le_refl _
  | cons a r ih =>
    rw [List.map_cons, List.map_cons, List.sum_cons, List.sum_cons]
    split <;> omega
theorem mem_of_find {L : List Fl} {f : Fl} {q : ByteArray} (h : findF L q = some f) : f ∈ L := List.mem_of_find?_eq_some h
theorem doneF_off (left : Lit → Bool) (g : Fl → Nat) (k : List UInt8) : ∀ L : List Fl, (∀ f ∈ L, f.f0.data.toList ≠ k) → doneF (fun z => left z && !z.sameKey (.string k)) g L = doneF left g L := by
  intro L h
  unfold doneF
  congr 1
  refine List.map_congr_left fun f hf => ?_
  have : (Lit.string f.f0.data.toList).sameKey (.string k) = false := by
    show (f.f0.data.toList == k) = false
    rw [beq_eq_false_iff_ne]
    exact h f hf
  simp [this]
theorem doneF_step (left : Lit → Bool) (g : Fl → Nat) (f : Fl) (hl : left (.string f.f0.data.toList) = true) : ∀ L : List Fl, Apart L → f ∈ L →
    doneF (fun z => left z && !z.sameKey (.string f.f0.data.toList)) g L = doneF left g L + g f := by
  intro L
  induction L with
  | nil => intro _ h; simp at h
  | cons a r ih =>
    intro hA hm
    rw [Apart, List.pairwise_cons] at hA
    have hcons : ∀ lf : Lit → Bool, doneF lf g (a :: r) = (if lf (.string a.f0.data.toList) = true then 0 else g a) + doneF lf g r := by
      intro lf
      unfold doneF
      rw [List.map_cons, List.sum_cons]
    rw [hcons, hcons]
    rcases List.mem_cons.1 hm with e | e
    · subst e
      rw [doneF_off left g f.f0.data.toList r (fun x hx e => hA.1 x hx e.symm), if_pos hl]
      have : (Lit.string f.f0.data.toList).sameKey (.string f.f0.data.toList) = true := by
        show (f.f0.data.toList == f.f0.data.toList) = true
        simp
      simp only [this, hl]
      simp
      omega
    · rw [ih hA.2 e]
      have hne := hA.1 f e
      have : (Lit.string a.f0.data.toList).sameKey (.string f.f0.data.toList) = false := by
        show (a.f0.data.toList == f.f0.data.toList) = false
        rw [beq_eq_false_iff_ne]
        exact hne
      simp only [this]
      simp
      omega
set_option maxHeartbeats 2000000 in
set_option maxRecDepth 100000 in
theorem used_call (w : World) (hT : Tr w φ p T A) (hu : usedF T.l ≤ 1000000000000000) :
    Calls Tryd.prog 17 #[.pointer (some ⟨p, 0, none⟩)] w fun e w' => e = .returned (.int .i64 (usedF T.l : Nat)) ∧ Below w.heap.size w w' := by
  obtain ⟨bn, bl, v, h⟩ := hT
  have HT := Lib.hid h
  have c2 := h.c2
  have HA := Lib.hid h.now.apart
  have hbl := h.now.lt
  clear h
  go_enter Tryd.func17, Tryd.ntmps17
  go_wp2_with (first
    | (at_range; refine wpList_range_own _ rfl _ 69 rfl 9 70 lawK Tryd.underlying69 _ bn T.l.length (fdat T.l) rfl HT.out.now ?_; intro w0 hrg0 hg0 hs0; have HR0 := Lib.hid hrg0; have HG0 := Lib.hid hg0; clear hrg0 hg0))
  go_frame
  go_loopw [3] (fun s wr => ∃ (left : Lit → Bool) (cnt n : Nat), Hid (wr.ranges Tryd.prog 9 (elemR φ) bn w.heap.size T.l.length (fdat T.l) left cnt) ∧ s = .int .i64 (n : Int) ∧ Hid (n = doneF left (fun f => f.f1.size) T.l) ∧ n ≤ 1000000000000000 ∧ Hid (Below w.heap.size w wr))
    (fun _ wr => wr.rangeLeft bn w.heap.size)
  case atStart =>
    refine ⟨_, _, 0, HR0, rfl, ?_, by omega, ?_⟩
    · rw [Hid, doneF_none]
    · exact (Below.refl _ _).grown HG0.out (Nat.le_refl _) (fun k e => by cases e)
  case round =>
    obtain ⟨left, cnt, n, hrg, rfl, hn, hn9, hB⟩ := hrel
    go_wp2_with (first
      | (at_next; refine wpList_next_img _ rfl _ rfl bn w.heap.size T.l.length left cnt rfl hrg.out ?_ ?_))
    · intro hc0 hl0
      have HL := Lib.hid hl0
      clear hl0
      go_wp2
      go_ret
      refine ⟨?_, hB.out⟩
      have e : n = usedF T.l := by rw [hn.out, doneF_all HL.out]; rfl
      rw [← e]
      rfl
    · intro f q w1 cnt1 hfl hlk hq hrg1 hlt hg1 hs1 hen
      have hB1 : Hid (Below w.heap.size w w1) := hB.out.grown hg1 hB.out.size (fun k e => by cases e; exact Nat.le_refl _)
      have hc0 := (HT.out.files.below hB1.out).cell0 hq
      have hst := doneF_step left (fun f => f.f1.size) f hlk T.l HA.out (mem_of_find hfl)
      have hle := doneF_le (fun z => left z && !z.sameKey (.string f.f0.data.toList)) (fun f => f.f1.size) T.l
      have hn1 : n + f.f1.size ≤ 1000000000000000 := by
        rw [hst, ← hn.out] at hle
        exact Nat.le_trans hle hu
      have HR1 := Lib.hid hrg1
      have HST : Hid (n + f.f1.size = doneF (fun z => left z && !z.sameKey (.string f.f0.data.toList)) (fun f => f.f1.size) T.l) := by rw [Hid, hst, ← hn.out]
      have HRG := hrg
      clear hrg1 hg1 hs1 hst hle hq hlk hfl
      go_wp2
      go_roundw
      case rel => exact ⟨_, cnt1, n + f.f1.size, HR1, by go_num, HST, hn1, hB1⟩
      case measure => rw [HR1.out.left_eq, HRG.out.left_eq]; exact hlt
end
end Go.Proofs.YtajiidkmijeidaaDoor.Fr
/- What is in the way. -/
namespace Go.Proofs.YtajiidkmijeidaaDoor.Fr
open Go.RowKit Go.Proofs.YtajiidkmijeidaaDoor.F Go.Maps
set_option linter.unusedVariables false
set_option linter.unusedSimpArgs false
section
variable {φ : Phi} {p : Nat} {T : TS} {A : Nat → Prop}
def sameB (a b : ByteArray) : Bool := a.data.toList == b.data.toList
def testB (q but : ByteArray) (f : Fl) : Bool := !(sameB f.f0 but) && (wayF f.f0 q || wayF q f.f0)
def blockT (L : List Fl) (q but : ByteArray) : Bool := L.any (testB q but)
theorem block_true {L : List Fl} {q but : ByteArray} {f : Fl} (hm : f ∈ L) (h : testB q but f = true) : blockT L q but = true := List.any_eq_true.2 ⟨f, hm, h⟩
theorem block_false {L : List Fl} {q but : ByteArray} (h : ∀ f ∈ L, testB q but f = false) : blockT L q but = false := by
  unfold blockT
  rw [List.any_eq_false]
  intro f hf
  rw [h f hf]
  decide
theorem pre_way (a b : ByteArray) : Lib.hasPrefix b.data.toList (a ++ (⟨#[47]⟩ : ByteArray)).data.toList = wayF a b := by
  unfold wayF
  rw [ByteArray.data_append, Array.toList_append]
  rfl
set_option maxHeartbeats 4000000 in
set_option maxRecDepth 100000 in
theorem blocked_call (w : World) (hT : Tr w φ p T A) (q but : ByteArray) (hq : q.size ≤ 100000) (hps : ∀ f ∈ T.l, f.f0.size ≤ 100000) :
    Calls Tryd.prog 46 #[.pointer (some ⟨p, 0, none⟩), .string q, .string but] w fun e w' => e = .returned (.bool (blockT T.l q but)) ∧ Below w.heap.size w w' := by
  obtain ⟨bn, bl, v, h⟩ := hT
  have HT := Lib.hid h
  have c2 := h.c2
  have HA := Lib.hid h.now.apart
  have HP := Lib.hid hps
  have hbl := h.now.lt
  clear h hps
  obtain ⟨r, hr⟩ : ∃ r, Hid (blockT T.l q but = r) := ⟨_, rfl⟩
  rw [hr.out]
  go_enter Tryd.func46, Tryd.ntmps46
  go_wp2_with (first
    | (at_range; refine wpList_range_own _ rfl _ 69 rfl 9 70 lawK Tryd.underlying69 _ bn T.l.length (fdat T.l) rfl HT.out.now ?_; intro w0 hrg0 hg0 hs0; have HR0 := Lib.hid hrg0; have HG0 := Lib.hid hg0; clear hrg0 hg0))
  go_frame
  go_loopw [7] (fun _ wr => ∃ (left : Lit → Bool) (cnt : Nat), Hid (wr.ranges Tryd.prog 9 (elemR φ) bn w.heap.size T.l.length (fdat T.l) left cnt) ∧ Hid (∀ f ∈ T.l, left (.string f.f0.data.toList) = false → testB q but f = false) ∧ Hid (Below w.heap.size w wr))
    (fun _ wr => wr.rangeLeft bn w.heap.size)
  case atStart =>
    refine ⟨_, _, HR0, ?_, ?_⟩
    · intro f hf hl
      rw [fdat_has] at hl
      unfold findF at hl
      have h2 : (T.l.find? fun g => g.f0.data.toList == f.f0.data.toList).isSome = true := List.find?_isSome.2 ⟨f, hf, by simp⟩
      rw [h2] at hl
      cases hl
    · exact (Below.refl _ _).grown HG0.out (Nat.le_refl _) (fun k e => by cases e)
  case round =>
    obtain ⟨left, cnt, hrg, hn, hB⟩ := hrel
    go_wp2_with (first
      | (at_next; refine wpList_next_img _ rfl _ rfl bn w.heap.size T.l.length left cnt rfl hrg.out ?_ ?_))
    · intro hc0 hl0
      have HL := Lib.hid hl0
      clear hl0
      have hfin : Hid (r = false) := by rw [Hid, ← hr.out]; exact block_false fun f hf => hn.out f hf (HL.out _)
      go_wp2
      go_ret
      exact ⟨by rw [hfin.out]; rfl, hB.out⟩
    · intro f qb w1 cnt1 hfl hlk hqb hrg1 hlt hg1 hs1 hen
      have hB1 : Hid (Below w.heap.size w w1) := hB.out.grown hg1 hB.out.size (fun k e => by cases e; exact Nat.le_refl _)
      have hfm := mem_of_find hfl
      have hfs := HP.out f hfm
      have HM := Lib.hid hfm
      have hstep : Hid (testB q but f = false → ∀ g ∈ T.l, (fun z => left z && !z.sameKey (.string f.f0.data.toList)) (.string g.f0.data.toList) = false → testB q but g = false) := by
        intro ht g hg he
        by_cases hgf : g.f0.data.toList = f.f0.data.toList
        · have e1 : findF T.l f.f0 = findF T.l g.f0 := by unfold findF; rw [hgf]
          have hgs : g = f := by
            have h1 := HA.out
            rw [Apart] at h1
            refine Classical.byContradiction fun hne => ?_
            obtain ⟨i, hi, rfl⟩ := List.mem_iff_getElem.1 hg
            obtain ⟨j, hj, hje⟩ := List.mem_iff_getElem.1 hfm
            rcases Nat.lt_trichotomy i j with h | h | h
            · exact List.pairwise_iff_getElem.1 h1 i j hi hj h (by rw [hje]; exact hgf)
            · subst h
              exact hne hje
            · exact List.pairwise_iff_getElem.1 h1 j i hj hi h (by rw [hje]; exact hgf.symm)
          rw [hgs]
          exact ht
        · refine hn.out g hg ?_
          have : (Lit.string g.f0.data.toList).sameKey (.string f.f0.data.toList) = false := by
            show (g.f0.data.toList == f.f0.data.toList) = false
            rw [beq_eq_false_iff_ne]
            exact hgf
          simpa [this] using he
      have HR1 := Lib.hid hrg1
      clear hrg1 hg1 hs1 hlk hfl hqb hfm
      have hbt : Hid (testB q but f = (!(sameB f.f0 but) && (wayF f.f0 q || wayF q f.f0))) := rfl
      have t2 := fun W => Lib.hid (prefix_call q (f.f0 ++ (⟨#[47]⟩ : ByteArray)) W)
      have t3 := fun W => Lib.hid (prefix_call f.f0 (q ++ (⟨#[47]⟩ : ByteArray)) W)
      simp only [pre_way] at t2 t3
      have h1a : (f.f0.toList == but.toList) = sameB f.f0 but := by unfold sameB; rw [ByteArray.toList_eq, ByteArray.toList_eq]
      have h1b : (f.f0.toList != but.toList) = !(sameB f.f0 but) := by rw [← h1a]; rfl
      have HRG := hrg
      have hrt : Hid (testB q but f = true → r = true) := fun ht => by rw [← hr.out]; exact block_true HM.out ht
      generalize sameB f.f0 but = b1 at h1a h1b hbt
      generalize wayF f.f0 q = b2 at t2 hbt
      generalize wayF q f.f0 = b3 at t3 hbt
      generalize testB q but f = tt at hbt hstep hrt
      have hbt' : tt = (!b1 && (b2 || b3)) := hbt.out
      clear hbt
      cases b1 <;> cases b2 <;> cases b3
      all_goals
        simp only [Bool.not_true, Bool.not_false, Bool.true_and, Bool.false_and, Bool.or_false, Bool.false_or, Bool.or_true, Bool.true_or] at h1b hbt'
        subst hbt'
        first
          | have hgo := Lib.hid (hstep.out rfl)
          | have hgo := Lib.hid (hrt.out rfl)
        clear hstep hrt
        go_wp2_with (first
          | (go_at_call 63; refine (t2 _).out.mono ?_; rintro e w' ⟨rfl, rfl⟩)
          | (go_at_call 63; refine (t3 _).out.mono ?_; rintro e w' ⟨rfl, rfl⟩))
        first
          | (go_roundw
             case rel => exact ⟨_, cnt1, HR1, hgo, hB1⟩
             case measure => rw [HR1.out.left_eq, HRG.out.left_eq]; exact hlt)
          | (go_ret
             exact ⟨by rw [hgo.out]; rfl, hB1.out⟩)
end
end Go.Proofs.YtajiidkmijeidaaDoor.Fr
/- A change is done, and kept. -/
namespace Go.Proofs.YtajiidkmijeidaaDoor.Fr
open Go.RowKit Go.Proofs.YtajiidkmijeidaaDoor.F Go.Maps
set_option linter.unusedVariables false
set_option linter.unusedSimpArgs false
def KindOK (c : Cg) : Prop := c.f0 = 1 ∨ c.f0 = 2 ∨ c.f0 = 3 ∨ c.f0 = 4
structure CgOK (c : Cg) : Prop where
  kind : KindOK c
  path : c.f1.size ≤ 100000
  text : c.f2.size ≤ 1000000000
  dest : c.f0 = 4 → c.f2.size ≤ 100000
theorem do_call (c : Cg) (hc : CgOK c) (b : Nat) (L : List Fl) (φ : Phi) (w : World) (hF : FilesOK w φ) (hI : Img w φ b L) (hb : φ b = none) (hL : L.length ≤ 100000) (hfs : ∀ f ∈ L, f.f1.size ≤ 1000000000000) :
    Calls Tryd.prog 44 #[cgV c, .map (some b), .int .i64 (-1)] w (DoEnd φ b (afterF L c) w) := by
  obtain ⟨k, p, s, tm⟩ := c
  have h1 : p.size ≤ 100000 := hc.path
  have h2 : s.size ≤ 1000000000 := hc.text
  have hcs : cutS s (-1) = s := cutS_neg (by decide)
  rcases hc.kind with e | e | e | e
  · obtain rfl : k = 1 := e
    have := do_written p s tm (-1) b L φ w hF hI hb hL h1 h2 (by decide)
    rw [hcs] at this
    exact this
  · obtain rfl : k = 2 := e
    have e1 : afterF L ⟨2, p, s, tm⟩ = putF L ⟨p, textF L p ++ s, tm⟩ := rfl
    rw [e1]
    cases hf : findF L p with
    | none =>
      have := do_app_none p s tm (-1) b L φ w hF hI hb hL h1 h2 (by decide) hf
      rw [hcs] at this
      have e2 : textF L p = ⟨#[]⟩ := by unfold textF; rw [hf]
      have e3 : (⟨#[]⟩ : ByteArray) ++ s = s := by
        apply ByteArray.ext
        simp
      rw [e2, e3]
      exact this
    | some f =>
      have := do_app_some p s tm (-1) b L φ w hF hI hb hL h1 h2 (by decide) f hf (hfs f (mem_of_find hf))
      rw [hcs] at this
      have e2 : textF L p = f.f1 := by unfold textF; rw [hf]
      rw [e2]
      exact this
  · obtain rfl : k = 3 := e
    have e1 : afterF L ⟨3, p, s, tm⟩ = dropF L p := rfl
    rw [e1]
    cases hf : findF L p with
    | none =>
      have e2 : dropF L p = L := by
        unfold dropF
        rw [List.filter_eq_self]
        intro f hm
        unfold findF at hf
        rw [List.find?_eq_none] at hf
        simpa using hf f hm
      rw [e2]
      exact do_none p s tm b L φ w hF hI hb hL h1 3 (.inl rfl) hf
    | some f => exact do_removed p s tm b L φ w hF hI hb hL h1 f hf
  · obtain rfl : k = 4 := e
    have e1 : afterF L ⟨4, p, s, tm⟩ = match findF L p with | none => L | some f => putF (dropF L p) ⟨s, f.f1, f.f2⟩ := rfl
    rw [e1]
    cases hf : findF L p with
    | none => exact do_none p s tm b L φ w hF hI hb hL h1 4 (.inr rfl) hf
    | some f => exact do_renamed p s tm b L φ w hF hI hb hL h1 f hf (hc.dest rfl)
def doneT (T : TS) (c : Cg) : TS := { T with clock := T.clock + 1, l := afterF T.l c, ch := T.ch ++ [c] }
/-- How a call that changes a tree ends: it is another tree, and nothing else is changed. -/
def TrEnd (w : World) (φ : Phi) (p : Nat) (A : Nat → Prop) (T' : TS) (w' : World) : Prop :=
  ∃ φ' A', Tr w' φ' p T' A' ∧ Ext w φ φ' ∧ Chg A w w' ∧ ∀ k, A' k → A k ∨ w.heap.size ≤ k
section
variable {φ : Phi} {p : Nat} {T : TS} {A : Nat → Prop}
theorem infoC : (Tryd.prog.info? 79).map (fun i => (i.zero, i.size, i.bytes)) = some (some (.agg #[.int .i64 0, .string ⟨#[]⟩, .string ⟨#[]⟩, .int .i64 0]), 4, 48) := by kernel_rfl
/-- Behind the change itself, ahead of its being kept. -/
def DoneMid (w : World) (φ : Phi) (p : Nat) (T : TS) (A : Nat → Prop) (bn bl : Nat) (v : Value) (c : Cg) (wc : World) : Prop :=
  ∃ φ', Ext w φ φ' ∧ TrAt wc φ' p { T with clock := T.clock + 1, l := afterF T.l c } A bn bl v ∧ Chg A w wc ∧ wc.heap[w.heap.size]? = some (.cells #[.int .i64 (c.f0 - 1), .string c.f1, .string c.f2, .int .i64 c.f3] 79 (0, 0))
theorem done_mid {w w3 : World} {bn bl : Nat} {v : Value} {c : Cg} {φ' : Phi} (h : TrAt w φ p T A bn bl v)
    (hE : Ext (((w.setCell ⟨p, 1, none⟩ (.int .i64 (T.clock + 1))).alloc (.cells #[.int .i64 (c.f0 - 1), .string c.f1, .string c.f2, .int .i64 c.f3] 79)).drew) φ φ') (hF : FilesOK w3 φ') (hI : Img w3 φ' bn (afterF T.l c))
    (hC : Chg (fun k => k = bn) (((w.setCell ⟨p, 1, none⟩ (.int .i64 (T.clock + 1))).alloc (.cells #[.int .i64 (c.f0 - 1), .string c.f1, .string c.f2, .int .i64 c.f3] 79)).drew) w3) : DoneMid w φ p T A bn bl v c w3 := by
  obtain ⟨W1, hW1⟩ : ∃ W1, W1 = (((w.setCell ⟨p, 1, none⟩ (.int .i64 (T.clock + 1))).alloc (.cells #[.int .i64 (c.f0 - 1), .string c.f1, .string c.f2, .int .i64 c.f3] 79)).drew) := ⟨_, rfl⟩
  rw [← hW1] at hE hC
  have hsz : W1.heap.size = w.heap.size + 1 := by
    rw [hW1]
    show ((w.setCell _ _).alloc _).heap.size = _
    rw [World.size_alloc]
    simp
  have hC1 : Chg (fun k => k = p) w W1 := by
    rw [hW1]
    exact (((Chg.refl (fun k => k = p) w).setCell (p := ⟨p, 1, none⟩) (fun _ => rfl) _).alloc _).drew
  have hnew : W1.heap[w.heap.size]? = some (.cells #[.int .i64 (c.f0 - 1), .string c.f1, .string c.f2, .int .i64 c.f3] 79 (0, 0)) := by
    rw [hW1]
    show ((w.setCell _ _).alloc _).heap[w.heap.size]? = _
    have := World.alloc_heap_new (w.setCell ⟨p, 1, none⟩ (.int .i64 (T.clock + 1))) (.cells #[.int .i64 (c.f0 - 1), .string c.f1, .string c.f2, .int .i64 c.f3] 79)
    rwa [show (w.setCell ⟨p, 1, none⟩ (.int .i64 (T.clock + 1))).heap.size = w.heap.size by simp] at this
  have hat1 : W1.heap[p]? = some (.cells #[.int .i64 T.room, .int .i64 (T.clock + 1), .map (some bn), .map (some bl), v] 73 (0, 0)) := by
    rw [hW1]
    show ((w.setCell _ _).alloc _).heap[p]? = _
    rw [Below.heap_alloc _ _ _ (by simpa using h.lt), heap_setCell_same w p 1 _ _ _ h.at_]
    simp
  have hcall : Chg A w w3 := (hC1.mono fun k _ e => e ▸ h.ap).trans hC fun k _ e => e ▸ h.an
  have hrow : ∀ k, v.ownBlock = some k → w3.heap[k]? = w.heap[k]? := by
    intro k hk
    obtain ⟨n1, n2, n3⟩ := h.row_ne hk
    have hkl := (h.free k (h.ar k hk)).1
    exact (hC.block k (by omega) n2).trans (hC1.block k hkl n1)
  refine ⟨φ', ⟨hE.keeps, fun k e => (hE.new k e).imp id fun h => by omega⟩, ?_, hcall, ?_⟩
  · exact {
      files := hF
      at_ := (hC.block p (by have := h.lt; omega) h.p_ne.1).trans hat1
      now := hI
      last := ((h.last.chg hC1 (fun e => h.p_ne.2 e.symm)).chg hC (fun e => h.ne e.symm)).ext hE.keeps
      row := ownsRow_block h.row hrow
      ne := h.ne
      ap := h.ap
      an := h.an
      al := h.al
      ar := h.ar
      free := fun k hk => by
        obtain ⟨h1, h2⟩ := h.free k hk
        refine ⟨Nat.lt_of_lt_of_le h1 hcall.size, ?_⟩
        cases e : φ' k with
        | none => rfl
        | some f =>
          rcases hE.new k (by rw [e]; simp) with h3 | h3
          · exact absurd h2 h3
          · omega }
  · exact (hC.block _ (by omega) (by have := h.now.lt; omega)).trans hnew
theorem done_end {w wc w4 : World} {φ' : Phi} {T1 : TS} {bn bl g cap : Nat} {v : Value} {c : Cg} {o : Obj} (hE : Ext w φ φ') (h : TrAt wc φ' p T1 A bn bl v) (hC : Chg A w wc)
    (hown : w4.ownsRow 0 79 4 (.slice (some ⟨g, 0, none⟩) (T1.ch.length + 1) cap) (T1.ch.length + 1) (T1.ch.flatMap chCells ++ chCells c)) (hgrow : World.grownBy (wc.alloc o).drew w4 v.ownBlock) (hloc : v.ownBlock = some g ∨ g = wc.heap.size + 1) :
    TrEnd w φ p A { T1 with ch := T1.ch ++ [c] } (w4.setCell ⟨p, 4, none⟩ (.slice (some ⟨g, 0, none⟩) (T1.ch.length + 1) cap)) := by
  have hsz : (wc.alloc o).drew.heap.size = wc.heap.size + 1 := World.size_alloc wc o
  have hblk : ∀ k, k < wc.heap.size → v.ownBlock ≠ some k → w4.heap[k]? = wc.heap[k]? := fun k hk hn => (hgrow.block k (by omega) (fun e => hn e.symm)).trans (Below.heap_alloc wc o k hk)
  have hp4 : w4.heap[p]? = wc.heap[p]? := hblk p h.lt fun e => (h.row_ne e).1 rfl
  have hgp : g ≠ p := by
    rcases hloc with e | e
    · exact (h.row_ne e).1
    · have := h.lt
      omega
  have hC4 : Chg (fun k => v.ownBlock = some k) wc w4 := ((Chg.refl _ wc).alloc o).drew.grown hgrow fun k e _ => e
  have hC5 : Chg (fun k => v.ownBlock = some k ∨ k = p) wc (w4.setCell ⟨p, 4, none⟩ (.slice (some ⟨g, 0, none⟩) (T1.ch.length + 1) cap)) :=
    (hC4.mono fun k _ e => .inl e).setCell (p := ⟨p, 4, none⟩) (fun _ => .inr rfl) _
  have hS : ∀ q, φ' q ≠ none → ¬ (v.ownBlock = some q ∨ q = p) := by
    rintro q hq (e | rfl)
    · exact hq (h.free q (h.ar q e)).2
    · exact hq (h.free q h.ap).2
  have hnb : ∀ b, b ≠ p → v.ownBlock ≠ some b → ¬ (v.ownBlock = some b ∨ b = p) := fun b h1 h2 h3 => h3.elim h2 h1
  refine ⟨φ', fun k => A k ∨ k = g, ⟨bn, bl, .slice (some ⟨g, 0, none⟩) (T1.ch.length + 1) cap, ?_⟩, hE, hC.trans hC5 (fun k _ e => e.elim (fun e => h.ar k e) fun e => e ▸ h.ap), ?_⟩
  · exact {
      files := h.files.chg hC5 hS
      at_ := by
        rw [heap_setCell_same w4 p 4 _ _ _ (hp4.trans h.at_)]
        simp
      now := h.now.chg hC5 (hnb bn (fun e => h.p_ne.1 e.symm) fun e => (h.row_ne e).2.1 rfl)
      last := h.last.chg hC5 (hnb bl (fun e => h.p_ne.2 e.symm) fun e => (h.row_ne e).2.2 rfl)
      row := by
        have h1 : (T1.ch ++ [c]).length = T1.ch.length + 1 := by simp
        have h2 : (T1.ch ++ [c]).flatMap chCells = T1.ch.flatMap chCells ++ chCells c := by simp
        show World.ownsRow _ 0 _ 4 _ (T1.ch ++ [c]).length _
        rw [h1, h2]
        refine ownsRow_block hown fun k hk => ?_
        have : g = k := by simpa [Value.ownBlock] using hk
        subst this
        exact Below.heap_setCell w4 ⟨p, 4, none⟩ _ g hgp
      ne := h.ne
      ap := .inl h.ap
      an := .inl h.an
      al := .inl h.al
      ar := fun k hk => by
        have : g = k := by simpa [Value.ownBlock] using hk
        exact .inr this.symm
      free := by
        intro k hk
        have hg4 : g < w4.heap.size := by
          rcases hown.2 with ⟨e, _⟩ | ⟨g', cap', cur, e, _, hh, _⟩
          · cases e
          · have : g = g' := by
              simp at e
              exact e.1
            subst this
            exact (Array.getElem?_eq_some_iff.1 hh).1
        rcases hk with hk | rfl
        · obtain ⟨h1, h2⟩ := h.free k hk
          exact ⟨Nat.lt_of_lt_of_le h1 hC5.size, h2⟩
        · refine ⟨by simpa using hg4, ?_⟩
          rcases hloc with e | e
          · exact (h.free k (h.ar k e)).2
          · cases e' : φ' k with
            | none => rfl
            | some f =>
              have := h.files.lt (q := k) (by rw [e']; simp)
              omega }
  · rintro k (hk | rfl)
    · exact .inl hk
    · rcases hloc with e | e
      · exact .inl (h.ar k e)
      · exact .inr (by have := hC.size; omega)
set_option maxHeartbeats 4000000 in
set_option maxRecDepth 100000 in
theorem done_call (w : World) (hT : Tr w φ p T A) (c : Cg) (hc : CgOK c) (hL : T.l.length ≤ 100000) (hfs : ∀ f ∈ T.l, f.f1.size ≤ 1000000000000) (hck : 0 ≤ T.clock ∧ T.clock ≤ 1000000000000) (hch : T.ch.length ≤ 1000000) :
    Calls Tryd.prog 47 #[.pointer (some ⟨p, 0, none⟩), cgV c] w fun e w' => e = .returned (.int .i64 0) ∧ TrEnd w φ p A (doneT T c) w' := by
  obtain ⟨bn, bl, v, h⟩ := hT
  have HT := Lib.hid h
  have HC := Lib.hid hc
  have HS := Lib.hid hfs
  have c1 := h.c1
  have c2 := h.c2
  have f1 : w.frozen? ⟨p, 1, none⟩ = false := by simp [World.frozen?, h.at_]
  have hlt := h.lt
  clear h hc hfs
  obtain ⟨k, q, s, tm⟩ := c
  unfold cgV
  go_enter Tryd.func47, Tryd.ntmps47
  go_wp2_with fail
  have HFI : Hid (∀ W, Chg (fun k => k = p) w W → FilesOK W φ ∧ Img W φ bn T.l) := fun W hW => ⟨HT.out.files.chg hW fun q hq e => hq (by rw [e]; exact (HT.out.free p HT.out.ap).2), HT.out.now.chg hW fun e => HT.out.p_ne.1 e.symm⟩
  have HB := Lib.hid (HT.out.free bn HT.out.an).2
  have HCH : Hid (∀ u o, Chg (fun k => k = p) w (((w.setCell ⟨p, 1, none⟩ u).alloc o).drew)) := fun u o => (((Chg.refl (fun k => k = p) w).setCell (p := ⟨p, 1, none⟩) (fun _ => rfl) u).alloc o).drew
  go_upto_region 2 with (fail)
  go_cut [4] (fun v4 wc => v4 = .int .i64 0 ∧ Hid (DoneMid w φ p T A bn bl v ⟨k, q, s, tm⟩ wc))
  case first =>
    go_region_with (first | (go_at_call 44; refine (do_call ⟨k, q, s, tm⟩ HC.out bn T.l φ _ (HFI.out _ (HCH.out _ _)).1 (HFI.out _ (HCH.out _ _)).2 HB.out hL HS.out).mono ?_; rintro e w3 ⟨rfl, φ', hE3, hF3, hI3, hC3⟩; have HM := Lib.hid (done_mid (c := ⟨k, q, s, tm⟩) HT.out hE3 hF3 hI3 hC3); clear hE3 hF3 hI3 hC3))
    all_goals
      go_wp2_with fail
      go_meet
      exact ⟨rfl, HM⟩
  case rest =>
    obtain ⟨rfl, hM⟩ := hcut
    obtain ⟨φ', hE, h3, hC, hbx⟩ := hM.out
    have H3 := Lib.hid h3
    have HE := Lib.hid hE
    have HCH := Lib.hid hC
    have hp3 := h3.lt
    have c4 := h3.c4
    have f4 : wc.frozen? ⟨p, 4, none⟩ = false := by simp [World.frozen?, h3.at_]
    have b0 : wc.cell? ⟨w.heap.size, 0, none⟩ = some (.int .i64 (k - 1)) := by simp [World.cell?, hbx]
    have b1 : wc.cell? ⟨w.heap.size, 1, none⟩ = some (.string q) := by simp [World.cell?, hbx]
    have b2 : wc.cell? ⟨w.heap.size, 2, none⟩ = some (.string s) := by simp [World.cell?, hbx]
    have b3 : wc.cell? ⟨w.heap.size, 3, none⟩ = some (.int .i64 tm) := by simp [World.cell?, hbx]
    clear h3 hE hC hbx hM
    obtain ⟨i0, hi, hz0, hz1, hz2⟩ := info_parts infoC
    have hO : Hid (World.ownsRow ((wc.alloc (.cells #[.int .i64 (k - 1), .string q, .string s, .int .i64 tm] 79)).drew) 0 79 4 v T.ch.length (T.ch.flatMap chCells)) := (H3.out.row.alloc _).drew
    have hnw : Hid (∀ (j : Nat) u, [Value.int .i64 (k - 1), .string q, .string s, .int .i64 tm][j]? = some u → ((wc.alloc (.cells #[.int .i64 (k - 1), .string q, .string s, .int .i64 tm] 79)).drew).cell? ((⟨wc.heap.size, 0, none⟩ : Addr).add j) = some u) := World.news_of_block (World.alloc_heap_new wc _)
    have hbx4 : Hid (∀ w4, World.grownBy ((wc.alloc (.cells #[.int .i64 (k - 1), .string q, .string s, .int .i64 tm] 79)).drew) w4 v.ownBlock → w4.cell? ⟨p, 4, none⟩ = some v ∧ w4.frozen? ⟨p, 4, none⟩ = false) := by
      intro w4 hg
      have e : w4.heap[p]? = wc.heap[p]? := (hg.block p (by show p < (wc.alloc _).heap.size; rw [World.size_alloc]; have := H3.out.lt; omega) fun e => (H3.out.row_ne e.symm).1 rfl).trans (Below.heap_alloc wc _ p H3.out.lt)
      rw [H3.out.at_] at e
      exact ⟨by simp [World.cell?, e], by simp [World.frozen?, e]⟩
    have hone : Hid (∀ u ∈ [Value.int .i64 (k - 1), .string q, .string s, .int .i64 tm], u.oneCell' = true) := by
      intro u hu
      simp only [List.mem_cons, List.not_mem_nil, or_false] at hu
      rcases hu with rfl | rfl | rfl | rfl <;> rfl
    have hsz1 : Hid ((wc.alloc (.cells #[.int .i64 (k - 1), .string q, .string s, .int .i64 tm] 79)).drew.heap.size = wc.heap.size + 1) := World.size_alloc _ _
    go_wp2_with fail
    go_region_law (first
      | (refine step_append_lies _ rfl (.tmp 22) (.tmp 24) 71 rfl 0 79 i0 _ 4 48 Tryd.underlying71 hi hz0 hz1 hz2 rfl (by decide) v T.ch.length (T.ch.flatMap chCells) (by simp [Act.eval, Act.put]) hO.out ⟨wc.heap.size, 0, none⟩ 1 1 [.int .i64 (k - 1), .string q, .string s, .int .i64 tm] (by simp [Act.eval, Act.put]) rfl hnw.out hone.out (by decide) (by unfold maxLen; omega) (by omega) (Nat.zero_le _) (wc.heap.size + 1) hsz1.out ?_; intro g cap w4 hown4 hgrow4 hloc4 hg4; obtain ⟨cp, fp⟩ := hbx4.out w4 hgrow4; have HE4 := Lib.hid (done_end (c := ⟨k, q, s, tm⟩) HE.out H3.out HCH.out hown4 hgrow4 hloc4); clear hown4 hgrow4 hloc4))
    all_goals
      go_wp2
      go_ret
      exact ⟨rfl, HE4.out⟩
end
end Go.Proofs.YtajiidkmijeidaaDoor.Fr
/- text.Path. -/
namespace Go.Proofs.YtajiidkmijeidaaDoor.Fr
open Go.RowKit Go.Proofs.YtajiidkmijeidaaDoor.F Go.Proofs.YtajiidkmijeidaaDoorW.PrintWords
set_option linter.unusedVariables false
set_option linter.unusedSimpArgs false
def plainI (c : Int) : Bool := decide (65 ≤ c ∧ c ≤ 90) || decide (97 ≤ c ∧ c ≤ 122) || decide (48 ≤ c ∧ c ≤ 57) || decide (c = 95 ∨ c = 45 ∨ c = 46 ∨ c = 47 ∨ c = 43)
theorem plain_tail (c : Int) : (if c = 95 then some true else (if c = 45 then some true else (if c = 46 then some true else (if c = 47 then some true else some (c == 43))))) = some (decide (c = 95 ∨ c = 45 ∨ c = 46 ∨ c = 47 ∨ c = 43)) := by
  by_cases h1 : c = 95
  · simp [h1]
  by_cases h2 : c = 45
  · simp [h2]
  by_cases h3 : c = 46
  · simp [h3]
  by_cases h4 : c = 47
  · simp [h4]
  by_cases h5 : c = 43
  · simp [h5]
  have : (c == 43) = false := by simpa using h5
  simp [h1, h2, h3, h4, h5, this]
theorem plain_f (c : Int) : text_plain.f 5 c = some (plainI c) := by
  unfold text_plain.f plainI
  simp only [text_plain.j0, text_plain.j1, plain_tail]
  generalize decide (c = 95 ∨ c = 45 ∨ c = 46 ∨ c = 47 ∨ c = 43) = t
  by_cases h1 : 65 ≤ c <;> by_cases h2 : c ≤ 90 <;> by_cases h3 : 97 ≤ c <;> by_cases h4 : c ≤ 122 <;> by_cases h5 : 48 ≤ c <;> by_cases h6 : c ≤ 57 <;> simp [h1, h2, h3, h4, h5, h6]
theorem plain_walk (c : Int) (w : World) : Calls Tryd.prog 61 #[.int .u8 c] w fun e w' => e = .returned (.bool (plainI c)) ∧ Drawn0 w w' := text_plain.calls 5 c _ w (plain_f c)
/-! #### Path -/
def slashB : ByteArray := ⟨#[47]⟩
def partsB (s : ByteArray) : List ByteArray := Lib.splitB slashB 0 (Lib.countB s slashB) s
def badPart (p : ByteArray) : Bool := p.toList.isEmpty || p.toList == [46] || p.toList == [46, 46]
def pathV (s : ByteArray) : Bool := (s.data.toList.all fun c => plainI c.toNat) && (partsB s).all (fun p => !badPart p) && decide ((s.size : Int) ≤ 100) && decide (((partsB s).length : Int) ≤ 8)
set_option maxHeartbeats 2000000 in
set_option maxRecDepth 100000 in
theorem path_walk (s : ByteArray) (hs : s.size ≤ 100000) (m : Int) (w : World) (hw : 0 < w.heap.size) (hm : w.cell? ⟨0, 0, none⟩ = some (.int .i64 m)) : Calls Tryd.prog 45 #[.string s] w fun e w' => e = .returned (.bool (pathV s)) ∧ Below w.heap.size w w' := by
  have hcv := fun (W : World) => Lib.run_convert_string_bytes (P := Tryd.prog) W 9 101 5 s Tryd.underlying9 Tryd.underlying101 Tryd.underlying5
  have HM := Lib.hid hm
  clear hm
  go_enter Tryd.func45, Tryd.ntmps45
  go_wp2
  clear hcv
  obtain ⟨w0, hw0⟩ : ∃ w0, Lib.bytesWorld w 5 s = w0 := ⟨_, rfl⟩
  have hs0 : w0.heap.size = w.heap.size + 1 := by rw [← hw0, Lib.bytesWorld_size]
  have hcell : Hid (∀ j, j < s.size → w0.cell? ⟨w.heap.size, j, none⟩ = some (.int .u8 (s.data.toList.getD j 0).toNat)) := by
    intro j hj
    rw [← hw0]
    exact Lib.bytesWorld_cell w 5 s j hj
  have hB0 : Hid (Below w.heap.size w w0) := by
    rw [Hid, ← hw0]
    exact ⟨rfl, rfl, rfl, by rw [Lib.bytesWorld_size]; omega, fun k hk => Lib.bytesWorld_at_old _ 5 s k hk⟩
  have hm0 : Hid (w0.cell? ⟨0, 0, none⟩ = some (.int .i64 m)) := (hB0.out.cell (p := ⟨0, 0, none⟩) hw).trans HM.out
  rw [hw0]
  clear hw0
  obtain ⟨r, hr⟩ : ∃ r, Hid (pathV s = r) := ⟨_, Lib.hid rfl⟩
  go_loopw [11] (fun i wr => ∃ (k nd : Nat), k ≤ s.size ∧ i = .int .i64 k ∧ wr = w0.drewN nd ∧ Hid ((s.data.toList.take k).all (fun c => plainI c.toNat) = true))
    (fun i _ => s.size - (intOf i).toNat)
  case atStart => exact ⟨0, 0, Nat.zero_le _, rfl, rfl, rfl⟩
  case round =>
    obtain ⟨k, nd, hk, rfl, rfl, hall⟩ := hrel
    by_cases hlt : k < s.size
    · have hc : (w0.drewN nd).cell? ⟨w.heap.size, k, none⟩ = some (.int .u8 (s.data.toList.getD k 0).toNat) := hcell.out k hlt
      have hk' : k < s.data.toList.length := by simpa using hlt
      obtain ⟨c, hcc⟩ : ∃ c, Hid (s.data.toList.getD k 0 = c) := ⟨_, Lib.hid rfl⟩
      rw [hcc.out] at hc
      have hstep : Hid ((s.data.toList.take (k + 1)).all (fun c => plainI c.toNat) = ((s.data.toList.take k).all (fun c => plainI c.toNat) && plainI c.toNat)) := by
        rw [Hid, List.take_succ_eq_append_getElem hk', List.all_append, ← hcc.out]
        simp [List.getD_eq_getElem?_getD, List.getElem?_eq_getElem hk']
      have hcl := UInt8.toNat_lt c
      have hmem : Hid (c ∈ s.data.toList) := by
        rw [Hid, ← hcc.out, List.getD_eq_getElem?_getD, List.getElem?_eq_getElem hk']
        exact List.getElem_mem hk'
      have hcN : Hid (c.toNat = c.toNat) := rfl
      cases hp : plainI (c.toNat : Int) with
      | true =>
        have hp' := Lib.hid hp
        generalize hn : c.toNat = n at hc hcl hp
        go_wp2_with (go_at_call 61; refine (plain_walk _ _).mono ?_; rintro e w1 ⟨rfl, ⟨n1, rfl⟩⟩; rw [hp])
        go_roundw
        case rel => exact ⟨k + 1, nd + n1, by omega, by go_num, rfl, by rw [Hid, hstep.out, hall.out, hp'.out]; rfl⟩
        case measure => simp [intOf]; omega
      | false =>
        have hfin : Hid (r = false) := by
          rw [Hid, ← hr.out]
          unfold pathV
          have : s.data.toList.all (fun c => plainI c.toNat) = false := by
            rw [List.all_eq_false]
            exact ⟨c, hmem.out, by rw [hp]; simp⟩
          rw [this]
          rfl
        generalize hn : c.toNat = n at hc hcl hp
        go_wp2_with (go_at_call 61; refine (plain_walk _ _).mono ?_; rintro e w1 ⟨rfl, ⟨n1, rfl⟩⟩; rw [hp])
        go_ret
        exact ⟨by rw [hr.out, hfin.out]; rfl, hB0.out.trans ⟨rfl, rfl, rfl, Nat.le_refl _, fun _ _ => rfl⟩⟩
    · have hkk : k = s.size := by omega
      have hall' : Hid (s.data.toList.all (fun c => plainI c.toNat) = true) := by
        have := hall.out
        rw [hkk, List.take_of_length_le (by rw [← Lib.size_eq]; exact Nat.le_refl _)] at this
        exact this
      clear hall
      have HS := Lib.hid (Tryd.strings_Split s slashB m (w0.drewN nd) (by omega) hm0.out (by decide))
      have hB1 : Hid (Below w.heap.size w (w0.drewN nd)) := hB0.out.trans ⟨rfl, rfl, rfl, Nat.le_refl _, fun _ _ => rfl⟩
      have hpl : (partsB s).length = Lib.countB s slashB + 1 := Lib.splitB_all slashB (by decide) 0 _ s rfl
      have hcle := Lib.countB_le slashB (by decide) s.size s (Nat.le_refl _)
      generalize hcn : Lib.countB s slashB = cn at HS hpl hcle
      have hps : Lib.splitB slashB 0 cn s = partsB s := by rw [← hcn]; rfl
      rw [hps] at HS
      have HR := hr
      have hsz : (w0.drewN nd).heap.size = w.heap.size + 1 := hs0
      obtain ⟨W, hW⟩ : ∃ W, (w0.drewN nd).alloc (.cells ((partsB s).map Value.string).toArray 9) = W := ⟨_, rfl⟩
      rw [hW] at HS
      have hpc : Hid (∀ j (h : j < (partsB s).length), W.cell? ⟨w.heap.size + 1, j, none⟩ = some (.string (partsB s)[j])) := by
        intro j h
        have hb := World.alloc_heap_new (w0.drewN nd) (.cells ((partsB s).map Value.string).toArray 9)
        rw [hW, hsz] at hb
        rw [Lib.cell_of_heap hb]
        simp [h, hs0]
      have hWb : Hid (Below w.heap.size w W) := by
        rw [Hid, ← hW]
        exact hB1.out.alloc (by rw [hsz]; omega) _
      have hWs : W.heap.size = w.heap.size + 2 := by rw [← hW]; simp [hs0]
      clear hW
      go_wp2_with (go_at_call 62; refine HS.out.mono ?_; rintro e w1 ⟨rfl, rfl⟩)
      have hpl' : ((partsB s).length : Int) = (cn : Int) + 1 := by omega
      go_loopw [23] (fun i wr => ∃ (j : Nat), j ≤ cn + 1 ∧ i = .int .i64 j ∧ wr = w1 ∧ Hid (((partsB s).take j).all (fun p => !badPart p) = true))
        (fun i _ => cn + 1 - (intOf i).toNat)
      case atStart => exact ⟨0, Nat.zero_le _, rfl, rfl, rfl⟩
      case round =>
        obtain ⟨j, hj, rfl, rfl, hgood⟩ := hrel
        by_cases hlj : j < cn + 1
        · have hjl : j < (partsB s).length := by omega
          have hc := hpc.out j hjl
          have hstep : Hid (((partsB s).take (j + 1)).all (fun p => !badPart p) = !badPart (partsB s)[j]) := by
            rw [Hid, List.take_succ_eq_append_getElem hjl, List.all_append, hgood.out]
            simp
          have hmem : Hid ((partsB s)[j] ∈ partsB s) := List.getElem_mem hjl
          generalize (partsB s)[j] = p at hc hstep hmem
          have hfin : Hid (badPart p = true → r = false) := by
            intro hb
            rw [← hr.out]
            unfold pathV
            have : (partsB s).all (fun p => !badPart p) = false := by
              rw [List.all_eq_false]
              exact ⟨p, hmem.out, by rw [hb]; simp⟩
            rw [this]
            simp
          cases h1 : p.toList.isEmpty with
          | true =>
            have hr0 := hfin.out (by unfold badPart; rw [h1]; rfl)
            subst hr0
            go_wp2
            go_ret
            exact ⟨by rw [hr.out]; rfl, hWb.out⟩
          | false =>
            cases h2 : (p.toList == [46]) with
            | true =>
              have hr0 := hfin.out (by unfold badPart; rw [h1, h2]; rfl)
              subst hr0
              go_wp2
              go_ret
              exact ⟨by rw [hr.out]; rfl, hWb.out⟩
            | false =>
              cases h3 : (p.toList == [46, 46]) with
              | true =>
                have hr0 := hfin.out (by unfold badPart; rw [h1, h2, h3]; rfl)
                subst hr0
                go_wp2
                go_ret
                exact ⟨by rw [hr.out]; rfl, hWb.out⟩
              | false =>
                have hst2 : Hid (((partsB s).take (j + 1)).all (fun p => !badPart p) = true) := by
                  show _ = true
                  rw [hstep.out]
                  unfold badPart
                  rw [h1, h2, h3]
                  rfl
                go_wp2
                go_roundw
                case rel => exact ⟨j + 1, by omega, by go_num, by first | trivial | rfl, hst2⟩
                case measure => simp [intOf]; omega
        · have hall2 : Hid ((partsB s).all (fun p => !badPart p) = true) := by
            have := hgood.out
            rw [List.take_of_length_le (by omega)] at this
            exact this
          by_cases h100 : (s.size : Int) ≤ 100
          · have hfin : Hid (pathV s = decide ((cn : Int) + 1 ≤ 8)) := by
              show pathV s = _
              unfold pathV
              rw [hall'.out, hall2.out, hpl', decide_eq_true h100]
              rfl
            go_wp2
            go_ret
            exact ⟨by rw [hfin.out]; rfl, hWb.out⟩
          · have hfin : Hid (pathV s = false) := by
              show pathV s = _
              unfold pathV
              rw [decide_eq_false h100]
              simp
            go_wp2
            go_ret
            exact ⟨by rw [hfin.out]; rfl, hWb.out⟩
end Go.Proofs.YtajiidkmijeidaaDoor.Fr
/- Writing to a tree. -/
namespace Go.Proofs.YtajiidkmijeidaaDoor.Fr
open Go.RowKit Go.Proofs.YtajiidkmijeidaaDoor.F Go.Maps
set_option linter.unusedVariables false
set_option linter.unusedSimpArgs false
/-- bytealg.MaxLen's cell holds a number. -/
structure Glob (w : World) : Prop where
  lt : 0 < w.heap.size
  cell : ∃ m, w.cell? ⟨0, 0, none⟩ = some (.int .i64 m)
theorem Glob.below {w w' : World} (h : Glob w) (hb : Below w.heap.size w w') : Glob w' :=
  ⟨Nat.lt_of_lt_of_le h.lt hb.size, by obtain ⟨m, hm⟩ := h.cell; exact ⟨m, (hb.cell (p := ⟨0, 0, none⟩) h.lt).trans hm⟩⟩
theorem path_call (s : ByteArray) (hs : s.size ≤ 100000) (w : World) (hG : Glob w) : Calls Tryd.prog 45 #[.string s] w fun e w' => e = .returned (.bool (pathV s)) ∧ Below w.heap.size w w' := by
  obtain ⟨m, hm⟩ := hG.cell
  exact path_walk s hs m w hG.lt hm
def hadT (T : TS) (q : ByteArray) : Nat := (textF T.l q).size
def sizeT (T : TS) (stays : Bool) (q s : ByteArray) : Nat := if stays = true then s.size + hadT T q else s.size
def manyT (T : TS) (q : ByteArray) : Nat := if (findF T.l q).isSome = true then T.l.length else T.l.length + 1
def fullT (T : TS) (stays : Bool) (q s : ByteArray) : Bool := decide (T.room < (usedF T.l : Int) - hadT T q + sizeT T stays q s) || decide (200 < manyT T q)
def writeE (T : TS) (stays : Bool) (q s : ByteArray) : Int :=
  if pathV q = false then 1 else if 16777216 < sizeT T stays q s then 3 else if blockT T.l q ⟨#[]⟩ = true then 5 else if fullT T stays q s = true then 6 else 0
def writeC (T : TS) (stays : Bool) (q s : ByteArray) : Cg := ⟨if stays = true then 2 else 1, q, s, T.clock + 1⟩
def writeT (T : TS) (stays : Bool) (q s : ByteArray) : TS := if writeE T stays q s = 0 then doneT T (writeC T stays q s) else T
section
variable {w w1 w' : World} {φ : Phi} {p : Nat} {T T' : TS} {A : Nat → Prop}
theorem TrEnd.same (h : Tr w φ p T A) (hb : Below w.heap.size w w') : TrEnd w φ p A T w' := ⟨φ, A, h.below hb, Ext.refl _ _, Chg.of_below hb _, fun _ hk => .inl hk⟩
theorem TrEnd.left (hb : Below w.heap.size w w1) (h : TrEnd w1 φ p A T' w') : TrEnd w φ p A T' w' := by
  obtain ⟨φ', A', h1, h2, h3, h4⟩ := h
  exact ⟨φ', A', h1, ⟨h2.keeps, fun q hq => (h2.new q hq).imp id fun e => Nat.le_trans hb.size e⟩, (Chg.of_below hb _).trans h3 fun _ _ e => e, fun k hk => (h4 k hk).imp id fun e => Nat.le_trans hb.size e⟩
/-- What a tree's numbers may be. -/
structure TOK (T : TS) : Prop where
  room : 0 ≤ T.room ∧ T.room ≤ 1000000000000
  clock : 0 ≤ T.clock ∧ T.clock ≤ 1000000000000
  many : T.l.length ≤ 100000
  texts : ∀ f ∈ T.l, f.f1.size ≤ 1000000000
  paths : ∀ f ∈ T.l, f.f0.size ≤ 100000
  used : usedF T.l ≤ 1000000000000000
  chs : T.ch.length ≤ 1000000
end
end Go.Proofs.YtajiidkmijeidaaDoor.Fr
/- Writing to a tree: the walk, way by way (written by gen_write.py). -/
namespace Go.Proofs.YtajiidkmijeidaaDoor.Fr
open Go.RowKit Go.Proofs.YtajiidkmijeidaaDoor.F Go.Maps
set_option linter.unusedVariables false
set_option linter.unusedSimpArgs false
section
variable {w : World} {φ : Phi} {p : Nat} {T : TS} {A : Nat → Prop} {q s : ByteArray}

set_option maxHeartbeats 4000000 in
set_option maxRecDepth 100000 in
theorem wr_n_true_e1 (hT : Tr w φ p T A) (hG : Glob w) (hO : TOK T) (hq : q.size ≤ 100000) (hs : s.size ≤ 1000000000) (hf : findF T.l q = none) (hp : pathV q = false) :
    Calls Tryd.prog 48 #[.pointer (some ⟨p, 0, none⟩), .string q, .string s, .bool true] w fun e w' => e = .returned (.int .i64 1) ∧ Below w.heap.size w w' := by
  have HX := Lib.hid hT
  have HG := Lib.hid hG
  have HO := Lib.hid hO
  have hroom := hO.room
  have hclock := hO.clock
  have hmany := hO.many
  have hused := hO.used
  have HN := Lib.hid hf
  have HP := Lib.hid hp
  obtain ⟨bn, bl, v, h⟩ := hT
  have HT := Lib.hid h
  have c2 := h.c2
  have c0 := h.c0
  have c1 := h.c1
  have hlt := h.lt
  have hlen := fun ty => h.now.len ty
  clear h hO hG hf hp
  go_enter Tryd.func48, Tryd.ntmps48
  go_wp2_with (first
    | (at_lookup; refine wpList_look_none _ rfl _ _ rfl bn q rfl HT.out.now rfl hq HN.out ?_)
    | (go_at_call 45; refine (path_call q hq _ HG.out).mono ?_; rintro e w1 ⟨rfl, hb1⟩; rw [HP.out]; have HB1 := Lib.hid hb1; clear hb1))
  go_ret
  exact ⟨rfl, HB1.out⟩
set_option maxHeartbeats 4000000 in
set_option maxRecDepth 100000 in
theorem wr_n_true_e3 (hT : Tr w φ p T A) (hG : Glob w) (hO : TOK T) (hq : q.size ≤ 100000) (hs : s.size ≤ 1000000000) (hf : findF T.l q = none) (hp : pathV q = true) (h2 : 16777216 < s.size) :
    Calls Tryd.prog 48 #[.pointer (some ⟨p, 0, none⟩), .string q, .string s, .bool true] w fun e w' => e = .returned (.int .i64 3) ∧ Below w.heap.size w w' := by
  have HX := Lib.hid hT
  have HG := Lib.hid hG
  have HO := Lib.hid hO
  have hroom := hO.room
  have hclock := hO.clock
  have hmany := hO.many
  have hused := hO.used
  have HN := Lib.hid hf
  have HP := Lib.hid hp
  obtain ⟨bn, bl, v, h⟩ := hT
  have HT := Lib.hid h
  have c2 := h.c2
  have c0 := h.c0
  have c1 := h.c1
  have hlt := h.lt
  have hlen := fun ty => h.now.len ty
  clear h hO hG hf hp
  go_enter Tryd.func48, Tryd.ntmps48
  go_wp2_with (first
    | (at_lookup; refine wpList_look_none _ rfl _ _ rfl bn q rfl HT.out.now rfl hq HN.out ?_)
    | (go_at_call 45; refine (path_call q hq _ HG.out).mono ?_; rintro e w1 ⟨rfl, hb1⟩; rw [HP.out]; have HB1 := Lib.hid hb1; clear hb1))
  go_ret
  exact ⟨rfl, HB1.out⟩
set_option maxHeartbeats 4000000 in
set_option maxRecDepth 100000 in
theorem wr_n_true_e5 (hT : Tr w φ p T A) (hG : Glob w) (hO : TOK T) (hq : q.size ≤ 100000) (hs : s.size ≤ 1000000000) (hf : findF T.l q = none) (hp : pathV q = true) (h2 : s.size ≤ 16777216) (h3 : blockT T.l q ⟨#[]⟩ = true) :
    Calls Tryd.prog 48 #[.pointer (some ⟨p, 0, none⟩), .string q, .string s, .bool true] w fun e w' => e = .returned (.int .i64 5) ∧ Below w.heap.size w w' := by
  have HX := Lib.hid hT
  have HG := Lib.hid hG
  have HO := Lib.hid hO
  have hroom := hO.room
  have hclock := hO.clock
  have hmany := hO.many
  have hused := hO.used
  have HN := Lib.hid hf
  have HP := Lib.hid hp
  obtain ⟨bn, bl, v, h⟩ := hT
  have HT := Lib.hid h
  have c2 := h.c2
  have c0 := h.c0
  have c1 := h.c1
  have hlt := h.lt
  have hlen := fun ty => h.now.len ty
  clear h hO hG hf hp
  have H3 := Lib.hid h3
  clear h3
  go_enter Tryd.func48, Tryd.ntmps48
  go_wp2_with (first
    | (at_lookup; refine wpList_look_none _ rfl _ _ rfl bn q rfl HT.out.now rfl hq HN.out ?_)
    | (go_at_call 45; refine (path_call q hq _ HG.out).mono ?_; rintro e w1 ⟨rfl, hb1⟩; rw [HP.out]; have HB1 := Lib.hid hb1; clear hb1)
    | (go_at_call 46; refine (blocked_call _ (HX.out.below HB1.out) q ⟨#[]⟩ hq HO.out.paths).mono ?_; rintro e w2 ⟨rfl, hb2⟩; rw [H3.out]; have HB2 := Lib.hid (HB1.out.trans (hb2.mono HB1.out.size)); clear hb2))
  go_ret
  exact ⟨rfl, HB2.out⟩
set_option maxHeartbeats 4000000 in
set_option maxRecDepth 100000 in
theorem wr_n_true_e6 (hT : Tr w φ p T A) (hG : Glob w) (hO : TOK T) (hq : q.size ≤ 100000) (hs : s.size ≤ 1000000000) (hf : findF T.l q = none) (hp : pathV q = true) (h2 : s.size ≤ 16777216) (h3 : blockT T.l q ⟨#[]⟩ = false) (h4 : T.room < (usedF T.l : Int) - 0 + ((s.size : Nat) : Int)) :
    Calls Tryd.prog 48 #[.pointer (some ⟨p, 0, none⟩), .string q, .string s, .bool true] w fun e w' => e = .returned (.int .i64 6) ∧ Below w.heap.size w w' := by
  have HX := Lib.hid hT
  have HG := Lib.hid hG
  have HO := Lib.hid hO
  have hroom := hO.room
  have hclock := hO.clock
  have hmany := hO.many
  have hused := hO.used
  have HN := Lib.hid hf
  have HP := Lib.hid hp
  obtain ⟨bn, bl, v, h⟩ := hT
  have HT := Lib.hid h
  have c2 := h.c2
  have c0 := h.c0
  have c1 := h.c1
  have hlt := h.lt
  have hlen := fun ty => h.now.len ty
  clear h hO hG hf hp
  have H3 := Lib.hid h3
  clear h3
  go_enter Tryd.func48, Tryd.ntmps48
  go_upto_region 16 with (first
    | (at_lookup; refine wpList_look_none _ rfl _ _ rfl bn q rfl HT.out.now rfl hq HN.out ?_)
    | (go_at_call 45; refine (path_call q hq _ HG.out).mono ?_; rintro e w1 ⟨rfl, hb1⟩; rw [HP.out]; have HB1 := Lib.hid hb1; clear hb1)
    | (go_at_call 46; refine (blocked_call _ (HX.out.below HB1.out) q ⟨#[]⟩ hq HO.out.paths).mono ?_; rintro e w2 ⟨rfl, hb2⟩; rw [H3.out]; have HB2 := Lib.hid (HB1.out.trans (hb2.mono HB1.out.size)); clear hb2))
  have c02 := (HB2.out.cell (p := ⟨p, 0, none⟩) hlt).trans c0
  have c12 := (HB2.out.cell (p := ⟨p, 1, none⟩) hlt).trans c1
  have E1 : IntKind.i64.wrap (usedF T.l : Int) = (usedF T.l : Int) := IntWalk.i64_in _ (by omega)
  have E2 : IntKind.i64.wrap ((usedF T.l : Int) + (s.size : Int)) = (usedF T.l : Int) + (s.size : Int) := IntWalk.i64_in _ (by omega)
  have D1 : decide (T.room < (usedF T.l : Int) + (s.size : Int)) = true := decide_eq_true (by omega)
  clear h4
  go_cut [58] (fun v58 wc => v58 = .bool true ∧ Hid (Below w.heap.size w wc))
  case first =>
    first | (go_region_with (first | (go_at_call 17; refine (used_call _ (HX.out.below HB2.out.drew) hused).mono ?_; rintro e w3 ⟨rfl, hb3⟩; have c03 := (hb3.cell (p := ⟨p, 0, none⟩) (Nat.lt_of_lt_of_le hlt HB2.out.size)).trans c02; have HB3 := Lib.hid (HB2.out.drew.trans (hb3.mono HB2.out.size)); clear hb3))) | fail
    all_goals
      go_wp2_with fail
      go_meet
      exact ⟨rfl, HB3⟩
  case rest =>
    obtain ⟨rfl, HBc⟩ := hcut
    go_wp2_with fail
    go_ret
    exact ⟨rfl, HBc.out⟩
set_option maxHeartbeats 4000000 in
set_option maxRecDepth 100000 in
theorem wr_n_true_e7 (hT : Tr w φ p T A) (hG : Glob w) (hO : TOK T) (hq : q.size ≤ 100000) (hs : s.size ≤ 1000000000) (hf : findF T.l q = none) (hp : pathV q = true) (h2 : s.size ≤ 16777216) (h3 : blockT T.l q ⟨#[]⟩ = false) (h4 : ¬ T.room < (usedF T.l : Int) - 0 + ((s.size : Nat) : Int)) (h5 : 200 < T.l.length + 1) :
    Calls Tryd.prog 48 #[.pointer (some ⟨p, 0, none⟩), .string q, .string s, .bool true] w fun e w' => e = .returned (.int .i64 6) ∧ Below w.heap.size w w' := by
  have HX := Lib.hid hT
  have HG := Lib.hid hG
  have HO := Lib.hid hO
  have hroom := hO.room
  have hclock := hO.clock
  have hmany := hO.many
  have hused := hO.used
  have HN := Lib.hid hf
  have HP := Lib.hid hp
  obtain ⟨bn, bl, v, h⟩ := hT
  have HT := Lib.hid h
  have c2 := h.c2
  have c0 := h.c0
  have c1 := h.c1
  have hlt := h.lt
  have hlen := fun ty => h.now.len ty
  clear h hO hG hf hp
  have H3 := Lib.hid h3
  clear h3
  go_enter Tryd.func48, Tryd.ntmps48
  go_upto_region 16 with (first
    | (at_lookup; refine wpList_look_none _ rfl _ _ rfl bn q rfl HT.out.now rfl hq HN.out ?_)
    | (go_at_call 45; refine (path_call q hq _ HG.out).mono ?_; rintro e w1 ⟨rfl, hb1⟩; rw [HP.out]; have HB1 := Lib.hid hb1; clear hb1)
    | (go_at_call 46; refine (blocked_call _ (HX.out.below HB1.out) q ⟨#[]⟩ hq HO.out.paths).mono ?_; rintro e w2 ⟨rfl, hb2⟩; rw [H3.out]; have HB2 := Lib.hid (HB1.out.trans (hb2.mono HB1.out.size)); clear hb2))
  have c02 := (HB2.out.cell (p := ⟨p, 0, none⟩) hlt).trans c0
  have c12 := (HB2.out.cell (p := ⟨p, 1, none⟩) hlt).trans c1
  have E1 : IntKind.i64.wrap (usedF T.l : Int) = (usedF T.l : Int) := IntWalk.i64_in _ (by omega)
  have E2 : IntKind.i64.wrap ((usedF T.l : Int) + (s.size : Int)) = (usedF T.l : Int) + (s.size : Int) := IntWalk.i64_in _ (by omega)
  have D1 : decide (T.room < (usedF T.l : Int) + (s.size : Int)) = false := decide_eq_false (by omega)
  have D2 : decide ((200 : Int) < (T.l.length : Int) + 1) = true := decide_eq_true (by omega)
  clear h4 h5
  go_cut [58] (fun v58 wc => v58 = .bool true ∧ Hid (Below w.heap.size w wc))
  case first =>
    first | (go_region_held3 (fun w' => w'.cell? ⟨p, 0, none⟩ = some (.int .i64 T.room) ∧ Hid (Below w.heap.size w w')) (first | exact ⟨c02, HB2.out.drew⟩ | exact ⟨c03, HB3⟩) (first | (go_at_call 17; refine (used_call _ (HX.out.below HB2.out.drew) hused).mono ?_; rintro e w3 ⟨rfl, hb3⟩; have c03 := (hb3.cell (p := ⟨p, 0, none⟩) (Nat.lt_of_lt_of_le hlt HB2.out.size)).trans c02; have HB3 := Lib.hid (HB2.out.drew.trans (hb3.mono HB2.out.size)); clear hb3))) | fail
    all_goals
      go_wp2_with fail
      go_meet
      exact ⟨rfl, HB3⟩
  case rest =>
    obtain ⟨rfl, HBc⟩ := hcut
    go_wp2_with fail
    go_ret
    exact ⟨rfl, HBc.out⟩
set_option maxHeartbeats 4000000 in
set_option maxRecDepth 100000 in
theorem wr_n_true_ok (hT : Tr w φ p T A) (hG : Glob w) (hO : TOK T) (hq : q.size ≤ 100000) (hs : s.size ≤ 1000000000) (hf : findF T.l q = none) (hp : pathV q = true) (h2 : s.size ≤ 16777216) (h3 : blockT T.l q ⟨#[]⟩ = false) (h4 : ¬ T.room < (usedF T.l : Int) - 0 + ((s.size : Nat) : Int)) (h5 : T.l.length + 1 ≤ 200) :
    Calls Tryd.prog 48 #[.pointer (some ⟨p, 0, none⟩), .string q, .string s, .bool true] w fun e w' => e = .returned (.int .i64 0) ∧ TrEnd w φ p A (doneT T ⟨2, q, s, T.clock + 1⟩) w' := by
  have HX := Lib.hid hT
  have HG := Lib.hid hG
  have HO := Lib.hid hO
  have hroom := hO.room
  have hclock := hO.clock
  have hmany := hO.many
  have hused := hO.used
  have HN := Lib.hid hf
  have HP := Lib.hid hp
  obtain ⟨bn, bl, v, h⟩ := hT
  have HT := Lib.hid h
  have c2 := h.c2
  have c0 := h.c0
  have c1 := h.c1
  have hlt := h.lt
  have hlen := fun ty => h.now.len ty
  clear h hO hG hf hp
  have H3 := Lib.hid h3
  clear h3
  go_enter Tryd.func48, Tryd.ntmps48
  go_upto_region 16 with (first
    | (at_lookup; refine wpList_look_none _ rfl _ _ rfl bn q rfl HT.out.now rfl hq HN.out ?_)
    | (go_at_call 45; refine (path_call q hq _ HG.out).mono ?_; rintro e w1 ⟨rfl, hb1⟩; rw [HP.out]; have HB1 := Lib.hid hb1; clear hb1)
    | (go_at_call 46; refine (blocked_call _ (HX.out.below HB1.out) q ⟨#[]⟩ hq HO.out.paths).mono ?_; rintro e w2 ⟨rfl, hb2⟩; rw [H3.out]; have HB2 := Lib.hid (HB1.out.trans (hb2.mono HB1.out.size)); clear hb2))
  have c02 := (HB2.out.cell (p := ⟨p, 0, none⟩) hlt).trans c0
  have c12 := (HB2.out.cell (p := ⟨p, 1, none⟩) hlt).trans c1
  have E1 : IntKind.i64.wrap (usedF T.l : Int) = (usedF T.l : Int) := IntWalk.i64_in _ (by omega)
  have E2 : IntKind.i64.wrap ((usedF T.l : Int) + (s.size : Int)) = (usedF T.l : Int) + (s.size : Int) := IntWalk.i64_in _ (by omega)
  have D1 : decide (T.room < (usedF T.l : Int) + (s.size : Int)) = false := decide_eq_false (by omega)
  have D2 : decide ((200 : Int) < (T.l.length : Int) + 1) = false := decide_eq_false (by omega)
  clear h4 h5
  go_cut [58] (fun v58 wc => v58 = .bool false ∧ Hid (Below w.heap.size w wc))
  case first =>
    first | (go_region_held3 (fun w' => w'.cell? ⟨p, 0, none⟩ = some (.int .i64 T.room) ∧ Hid (Below w.heap.size w w')) (first | exact ⟨c02, HB2.out.drew⟩ | exact ⟨c03, HB3⟩) (first | (go_at_call 17; refine (used_call _ (HX.out.below HB2.out.drew) hused).mono ?_; rintro e w3 ⟨rfl, hb3⟩; have c03 := (hb3.cell (p := ⟨p, 0, none⟩) (Nat.lt_of_lt_of_le hlt HB2.out.size)).trans c02; have HB3 := Lib.hid (HB2.out.drew.trans (hb3.mono HB2.out.size)); clear hb3))) | fail
    all_goals
      go_wp2_with fail
      go_meet
      exact ⟨rfl, HB3⟩
  case rest =>
    obtain ⟨rfl, HBc⟩ := hcut
    have cc1 := (HBc.out.cell (p := ⟨p, 1, none⟩) hlt).trans c1
    have HD : Hid (∀ W, Tr W φ p T A → Calls Tryd.prog 47 #[.pointer (some ⟨p, 0, none⟩), .agg #[.int .i64 1, .string q, .string s, .int .i64 (T.clock + 1)]] W fun e w' => e = .returned (.int .i64 0) ∧ TrEnd W φ p A (doneT T ⟨2, q, s, T.clock + 1⟩) w') := fun W hW =>
      done_call W hW ⟨2, q, s, T.clock + 1⟩ ⟨.inr (.inl rfl), hq, hs, fun e => absurd e (show ¬ ((2 : Int) = 4) by decide)⟩ HO.out.many (fun f hf => Nat.le_trans (HO.out.texts f hf) (by decide)) HO.out.clock HO.out.chs
    go_wp2_with (first
      | (go_at_call 47; refine (HD.out _ (HX.out.below HBc.out)).mono ?_; rintro e w4 ⟨rfl, he4⟩; have HE4 := Lib.hid he4; clear he4))
    go_ret
    exact ⟨rfl, HE4.out.left HBc.out⟩
set_option maxHeartbeats 4000000 in
set_option maxRecDepth 100000 in
theorem wr_n_false_e1 (hT : Tr w φ p T A) (hG : Glob w) (hO : TOK T) (hq : q.size ≤ 100000) (hs : s.size ≤ 1000000000) (hf : findF T.l q = none) (hp : pathV q = false) :
    Calls Tryd.prog 48 #[.pointer (some ⟨p, 0, none⟩), .string q, .string s, .bool false] w fun e w' => e = .returned (.int .i64 1) ∧ Below w.heap.size w w' := by
  have HX := Lib.hid hT
  have HG := Lib.hid hG
  have HO := Lib.hid hO
  have hroom := hO.room
  have hclock := hO.clock
  have hmany := hO.many
  have hused := hO.used
  have HN := Lib.hid hf
  have HP := Lib.hid hp
  obtain ⟨bn, bl, v, h⟩ := hT
  have HT := Lib.hid h
  have c2 := h.c2
  have c0 := h.c0
  have c1 := h.c1
  have hlt := h.lt
  have hlen := fun ty => h.now.len ty
  clear h hO hG hf hp
  go_enter Tryd.func48, Tryd.ntmps48
  go_wp2_with (first
    | (at_lookup; refine wpList_look_none _ rfl _ _ rfl bn q rfl HT.out.now rfl hq HN.out ?_)
    | (go_at_call 45; refine (path_call q hq _ HG.out).mono ?_; rintro e w1 ⟨rfl, hb1⟩; rw [HP.out]; have HB1 := Lib.hid hb1; clear hb1))
  go_ret
  exact ⟨rfl, HB1.out⟩
set_option maxHeartbeats 4000000 in
set_option maxRecDepth 100000 in
theorem wr_n_false_e3 (hT : Tr w φ p T A) (hG : Glob w) (hO : TOK T) (hq : q.size ≤ 100000) (hs : s.size ≤ 1000000000) (hf : findF T.l q = none) (hp : pathV q = true) (h2 : 16777216 < s.size) :
    Calls Tryd.prog 48 #[.pointer (some ⟨p, 0, none⟩), .string q, .string s, .bool false] w fun e w' => e = .returned (.int .i64 3) ∧ Below w.heap.size w w' := by
  have HX := Lib.hid hT
  have HG := Lib.hid hG
  have HO := Lib.hid hO
  have hroom := hO.room
  have hclock := hO.clock
  have hmany := hO.many
  have hused := hO.used
  have HN := Lib.hid hf
  have HP := Lib.hid hp
  obtain ⟨bn, bl, v, h⟩ := hT
  have HT := Lib.hid h
  have c2 := h.c2
  have c0 := h.c0
  have c1 := h.c1
  have hlt := h.lt
  have hlen := fun ty => h.now.len ty
  clear h hO hG hf hp
  go_enter Tryd.func48, Tryd.ntmps48
  go_wp2_with (first
    | (at_lookup; refine wpList_look_none _ rfl _ _ rfl bn q rfl HT.out.now rfl hq HN.out ?_)
    | (go_at_call 45; refine (path_call q hq _ HG.out).mono ?_; rintro e w1 ⟨rfl, hb1⟩; rw [HP.out]; have HB1 := Lib.hid hb1; clear hb1))
  go_ret
  exact ⟨rfl, HB1.out⟩
set_option maxHeartbeats 4000000 in
set_option maxRecDepth 100000 in
theorem wr_n_false_e5 (hT : Tr w φ p T A) (hG : Glob w) (hO : TOK T) (hq : q.size ≤ 100000) (hs : s.size ≤ 1000000000) (hf : findF T.l q = none) (hp : pathV q = true) (h2 : s.size ≤ 16777216) (h3 : blockT T.l q ⟨#[]⟩ = true) :
    Calls Tryd.prog 48 #[.pointer (some ⟨p, 0, none⟩), .string q, .string s, .bool false] w fun e w' => e = .returned (.int .i64 5) ∧ Below w.heap.size w w' := by
  have HX := Lib.hid hT
  have HG := Lib.hid hG
  have HO := Lib.hid hO
  have hroom := hO.room
  have hclock := hO.clock
  have hmany := hO.many
  have hused := hO.used
  have HN := Lib.hid hf
  have HP := Lib.hid hp
  obtain ⟨bn, bl, v, h⟩ := hT
  have HT := Lib.hid h
  have c2 := h.c2
  have c0 := h.c0
  have c1 := h.c1
  have hlt := h.lt
  have hlen := fun ty => h.now.len ty
  clear h hO hG hf hp
  have H3 := Lib.hid h3
  clear h3
  go_enter Tryd.func48, Tryd.ntmps48
  go_wp2_with (first
    | (at_lookup; refine wpList_look_none _ rfl _ _ rfl bn q rfl HT.out.now rfl hq HN.out ?_)
    | (go_at_call 45; refine (path_call q hq _ HG.out).mono ?_; rintro e w1 ⟨rfl, hb1⟩; rw [HP.out]; have HB1 := Lib.hid hb1; clear hb1)
    | (go_at_call 46; refine (blocked_call _ (HX.out.below HB1.out) q ⟨#[]⟩ hq HO.out.paths).mono ?_; rintro e w2 ⟨rfl, hb2⟩; rw [H3.out]; have HB2 := Lib.hid (HB1.out.trans (hb2.mono HB1.out.size)); clear hb2))
  go_ret
  exact ⟨rfl, HB2.out⟩
set_option maxHeartbeats 4000000 in
set_option maxRecDepth 100000 in
theorem wr_n_false_e6 (hT : Tr w φ p T A) (hG : Glob w) (hO : TOK T) (hq : q.size ≤ 100000) (hs : s.size ≤ 1000000000) (hf : findF T.l q = none) (hp : pathV q = true) (h2 : s.size ≤ 16777216) (h3 : blockT T.l q ⟨#[]⟩ = false) (h4 : T.room < (usedF T.l : Int) - 0 + ((s.size : Nat) : Int)) :
    Calls Tryd.prog 48 #[.pointer (some ⟨p, 0, none⟩), .string q, .string s, .bool false] w fun e w' => e = .returned (.int .i64 6) ∧ Below w.heap.size w w' := by
  have HX := Lib.hid hT
  have HG := Lib.hid hG
  have HO := Lib.hid hO
  have hroom := hO.room
  have hclock := hO.clock
  have hmany := hO.many
  have hused := hO.used
  have HN := Lib.hid hf
  have HP := Lib.hid hp
  obtain ⟨bn, bl, v, h⟩ := hT
  have HT := Lib.hid h
  have c2 := h.c2
  have c0 := h.c0
  have c1 := h.c1
  have hlt := h.lt
  have hlen := fun ty => h.now.len ty
  clear h hO hG hf hp
  have H3 := Lib.hid h3
  clear h3
  go_enter Tryd.func48, Tryd.ntmps48
  go_upto_region 16 with (first
    | (at_lookup; refine wpList_look_none _ rfl _ _ rfl bn q rfl HT.out.now rfl hq HN.out ?_)
    | (go_at_call 45; refine (path_call q hq _ HG.out).mono ?_; rintro e w1 ⟨rfl, hb1⟩; rw [HP.out]; have HB1 := Lib.hid hb1; clear hb1)
    | (go_at_call 46; refine (blocked_call _ (HX.out.below HB1.out) q ⟨#[]⟩ hq HO.out.paths).mono ?_; rintro e w2 ⟨rfl, hb2⟩; rw [H3.out]; have HB2 := Lib.hid (HB1.out.trans (hb2.mono HB1.out.size)); clear hb2))
  have c02 := (HB2.out.cell (p := ⟨p, 0, none⟩) hlt).trans c0
  have c12 := (HB2.out.cell (p := ⟨p, 1, none⟩) hlt).trans c1
  have E1 : IntKind.i64.wrap (usedF T.l : Int) = (usedF T.l : Int) := IntWalk.i64_in _ (by omega)
  have E2 : IntKind.i64.wrap ((usedF T.l : Int) + (s.size : Int)) = (usedF T.l : Int) + (s.size : Int) := IntWalk.i64_in _ (by omega)
  have D1 : decide (T.room < (usedF T.l : Int) + (s.size : Int)) = true := decide_eq_true (by omega)
  clear h4
  go_cut [58] (fun v58 wc => v58 = .bool true ∧ Hid (Below w.heap.size w wc))
  case first =>
    first | (go_region_with (first | (go_at_call 17; refine (used_call _ (HX.out.below HB2.out.drew) hused).mono ?_; rintro e w3 ⟨rfl, hb3⟩; have c03 := (hb3.cell (p := ⟨p, 0, none⟩) (Nat.lt_of_lt_of_le hlt HB2.out.size)).trans c02; have HB3 := Lib.hid (HB2.out.drew.trans (hb3.mono HB2.out.size)); clear hb3))) | fail
    all_goals
      go_wp2_with fail
      go_meet
      exact ⟨rfl, HB3⟩
  case rest =>
    obtain ⟨rfl, HBc⟩ := hcut
    go_wp2_with fail
    go_ret
    exact ⟨rfl, HBc.out⟩
set_option maxHeartbeats 4000000 in
set_option maxRecDepth 100000 in
theorem wr_n_false_e7 (hT : Tr w φ p T A) (hG : Glob w) (hO : TOK T) (hq : q.size ≤ 100000) (hs : s.size ≤ 1000000000) (hf : findF T.l q = none) (hp : pathV q = true) (h2 : s.size ≤ 16777216) (h3 : blockT T.l q ⟨#[]⟩ = false) (h4 : ¬ T.room < (usedF T.l : Int) - 0 + ((s.size : Nat) : Int)) (h5 : 200 < T.l.length + 1) :
    Calls Tryd.prog 48 #[.pointer (some ⟨p, 0, none⟩), .string q, .string s, .bool false] w fun e w' => e = .returned (.int .i64 6) ∧ Below w.heap.size w w' := by
  have HX := Lib.hid hT
  have HG := Lib.hid hG
  have HO := Lib.hid hO
  have hroom := hO.room
  have hclock := hO.clock
  have hmany := hO.many
  have hused := hO.used
  have HN := Lib.hid hf
  have HP := Lib.hid hp
  obtain ⟨bn, bl, v, h⟩ := hT
  have HT := Lib.hid h
  have c2 := h.c2
  have c0 := h.c0
  have c1 := h.c1
  have hlt := h.lt
  have hlen := fun ty => h.now.len ty
  clear h hO hG hf hp
  have H3 := Lib.hid h3
  clear h3
  go_enter Tryd.func48, Tryd.ntmps48
  go_upto_region 16 with (first
    | (at_lookup; refine wpList_look_none _ rfl _ _ rfl bn q rfl HT.out.now rfl hq HN.out ?_)
    | (go_at_call 45; refine (path_call q hq _ HG.out).mono ?_; rintro e w1 ⟨rfl, hb1⟩; rw [HP.out]; have HB1 := Lib.hid hb1; clear hb1)
    | (go_at_call 46; refine (blocked_call _ (HX.out.below HB1.out) q ⟨#[]⟩ hq HO.out.paths).mono ?_; rintro e w2 ⟨rfl, hb2⟩; rw [H3.out]; have HB2 := Lib.hid (HB1.out.trans (hb2.mono HB1.out.size)); clear hb2))
  have c02 := (HB2.out.cell (p := ⟨p, 0, none⟩) hlt).trans c0
  have c12 := (HB2.out.cell (p := ⟨p, 1, none⟩) hlt).trans c1
  have E1 : IntKind.i64.wrap (usedF T.l : Int) = (usedF T.l : Int) := IntWalk.i64_in _ (by omega)
  have E2 : IntKind.i64.wrap ((usedF T.l : Int) + (s.size : Int)) = (usedF T.l : Int) + (s.size : Int) := IntWalk.i64_in _ (by omega)
  have D1 : decide (T.room < (usedF T.l : Int) + (s.size : Int)) = false := decide_eq_false (by omega)
  have D2 : decide ((200 : Int) < (T.l.length : Int) + 1) = true := decide_eq_true (by omega)
  clear h4 h5
  go_cut [58] (fun v58 wc => v58 = .bool true ∧ Hid (Below w.heap.size w wc))
  case first =>
    first | (go_region_held3 (fun w' => w'.cell? ⟨p, 0, none⟩ = some (.int .i64 T.room) ∧ Hid (Below w.heap.size w w')) (first | exact ⟨c02, HB2.out.drew⟩ | exact ⟨c03, HB3⟩) (first | (go_at_call 17; refine (used_call _ (HX.out.below HB2.out.drew) hused).mono ?_; rintro e w3 ⟨rfl, hb3⟩; have c03 := (hb3.cell (p := ⟨p, 0, none⟩) (Nat.lt_of_lt_of_le hlt HB2.out.size)).trans c02; have HB3 := Lib.hid (HB2.out.drew.trans (hb3.mono HB2.out.size)); clear hb3))) | fail
    all_goals
      go_wp2_with fail
      go_meet
      exact ⟨rfl, HB3⟩
  case rest =>
    obtain ⟨rfl, HBc⟩ := hcut
    go_wp2_with fail
    go_ret
    exact ⟨rfl, HBc.out⟩
set_option maxHeartbeats 4000000 in
set_option maxRecDepth 100000 in
theorem wr_n_false_ok (hT : Tr w φ p T A) (hG : Glob w) (hO : TOK T) (hq : q.size ≤ 100000) (hs : s.size ≤ 1000000000) (hf : findF T.l q = none) (hp : pathV q = true) (h2 : s.size ≤ 16777216) (h3 : blockT T.l q ⟨#[]⟩ = false) (h4 : ¬ T.room < (usedF T.l : Int) - 0 + ((s.size : Nat) : Int)) (h5 : T.l.length + 1 ≤ 200) :
    Calls Tryd.prog 48 #[.pointer (some ⟨p, 0, none⟩), .string q, .string s, .bool false] w fun e w' => e = .returned (.int .i64 0) ∧ TrEnd w φ p A (doneT T ⟨1, q, s, T.clock + 1⟩) w' := by
  have HX := Lib.hid hT
  have HG := Lib.hid hG
  have HO := Lib.hid hO
  have hroom := hO.room
  have hclock := hO.clock
  have hmany := hO.many
  have hused := hO.used
  have HN := Lib.hid hf
  have HP := Lib.hid hp
  obtain ⟨bn, bl, v, h⟩ := hT
  have HT := Lib.hid h
  have c2 := h.c2
  have c0 := h.c0
  have c1 := h.c1
  have hlt := h.lt
  have hlen := fun ty => h.now.len ty
  clear h hO hG hf hp
  have H3 := Lib.hid h3
  clear h3
  go_enter Tryd.func48, Tryd.ntmps48
  go_upto_region 16 with (first
    | (at_lookup; refine wpList_look_none _ rfl _ _ rfl bn q rfl HT.out.now rfl hq HN.out ?_)
    | (go_at_call 45; refine (path_call q hq _ HG.out).mono ?_; rintro e w1 ⟨rfl, hb1⟩; rw [HP.out]; have HB1 := Lib.hid hb1; clear hb1)
    | (go_at_call 46; refine (blocked_call _ (HX.out.below HB1.out) q ⟨#[]⟩ hq HO.out.paths).mono ?_; rintro e w2 ⟨rfl, hb2⟩; rw [H3.out]; have HB2 := Lib.hid (HB1.out.trans (hb2.mono HB1.out.size)); clear hb2))
  have c02 := (HB2.out.cell (p := ⟨p, 0, none⟩) hlt).trans c0
  have c12 := (HB2.out.cell (p := ⟨p, 1, none⟩) hlt).trans c1
  have E1 : IntKind.i64.wrap (usedF T.l : Int) = (usedF T.l : Int) := IntWalk.i64_in _ (by omega)
  have E2 : IntKind.i64.wrap ((usedF T.l : Int) + (s.size : Int)) = (usedF T.l : Int) + (s.size : Int) := IntWalk.i64_in _ (by omega)
  have D1 : decide (T.room < (usedF T.l : Int) + (s.size : Int)) = false := decide_eq_false (by omega)
  have D2 : decide ((200 : Int) < (T.l.length : Int) + 1) = false := decide_eq_false (by omega)
  clear h4 h5
  go_cut [58] (fun v58 wc => v58 = .bool false ∧ Hid (Below w.heap.size w wc))
  case first =>
    first | (go_region_held3 (fun w' => w'.cell? ⟨p, 0, none⟩ = some (.int .i64 T.room) ∧ Hid (Below w.heap.size w w')) (first | exact ⟨c02, HB2.out.drew⟩ | exact ⟨c03, HB3⟩) (first | (go_at_call 17; refine (used_call _ (HX.out.below HB2.out.drew) hused).mono ?_; rintro e w3 ⟨rfl, hb3⟩; have c03 := (hb3.cell (p := ⟨p, 0, none⟩) (Nat.lt_of_lt_of_le hlt HB2.out.size)).trans c02; have HB3 := Lib.hid (HB2.out.drew.trans (hb3.mono HB2.out.size)); clear hb3))) | fail
    all_goals
      go_wp2_with fail
      go_meet
      exact ⟨rfl, HB3⟩
  case rest =>
    obtain ⟨rfl, HBc⟩ := hcut
    have cc1 := (HBc.out.cell (p := ⟨p, 1, none⟩) hlt).trans c1
    have HD : Hid (∀ W, Tr W φ p T A → Calls Tryd.prog 47 #[.pointer (some ⟨p, 0, none⟩), .agg #[.int .i64 0, .string q, .string s, .int .i64 (T.clock + 1)]] W fun e w' => e = .returned (.int .i64 0) ∧ TrEnd W φ p A (doneT T ⟨1, q, s, T.clock + 1⟩) w') := fun W hW =>
      done_call W hW ⟨1, q, s, T.clock + 1⟩ ⟨.inl rfl, hq, hs, fun e => absurd e (show ¬ ((1 : Int) = 4) by decide)⟩ HO.out.many (fun f hf => Nat.le_trans (HO.out.texts f hf) (by decide)) HO.out.clock HO.out.chs
    go_wp2_with (first
      | (go_at_call 47; refine (HD.out _ (HX.out.below HBc.out)).mono ?_; rintro e w4 ⟨rfl, he4⟩; have HE4 := Lib.hid he4; clear he4))
    go_ret
    exact ⟨rfl, HE4.out.left HBc.out⟩
set_option maxHeartbeats 4000000 in
set_option maxRecDepth 100000 in
theorem wr_s_true_e1 (hT : Tr w φ p T A) (hG : Glob w) (hO : TOK T) (hq : q.size ≤ 100000) (hs : s.size ≤ 1000000000) (f : Fl) (hf : findF T.l q = some f) (hf1 : f.f1.size ≤ 1000000000) (hp : pathV q = false) :
    Calls Tryd.prog 48 #[.pointer (some ⟨p, 0, none⟩), .string q, .string s, .bool true] w fun e w' => e = .returned (.int .i64 1) ∧ Below w.heap.size w w' := by
  have HX := Lib.hid hT
  have HG := Lib.hid hG
  have HO := Lib.hid hO
  have hroom := hO.room
  have hclock := hO.clock
  have hmany := hO.many
  have hused := hO.used
  have HN := Lib.hid hf
  have HP := Lib.hid hp
  obtain ⟨bn, bl, v, h⟩ := hT
  have HT := Lib.hid h
  have c2 := h.c2
  have c0 := h.c0
  have c1 := h.c1
  have hlt := h.lt
  have hlen := fun ty => h.now.len ty
  clear h hO hG hf hp
  go_enter Tryd.func48, Tryd.ntmps48
  go_wp2_with (first
    | (at_lookup; refine wpList_look_some _ rfl _ _ rfl bn q rfl HT.out.now rfl hq _ HN.out ?_; intro qb hqb; have hq0 := HT.out.files.cell0 hqb; clear hqb)
    | (go_at_call 45; refine (path_call q hq _ HG.out).mono ?_; rintro e w1 ⟨rfl, hb1⟩; rw [HP.out]; have HB1 := Lib.hid hb1; clear hb1))
  go_ret
  exact ⟨rfl, HB1.out⟩
set_option maxHeartbeats 4000000 in
set_option maxRecDepth 100000 in
theorem wr_s_true_e3 (hT : Tr w φ p T A) (hG : Glob w) (hO : TOK T) (hq : q.size ≤ 100000) (hs : s.size ≤ 1000000000) (f : Fl) (hf : findF T.l q = some f) (hf1 : f.f1.size ≤ 1000000000) (hp : pathV q = true) (h2 : 16777216 < s.size + f.f1.size) :
    Calls Tryd.prog 48 #[.pointer (some ⟨p, 0, none⟩), .string q, .string s, .bool true] w fun e w' => e = .returned (.int .i64 3) ∧ Below w.heap.size w w' := by
  have HX := Lib.hid hT
  have HG := Lib.hid hG
  have HO := Lib.hid hO
  have hroom := hO.room
  have hclock := hO.clock
  have hmany := hO.many
  have hused := hO.used
  have HN := Lib.hid hf
  have HP := Lib.hid hp
  obtain ⟨bn, bl, v, h⟩ := hT
  have HT := Lib.hid h
  have c2 := h.c2
  have c0 := h.c0
  have c1 := h.c1
  have hlt := h.lt
  have hlen := fun ty => h.now.len ty
  clear h hO hG hf hp
  go_enter Tryd.func48, Tryd.ntmps48
  go_wp2_with (first
    | (at_lookup; refine wpList_look_some _ rfl _ _ rfl bn q rfl HT.out.now rfl hq _ HN.out ?_; intro qb hqb; have hq0 := HT.out.files.cell0 hqb; clear hqb)
    | (go_at_call 45; refine (path_call q hq _ HG.out).mono ?_; rintro e w1 ⟨rfl, hb1⟩; rw [HP.out]; have HB1 := Lib.hid hb1; clear hb1))
  go_ret
  exact ⟨rfl, HB1.out⟩
set_option maxHeartbeats 4000000 in
set_option maxRecDepth 100000 in
theorem wr_s_true_e5 (hT : Tr w φ p T A) (hG : Glob w) (hO : TOK T) (hq : q.size ≤ 100000) (hs : s.size ≤ 1000000000) (f : Fl) (hf : findF T.l q = some f) (hf1 : f.f1.size ≤ 1000000000) (hp : pathV q = true) (h2 : s.size + f.f1.size ≤ 16777216) (h3 : blockT T.l q ⟨#[]⟩ = true) :
    Calls Tryd.prog 48 #[.pointer (some ⟨p, 0, none⟩), .string q, .string s, .bool true] w fun e w' => e = .returned (.int .i64 5) ∧ Below w.heap.size w w' := by
  have HX := Lib.hid hT
  have HG := Lib.hid hG
  have HO := Lib.hid hO
  have hroom := hO.room
  have hclock := hO.clock
  have hmany := hO.many
  have hused := hO.used
  have HN := Lib.hid hf
  have HP := Lib.hid hp
  obtain ⟨bn, bl, v, h⟩ := hT
  have HT := Lib.hid h
  have c2 := h.c2
  have c0 := h.c0
  have c1 := h.c1
  have hlt := h.lt
  have hlen := fun ty => h.now.len ty
  clear h hO hG hf hp
  have H3 := Lib.hid h3
  clear h3
  go_enter Tryd.func48, Tryd.ntmps48
  go_wp2_with (first
    | (at_lookup; refine wpList_look_some _ rfl _ _ rfl bn q rfl HT.out.now rfl hq _ HN.out ?_; intro qb hqb; have hq0 := HT.out.files.cell0 hqb; clear hqb)
    | (go_at_call 45; refine (path_call q hq _ HG.out).mono ?_; rintro e w1 ⟨rfl, hb1⟩; rw [HP.out]; have HB1 := Lib.hid hb1; clear hb1)
    | (go_at_call 46; refine (blocked_call _ (HX.out.below HB1.out) q ⟨#[]⟩ hq HO.out.paths).mono ?_; rintro e w2 ⟨rfl, hb2⟩; rw [H3.out]; have HB2 := Lib.hid (HB1.out.trans (hb2.mono HB1.out.size)); clear hb2))
  go_ret
  exact ⟨rfl, HB2.out⟩
set_option maxHeartbeats 4000000 in
set_option maxRecDepth 100000 in
theorem wr_s_true_e6 (hT : Tr w φ p T A) (hG : Glob w) (hO : TOK T) (hq : q.size ≤ 100000) (hs : s.size ≤ 1000000000) (f : Fl) (hf : findF T.l q = some f) (hf1 : f.f1.size ≤ 1000000000) (hp : pathV q = true) (h2 : s.size + f.f1.size ≤ 16777216) (h3 : blockT T.l q ⟨#[]⟩ = false) (h4 : T.room < (usedF T.l : Int) - (f.f1.size : Int) + ((s.size + f.f1.size : Nat) : Int)) :
    Calls Tryd.prog 48 #[.pointer (some ⟨p, 0, none⟩), .string q, .string s, .bool true] w fun e w' => e = .returned (.int .i64 6) ∧ Below w.heap.size w w' := by
  have HX := Lib.hid hT
  have HG := Lib.hid hG
  have HO := Lib.hid hO
  have hroom := hO.room
  have hclock := hO.clock
  have hmany := hO.many
  have hused := hO.used
  have HN := Lib.hid hf
  have HP := Lib.hid hp
  obtain ⟨bn, bl, v, h⟩ := hT
  have HT := Lib.hid h
  have c2 := h.c2
  have c0 := h.c0
  have c1 := h.c1
  have hlt := h.lt
  have hlen := fun ty => h.now.len ty
  clear h hO hG hf hp
  have H3 := Lib.hid h3
  clear h3
  go_enter Tryd.func48, Tryd.ntmps48
  go_upto_region 16 with (first
    | (at_lookup; refine wpList_look_some _ rfl _ _ rfl bn q rfl HT.out.now rfl hq _ HN.out ?_; intro qb hqb; have hq0 := HT.out.files.cell0 hqb; clear hqb)
    | (go_at_call 45; refine (path_call q hq _ HG.out).mono ?_; rintro e w1 ⟨rfl, hb1⟩; rw [HP.out]; have HB1 := Lib.hid hb1; clear hb1)
    | (go_at_call 46; refine (blocked_call _ (HX.out.below HB1.out) q ⟨#[]⟩ hq HO.out.paths).mono ?_; rintro e w2 ⟨rfl, hb2⟩; rw [H3.out]; have HB2 := Lib.hid (HB1.out.trans (hb2.mono HB1.out.size)); clear hb2))
  have c02 := (HB2.out.cell (p := ⟨p, 0, none⟩) hlt).trans c0
  have c12 := (HB2.out.cell (p := ⟨p, 1, none⟩) hlt).trans c1
  have E1 : IntKind.i64.wrap ((usedF T.l : Int) - (f.f1.size : Int)) = ((usedF T.l : Int) - (f.f1.size : Int)) := IntWalk.i64_in _ (by omega)
  have E2 : IntKind.i64.wrap (((usedF T.l : Int) - (f.f1.size : Int)) + ((s.size : Int) + (f.f1.size : Int))) = ((usedF T.l : Int) - (f.f1.size : Int)) + ((s.size : Int) + (f.f1.size : Int)) := IntWalk.i64_in _ (by omega)
  have D1 : decide (T.room < ((usedF T.l : Int) - (f.f1.size : Int)) + ((s.size : Int) + (f.f1.size : Int))) = true := decide_eq_true (by omega)
  clear h4
  go_cut [58] (fun v58 wc => v58 = .bool true ∧ Hid (Below w.heap.size w wc))
  case first =>
    first | (go_region_with (first | (go_at_call 17; refine (used_call _ (HX.out.below HB2.out.drew) hused).mono ?_; rintro e w3 ⟨rfl, hb3⟩; have c03 := (hb3.cell (p := ⟨p, 0, none⟩) (Nat.lt_of_lt_of_le hlt HB2.out.size)).trans c02; have HB3 := Lib.hid (HB2.out.drew.trans (hb3.mono HB2.out.size)); clear hb3))) | fail
    all_goals
      go_wp2_with fail
      go_meet
      exact ⟨rfl, HB3⟩
  case rest =>
    obtain ⟨rfl, HBc⟩ := hcut
    go_wp2_with fail
    go_ret
    exact ⟨rfl, HBc.out⟩
set_option maxHeartbeats 4000000 in
set_option maxRecDepth 100000 in
theorem wr_s_true_e7 (hT : Tr w φ p T A) (hG : Glob w) (hO : TOK T) (hq : q.size ≤ 100000) (hs : s.size ≤ 1000000000) (f : Fl) (hf : findF T.l q = some f) (hf1 : f.f1.size ≤ 1000000000) (hp : pathV q = true) (h2 : s.size + f.f1.size ≤ 16777216) (h3 : blockT T.l q ⟨#[]⟩ = false) (h4 : ¬ T.room < (usedF T.l : Int) - (f.f1.size : Int) + ((s.size + f.f1.size : Nat) : Int)) (h5 : 200 < T.l.length) :
    Calls Tryd.prog 48 #[.pointer (some ⟨p, 0, none⟩), .string q, .string s, .bool true] w fun e w' => e = .returned (.int .i64 6) ∧ Below w.heap.size w w' := by
  have HX := Lib.hid hT
  have HG := Lib.hid hG
  have HO := Lib.hid hO
  have hroom := hO.room
  have hclock := hO.clock
  have hmany := hO.many
  have hused := hO.used
  have HN := Lib.hid hf
  have HP := Lib.hid hp
  obtain ⟨bn, bl, v, h⟩ := hT
  have HT := Lib.hid h
  have c2 := h.c2
  have c0 := h.c0
  have c1 := h.c1
  have hlt := h.lt
  have hlen := fun ty => h.now.len ty
  clear h hO hG hf hp
  have H3 := Lib.hid h3
  clear h3
  go_enter Tryd.func48, Tryd.ntmps48
  go_upto_region 16 with (first
    | (at_lookup; refine wpList_look_some _ rfl _ _ rfl bn q rfl HT.out.now rfl hq _ HN.out ?_; intro qb hqb; have hq0 := HT.out.files.cell0 hqb; clear hqb)
    | (go_at_call 45; refine (path_call q hq _ HG.out).mono ?_; rintro e w1 ⟨rfl, hb1⟩; rw [HP.out]; have HB1 := Lib.hid hb1; clear hb1)
    | (go_at_call 46; refine (blocked_call _ (HX.out.below HB1.out) q ⟨#[]⟩ hq HO.out.paths).mono ?_; rintro e w2 ⟨rfl, hb2⟩; rw [H3.out]; have HB2 := Lib.hid (HB1.out.trans (hb2.mono HB1.out.size)); clear hb2))
  have c02 := (HB2.out.cell (p := ⟨p, 0, none⟩) hlt).trans c0
  have c12 := (HB2.out.cell (p := ⟨p, 1, none⟩) hlt).trans c1
  have E1 : IntKind.i64.wrap ((usedF T.l : Int) - (f.f1.size : Int)) = ((usedF T.l : Int) - (f.f1.size : Int)) := IntWalk.i64_in _ (by omega)
  have E2 : IntKind.i64.wrap (((usedF T.l : Int) - (f.f1.size : Int)) + ((s.size : Int) + (f.f1.size : Int))) = ((usedF T.l : Int) - (f.f1.size : Int)) + ((s.size : Int) + (f.f1.size : Int)) := IntWalk.i64_in _ (by omega)
  have D1 : decide (T.room < ((usedF T.l : Int) - (f.f1.size : Int)) + ((s.size : Int) + (f.f1.size : Int))) = false := decide_eq_false (by omega)
  have D2 : decide ((200 : Int) < (T.l.length : Int)) = true := decide_eq_true (by omega)
  clear h4 h5
  go_cut [58] (fun v58 wc => v58 = .bool true ∧ Hid (Below w.heap.size w wc))
  case first =>
    first | (go_region_held3 (fun w' => w'.cell? ⟨p, 0, none⟩ = some (.int .i64 T.room) ∧ Hid (Below w.heap.size w w')) (first | exact ⟨c02, HB2.out.drew⟩ | exact ⟨c03, HB3⟩) (first | (go_at_call 17; refine (used_call _ (HX.out.below HB2.out.drew) hused).mono ?_; rintro e w3 ⟨rfl, hb3⟩; have c03 := (hb3.cell (p := ⟨p, 0, none⟩) (Nat.lt_of_lt_of_le hlt HB2.out.size)).trans c02; have HB3 := Lib.hid (HB2.out.drew.trans (hb3.mono HB2.out.size)); clear hb3))) | fail
    all_goals
      go_wp2_with fail
      go_meet
      exact ⟨rfl, HB3⟩
  case rest =>
    obtain ⟨rfl, HBc⟩ := hcut
    go_wp2_with fail
    go_ret
    exact ⟨rfl, HBc.out⟩
set_option maxHeartbeats 4000000 in
set_option maxRecDepth 100000 in
theorem wr_s_true_ok (hT : Tr w φ p T A) (hG : Glob w) (hO : TOK T) (hq : q.size ≤ 100000) (hs : s.size ≤ 1000000000) (f : Fl) (hf : findF T.l q = some f) (hf1 : f.f1.size ≤ 1000000000) (hp : pathV q = true) (h2 : s.size + f.f1.size ≤ 16777216) (h3 : blockT T.l q ⟨#[]⟩ = false) (h4 : ¬ T.room < (usedF T.l : Int) - (f.f1.size : Int) + ((s.size + f.f1.size : Nat) : Int)) (h5 : T.l.length ≤ 200) :
    Calls Tryd.prog 48 #[.pointer (some ⟨p, 0, none⟩), .string q, .string s, .bool true] w fun e w' => e = .returned (.int .i64 0) ∧ TrEnd w φ p A (doneT T ⟨2, q, s, T.clock + 1⟩) w' := by
  have HX := Lib.hid hT
  have HG := Lib.hid hG
  have HO := Lib.hid hO
  have hroom := hO.room
  have hclock := hO.clock
  have hmany := hO.many
  have hused := hO.used
  have HN := Lib.hid hf
  have HP := Lib.hid hp
  obtain ⟨bn, bl, v, h⟩ := hT
  have HT := Lib.hid h
  have c2 := h.c2
  have c0 := h.c0
  have c1 := h.c1
  have hlt := h.lt
  have hlen := fun ty => h.now.len ty
  clear h hO hG hf hp
  have H3 := Lib.hid h3
  clear h3
  go_enter Tryd.func48, Tryd.ntmps48
  go_upto_region 16 with (first
    | (at_lookup; refine wpList_look_some _ rfl _ _ rfl bn q rfl HT.out.now rfl hq _ HN.out ?_; intro qb hqb; have hq0 := HT.out.files.cell0 hqb; clear hqb)
    | (go_at_call 45; refine (path_call q hq _ HG.out).mono ?_; rintro e w1 ⟨rfl, hb1⟩; rw [HP.out]; have HB1 := Lib.hid hb1; clear hb1)
    | (go_at_call 46; refine (blocked_call _ (HX.out.below HB1.out) q ⟨#[]⟩ hq HO.out.paths).mono ?_; rintro e w2 ⟨rfl, hb2⟩; rw [H3.out]; have HB2 := Lib.hid (HB1.out.trans (hb2.mono HB1.out.size)); clear hb2))
  have c02 := (HB2.out.cell (p := ⟨p, 0, none⟩) hlt).trans c0
  have c12 := (HB2.out.cell (p := ⟨p, 1, none⟩) hlt).trans c1
  have E1 : IntKind.i64.wrap ((usedF T.l : Int) - (f.f1.size : Int)) = ((usedF T.l : Int) - (f.f1.size : Int)) := IntWalk.i64_in _ (by omega)
  have E2 : IntKind.i64.wrap (((usedF T.l : Int) - (f.f1.size : Int)) + ((s.size : Int) + (f.f1.size : Int))) = ((usedF T.l : Int) - (f.f1.size : Int)) + ((s.size : Int) + (f.f1.size : Int)) := IntWalk.i64_in _ (by omega)
  have D1 : decide (T.room < ((usedF T.l : Int) - (f.f1.size : Int)) + ((s.size : Int) + (f.f1.size : Int))) = false := decide_eq_false (by omega)
  have D2 : decide ((200 : Int) < (T.l.length : Int)) = false := decide_eq_false (by omega)
  clear h4 h5
  go_cut [58] (fun v58 wc => v58 = .bool false ∧ Hid (Below w.heap.size w wc))
  case first =>
    first | (go_region_held3 (fun w' => w'.cell? ⟨p, 0, none⟩ = some (.int .i64 T.room) ∧ Hid (Below w.heap.size w w')) (first | exact ⟨c02, HB2.out.drew⟩ | exact ⟨c03, HB3⟩) (first | (go_at_call 17; refine (used_call _ (HX.out.below HB2.out.drew) hused).mono ?_; rintro e w3 ⟨rfl, hb3⟩; have c03 := (hb3.cell (p := ⟨p, 0, none⟩) (Nat.lt_of_lt_of_le hlt HB2.out.size)).trans c02; have HB3 := Lib.hid (HB2.out.drew.trans (hb3.mono HB2.out.size)); clear hb3))) | fail
    all_goals
      go_wp2_with fail
      go_meet
      exact ⟨rfl, HB3⟩
  case rest =>
    obtain ⟨rfl, HBc⟩ := hcut
    have cc1 := (HBc.out.cell (p := ⟨p, 1, none⟩) hlt).trans c1
    have HD : Hid (∀ W, Tr W φ p T A → Calls Tryd.prog 47 #[.pointer (some ⟨p, 0, none⟩), .agg #[.int .i64 1, .string q, .string s, .int .i64 (T.clock + 1)]] W fun e w' => e = .returned (.int .i64 0) ∧ TrEnd W φ p A (doneT T ⟨2, q, s, T.clock + 1⟩) w') := fun W hW =>
      done_call W hW ⟨2, q, s, T.clock + 1⟩ ⟨.inr (.inl rfl), hq, hs, fun e => absurd e (show ¬ ((2 : Int) = 4) by decide)⟩ HO.out.many (fun f hf => Nat.le_trans (HO.out.texts f hf) (by decide)) HO.out.clock HO.out.chs
    go_wp2_with (first
      | (go_at_call 47; refine (HD.out _ (HX.out.below HBc.out)).mono ?_; rintro e w4 ⟨rfl, he4⟩; have HE4 := Lib.hid he4; clear he4))
    go_ret
    exact ⟨rfl, HE4.out.left HBc.out⟩
set_option maxHeartbeats 4000000 in
set_option maxRecDepth 100000 in
theorem wr_s_false_e1 (hT : Tr w φ p T A) (hG : Glob w) (hO : TOK T) (hq : q.size ≤ 100000) (hs : s.size ≤ 1000000000) (f : Fl) (hf : findF T.l q = some f) (hf1 : f.f1.size ≤ 1000000000) (hp : pathV q = false) :
    Calls Tryd.prog 48 #[.pointer (some ⟨p, 0, none⟩), .string q, .string s, .bool false] w fun e w' => e = .returned (.int .i64 1) ∧ Below w.heap.size w w' := by
  have HX := Lib.hid hT
  have HG := Lib.hid hG
  have HO := Lib.hid hO
  have hroom := hO.room
  have hclock := hO.clock
  have hmany := hO.many
  have hused := hO.used
  have HN := Lib.hid hf
  have HP := Lib.hid hp
  obtain ⟨bn, bl, v, h⟩ := hT
  have HT := Lib.hid h
  have c2 := h.c2
  have c0 := h.c0
  have c1 := h.c1
  have hlt := h.lt
  have hlen := fun ty => h.now.len ty
  clear h hO hG hf hp
  go_enter Tryd.func48, Tryd.ntmps48
  go_wp2_with (first
    | (at_lookup; refine wpList_look_some _ rfl _ _ rfl bn q rfl HT.out.now rfl hq _ HN.out ?_; intro qb hqb; have hq0 := HT.out.files.cell0 hqb; clear hqb)
    | (go_at_call 45; refine (path_call q hq _ HG.out).mono ?_; rintro e w1 ⟨rfl, hb1⟩; rw [HP.out]; have HB1 := Lib.hid hb1; clear hb1))
  go_ret
  exact ⟨rfl, HB1.out⟩
set_option maxHeartbeats 4000000 in
set_option maxRecDepth 100000 in
theorem wr_s_false_e3 (hT : Tr w φ p T A) (hG : Glob w) (hO : TOK T) (hq : q.size ≤ 100000) (hs : s.size ≤ 1000000000) (f : Fl) (hf : findF T.l q = some f) (hf1 : f.f1.size ≤ 1000000000) (hp : pathV q = true) (h2 : 16777216 < s.size) :
    Calls Tryd.prog 48 #[.pointer (some ⟨p, 0, none⟩), .string q, .string s, .bool false] w fun e w' => e = .returned (.int .i64 3) ∧ Below w.heap.size w w' := by
  have HX := Lib.hid hT
  have HG := Lib.hid hG
  have HO := Lib.hid hO
  have hroom := hO.room
  have hclock := hO.clock
  have hmany := hO.many
  have hused := hO.used
  have HN := Lib.hid hf
  have HP := Lib.hid hp
  obtain ⟨bn, bl, v, h⟩ := hT
  have HT := Lib.hid h
  have c2 := h.c2
  have c0 := h.c0
  have c1 := h.c1
  have hlt := h.lt
  have hlen := fun ty => h.now.len ty
  clear h hO hG hf hp
  go_enter Tryd.func48, Tryd.ntmps48
  go_wp2_with (first
    | (at_lookup; refine wpList_look_some _ rfl _ _ rfl bn q rfl HT.out.now rfl hq _ HN.out ?_; intro qb hqb; have hq0 := HT.out.files.cell0 hqb; clear hqb)
    | (go_at_call 45; refine (path_call q hq _ HG.out).mono ?_; rintro e w1 ⟨rfl, hb1⟩; rw [HP.out]; have HB1 := Lib.hid hb1; clear hb1))
  go_ret
  exact ⟨rfl, HB1.out⟩
set_option maxHeartbeats 4000000 in
set_option maxRecDepth 100000 in
theorem wr_s_false_e5 (hT : Tr w φ p T A) (hG : Glob w) (hO : TOK T) (hq : q.size ≤ 100000) (hs : s.size ≤ 1000000000) (f : Fl) (hf : findF T.l q = some f) (hf1 : f.f1.size ≤ 1000000000) (hp : pathV q = true) (h2 : s.size ≤ 16777216) (h3 : blockT T.l q ⟨#[]⟩ = true) :
    Calls Tryd.prog 48 #[.pointer (some ⟨p, 0, none⟩), .string q, .string s, .bool false] w fun e w' => e = .returned (.int .i64 5) ∧ Below w.heap.size w w' := by
  have HX := Lib.hid hT
  have HG := Lib.hid hG
  have HO := Lib.hid hO
  have hroom := hO.room
  have hclock := hO.clock
  have hmany := hO.many
  have hused := hO.used
  have HN := Lib.hid hf
  have HP := Lib.hid hp
  obtain ⟨bn, bl, v, h⟩ := hT
  have HT := Lib.hid h
  have c2 := h.c2
  have c0 := h.c0
  have c1 := h.c1
  have hlt := h.lt
  have hlen := fun ty => h.now.len ty
  clear h hO hG hf hp
  have H3 := Lib.hid h3
  clear h3
  go_enter Tryd.func48, Tryd.ntmps48
  go_wp2_with (first
    | (at_lookup; refine wpList_look_some _ rfl _ _ rfl bn q rfl HT.out.now rfl hq _ HN.out ?_; intro qb hqb; have hq0 := HT.out.files.cell0 hqb; clear hqb)
    | (go_at_call 45; refine (path_call q hq _ HG.out).mono ?_; rintro e w1 ⟨rfl, hb1⟩; rw [HP.out]; have HB1 := Lib.hid hb1; clear hb1)
    | (go_at_call 46; refine (blocked_call _ (HX.out.below HB1.out) q ⟨#[]⟩ hq HO.out.paths).mono ?_; rintro e w2 ⟨rfl, hb2⟩; rw [H3.out]; have HB2 := Lib.hid (HB1.out.trans (hb2.mono HB1.out.size)); clear hb2))
  go_ret
  exact ⟨rfl, HB2.out⟩
set_option maxHeartbeats 4000000 in
set_option maxRecDepth 100000 in
theorem wr_s_false_e6 (hT : Tr w φ p T A) (hG : Glob w) (hO : TOK T) (hq : q.size ≤ 100000) (hs : s.size ≤ 1000000000) (f : Fl) (hf : findF T.l q = some f) (hf1 : f.f1.size ≤ 1000000000) (hp : pathV q = true) (h2 : s.size ≤ 16777216) (h3 : blockT T.l q ⟨#[]⟩ = false) (h4 : T.room < (usedF T.l : Int) - (f.f1.size : Int) + ((s.size : Nat) : Int)) :
    Calls Tryd.prog 48 #[.pointer (some ⟨p, 0, none⟩), .string q, .string s, .bool false] w fun e w' => e = .returned (.int .i64 6) ∧ Below w.heap.size w w' := by
  have HX := Lib.hid hT
  have HG := Lib.hid hG
  have HO := Lib.hid hO
  have hroom := hO.room
  have hclock := hO.clock
  have hmany := hO.many
  have hused := hO.used
  have HN := Lib.hid hf
  have HP := Lib.hid hp
  obtain ⟨bn, bl, v, h⟩ := hT
  have HT := Lib.hid h
  have c2 := h.c2
  have c0 := h.c0
  have c1 := h.c1
  have hlt := h.lt
  have hlen := fun ty => h.now.len ty
  clear h hO hG hf hp
  have H3 := Lib.hid h3
  clear h3
  go_enter Tryd.func48, Tryd.ntmps48
  go_upto_region 16 with (first
    | (at_lookup; refine wpList_look_some _ rfl _ _ rfl bn q rfl HT.out.now rfl hq _ HN.out ?_; intro qb hqb; have hq0 := HT.out.files.cell0 hqb; clear hqb)
    | (go_at_call 45; refine (path_call q hq _ HG.out).mono ?_; rintro e w1 ⟨rfl, hb1⟩; rw [HP.out]; have HB1 := Lib.hid hb1; clear hb1)
    | (go_at_call 46; refine (blocked_call _ (HX.out.below HB1.out) q ⟨#[]⟩ hq HO.out.paths).mono ?_; rintro e w2 ⟨rfl, hb2⟩; rw [H3.out]; have HB2 := Lib.hid (HB1.out.trans (hb2.mono HB1.out.size)); clear hb2))
  have c02 := (HB2.out.cell (p := ⟨p, 0, none⟩) hlt).trans c0
  have c12 := (HB2.out.cell (p := ⟨p, 1, none⟩) hlt).trans c1
  have E1 : IntKind.i64.wrap ((usedF T.l : Int) - (f.f1.size : Int)) = ((usedF T.l : Int) - (f.f1.size : Int)) := IntWalk.i64_in _ (by omega)
  have E2 : IntKind.i64.wrap (((usedF T.l : Int) - (f.f1.size : Int)) + (s.size : Int)) = ((usedF T.l : Int) - (f.f1.size : Int)) + (s.size : Int) := IntWalk.i64_in _ (by omega)
  have D1 : decide (T.room < ((usedF T.l : Int) - (f.f1.size : Int)) + (s.size : Int)) = true := decide_eq_true (by omega)
  clear h4
  go_cut [58] (fun v58 wc => v58 = .bool true ∧ Hid (Below w.heap.size w wc))
  case first =>
    first | (go_region_with (first | (go_at_call 17; refine (used_call _ (HX.out.below HB2.out.drew) hused).mono ?_; rintro e w3 ⟨rfl, hb3⟩; have c03 := (hb3.cell (p := ⟨p, 0, none⟩) (Nat.lt_of_lt_of_le hlt HB2.out.size)).trans c02; have HB3 := Lib.hid (HB2.out.drew.trans (hb3.mono HB2.out.size)); clear hb3))) | fail
    all_goals
      go_wp2_with fail
      go_meet
      exact ⟨rfl, HB3⟩
  case rest =>
    obtain ⟨rfl, HBc⟩ := hcut
    go_wp2_with fail
    go_ret
    exact ⟨rfl, HBc.out⟩
set_option maxHeartbeats 4000000 in
set_option maxRecDepth 100000 in
theorem wr_s_false_e7 (hT : Tr w φ p T A) (hG : Glob w) (hO : TOK T) (hq : q.size ≤ 100000) (hs : s.size ≤ 1000000000) (f : Fl) (hf : findF T.l q = some f) (hf1 : f.f1.size ≤ 1000000000) (hp : pathV q = true) (h2 : s.size ≤ 16777216) (h3 : blockT T.l q ⟨#[]⟩ = false) (h4 : ¬ T.room < (usedF T.l : Int) - (f.f1.size : Int) + ((s.size : Nat) : Int)) (h5 : 200 < T.l.length) :
    Calls Tryd.prog 48 #[.pointer (some ⟨p, 0, none⟩), .string q, .string s, .bool false] w fun e w' => e = .returned (.int .i64 6) ∧ Below w.heap.size w w' := by
  have HX := Lib.hid hT
  have HG := Lib.hid hG
  have HO := Lib.hid hO
  have hroom := hO.room
  have hclock := hO.clock
  have hmany := hO.many
  have hused := hO.used
  have HN := Lib.hid hf
  have HP := Lib.hid hp
  obtain ⟨bn, bl, v, h⟩ := hT
  have HT := Lib.hid h
  have c2 := h.c2
  have c0 := h.c0
  have c1 := h.c1
  have hlt := h.lt
  have hlen := fun ty => h.now.len ty
  clear h hO hG hf hp
  have H3 := Lib.hid h3
  clear h3
  go_enter Tryd.func48, Tryd.ntmps48
  go_upto_region 16 with (first
    | (at_lookup; refine wpList_look_some _ rfl _ _ rfl bn q rfl HT.out.now rfl hq _ HN.out ?_; intro qb hqb; have hq0 := HT.out.files.cell0 hqb; clear hqb)
    | (go_at_call 45; refine (path_call q hq _ HG.out).mono ?_; rintro e w1 ⟨rfl, hb1⟩; rw [HP.out]; have HB1 := Lib.hid hb1; clear hb1)
    | (go_at_call 46; refine (blocked_call _ (HX.out.below HB1.out) q ⟨#[]⟩ hq HO.out.paths).mono ?_; rintro e w2 ⟨rfl, hb2⟩; rw [H3.out]; have HB2 := Lib.hid (HB1.out.trans (hb2.mono HB1.out.size)); clear hb2))
  have c02 := (HB2.out.cell (p := ⟨p, 0, none⟩) hlt).trans c0
  have c12 := (HB2.out.cell (p := ⟨p, 1, none⟩) hlt).trans c1
  have E1 : IntKind.i64.wrap ((usedF T.l : Int) - (f.f1.size : Int)) = ((usedF T.l : Int) - (f.f1.size : Int)) := IntWalk.i64_in _ (by omega)
  have E2 : IntKind.i64.wrap (((usedF T.l : Int) - (f.f1.size : Int)) + (s.size : Int)) = ((usedF T.l : Int) - (f.f1.size : Int)) + (s.size : Int) := IntWalk.i64_in _ (by omega)
  have D1 : decide (T.room < ((usedF T.l : Int) - (f.f1.size : Int)) + (s.size : Int)) = false := decide_eq_false (by omega)
  have D2 : decide ((200 : Int) < (T.l.length : Int)) = true := decide_eq_true (by omega)
  clear h4 h5
  go_cut [58] (fun v58 wc => v58 = .bool true ∧ Hid (Below w.heap.size w wc))
  case first =>
    first | (go_region_held3 (fun w' => w'.cell? ⟨p, 0, none⟩ = some (.int .i64 T.room) ∧ Hid (Below w.heap.size w w')) (first | exact ⟨c02, HB2.out.drew⟩ | exact ⟨c03, HB3⟩) (first | (go_at_call 17; refine (used_call _ (HX.out.below HB2.out.drew) hused).mono ?_; rintro e w3 ⟨rfl, hb3⟩; have c03 := (hb3.cell (p := ⟨p, 0, none⟩) (Nat.lt_of_lt_of_le hlt HB2.out.size)).trans c02; have HB3 := Lib.hid (HB2.out.drew.trans (hb3.mono HB2.out.size)); clear hb3))) | fail
    all_goals
      go_wp2_with fail
      go_meet
      exact ⟨rfl, HB3⟩
  case rest =>
    obtain ⟨rfl, HBc⟩ := hcut
    go_wp2_with fail
    go_ret
    exact ⟨rfl, HBc.out⟩
set_option maxHeartbeats 4000000 in
set_option maxRecDepth 100000 in
theorem wr_s_false_ok (hT : Tr w φ p T A) (hG : Glob w) (hO : TOK T) (hq : q.size ≤ 100000) (hs : s.size ≤ 1000000000) (f : Fl) (hf : findF T.l q = some f) (hf1 : f.f1.size ≤ 1000000000) (hp : pathV q = true) (h2 : s.size ≤ 16777216) (h3 : blockT T.l q ⟨#[]⟩ = false) (h4 : ¬ T.room < (usedF T.l : Int) - (f.f1.size : Int) + ((s.size : Nat) : Int)) (h5 : T.l.length ≤ 200) :
    Calls Tryd.prog 48 #[.pointer (some ⟨p, 0, none⟩), .string q, .string s, .bool false] w fun e w' => e = .returned (.int .i64 0) ∧ TrEnd w φ p A (doneT T ⟨1, q, s, T.clock + 1⟩) w' := by
  have HX := Lib.hid hT
  have HG := Lib.hid hG
  have HO := Lib.hid hO
  have hroom := hO.room
  have hclock := hO.clock
  have hmany := hO.many
  have hused := hO.used
  have HN := Lib.hid hf
  have HP := Lib.hid hp
  obtain ⟨bn, bl, v, h⟩ := hT
  have HT := Lib.hid h
  have c2 := h.c2
  have c0 := h.c0
  have c1 := h.c1
  have hlt := h.lt
  have hlen := fun ty => h.now.len ty
  clear h hO hG hf hp
  have H3 := Lib.hid h3
  clear h3
  go_enter Tryd.func48, Tryd.ntmps48
  go_upto_region 16 with (first
    | (at_lookup; refine wpList_look_some _ rfl _ _ rfl bn q rfl HT.out.now rfl hq _ HN.out ?_; intro qb hqb; have hq0 := HT.out.files.cell0 hqb; clear hqb)
    | (go_at_call 45; refine (path_call q hq _ HG.out).mono ?_; rintro e w1 ⟨rfl, hb1⟩; rw [HP.out]; have HB1 := Lib.hid hb1; clear hb1)
    | (go_at_call 46; refine (blocked_call _ (HX.out.below HB1.out) q ⟨#[]⟩ hq HO.out.paths).mono ?_; rintro e w2 ⟨rfl, hb2⟩; rw [H3.out]; have HB2 := Lib.hid (HB1.out.trans (hb2.mono HB1.out.size)); clear hb2))
  have c02 := (HB2.out.cell (p := ⟨p, 0, none⟩) hlt).trans c0
  have c12 := (HB2.out.cell (p := ⟨p, 1, none⟩) hlt).trans c1
  have E1 : IntKind.i64.wrap ((usedF T.l : Int) - (f.f1.size : Int)) = ((usedF T.l : Int) - (f.f1.size : Int)) := IntWalk.i64_in _ (by omega)
  have E2 : IntKind.i64.wrap (((usedF T.l : Int) - (f.f1.size : Int)) + (s.size : Int)) = ((usedF T.l : Int) - (f.f1.size : Int)) + (s.size : Int) := IntWalk.i64_in _ (by omega)
  have D1 : decide (T.room < ((usedF T.l : Int) - (f.f1.size : Int)) + (s.size : Int)) = false := decide_eq_false (by omega)
  have D2 : decide ((200 : Int) < (T.l.length : Int)) = false := decide_eq_false (by omega)
  clear h4 h5
  go_cut [58] (fun v58 wc => v58 = .bool false ∧ Hid (Below w.heap.size w wc))
  case first =>
    first | (go_region_held3 (fun w' => w'.cell? ⟨p, 0, none⟩ = some (.int .i64 T.room) ∧ Hid (Below w.heap.size w w')) (first | exact ⟨c02, HB2.out.drew⟩ | exact ⟨c03, HB3⟩) (first | (go_at_call 17; refine (used_call _ (HX.out.below HB2.out.drew) hused).mono ?_; rintro e w3 ⟨rfl, hb3⟩; have c03 := (hb3.cell (p := ⟨p, 0, none⟩) (Nat.lt_of_lt_of_le hlt HB2.out.size)).trans c02; have HB3 := Lib.hid (HB2.out.drew.trans (hb3.mono HB2.out.size)); clear hb3))) | fail
    all_goals
      go_wp2_with fail
      go_meet
      exact ⟨rfl, HB3⟩
  case rest =>
    obtain ⟨rfl, HBc⟩ := hcut
    have cc1 := (HBc.out.cell (p := ⟨p, 1, none⟩) hlt).trans c1
    have HD : Hid (∀ W, Tr W φ p T A → Calls Tryd.prog 47 #[.pointer (some ⟨p, 0, none⟩), .agg #[.int .i64 0, .string q, .string s, .int .i64 (T.clock + 1)]] W fun e w' => e = .returned (.int .i64 0) ∧ TrEnd W φ p A (doneT T ⟨1, q, s, T.clock + 1⟩) w') := fun W hW =>
      done_call W hW ⟨1, q, s, T.clock + 1⟩ ⟨.inl rfl, hq, hs, fun e => absurd e (show ¬ ((1 : Int) = 4) by decide)⟩ HO.out.many (fun f hf => Nat.le_trans (HO.out.texts f hf) (by decide)) HO.out.clock HO.out.chs
    go_wp2_with (first
      | (go_at_call 47; refine (HD.out _ (HX.out.below HBc.out)).mono ?_; rintro e w4 ⟨rfl, he4⟩; have HE4 := Lib.hid he4; clear he4))
    go_ret
    exact ⟨rfl, HE4.out.left HBc.out⟩
end
end Go.Proofs.YtajiidkmijeidaaDoor.Fr
/- Write, Append, Remove, Rename. -/
namespace Go.Proofs.YtajiidkmijeidaaDoor.Fr
open Go.RowKit Go.Proofs.YtajiidkmijeidaaDoor.F Go.Maps
set_option linter.unusedVariables false
set_option linter.unusedSimpArgs false
section
variable {φ : Phi} {p : Nat} {T : TS} {A : Nat → Prop}
theorem errEnd {w w' : World} {k : Int} {e : Ending} (hT : Tr w φ p T A) {stays : Bool} {q s : ByteArray} (hk : writeE T stays q s = k) (hk0 : k ≠ 0) (h : e = .returned (.int .i64 k) ∧ Below w.heap.size w w') :
    e = .returned (.int .i64 (writeE T stays q s)) ∧ TrEnd w φ p A (writeT T stays q s) w' := by
  unfold writeT
  rw [hk, if_neg hk0]
  exact ⟨h.1, TrEnd.same hT h.2⟩
theorem okEnd {w w' : World} {e : Ending} {stays : Bool} {q s : ByteArray} (hk : writeE T stays q s = 0) (h : e = .returned (.int .i64 0) ∧ TrEnd w φ p A (doneT T (writeC T stays q s)) w') :
    e = .returned (.int .i64 (writeE T stays q s)) ∧ TrEnd w φ p A (writeT T stays q s) w' := by
  unfold writeT
  rw [hk, if_pos rfl]
  exact h
theorem wE1 {T : TS} {stays : Bool} {q s : ByteArray} (h : pathV q = false) : writeE T stays q s = 1 := by unfold writeE; rw [if_pos h]
theorem wE3 {T : TS} {stays : Bool} {q s : ByteArray} (h : pathV q = true) (h2 : 16777216 < sizeT T stays q s) : writeE T stays q s = 3 := by
  unfold writeE
  rw [if_neg (by rw [h]; decide), if_pos h2]
theorem wE5 {T : TS} {stays : Bool} {q s : ByteArray} (h : pathV q = true) (h2 : sizeT T stays q s ≤ 16777216) (h3 : blockT T.l q ⟨#[]⟩ = true) : writeE T stays q s = 5 := by
  unfold writeE
  rw [if_neg (by rw [h]; decide), if_neg (by omega), if_pos h3]
theorem wE6 {T : TS} {stays : Bool} {q s : ByteArray} (h : pathV q = true) (h2 : sizeT T stays q s ≤ 16777216) (h3 : blockT T.l q ⟨#[]⟩ = false) (h4 : fullT T stays q s = true) : writeE T stays q s = 6 := by
  unfold writeE
  rw [if_neg (by rw [h]; decide), if_neg (by omega), if_neg (by rw [h3]; decide), if_pos h4]
theorem wE0 {T : TS} {stays : Bool} {q s : ByteArray} (h : pathV q = true) (h2 : sizeT T stays q s ≤ 16777216) (h3 : blockT T.l q ⟨#[]⟩ = false) (h4 : fullT T stays q s = false) : writeE T stays q s = 0 := by
  unfold writeE
  rw [if_neg (by rw [h]; decide), if_neg (by omega), if_neg (by rw [h3]; decide), if_neg (by rw [h4]; decide)]
theorem full_room {T : TS} {stays : Bool} {q s : ByteArray} (h : T.room < (usedF T.l : Int) - hadT T q + sizeT T stays q s) : fullT T stays q s = true := by
  unfold fullT
  rw [decide_eq_true h]
  rfl
theorem full_many {T : TS} {stays : Bool} {q s : ByteArray} (h : 200 < manyT T q) : fullT T stays q s = true := by
  unfold fullT
  rw [decide_eq_true h]
  simp
theorem full_no {T : TS} {stays : Bool} {q s : ByteArray} (h : ¬ T.room < (usedF T.l : Int) - hadT T q + sizeT T stays q s) (h2 : manyT T q ≤ 200) : fullT T stays q s = false := by
  unfold fullT
  rw [decide_eq_false h, decide_eq_false (by omega)]
  rfl
theorem write_call (w : World) (hT : Tr w φ p T A) (hG : Glob w) (hO : TOK T) (stays : Bool) (q s : ByteArray) (hq : q.size ≤ 100000) (hs : s.size ≤ 1000000000) :
    Calls Tryd.prog 48 #[.pointer (some ⟨p, 0, none⟩), .string q, .string s, .bool stays] w fun e w' => e = .returned (.int .i64 (writeE T stays q s)) ∧ TrEnd w φ p A (writeT T stays q s) w' := by
  cases hf : findF T.l q with
  | none =>
    have hh : hadT T q = 0 := by unfold hadT textF; rw [hf]; rfl
    have hm : manyT T q = T.l.length + 1 := by unfold manyT; rw [hf]; rfl
    cases stays with
    | true =>
      have hz : sizeT T true q s = s.size := by unfold sizeT; rw [if_pos rfl, hh]; rfl
      cases hp : pathV q with
      | false => exact (wr_n_true_e1 hT hG hO hq hs hf hp).mono fun e w' h => errEnd hT (wE1 hp) (by decide) h
      | true =>
        by_cases h2 : 16777216 < s.size
        · exact (wr_n_true_e3 hT hG hO hq hs hf hp h2).mono fun e w' h => errEnd hT (wE3 hp (by omega)) (by decide) h
        · cases h3 : blockT T.l q ⟨#[]⟩ with
          | true => exact (wr_n_true_e5 hT hG hO hq hs hf hp (by omega) h3).mono fun e w' h => errEnd hT (wE5 hp (by omega) h3) (by decide) h
          | false =>
            by_cases h4 : T.room < (usedF T.l : Int) - 0 + ((s.size : Nat) : Int)
            · exact (wr_n_true_e6 hT hG hO hq hs hf hp (by omega) h3 h4).mono fun e w' h => errEnd hT (wE6 hp (by omega) h3 (full_room (by rw [hh, hz]; exact h4))) (by decide) h
            · by_cases h5 : 200 < T.l.length + 1
              · exact (wr_n_true_e7 hT hG hO hq hs hf hp (by omega) h3 h4 h5).mono fun e w' h => errEnd hT (wE6 hp (by omega) h3 (full_many (by rw [hm]; exact h5))) (by decide) h
              · exact (wr_n_true_ok hT hG hO hq hs hf hp (by omega) h3 h4 (by omega)).mono fun e w' h => okEnd (wE0 hp (by omega) h3 (full_no (by rw [hh, hz]; exact h4) (by omega))) h
    | false =>
      have hz : sizeT T false q s = s.size := by unfold sizeT; rw [if_neg (by decide)]
      cases hp : pathV q with
      | false => exact (wr_n_false_e1 hT hG hO hq hs hf hp).mono fun e w' h => errEnd hT (wE1 hp) (by decide) h
      | true =>
        by_cases h2 : 16777216 < s.size
        · exact (wr_n_false_e3 hT hG hO hq hs hf hp h2).mono fun e w' h => errEnd hT (wE3 hp (by omega)) (by decide) h
        · cases h3 : blockT T.l q ⟨#[]⟩ with
          | true => exact (wr_n_false_e5 hT hG hO hq hs hf hp (by omega) h3).mono fun e w' h => errEnd hT (wE5 hp (by omega) h3) (by decide) h
          | false =>
            by_cases h4 : T.room < (usedF T.l : Int) - 0 + ((s.size : Nat) : Int)
            · exact (wr_n_false_e6 hT hG hO hq hs hf hp (by omega) h3 h4).mono fun e w' h => errEnd hT (wE6 hp (by omega) h3 (full_room (by rw [hh, hz]; exact h4))) (by decide) h
            · by_cases h5 : 200 < T.l.length + 1
              · exact (wr_n_false_e7 hT hG hO hq hs hf hp (by omega) h3 h4 h5).mono fun e w' h => errEnd hT (wE6 hp (by omega) h3 (full_many (by rw [hm]; exact h5))) (by decide) h
              · exact (wr_n_false_ok hT hG hO hq hs hf hp (by omega) h3 h4 (by omega)).mono fun e w' h => okEnd (wE0 hp (by omega) h3 (full_no (by rw [hh, hz]; exact h4) (by omega))) h
  | some f =>
    have hf1 : f.f1.size ≤ 1000000000 := hO.texts f (mem_of_find hf)
    have hh : hadT T q = f.f1.size := by unfold hadT textF; rw [hf]
    have hm : manyT T q = T.l.length := by unfold manyT; rw [hf]; rfl
    cases stays with
    | true =>
      have hz : sizeT T true q s = s.size + f.f1.size := by unfold sizeT; rw [if_pos rfl, hh]
      cases hp : pathV q with
      | false => exact (wr_s_true_e1 hT hG hO hq hs f hf hf1 hp).mono fun e w' h => errEnd hT (wE1 hp) (by decide) h
      | true =>
        by_cases h2 : 16777216 < s.size + f.f1.size
        · exact (wr_s_true_e3 hT hG hO hq hs f hf hf1 hp h2).mono fun e w' h => errEnd hT (wE3 hp (by omega)) (by decide) h
        · cases h3 : blockT T.l q ⟨#[]⟩ with
          | true => exact (wr_s_true_e5 hT hG hO hq hs f hf hf1 hp (by omega) h3).mono fun e w' h => errEnd hT (wE5 hp (by omega) h3) (by decide) h
          | false =>
            by_cases h4 : T.room < (usedF T.l : Int) - (f.f1.size : Int) + ((s.size + f.f1.size : Nat) : Int)
            · exact (wr_s_true_e6 hT hG hO hq hs f hf hf1 hp (by omega) h3 h4).mono fun e w' h => errEnd hT (wE6 hp (by omega) h3 (full_room (by rw [hh, hz]; exact h4))) (by decide) h
            · by_cases h5 : 200 < T.l.length
              · exact (wr_s_true_e7 hT hG hO hq hs f hf hf1 hp (by omega) h3 h4 h5).mono fun e w' h => errEnd hT (wE6 hp (by omega) h3 (full_many (by rw [hm]; exact h5))) (by decide) h
              · exact (wr_s_true_ok hT hG hO hq hs f hf hf1 hp (by omega) h3 h4 (by omega)).mono fun e w' h => okEnd (wE0 hp (by omega) h3 (full_no (by rw [hh, hz]; exact h4) (by omega))) h
    | false =>
      have hz : sizeT T false q s = s.size := by unfold sizeT; rw [if_neg (by decide)]
      cases hp : pathV q with
      | false => exact (wr_s_false_e1 hT hG hO hq hs f hf hf1 hp).mono fun e w' h => errEnd hT (wE1 hp) (by decide) h
      | true =>
        by_cases h2 : 16777216 < s.size
        · exact (wr_s_false_e3 hT hG hO hq hs f hf hf1 hp h2).mono fun e w' h => errEnd hT (wE3 hp (by omega)) (by decide) h
        · cases h3 : blockT T.l q ⟨#[]⟩ with
          | true => exact (wr_s_false_e5 hT hG hO hq hs f hf hf1 hp (by omega) h3).mono fun e w' h => errEnd hT (wE5 hp (by omega) h3) (by decide) h
          | false =>
            by_cases h4 : T.room < (usedF T.l : Int) - (f.f1.size : Int) + ((s.size : Nat) : Int)
            · exact (wr_s_false_e6 hT hG hO hq hs f hf hf1 hp (by omega) h3 h4).mono fun e w' h => errEnd hT (wE6 hp (by omega) h3 (full_room (by rw [hh, hz]; exact h4))) (by decide) h
            · by_cases h5 : 200 < T.l.length
              · exact (wr_s_false_e7 hT hG hO hq hs f hf hf1 hp (by omega) h3 h4 h5).mono fun e w' h => errEnd hT (wE6 hp (by omega) h3 (full_many (by rw [hm]; exact h5))) (by decide) h
              · exact (wr_s_false_ok hT hG hO hq hs f hf hf1 hp (by omega) h3 h4 (by omega)).mono fun e w' h => okEnd (wE0 hp (by omega) h3 (full_no (by rw [hh, hz]; exact h4) (by omega))) h
set_option maxHeartbeats 1000000 in
set_option maxRecDepth 100000 in
theorem Write_call (w : World) (hT : Tr w φ p T A) (hG : Glob w) (hO : TOK T) (q s : ByteArray) (hq : q.size ≤ 100000) (hs : s.size ≤ 1000000000) :
    Calls Tryd.prog 28 #[.pointer (some ⟨p, 0, none⟩), .string q, .string s] w fun e w' => e = .returned (.int .i64 (writeE T false q s)) ∧ TrEnd w φ p A (writeT T false q s) w' := by
  have H := Lib.hid (write_call w hT hG hO false q s hq hs)
  clear hT hG hO
  go_enter Tryd.func28, Tryd.ntmps28
  go_wp2_with (first | (go_at_call 48; refine H.out.mono ?_; rintro e w' ⟨rfl, h⟩; have HE := Lib.hid h; clear h))
  go_ret
  exact ⟨rfl, HE.out⟩
set_option maxHeartbeats 1000000 in
set_option maxRecDepth 100000 in
theorem Append_call (w : World) (hT : Tr w φ p T A) (hG : Glob w) (hO : TOK T) (q s : ByteArray) (hq : q.size ≤ 100000) (hs : s.size ≤ 1000000000) :
    Calls Tryd.prog 25 #[.pointer (some ⟨p, 0, none⟩), .string q, .string s] w fun e w' => e = .returned (.int .i64 (writeE T true q s)) ∧ TrEnd w φ p A (writeT T true q s) w' := by
  have H := Lib.hid (write_call w hT hG hO true q s hq hs)
  clear hT hG hO
  go_enter Tryd.func25, Tryd.ntmps25
  go_wp2_with (first | (go_at_call 48; refine H.out.mono ?_; rintro e w' ⟨rfl, h⟩; have HE := Lib.hid h; clear h))
  go_ret
  exact ⟨rfl, HE.out⟩
/-! ### Remove, Rename -/
def removeE (T : TS) (q : ByteArray) : Int := if (findF T.l q).isSome = true then 0 else 4
def removeT (T : TS) (q : ByteArray) : TS := if removeE T q = 0 then doneT T ⟨3, q, ⟨#[]⟩, 0⟩ else T
set_option maxHeartbeats 1000000 in
set_option maxRecDepth 100000 in
theorem Remove_call (w : World) (hT : Tr w φ p T A) (hO : TOK T) (q : ByteArray) (hq : q.size ≤ 100000) :
    Calls Tryd.prog 27 #[.pointer (some ⟨p, 0, none⟩), .string q] w fun e w' => e = .returned (.int .i64 (removeE T q)) ∧ TrEnd w φ p A (removeT T q) w' := by
  have HX := Lib.hid hT
  have HO := Lib.hid hO
  obtain ⟨bn, bl, v, h⟩ := hT
  have HT := Lib.hid h
  have c2 := h.c2
  clear h hO
  cases hf : findF T.l q with
  | none =>
    have HN := Lib.hid hf
    have h1 : Hid (removeE T q = 4) := by unfold removeE; rw [Hid, hf]; rfl
    have h2 : Hid (removeT T q = T) := by unfold removeT; rw [Hid, h1.out]; rfl
    clear hf
    rw [h1.out, h2.out]
    go_enter Tryd.func27, Tryd.ntmps27
    go_wp2_with (first
      | (at_lookup; refine wpList_look_none _ rfl _ _ rfl bn q rfl HT.out.now rfl hq HN.out ?_))
    go_ret
    exact ⟨rfl, TrEnd.same HX.out (Below.refl _ _)⟩
  | some f =>
    have HN := Lib.hid hf
    have h1 : Hid (removeE T q = 0) := by unfold removeE; rw [Hid, hf]; rfl
    have h2 : Hid (removeT T q = doneT T ⟨3, q, ⟨#[]⟩, 0⟩) := by unfold removeT; rw [Hid, h1.out]; rfl
    clear hf
    rw [h1.out, h2.out]
    have HD : Hid (Calls Tryd.prog 47 #[.pointer (some ⟨p, 0, none⟩), .agg #[.int .i64 2, .string q, .string ⟨#[]⟩, .int .i64 0]] w fun e w' => e = .returned (.int .i64 0) ∧ TrEnd w φ p A (doneT T ⟨3, q, ⟨#[]⟩, 0⟩) w') :=
      done_call w HX.out ⟨3, q, ⟨#[]⟩, 0⟩ ⟨.inr (.inr (.inl rfl)), hq, Nat.zero_le _, fun e => absurd e (show ¬ ((3 : Int) = 4) by decide)⟩ HO.out.many (fun f hf => Nat.le_trans (HO.out.texts f hf) (by decide)) HO.out.clock HO.out.chs
    go_enter Tryd.func27, Tryd.ntmps27
    go_wp2_with (first
      | (at_lookup; refine wpList_look_some _ rfl _ _ rfl bn q rfl HT.out.now rfl hq _ HN.out ?_; intro qb hqb; clear hqb)
      | (go_at_call 47; refine HD.out.mono ?_; rintro e w4 ⟨rfl, he4⟩; have HE4 := Lib.hid he4; clear he4))
    go_ret
    exact ⟨rfl, HE4.out⟩
def renameE (T : TS) (a b : ByteArray) : Int :=
  if (findF T.l a).isSome = false then 4 else if pathV b = false then 1 else if sameB a b = true then 0 else if blockT T.l b a = true then 5 else 0
def renameT (T : TS) (a b : ByteArray) : TS := if (findF T.l a).isSome = true ∧ pathV b = true ∧ sameB a b = false ∧ blockT T.l b a = false then doneT T ⟨4, a, b, 0⟩ else T
set_option maxHeartbeats 4000000 in
set_option maxRecDepth 100000 in
theorem Rename_call (w : World) (hT : Tr w φ p T A) (hG : Glob w) (hO : TOK T) (q r : ByteArray) (hq : q.size ≤ 100000) (hr : r.size ≤ 100000) :
    Calls Tryd.prog 24 #[.pointer (some ⟨p, 0, none⟩), .string q, .string r] w fun e w' => e = .returned (.int .i64 (renameE T q r)) ∧ TrEnd w φ p A (renameT T q r) w' := by
  have HX := Lib.hid hT
  have HO := Lib.hid hO
  have HG := Lib.hid hG
  obtain ⟨bn, bl, v, h⟩ := hT
  have HT := Lib.hid h
  have c2 := h.c2
  clear h hO hG
  cases hf : findF T.l q with
  | none =>
    have HN := Lib.hid hf
    have h1 : Hid (renameE T q r = 4) := by unfold renameE; rw [Hid, hf]; rfl
    have h2 : Hid (renameT T q r = T) := by unfold renameT; rw [Hid, hf]; exact if_neg (by simp)
    clear hf
    rw [h1.out, h2.out]
    go_enter Tryd.func24, Tryd.ntmps24
    go_wp2_with (first
      | (at_lookup; refine wpList_look_none _ rfl _ _ rfl bn q rfl HT.out.now rfl hq HN.out ?_))
    go_ret
    exact ⟨rfl, TrEnd.same HX.out (Below.refl _ _)⟩
  | some f =>
    have HN := Lib.hid hf
    cases hp : pathV r with
    | false =>
      have h1 : Hid (renameE T q r = 1) := by unfold renameE; rw [Hid, hf, hp]; rfl
      have h2 : Hid (renameT T q r = T) := by unfold renameT; rw [Hid, hp]; exact if_neg (by simp)
      have HP := Lib.hid hp
      clear hf hp
      rw [h1.out, h2.out]
      go_enter Tryd.func24, Tryd.ntmps24
      go_wp2_with (first
        | (at_lookup; refine wpList_look_some _ rfl _ _ rfl bn q rfl HT.out.now rfl hq _ HN.out ?_; intro qb hqb; clear hqb)
        | (go_at_call 45; refine (path_call r hr _ HG.out).mono ?_; rintro e w1 ⟨rfl, hb1⟩; rw [HP.out]; have HB1 := Lib.hid hb1; clear hb1))
      go_ret
      exact ⟨rfl, TrEnd.same HX.out HB1.out⟩
    | true =>
      have HP := Lib.hid hp
      have hse : (q.toList == r.toList) = sameB q r := by unfold sameB; rw [ByteArray.toList_eq, ByteArray.toList_eq]
      cases hs : sameB q r with
      | true =>
        have h1 : Hid (renameE T q r = 0) := by unfold renameE; rw [Hid, hf, hp, hs]; rfl
        have h2 : Hid (renameT T q r = T) := by unfold renameT; rw [Hid, hs]; exact if_neg (by simp)
        rw [hs] at hse
        clear hf hp hs
        rw [h1.out, h2.out]
        go_enter Tryd.func24, Tryd.ntmps24
        go_wp2_with (first
          | (at_lookup; refine wpList_look_some _ rfl _ _ rfl bn q rfl HT.out.now rfl hq _ HN.out ?_; intro qb hqb; clear hqb)
          | (go_at_call 45; refine (path_call r hr _ HG.out).mono ?_; rintro e w1 ⟨rfl, hb1⟩; rw [HP.out]; have HB1 := Lib.hid hb1; clear hb1))
        go_ret
        exact ⟨rfl, TrEnd.same HX.out HB1.out⟩
      | false =>
        cases hb : blockT T.l r q with
        | true =>
          have h1 : Hid (renameE T q r = 5) := by unfold renameE; rw [Hid, hf, hp, hs, hb]; rfl
          have h2 : Hid (renameT T q r = T) := by unfold renameT; rw [Hid, hb]; exact if_neg (by simp)
          have H3 := Lib.hid hb
          rw [hs] at hse
          clear hf hp hs hb
          rw [h1.out, h2.out]
          go_enter Tryd.func24, Tryd.ntmps24
          go_wp2_with (first
            | (at_lookup; refine wpList_look_some _ rfl _ _ rfl bn q rfl HT.out.now rfl hq _ HN.out ?_; intro qb hqb; clear hqb)
            | (go_at_call 45; refine (path_call r hr _ HG.out).mono ?_; rintro e w1 ⟨rfl, hb1⟩; rw [HP.out]; have HB1 := Lib.hid hb1; clear hb1)
            | (go_at_call 46; refine (blocked_call _ (HX.out.below HB1.out) r q hr HO.out.paths).mono ?_; rintro e w2 ⟨rfl, hb2⟩; rw [H3.out]; have HB2 := Lib.hid (HB1.out.trans (hb2.mono HB1.out.size)); clear hb2))
          go_ret
          exact ⟨rfl, TrEnd.same HX.out HB2.out⟩
        | false =>
          have h1 : Hid (renameE T q r = 0) := by unfold renameE; rw [Hid, hf, hp, hs, hb]; rfl
          have h2 : Hid (renameT T q r = doneT T ⟨4, q, r, 0⟩) := by unfold renameT; rw [Hid, hf, hp, hs, hb]; exact if_pos ⟨rfl, rfl, rfl, rfl⟩
          have H3 := Lib.hid hb
          have HD : Hid (∀ W, Tr W φ p T A → Calls Tryd.prog 47 #[.pointer (some ⟨p, 0, none⟩), .agg #[.int .i64 3, .string q, .string r, .int .i64 0]] W fun e w' => e = .returned (.int .i64 0) ∧ TrEnd W φ p A (doneT T ⟨4, q, r, 0⟩) w') := fun W hW =>
            done_call W hW ⟨4, q, r, 0⟩ ⟨.inr (.inr (.inr rfl)), hq, Nat.le_trans hr (by decide), fun _ => hr⟩ HO.out.many (fun f hf => Nat.le_trans (HO.out.texts f hf) (by decide)) HO.out.clock HO.out.chs
          rw [hs] at hse
          clear hf hp hs hb
          rw [h1.out, h2.out]
          go_enter Tryd.func24, Tryd.ntmps24
          go_wp2_with (first
            | (at_lookup; refine wpList_look_some _ rfl _ _ rfl bn q rfl HT.out.now rfl hq _ HN.out ?_; intro qb hqb; clear hqb)
            | (go_at_call 45; refine (path_call r hr _ HG.out).mono ?_; rintro e w1 ⟨rfl, hb1⟩; rw [HP.out]; have HB1 := Lib.hid hb1; clear hb1)
            | (go_at_call 46; refine (blocked_call _ (HX.out.below HB1.out) r q hr HO.out.paths).mono ?_; rintro e w2 ⟨rfl, hb2⟩; rw [H3.out]; have HB2 := Lib.hid (HB1.out.trans (hb2.mono HB1.out.size)); clear hb2)
            | (go_at_call 47; refine (HD.out _ (HX.out.below HB2.out)).mono ?_; rintro e w4 ⟨rfl, he4⟩; have HE4 := Lib.hid he4; clear he4))
          go_ret
          exact ⟨rfl, HE4.out.left HB2.out⟩
end
end Go.Proofs.YtajiidkmijeidaaDoor.Fr
/- New, Sync. -/
namespace Go.Proofs.YtajiidkmijeidaaDoor.Fr
open Go.RowKit Go.Proofs.YtajiidkmijeidaaDoor.F Go.Maps
set_option linter.unusedVariables false
set_option linter.unusedSimpArgs false
def newT (room : Int) : TS := ⟨room, 0, [], [], []⟩
/-- How New ends. -/
def NewEnd (w : World) (φ : Phi) (T : TS) (e : Ending) (w' : World) : Prop :=
  ∃ p A, e = .returned (.tuple #[.pointer (some ⟨p, 0, none⟩), .int .i64 0]) ∧ Tr w' φ p T A ∧ Below w.heap.size w w' ∧ ∀ k, A k → w.heap.size ≤ k
theorem new_end {w : World} {φ : Phi} (hF : FilesOK w φ) (room : Int) :
    NewEnd w φ (newT room) (.returned (.tuple #[.pointer (some ⟨w.heap.size + 1 + 1, 0, none⟩), .int .i64 0])) (((w.alloc (.map #[] 0)).alloc (.map #[] 0)).alloc (.cells #[.int .i64 room, .int .i64 0, .map (some w.heap.size), .map (some (w.heap.size + 1)), .slice none 0 0] 73)) := by
  obtain ⟨W1, hW1⟩ : ∃ W1, W1 = w.alloc (.map #[] 0) := ⟨_, rfl⟩
  obtain ⟨W2, hW2⟩ : ∃ W2, W2 = W1.alloc (.map #[] 0) := ⟨_, rfl⟩
  rw [← hW1, ← hW2]
  have s1 : W1.heap.size = w.heap.size + 1 := by rw [hW1, World.size_alloc]
  have s2 : W2.heap.size = w.heap.size + 1 + 1 := by rw [hW2, World.size_alloc, s1]
  have hb1 : Below w.heap.size w W1 := by rw [hW1]; exact newBelow _ _
  have hb2 : Below W1.heap.size W1 W2 := by rw [hW2]; exact newBelow _ _
  have hb3 := newBelow W2 (.cells #[.int .i64 room, .int .i64 0, .map (some w.heap.size), .map (some (w.heap.size + 1)), .slice none 0 0] 73)
  have hb : Below w.heap.size w (W2.alloc (.cells #[.int .i64 room, .int .i64 0, .map (some w.heap.size), .map (some (w.heap.size + 1)), .slice none 0 0] 73)) := (hb1.trans (hb2.mono (by omega))).trans (hb3.mono (by omega))
  have i1 : Img W1 φ w.heap.size [] := by rw [hW1]; exact Img.made w φ
  have i2 : Img W2 φ (w.heap.size + 1) [] := by
    have := Img.made W1 φ
    rw [← hW2, s1] at this
    exact this
  refine ⟨w.heap.size + 1 + 1, fun k => w.heap.size ≤ k ∧ k < w.heap.size + 1 + 1 + 1, rfl, ⟨w.heap.size, w.heap.size + 1, .slice none 0 0, ?_⟩, hb, fun k hk => hk.1⟩
  have hat := World.alloc_heap_new W2 (.cells #[.int .i64 room, .int .i64 0, .map (some w.heap.size), .map (some (w.heap.size + 1)), .slice none 0 0] 73)
  rw [s2] at hat
  exact {
    files := hF.below hb
    at_ := hat
    now := (i1.below hb2).below hb3
    last := i2.below hb3
    row := ⟨rfl, .inl ⟨rfl, rfl⟩⟩
    ne := by omega
    ap := ⟨by omega, by omega⟩
    an := ⟨by omega, by omega⟩
    al := ⟨by omega, by omega⟩
    ar := fun k hk => by simp [Value.ownBlock] at hk
    free := fun k hk => by
      refine ⟨by rw [World.size_alloc, s2]; exact hk.2, ?_⟩
      cases e : φ k with
      | none => rfl
      | some f =>
        have := hF.lt (q := k) (by rw [e]; simp)
        have := hk.1
        omega }
set_option maxHeartbeats 1000000 in
set_option maxRecDepth 100000 in
theorem new_call (w : World) (φ : Phi) (hF : FilesOK w φ) (room : Int) (h1 : 1 ≤ room) (h2 : room ≤ 1073741824) : Calls Tryd.prog 32 #[.int .i64 room] w (NewEnd w φ (newT room)) := by
  have H := Lib.hid (new_end hF room)
  have hmm := @run_makeMap Tryd.prog
  clear hF
  go_enter Tryd.func32, Tryd.ntmps32
  go_wp2
  go_ret2
  exact H.out
set_option maxHeartbeats 1000000 in
set_option maxRecDepth 100000 in
theorem new_none (w : World) (room : Int) (h : room < 1 ∨ 1073741824 < room) : Calls Tryd.prog 32 #[.int .i64 room] w fun e w' => e = .returned (.tuple #[.pointer none, .int .i64 1]) ∧ w = w' := by
  have hmm := @run_makeMap Tryd.prog
  rcases h with h | h
  · have hd : decide (room < 1) = true := decide_eq_true h
    go_enter Tryd.func32, Tryd.ntmps32
    go_wp2
    go_ret2
    exact ⟨rfl, rfl⟩
  · have hd : decide (room < 1) = false := decide_eq_false (by omega)
    have hd2 : decide (1073741824 < room) = true := decide_eq_true h
    go_enter Tryd.func32, Tryd.ntmps32
    go_wp2
    go_ret2
    exact ⟨rfl, rfl⟩
/-! ### Sync -/
def syncT (T : TS) : TS := { T with last := T.l, ch := [] }
theorem sync_end {w w1 : World} {φ : Phi} {p bn bl : Nat} {T : TS} {A : Nat → Prop} {v : Value} (h : TrAt w φ p T A bn bl v) (hI : Img w1 φ w.heap.size T.l) (hB : Below w.heap.size w w1) :
    TrEnd w φ p A (syncT T) ((w1.setCell ⟨p, 3, none⟩ (.map (some w.heap.size))).setCell ⟨p, 4, none⟩ (.slice none 0 0)) := by
  have hat1 : w1.heap[p]? = some (.cells #[.int .i64 T.room, .int .i64 T.clock, .map (some bn), .map (some bl), v] 73 (0, 0)) := (hB.block p h.lt).trans h.at_
  have hat2 := heap_setCell_same w1 p 3 _ _ (.map (some w.heap.size)) hat1
  have hat3 := heap_setCell_same _ p 4 _ _ (.slice none 0 0) hat2
  have hC : Chg (fun k => k = p) w ((w1.setCell ⟨p, 3, none⟩ (.map (some w.heap.size))).setCell ⟨p, 4, none⟩ (.slice none 0 0)) :=
    (((Chg.refl (fun k => k = p) w).below hB).setCell (p := ⟨p, 3, none⟩) (fun _ => rfl) _).setCell (p := ⟨p, 4, none⟩) (fun _ => rfl) _
  have hC1 : Chg (fun k => k = p) w1 ((w1.setCell ⟨p, 3, none⟩ (.map (some w.heap.size))).setCell ⟨p, 4, none⟩ (.slice none 0 0)) :=
    ((Chg.refl (fun k => k = p) w1).setCell (p := ⟨p, 3, none⟩) (fun _ => rfl) _).setCell (p := ⟨p, 4, none⟩) (fun _ => rfl) _
  have hplt := h.lt
  have hF : FilesOK ((w1.setCell ⟨p, 3, none⟩ (.map (some w.heap.size))).setCell ⟨p, 4, none⟩ (.slice none 0 0)) φ := h.files.chg hC fun q hq e => hq (by rw [e]; exact (h.free p h.ap).2)
  have hN := hI.lt
  refine ⟨φ, fun k => A k ∨ k = w.heap.size, ⟨bn, w.heap.size, .slice none 0 0, ?_⟩, Ext.refl _ _, hC.mono fun k _ e => e ▸ h.ap, fun k hk => hk.imp id fun e => by omega⟩
  exact {
    files := hF
    at_ := by rw [hat3]; simp [syncT]
    now := h.now.chg hC fun e => h.p_ne.1 e.symm
    last := hI.chg hC1 fun e => by omega
    row := ⟨rfl, .inl ⟨rfl, rfl⟩⟩
    ne := by have := h.now.lt; omega
    ap := .inl h.ap
    an := .inl h.an
    al := .inr rfl
    ar := fun k hk => by simp [Value.ownBlock] at hk
    free := fun k hk => by
      rcases hk with hk | rfl
      · obtain ⟨h1, h2⟩ := h.free k hk
        exact ⟨Nat.lt_of_lt_of_le h1 hC.size, h2⟩
      · refine ⟨Nat.lt_of_lt_of_le hN hC1.size, ?_⟩
        cases e : φ w.heap.size with
        | none => rfl
        | some f =>
          have := h.files.lt (q := w.heap.size) (by rw [e]; simp)
          omega }
theorem clone_img {w : World} {φ : Phi} {b : Nat} {l : List Fl} (h : Img w φ b l) :
    Calls Tryd.prog 42 #[.map (some b)] w fun e w' => e = .returned (.map (some w.heap.size)) ∧ Img w' φ w.heap.size l ∧ Below w.heap.size w w' ∧ w'.heap.size = w.heap.size + 1 := by
  exact clone_call _ _ b _ _ w h
section
variable {φ : Phi} {p : Nat} {T : TS} {A : Nat → Prop}
set_option maxHeartbeats 1000000 in
set_option maxRecDepth 100000 in
theorem sync_call (w : World) (hT : Tr w φ p T A) : Calls Tryd.prog 18 #[.pointer (some ⟨p, 0, none⟩)] w fun e w' => e = .returned (.tuple #[]) ∧ TrEnd w φ p A (syncT T) w' := by
  obtain ⟨bn, bl, v, h⟩ := hT
  have HT := Lib.hid h
  have c2 := h.c2
  have hlt := h.lt
  have hn := h.now
  clear h
  go_enter Tryd.func18, Tryd.ntmps18
  go_wp2_with (first
    | (go_at_call 42; (refine (clone_img hn).mono ?_; rintro e w1 ⟨rfl, hI, hB, hs⟩; have hat1 := (hB.block p hlt).trans HT.out.at_; have d3 : w1.cell? ⟨p, 3, none⟩ = some (.map (some bl)) := (by simp [World.cell?, hat1]); have d4 : w1.cell? ⟨p, 4, none⟩ = some v := (by simp [World.cell?, hat1]); have g3 : w1.frozen? ⟨p, 3, none⟩ = false := (by simp [World.frozen?, hat1]); have g4 : w1.frozen? ⟨p, 4, none⟩ = false := (by simp [World.frozen?, hat1]); have HE := Lib.hid (sync_end HT.out hI hB); clear hI hB hs hat1)))
  go_end0
  exact ⟨rfl, HE.out⟩
end
end Go.Proofs.YtajiidkmijeidaaDoor.Fr
/- slices.Clone of a row of changes. -/
namespace Go.Proofs.YtajiidkmijeidaaDoor.Fr
open Go.RowKit Go.Proofs.YtajiidkmijeidaaDoor.F Go.Maps
set_option linter.unusedVariables false
set_option linter.unusedSimpArgs false
theorem chCells_one {ch : List Cg} {u : Value} (hu : u ∈ ch.flatMap chCells) : u.oneCell' = true := by
  rw [List.mem_flatMap] at hu
  obtain ⟨c, _, hc⟩ := hu
  unfold chCells at hc
  simp only [List.mem_cons, List.not_mem_nil, or_false] at hc
  rcases hc with rfl | rfl | rfl | rfl <;> rfl
set_option maxHeartbeats 1000000 in
set_option maxRecDepth 100000 in
theorem sclone_nil (w : World) : Calls Tryd.prog 43 #[.slice none 0 0] w fun e w' => e = .returned (.slice none 0 0) ∧ w = w' := by
  go_enter Tryd.func43, Tryd.ntmps43
  have ht : ∀ W, (binOp BinOp.eql 71 (.slice none 0 0) (.slice none 0 0)).run Tryd.prog W = .ok (.bool true) W := fun W => by kernel_rfl
  go_wp2
  go_ret
  exact ⟨rfl, rfl⟩
set_option maxHeartbeats 1000000 in
set_option maxRecDepth 100000 in
theorem sclone_some (w : World) (g n cap : Nat) (xs : List Value) (hn : n ≤ 1000000) (h : w.ownsRow 0 79 4 (.slice (some ⟨g, 0, none⟩) n cap) n xs) (h1 : ∀ u ∈ xs, u.oneCell' = true) :
    Calls Tryd.prog 43 #[.slice (some ⟨g, 0, none⟩) n cap] w fun e w' => ∃ v', e = .returned v' ∧ w'.ownsRow w.heap.size 79 4 v' n xs ∧ Below w.heap.size w w' := by
  have H := Lib.hid h
  have H1 := Lib.hid h1
  clear h h1
  go_enter Tryd.func43, Tryd.ntmps43
  have ht : ∀ W, (binOp BinOp.eql 71 (.slice (some ⟨g, 0, none⟩) n cap) (.slice none 0 0)).run Tryd.prog W = .ok (.bool false) W := fun W => by kernel_rfl
  have hne : (Value.slice none 0 0 : Value) ≠ .slice (some ⟨g, 0, none⟩) n cap := by simp
  obtain ⟨i0, hi, hz0, hz1, hz2⟩ := info_parts infoC
  have hO : Hid (World.ownsRow (w.alloc (.cells #[] 79)) w.heap.size 79 4 (.slice (some ⟨w.heap.size, 0, none⟩) 0 0) 0 []) := ⟨rfl, .inr ⟨w.heap.size, 0, #[], rfl, Nat.le_refl _, World.alloc_heap_new w _, Nat.le_refl _, by unfold maxLen; omega, rfl, rfl⟩⟩
  have hN : Hid (∀ (j : Nat) u, xs[j]? = some u → (w.alloc (.cells #[] 79)).cell? ((⟨g, 0, none⟩ : Addr).add j) = some u) := (H.out.alloc _).cells rfl
  have hl := H.out.1
  have HE : Hid (∀ v' w', w'.ownsRow w.heap.size 79 4 v' (0 + n) ([] ++ xs) → (w.alloc (.cells #[] 79)).grownBy w' (some w.heap.size) → w'.ownsRow w.heap.size 79 4 v' n xs ∧ Below w.heap.size w w') := by
    intro v' w' h1 h2
    rw [Nat.zero_add, List.nil_append] at h1
    exact ⟨h1, ((Below.refl _ w).alloc (Nat.le_refl _) _).grown h2 (by simp) (fun g h => by cases h; exact Nat.le_refl _)⟩
  have H63 : Hid (0 + n ≤ maxLen) := by unfold Hid maxLen; omega
  have HBB : Hid ((0 + n) * 48 ≤ 140737488355328) := by unfold Hid; omega
  go_wp2_with (at_builtin; refine wpList_append_own_at _ rfl _ _ 71 rfl w.heap.size 79 i0 _ 4 48 Tryd.underlying71 hi hz0 hz1 hz2 rfl (by decide) (.slice (some ⟨w.heap.size, 0, none⟩) 0 0) 0 [] rfl hO.out ⟨g, 0, none⟩ n cap xs rfl hl hN.out H1.out H63.out HBB.out (by simp) ?_; intro v' w' h1 h2 h3 h4; have HX := Lib.hid (HE.out v' w' h1 h2); clear h1 h2 h3 h4)
  go_ret
  exact ⟨_, rfl, HX.out⟩
end Go.Proofs.YtajiidkmijeidaaDoor.Fr
/- Clone. -/
namespace Go.Proofs.YtajiidkmijeidaaDoor.Fr
open Go.RowKit Go.Proofs.YtajiidkmijeidaaDoor.F Go.Maps
set_option linter.unusedVariables false
set_option linter.unusedSimpArgs false
theorem clone_at {w W : World} {φ : Phi} {b : Nat} {l : List Fl} (h : Img w φ b l) (hB : Below w.heap.size w W) :
    Calls Tryd.prog 42 #[.map (some b)] W fun e w' => ∃ N, e = .returned (.map (some N)) ∧ (w.heap.size ≤ N ∧ W.heap.size ≤ N ∧ N < w'.heap.size) ∧ Img w' φ N l ∧ Below w.heap.size w w' ∧ Below W.heap.size W w' := by
  refine (clone_img (h.below hB)).mono ?_
  rintro e w' ⟨rfl, h1, h2, h3⟩
  exact ⟨_, rfl, ⟨hB.size, Nat.le_refl _, by omega⟩, h1, hB.trans (h2.mono hB.size), h2⟩
theorem sclone_at {w W : World} {v : Value} {ch : List Cg} (hn : ch.length ≤ 1000000) (h : w.ownsRow 0 79 4 v ch.length (ch.flatMap chCells)) (hv : ∀ k, v.ownBlock = some k → k < w.heap.size) (hB : Below w.heap.size w W) :
    Calls Tryd.prog 43 #[v] W fun e w' => ∃ av cv, e = .returned (.slice av ch.length cv) ∧ W.heap.size ≤ w'.heap.size ∧ w'.ownsRow w.heap.size 79 4 (.slice av ch.length cv) ch.length (ch.flatMap chCells) ∧ Below w.heap.size w w' ∧ Below W.heap.size W w' := by
  have h' : W.ownsRow 0 79 4 v ch.length (ch.flatMap chCells) := ownsRow_block h fun k hk => hB.block k (hv k hk)
  have h0 := h'
  rcases h0 with ⟨h1, ⟨rfl, h2⟩ | ⟨g, cap, cur, rfl, hg, hh, r⟩⟩
  · refine (sclone_nil W).mono ?_
    rintro e w' ⟨rfl, rfl⟩
    rw [h2]
    exact ⟨_, _, rfl, Nat.le_refl _, ⟨by rw [← h2]; exact h1, .inl ⟨rfl, rfl⟩⟩, hB, Below.refl _ _⟩
  · refine (sclone_some W g _ cap _ hn h' fun u hu => chCells_one hu).mono ?_
    rintro e w' ⟨v', rfl, h3, h4⟩
    rcases h3.2 with ⟨rfl, h5⟩ | ⟨g', cap', cur', rfl, e2, e3⟩
    · exact ⟨none, 0, by rw [h5], h4.size, ⟨h3.1, .inl ⟨by rw [h5], h5⟩⟩, hB.trans (h4.mono hB.size), h4⟩
    · exact ⟨_, _, rfl, h4.size, ⟨h3.1, .inr ⟨g', cap', cur', rfl, Nat.le_trans hB.size e2, e3⟩⟩, hB.trans (h4.mono hB.size), h4⟩
theorem row_below {W W' : World} {v : Value} {base n : Nat} {xs : List Value} (h : W.ownsRow base 79 4 v n xs) (hb : Below W.heap.size W W') : W'.ownsRow base 79 4 v n xs :=
  ownsRow_block h fun k hk => hb.block k (h.lt k hk).2
/-- How Clone ends: another tree, in new blocks. -/
def CloneEnd (w : World) (φ : Phi) (T : TS) (e : Ending) (w' : World) : Prop :=
  ∃ p A, e = .returned (.pointer (some ⟨p, 0, none⟩)) ∧ Tr w' φ p T A ∧ Below w.heap.size w w' ∧ ∀ k, A k → w.heap.size ≤ k
theorem clone_end {w W : World} {φ : Phi} {T : TS} {bn bl : Nat} {v : Value} (hF : FilesOK w φ) (hB : Below w.heap.size w W) (h1 : Img W φ bn T.l) (h2 : Img W φ bl T.last)
    (h3 : W.ownsRow w.heap.size 79 4 v T.ch.length (T.ch.flatMap chCells)) (n1 : w.heap.size ≤ bn) (n2 : w.heap.size ≤ bl) (n3 : bn ≠ bl) :
    CloneEnd w φ T (.returned (.pointer (some ⟨W.heap.size, 0, none⟩))) (W.alloc (.cells #[.int .i64 T.room, .int .i64 T.clock, .map (some bn), .map (some bl), v] 73)) := by
  have hb3 := newBelow W (.cells #[.int .i64 T.room, .int .i64 T.clock, .map (some bn), .map (some bl), v] 73)
  have hb : Below w.heap.size w (W.alloc (.cells #[.int .i64 T.room, .int .i64 T.clock, .map (some bn), .map (some bl), v] 73)) := hB.trans (hb3.mono hB.size)
  have hbn := h1.lt
  have hbl := h2.lt
  have hv : ∀ k, v.ownBlock = some k → w.heap.size ≤ k ∧ k < W.heap.size := by
    intro k hk
    rcases h3.2 with ⟨rfl, _⟩ | ⟨g', cap', cur', rfl, e2, e3, _⟩
    · simp [Value.ownBlock] at hk
    · have : g' = k := by simpa [Value.ownBlock] using hk
      subst this
      exact ⟨e2, (Array.getElem?_eq_some_iff.1 e3).1⟩
  have hs := hB.size
  refine ⟨W.heap.size, fun k => w.heap.size ≤ k ∧ k < W.heap.size + 1, rfl, ⟨bn, bl, v, ?_⟩, hb, fun k hk => hk.1⟩
  exact {
    files := hF.below hb
    at_ := World.alloc_heap_new W _
    now := h1.below hb3
    last := h2.below hb3
    row := by
      refine ownsRow_block (w := W) ?_ fun k hk => hb3.block k (hv k hk).2
      rcases h3.2 with h5 | ⟨g', cap', cur', e1, e2, e3⟩
      · exact ⟨h3.1, .inl h5⟩
      · exact ⟨h3.1, .inr ⟨g', cap', cur', e1, Nat.zero_le _, e3⟩⟩
    ne := n3
    ap := ⟨hs, by omega⟩
    an := ⟨n1, by omega⟩
    al := ⟨n2, by omega⟩
    ar := fun k hk => ⟨(hv k hk).1, by have := (hv k hk).2; omega⟩
    free := fun k hk => by
      refine ⟨by rw [World.size_alloc]; exact hk.2, ?_⟩
      cases e : φ k with
      | none => rfl
      | some f =>
        have := hF.lt (q := k) (by rw [e]; simp)
        have := hk.1
        omega }
section
variable {φ : Phi} {p : Nat} {T : TS} {A : Nat → Prop}
set_option maxHeartbeats 4000000 in
set_option maxRecDepth 100000 in
theorem clone_tree (w : World) (hT : Tr w φ p T A) (hn : T.ch.length ≤ 1000000) : Calls Tryd.prog 19 #[.pointer (some ⟨p, 0, none⟩)] w (CloneEnd w φ T) := by
  obtain ⟨bn, bl, v, h⟩ := hT
  have HT := Lib.hid h
  have c0 := h.c0
  have c1 := h.c1
  have c2 := h.c2
  have c3 := h.c3
  have c4 := h.c4
  have hlt := h.lt
  have HV : Hid (∀ k, v.ownBlock = some k → k < w.heap.size) := fun k hk => (h.free k (h.ar k hk)).1
  have HB1 : Hid (Below w.heap.size w w.drew) := (Below.refl _ w).drew
  have HS : Hid (∀ W, Below w.heap.size w W → (W.cell? ⟨p, 0, none⟩ = some (.int .i64 T.room) ∧ W.cell? ⟨p, 1, none⟩ = some (.int .i64 T.clock) ∧ W.cell? ⟨p, 2, none⟩ = some (.map (some bn)) ∧ W.cell? ⟨p, 3, none⟩ = some (.map (some bl)) ∧ W.cell? ⟨p, 4, none⟩ = some v) ∧ Hid (Below w.heap.size w W)) := fun W hW =>
    ⟨⟨(hW.cell (p := ⟨p, 0, none⟩) hlt).trans c0, (hW.cell (p := ⟨p, 1, none⟩) hlt).trans c1, (hW.cell (p := ⟨p, 2, none⟩) hlt).trans c2, (hW.cell (p := ⟨p, 3, none⟩) hlt).trans c3, (hW.cell (p := ⟨p, 4, none⟩) hlt).trans c4⟩, hW⟩
  clear h
  go_enter Tryd.func19, Tryd.ntmps19
  go_upto_region 1 with (fail)
  first | (go_region_held3 (fun W => (W.cell? ⟨p, 0, none⟩ = some (.int .i64 T.room) ∧ W.cell? ⟨p, 1, none⟩ = some (.int .i64 T.clock) ∧ W.cell? ⟨p, 2, none⟩ = some (.map (some bn)) ∧ W.cell? ⟨p, 3, none⟩ = some (.map (some bl)) ∧ W.cell? ⟨p, 4, none⟩ = some v) ∧ Hid (Below w.heap.size w W)) (first | exact HS.out _ (HBR.out.alloc HBR.out.size _) | exact HS.out _ HBR.out | exact HS.out _ HB3.out | exact HS.out _ HB2.out | exact HS.out _ HB1.out) (first
    | (go_at_call_of 42 (Value.map (some bn)); refine (clone_at HT.out.now HB1.out).mono ?_; rintro e w2 ⟨N2, rfl, hN2, hI2, hB2, hX2⟩; have J2 := Lib.hid hI2; have M2 := Lib.hid hN2; have HB2 := Lib.hid hB2; clear hN2 hI2 hB2 hX2)
    | (go_at_call_of 42 (Value.map (some bl)); refine (clone_at HT.out.last HB2.out).mono ?_; rintro e w3 ⟨N3, rfl, hN3, hI3, hB3, hX3⟩; have K2 := Lib.hid (J2.out.below hX3); have J3 := Lib.hid hI3; have M3 := Lib.hid hN3; have HB3 := Lib.hid hB3; clear hN3 hI3 hB3 hX3)
    | (go_at_call 43; refine (sclone_at hn HT.out.row HV.out HB3.out).mono ?_; rintro e wr ⟨ar, cr, rfl, hsr, hIr, hBr, hXr⟩; have L2 := Lib.hid (K2.out.below hXr); have L3 := Lib.hid (J3.out.below hXr); have JR := Lib.hid hIr; have MR := Lib.hid hsr; have HBR := Lib.hid hBr; clear hsr hIr hBr hXr))) | fail
  all_goals
    go_wp2_with fail
    go_ret
    exact clone_end HT.out.files HBR.out L2.out L3.out JR.out M2.out.1 M3.out.1 (by have e1 := M2.out.2.2; have e2 := M3.out.2.1; omega)
end
end Go.Proofs.YtajiidkmijeidaaDoor.Fr
/- Crash. -/
namespace Go.Proofs.YtajiidkmijeidaaDoor.Fr
open Go.RowKit Go.Proofs.YtajiidkmijeidaaDoor.F Go.Maps
set_option linter.unusedVariables false
set_option linter.unusedSimpArgs false
/-- A change as a crash leaves it: a part of its text. -/
def cutC (c : Cg) (part : Int) : Cg := { c with f2 := cutS c.f2 part }
theorem do_part (c : Cg) (hc : CgOK c) (hk : c.f0 = 1 ∨ c.f0 = 2) (part : Int) (hpart : part ≤ 9223372036854775807) (b : Nat) (L : List Fl) (φ : Phi) (w : World) (hF : FilesOK w φ) (hI : Img w φ b L) (hb : φ b = none) (hL : L.length ≤ 100000) (hfs : ∀ f ∈ L, f.f1.size ≤ 1000000000000) :
    Calls Tryd.prog 44 #[cgV c, .map (some b), .int .i64 part] w (DoEnd φ b (afterF L (cutC c part)) w) := by
  obtain ⟨k, p, s, tm⟩ := c
  have h1 : p.size ≤ 100000 := hc.path
  have h2 : s.size ≤ 1000000000 := hc.text
  rcases hk with e | e
  · obtain rfl : k = 1 := e
    exact do_written p s tm part b L φ w hF hI hb hL h1 h2 hpart
  · obtain rfl : k = 2 := e
    have e1 : afterF L (cutC ⟨2, p, s, tm⟩ part) = putF L ⟨p, textF L p ++ cutS s part, tm⟩ := rfl
    rw [e1]
    cases hf : findF L p with
    | none =>
      have := do_app_none p s tm part b L φ w hF hI hb hL h1 h2 hpart hf
      have e2 : textF L p = ⟨#[]⟩ := by unfold textF; rw [hf]
      have e3 : (⟨#[]⟩ : ByteArray) ++ cutS s part = cutS s part := by
        apply ByteArray.ext
        simp
      rw [e2, e3]
      exact this
    | some f =>
      have := do_app_some p s tm part b L φ w hF hI hb hL h1 h2 hpart f hf (hfs f (mem_of_find hf))
      have e2 : textF L p = f.f1 := by unfold textF; rw [hf]
      rw [e2]
      exact this
def foldF (l : List Fl) (cs : List Cg) : List Fl := cs.foldl afterF l
theorem foldF_succ (l : List Fl) (cs : List Cg) (k : Nat) (h : k < cs.length) : foldF l (cs.take (k + 1)) = afterF (foldF l (cs.take k)) cs[k] := by
  unfold foldF
  rw [List.take_succ_eq_append_getElem h, List.foldl_append]
  rfl
/-- How many changes a crash keeps. -/
def keptN (many : Int) (n : Nat) : Nat := (max 0 (min many (n : Int))).toNat
/-- The files behind a crash. -/
def crashL (T : TS) (many part : Int) : List Fl :=
  let k := keptN many T.ch.length
  let l := foldF T.last (T.ch.take k)
  match T.ch[k]? with
  | none => l
  | some c => if c.f0 ≤ 2 ∧ 1 ≤ part then afterF l (cutC c part) else l
def crashT (T : TS) (many part : Int) : TS := syncT { T with l := crashL T many part }
/-- What stays what it is where a change is done to a tree's files. -/
theorem TrAt.did {w W1 W2 : World} {φ φ' : Phi} {p bn bl : Nat} {T : TS} {A : Nat → Prop} {v : Value} {L' : List Fl} (h : TrAt w φ p T A bn bl v) (hB : Below w.heap.size w W1) (hE : Ext W1 φ φ') (hF : FilesOK W2 φ') (hI : Img W2 φ' bn L') (hC : Chg (fun k => k = bn) W1 W2) :
    TrAt W2 φ' p { T with l := L' } A bn bl v ∧ Ext w φ φ' ∧ Chg (fun k => k = bn) w W2 := by
  have hC2 : Chg (fun k => k = bn) w W2 := (Chg.of_below hB _).trans hC fun _ _ e => e
  have hE2 : Ext w φ φ' := ⟨hE.keeps, fun k e => (hE.new k e).imp id fun h => Nat.le_trans hB.size h⟩
  refine ⟨?_, hE2, hC2⟩
  exact {
    files := hF
    at_ := (hC2.block p h.lt h.p_ne.1).trans h.at_
    now := hI
    last := (h.last.chg hC2 (fun e => h.ne e.symm)).ext hE.keeps
    row := ownsRow_block h.row fun k hk => hC2.block k (h.free k (h.ar k hk)).1 (h.row_ne hk).2.1
    ne := h.ne
    ap := h.ap
    an := h.an
    al := h.al
    ar := h.ar
    free := fun k hk => by
      obtain ⟨h1, h2⟩ := h.free k hk
      refine ⟨Nat.lt_of_lt_of_le h1 hC2.size, ?_⟩
      cases e : φ' k with
      | none => rfl
      | some f =>
        rcases hE2.new k (by rw [e]; simp) with h3 | h3
        · exact absurd h2 h3
        · omega }
/-- The files taken anew from those of the last sync. -/
theorem crash_start {w w1 : World} {φ : Phi} {p bn bl : Nat} {T : TS} {A : Nat → Prop} {v : Value} (h : TrAt w φ p T A bn bl v) (hI : Img w1 φ w.heap.size T.last) (hB : Below w.heap.size w w1) :
    TrAt (w1.setCell ⟨p, 2, none⟩ (.map (some w.heap.size))) φ p { T with l := T.last } (fun k => A k ∨ k = w.heap.size) w.heap.size bl v ∧ Chg (fun k => k = p) w (w1.setCell ⟨p, 2, none⟩ (.map (some w.heap.size))) := by
  have hat1 : w1.heap[p]? = some (.cells #[.int .i64 T.room, .int .i64 T.clock, .map (some bn), .map (some bl), v] 73 (0, 0)) := (hB.block p h.lt).trans h.at_
  have hat2 := heap_setCell_same w1 p 2 _ _ (.map (some w.heap.size)) hat1
  have hC : Chg (fun k => k = p) w (w1.setCell ⟨p, 2, none⟩ (.map (some w.heap.size))) :=
    ((Chg.refl (fun k => k = p) w).below hB).setCell (p := ⟨p, 2, none⟩) (fun _ => rfl) _
  have hC1 : Chg (fun k => k = p) w1 (w1.setCell ⟨p, 2, none⟩ (.map (some w.heap.size))) := (Chg.refl (fun k => k = p) w1).setCell (p := ⟨p, 2, none⟩) (fun _ => rfl) _
  have hplt := h.lt
  have hN := hI.lt
  refine ⟨?_, hC⟩
  exact {
    files := h.files.chg hC fun q hq e => hq (by rw [e]; exact (h.free p h.ap).2)
    at_ := by rw [hat2]; simp
    now := hI.chg hC1 fun e => by omega
    last := h.last.chg hC fun e => h.p_ne.2 e.symm
    row := ownsRow_block h.row fun k hk => hC.block k (h.free k (h.ar k hk)).1 (h.row_ne hk).1
    ne := by have := h.last.lt; omega
    ap := .inl h.ap
    an := .inr rfl
    al := .inl h.al
    ar := fun k hk => .inl (h.ar k hk)
    free := fun k hk => by
      rcases hk with hk | rfl
      · obtain ⟨h1, h2⟩ := h.free k hk
        exact ⟨Nat.lt_of_lt_of_le h1 hC.size, h2⟩
      · refine ⟨Nat.lt_of_lt_of_le hN hC1.size, ?_⟩
        cases e : φ w.heap.size with
        | none => rfl
        | some f =>
          have := h.files.lt (q := w.heap.size) (by rw [e]; simp)
          omega }
theorem TrEnd.behind {w W w' : World} {φ φ' : Phi} {p : Nat} {T' : TS} {A A' : Nat → Prop} (hE : Ext w φ φ') (hC : Chg A w W) (hA : ∀ k, A' k → A k ∨ w.heap.size ≤ k) (h : TrEnd W φ' p A' T' w') : TrEnd w φ p A T' w' := by
  obtain ⟨φ2, A2, h1, h2, h3, h4⟩ := h
  refine ⟨φ2, A2, h1, hE.trans h2 hC.size, hC.trans h3 fun k hk e => (hA k e).elim id fun e => by omega, fun k hk => ?_⟩
  rcases h4 k hk with e | e
  · exact hA k e
  · exact .inr (Nat.le_trans hC.size e)
theorem chCells_at (ch : List Cg) (k : Nat) (hk : k < ch.length) (j : Nat) (hj : j < 4) : (ch.flatMap chCells)[k * 4 + j]? = (chCells ch[k])[j]? := by
  induction ch generalizing k with
  | nil => cases hk
  | cons c cs ih =>
    rw [List.flatMap_cons]
    have h4 : (chCells c).length = 4 := rfl
    cases k with
    | zero => rw [List.getElem?_append_left (by omega)]; simp
    | succ k =>
      rw [List.getElem?_append_right (by omega), h4, show (k + 1) * 4 + j - 4 = k * 4 + j by omega, ih k (by simpa using hk)]
      simp
theorem TrAt.change {w : World} {φ : Phi} {p bn bl : Nat} {T : TS} {A : Nat → Prop} {av : Option Addr} {n cv : Nat} (h : TrAt w φ p T A bn bl (.slice av n cv)) (k : Nat) (hk : k < T.ch.length) :
    ∃ g, av = some ⟨g, 0, none⟩ ∧ g < w.heap.size ∧ w.cell? ⟨g, k * 4, none⟩ = some (.int .i64 (T.ch[k].f0 - 1)) ∧ w.cell? ⟨g, k * 4 + 1, none⟩ = some (.string T.ch[k].f1) ∧ w.cell? ⟨g, k * 4 + 2, none⟩ = some (.string T.ch[k].f2) ∧ w.cell? ⟨g, k * 4 + 3, none⟩ = some (.int .i64 T.ch[k].f3) := by
  have hr := h.row
  rcases h.row.2 with ⟨e1, e2⟩ | ⟨g, cap, cur, e1, e2, e3, e4⟩
  · omega
  · cases e1
    have hc : ∀ j, j < 4 → w.cell? ⟨g, k * 4 + j, none⟩ = (chCells T.ch[k])[j]? := by
      intro j hj
      rw [← chCells_at T.ch k hk j hj]
      exact hr.cellAt _ (by omega)
    exact ⟨g, rfl, (Array.getElem?_eq_some_iff.1 e3).1, hc 0 (by omega), hc 1 (by omega), hc 2 (by omega), hc 3 (by omega)⟩
section
variable {φ : Phi} {p : Nat} {T : TS} {A : Nat → Prop}
set_option maxHeartbeats 4000000 in
set_option maxRecDepth 100000 in
theorem crash_call (w : World) (hT : Tr w φ p T A) (many part : Int) (hn : T.ch.length ≤ 1000000) (hpart : part ≤ 9223372036854775807) (hcs : ∀ c ∈ T.ch, CgOK c)
    (hL : ∀ k, k ≤ T.ch.length → (foldF T.last (T.ch.take k)).length ≤ 100000 ∧ ∀ f ∈ foldF T.last (T.ch.take k), f.f1.size ≤ 1000000000000) :
    Calls Tryd.prog 20 #[.pointer (some ⟨p, 0, none⟩), .int .i64 many, .int .i64 part] w fun e w' => e = .returned (.tuple #[]) ∧ TrEnd w φ p A (crashT T many part) w' := by
  obtain ⟨bn, bl, v, h⟩ := hT
  obtain ⟨av, cv, rfl⟩ := h.slice
  have hcap : T.ch.length ≤ cv := by
    rcases h.row.2 with ⟨e1, e2⟩ | ⟨g, cap, cur, e1, _, _, e2, _⟩
    · omega
    · cases e1
      exact e2
  have HT := Lib.hid h
  have HL := Lib.hid hL
  have HCS := Lib.hid hcs
  have c3 := h.c3
  have c4 := h.c4
  have hlt := h.lt
  have hl := h.last
  clear h hL hcs
  obtain ⟨K, hK⟩ : ∃ K, K = keptN many T.ch.length := ⟨_, rfl⟩
  have hKn : K ≤ T.ch.length := by rw [hK]; unfold keptN; omega
  have hKI : (max 0 (min many (T.ch.length : Int)) : Int) = K := by rw [hK]; unfold keptN; omega
  have HK := Lib.hid hK
  have hKc : K ≤ cv := Nat.le_trans hKn hcap
  have hav : Option.map (fun x : Addr => x.add 0) av = av := by cases av <;> rfl
  clear hK
  go_enter Tryd.func20, Tryd.ntmps20
  go_upto_region 2 with (first
    | (go_at_call 42; refine (clone_img hl).mono ?_; rintro e w1 ⟨rfl, hI, hB, hs⟩; have hat1 := (hB.block p hlt).trans HT.out.at_; have d2 : w1.cell? ⟨p, 2, none⟩ = some (.map (some bn)) := (by simp [World.cell?, hat1]); have g2 : w1.frozen? ⟨p, 2, none⟩ = false := (by simp [World.frozen?, hat1]); have HE := Lib.hid (crash_start HT.out hI hB); clear hI hB hs hat1))
  generalize w1.setCell ⟨p, 2, none⟩ (.map (some w.heap.size)) = W1 at HE
  clear c3 c4 d2 g2 hl
  have HT1 := Lib.hid HE.out.1
  have HC1 := Lib.hid HE.out.2
  have c4 := HE.out.1.c4
  clear HE
  have HAp := Lib.hid HT.out.ap
  have hwl : p < w.heap.size := hlt
  go_wp2_with fail
  go_loopw [31] (fun i wr => ∃ (k : Nat), k ≤ K ∧ i = .int .i64 k ∧ Hid (∃ φ', TrAt wr φ' p { T with l := foldF T.last (T.ch.take k) } (fun q => A q ∨ q = w.heap.size) w.heap.size bl (.slice av T.ch.length cv) ∧ Ext w φ φ' ∧ Chg A w wr))
    (fun i _ => K - (intOf i).toNat)
  case atStart => exact ⟨0, Nat.zero_le _, rfl, φ, HT1.out, Ext.refl _ _, HC1.out.mono fun k _ e => e ▸ HAp.out⟩
  case round =>
    obtain ⟨k, hk, rfl, hall⟩ := hrel
    obtain ⟨φ', h2, hE2, hC2⟩ := hall.out
    have H2 := Lib.hid h2
    have HE2 := Lib.hid hE2
    have HC2 := Lib.hid hC2
    clear hall hE2 hC2
    by_cases hlk : k < K
    · have hkn : k < T.ch.length := by omega
      obtain ⟨g, e, hgw, q0, q1, q2, q3⟩ := h2.change k hkn
      have d2 := h2.c2
      have hpw := h2.lt
      clear h2
      have hst := Lib.hid (foldF_succ T.last T.ch k hkn)
      have hok := Lib.hid (HCS.out _ (List.getElem_mem hkn))
      have hlk' := Lib.hid (HL.out k (by omega))
      have HB0 := Lib.hid (H2.out.free w.heap.size (.inr rfl)).2
      subst e
      generalize T.ch[k] = c at q0 q1 q2 q3 hst hok
      obtain ⟨ck, cq, cs, ct⟩ := c
      go_wp2_with fail
      go_region_with (first
        | (go_at_call 44; refine (do_call ⟨ck, cq, cs, ct⟩ hok.out w.heap.size (foldF T.last (T.ch.take k)) φ' _ (H2.out.files.below (newBelow _ _).drew) (H2.out.now.below (newBelow _ _).drew) HB0.out hlk'.out.1 hlk'.out.2).mono ?_; rintro e w3 ⟨rfl, φ3, hE3, hF3, hI3, hC3⟩; have HM := Lib.hid (H2.out.did (newBelow _ _).drew hE3 hF3 hI3 hC3); clear hE3 hF3 hI3 hC3))
      all_goals
        go_wp2_with fail
        go_roundw
        case rel =>
          refine ⟨k + 1, by omega, by go_num, φ3, ?_, HE2.out.trans HM.out.2.1 HC2.out.size, HC2.out.trans HM.out.2.2 fun i hi e => by omega⟩
          rw [hst.out]
          exact HM.out.1
        case measure => simp [intOf]; omega
    · have hkK : k = K := by omega
      subst hkK
      have hA1 : Hid (∀ q, (A q ∨ q = w.heap.size) → A q ∨ w.heap.size ≤ q) := fun q hq => hq.imp id fun e => by omega
      have c4' := h2.c4
      have d2 := h2.c2
      by_cases hl2 : k < T.ch.length
      · obtain ⟨g, e, hgw, q0, q1, q2, q3⟩ := h2.change k hl2
        have hok := Lib.hid (HCS.out _ (List.getElem_mem hl2))
        have hlk' := Lib.hid (HL.out k (by omega))
        have HB0 := Lib.hid (H2.out.free w.heap.size (.inr rfl)).2
        have HCR : Hid (crashL T many part = if T.ch[k].f0 ≤ 2 ∧ 1 ≤ part then afterF (foldF T.last (T.ch.take k)) (cutC T.ch[k] part) else foldF T.last (T.ch.take k)) := by
          unfold Hid crashL
          simp only [← HK.out, List.getElem?_eq_getElem hl2]
        clear h2
        subst e
        generalize T.ch[k] = c at q0 q1 q2 q3 hok HCR
        obtain ⟨ck, cq, cs, ct⟩ := c
        have hk14 : 1 ≤ ck ∧ ck ≤ 4 := by
          rcases hok.out.kind with e | e | e | e <;> (simp only at e; omega)
        by_cases hkd : ck ≤ 2
        · by_cases hp1 : 1 ≤ part
          · have hcr : Hid (crashL T many part = afterF (foldF T.last (T.ch.take k)) (cutC ⟨ck, cq, cs, ct⟩ part)) := by
              rw [Hid, HCR.out, if_pos ⟨hkd, hp1⟩]
            have hk12 : Hid (ck = 1 ∨ ck = 2) := by unfold Hid; omega
            have HPA := Lib.hid hpart
            go_wp2_with fail
            go_region_with (first
              | (go_at_call 44; refine (do_part ⟨ck, cq, cs, ct⟩ hok.out hk12.out part HPA.out w.heap.size (foldF T.last (T.ch.take k)) φ' _ (H2.out.files.below (Below.refl _ _).drew) (H2.out.now.below (Below.refl _ _).drew) HB0.out hlk'.out.1 hlk'.out.2).mono ?_; rintro e w3 ⟨rfl, φ3, hE3, hF3, hI3, hC3⟩; have HM := Lib.hid (H2.out.did (Below.refl _ _).drew hE3 hF3 hI3 hC3); clear hE3 hF3 hI3 hC3))
            all_goals
              go_wp2_with (first
                | (go_at_call 18; refine (sync_call _ ⟨_, _, _, HM.out.1⟩).mono ?_; rintro e w' ⟨rfl, hse⟩; have HX := Lib.hid hse; clear hse))
              go_end0
              refine ⟨rfl, ?_⟩
              unfold crashT
              rw [hcr.out]
              exact TrEnd.behind (HE2.out.trans HM.out.2.1 HC2.out.size) (HC2.out.trans HM.out.2.2 fun i hi e => by omega) hA1.out HX.out
          · have hcr : Hid (crashL T many part = foldF T.last (T.ch.take k)) := by
              rw [Hid, HCR.out, if_neg (fun e => hp1 e.2)]
            go_wp2_with (first
              | (go_at_call 18; refine (sync_call _ ⟨_, _, _, H2.out⟩).mono ?_; rintro e w' ⟨rfl, hse⟩; have HX := Lib.hid hse; clear hse))
            go_end0
            refine ⟨rfl, ?_⟩
            unfold crashT
            rw [hcr.out]
            exact TrEnd.behind HE2.out HC2.out hA1.out HX.out
        · have hcr : Hid (crashL T many part = foldF T.last (T.ch.take k)) := by
            rw [Hid, HCR.out, if_neg (fun e => hkd e.1)]
          go_wp2_with (first
            | (go_at_call 18; refine (sync_call _ ⟨_, _, _, H2.out⟩).mono ?_; rintro e w' ⟨rfl, hse⟩; have HX := Lib.hid hse; clear hse))
          go_end0
          refine ⟨rfl, ?_⟩
          unfold crashT
          rw [hcr.out]
          exact TrEnd.behind HE2.out HC2.out hA1.out HX.out
      · have hcr : Hid (crashL T many part = foldF T.last (T.ch.take k)) := by
          unfold Hid crashL
          simp only [← HK.out, List.getElem?_eq_none (Nat.le_of_not_lt hl2)]
        clear h2
        go_wp2_with (first
          | (go_at_call 18; refine (sync_call _ ⟨_, _, _, H2.out⟩).mono ?_; rintro e w' ⟨rfl, hse⟩; have HX := Lib.hid hse; clear hse))
        go_end0
        refine ⟨rfl, ?_⟩
        unfold crashT
        rw [hcr.out]
        exact TrEnd.behind HE2.out HC2.out hA1.out HX.out
end
end Go.Proofs.YtajiidkmijeidaaDoor.Fr
/- All. -/
namespace Go.Proofs.YtajiidkmijeidaaDoor.Fr
open Go.RowKit Go.Proofs.YtajiidkmijeidaaDoor.F Go.Maps Go.Sort
set_option linter.unusedVariables false
set_option linter.unusedSimpArgs false
theorem before_lt : ∀ (a b : List UInt8), bytesBefore a b = true → a < b
  | [], [], h => by simp [bytesBefore] at h
  | [], _ :: _, _ => List.nil_lt_cons _ _
  | _ :: _, [], h => by simp [bytesBefore] at h
  | x :: xs, y :: ys, h => by
    simp only [bytesBefore, Bool.or_eq_true, Bool.and_eq_true, decide_eq_true_eq, beq_iff_eq] at h
    rw [List.cons_lt_cons_iff]
    rcases h with h | ⟨h, h2⟩
    · exact .inl h
    · exact .inr ⟨h, before_lt xs ys h2⟩
/-- The files in the order of their paths, no path twice. -/
def Srt (l : List Fl) : Prop := l.Pairwise fun f g => ltB f.f0 g.f0 = true
theorem find_of_srt {l : List Fl} (h : Srt l) {f : Fl} (hf : f ∈ l) : findF l f.f0 = some f := by
  induction l with
  | nil => cases hf
  | cons g r ih =>
    unfold findF
    rw [List.find?_cons]
    unfold Srt at h
    rw [List.pairwise_cons] at h
    rcases List.mem_cons.1 hf with rfl | hr
    · simp
    · have h1 := h.1 f hr
      have hne : (g.f0.data.toList == f.f0.data.toList) = false := by
        rw [beq_eq_false_iff_ne]
        intro e
        unfold ltB at h1
        rw [e] at h1
        exact List.lt_irrefl _ (before_lt _ _ h1)
      rw [hne]
      exact ih h.2 hr
theorem keys_sorted {l : List Fl} (h : Srt l) : (l.map fun f => f.f0.data.toList).mergeSort leB = l.map fun f => f.f0.data.toList := by
  apply List.mergeSort_of_pairwise
  rw [List.pairwise_map]
  refine List.Pairwise.imp ?_ h
  intro a b hab
  simp only [leB, decide_eq_true_eq]
  exact List.le_of_lt (before_lt _ _ hab)
def flCells (f : Fl) : List Value := [.string f.f0, .string f.f1]
theorem infoFl : (Tryd.prog.info? 38).map (fun i => (i.zero, i.size, i.bytes)) = some (some (.agg #[.string ⟨#[]⟩, .string ⟨#[]⟩]), 2, 32) := by kernel_rfl
theorem sorted_files {w : World} {φ : Phi} {b : Nat} {l : List Fl} (h : Img w φ b l) (hs : Srt l) (hn : l.length ≤ 100000) :
    Calls Tryd.prog 40 #[.func (.func 59) #[] #[.pointer (some ⟨w.heap.size, 0, none⟩)]] (w.alloc (.cells #[.map (some b)] 69)) fun e w' =>
      ∃ av cv, e = .returned (.slice av l.length cv) ∧ w'.ownsRow 0 9 1 (.slice av l.length cv) l.length (l.map fun f => .string f.f0) ∧ Below w.heap.size w w' := by
  have hb := newBelow w (.cells #[.map (some b)] 69)
  refine (sorted_call w.heap.size b l.length (fdat l) (elemR φ) _ (by show (match (w.alloc (.cells #[.map (some b)] 69)).heap[w.heap.size]? with | some (Obj.cells c _ _) => c[0]? | _ => none) = _; rw [World.alloc_heap_new]; rfl) (by rw [World.size_alloc]; omega) (h.below hb) (by rw [fdat_size]; omega)).mono ?_
  rintro e w' ⟨v, ss, rfl, hp, hr, _, hb2⟩
  have hk : strKeys (fdat l) = l.map fun f => f.f0.data.toList := by
    show (l.map fent).map _ = _
    rw [List.map_map]
    rfl
  rw [hk] at hp
  have hlen : ss.length = l.length := by rw [hp.length_eq, List.length_map]
  rw [show (ss.mergeSort fun x y => decide (x ≤ y)) = ss.mergeSort leB from rfl, mergeSort_of_perm hp, keys_sorted hs, hlen, List.map_map] at hr
  have hm : l.map (encStr ∘ fun f => f.f0.data.toList) = l.map fun f => .string f.f0 := by
    apply List.map_congr_left
    intro f _
    simp [encStr]
  rw [hm] at hr
  have hB : Below w.heap.size w w' := hb.trans (hb2.mono (by rw [World.size_alloc]; omega))
  rcases hr.2 with ⟨rfl, h5⟩ | ⟨g', cap', cur', rfl, e2, e3⟩
  · exact ⟨none, 0, by rw [h5], ⟨hr.1, .inl ⟨by rw [h5], h5⟩⟩, hB⟩
  · exact ⟨_, _, rfl, ⟨hr.1, .inr ⟨g', cap', cur', rfl, Nat.zero_le _, e3⟩⟩, hB⟩
section
variable {φ : Phi} {p : Nat} {T : TS} {A : Nat → Prop}
set_option maxHeartbeats 4000000 in
set_option maxRecDepth 100000 in
theorem all_call (w : World) (hT : Tr w φ p T A) (hs : Srt T.l) (hn : T.l.length ≤ 100000) (hps : ∀ f ∈ T.l, f.f0.size ≤ 100000) : Calls Tryd.prog 16 #[.pointer (some ⟨p, 0, none⟩)] w fun e w' =>
    ∃ v, e = .returned v ∧ w'.ownsRow w.heap.size 38 2 v T.l.length (T.l.flatMap flCells) ∧ Below w.heap.size w w' := by
  obtain ⟨bn, bl, v, h⟩ := hT
  have HT := Lib.hid h
  have HS := Lib.hid hs
  have HPS := Lib.hid hps
  have c2 := h.c2
  have hlt := h.lt
  have HSO := Lib.hid (sorted_files h.now hs hn)
  clear h hs hps
  go_enter Tryd.func16, Tryd.ntmps16
  go_wp2_with (first
    | (go_at_call 41; refine (keys_call bn w).mono ?_; rintro e w1 ⟨rfl, rfl⟩)
    | (go_at_call 40; refine HSO.out.mono ?_; rintro e w1 ⟨av, cv, rfl, hr, hb⟩; have HR := Lib.hid hr; have HB := Lib.hid hb; clear hr hb))
  have hsz := HB.out.size
  obtain ⟨i0, hi, hz0, hz1, hz2⟩ := info_parts infoFl
  go_loopw [3, 13] (fun v3 i wr => ∃ (k : Nat), k ≤ T.l.length ∧ i = .int .i64 k ∧ Hid (wr.ownsRow w1.heap.size 38 2 v3 k ((T.l.take k).flatMap flCells)) ∧ Hid (Below w1.heap.size w1 wr))
    (fun v3 i _ => T.l.length - (intOf i).toNat)
  case atStart => exact ⟨0, Nat.zero_le _, rfl, ⟨rfl, .inl ⟨rfl, rfl⟩⟩, Below.refl _ _⟩
  case round =>
    obtain ⟨k, hk, rfl, HO, HB1⟩ := hrel
    by_cases hlk : k < T.l.length
    · have hBw : Hid (Below w.heap.size w wr) := HB.out.trans (HB1.out.mono hsz)
      have d2 := (hBw.out.cell (p := ⟨p, 2, none⟩) hlt).trans c2
      have hkey : ∃ g, av = some ⟨g, 0, none⟩ ∧ wr.cell? ⟨g, k, none⟩ = some (.string T.l[k].f0) := by
        have hR := HR.out
        rcases hR.2 with ⟨e1, e2⟩ | ⟨g, cap, cur, e1, e2, e3, e4⟩
        · omega
        · cases e1
          have h1 := hR.cellAt k (by omega)
          rw [List.getElem?_map, List.getElem?_eq_getElem hlk] at h1
          refine ⟨g, rfl, ?_⟩
          rw [HB1.out.cell (p := ⟨g, k, none⟩) (Array.getElem?_eq_some_iff.1 e3).1, h1]
          rfl
      obtain ⟨g, rfl, hc⟩ := hkey
      have hmem : Hid (T.l[k] ∈ T.l) := List.getElem_mem hlk
      have hst : Hid ((T.l.take (k + 1)).flatMap flCells = (T.l.take k).flatMap flCells ++ flCells T.l[k]) := by
        rw [Hid, List.take_succ_eq_append_getElem hlk, List.flatMap_append]
        simp
      generalize T.l[k] = f at hc hmem hst
      have hfind := Lib.hid (find_of_srt HS.out hmem.out)
      have hfp := HPS.out f hmem.out
      have himg : Hid (Img wr φ bn T.l) := HT.out.now.below hBw.out
      have hfiles : Hid (FilesOK wr φ) := HT.out.files.below hBw.out
      have H63 : Hid (k + 1 ≤ maxLen) := by unfold Hid maxLen; omega
      have HBB : Hid ((k + 1) * 32 ≤ 140737488355328) := by unfold Hid; omega
      have HSW := Lib.hid HB1.out.size
      have hone : Hid (∀ u ∈ flCells f, u.oneCell' = true) := by
        intro u hu
        simp only [flCells, List.mem_cons, List.not_mem_nil, or_false] at hu
        rcases hu with rfl | rfl <;> rfl
      have hnw : Hid (∀ (j : Nat) u, (flCells f)[j]? = some u → (wr.alloc (.cells #[.string f.f0, .string f.f1] 38)).cell? ((⟨wr.heap.size, 0, none⟩ : Addr).add j) = some u) := World.news_of_block (World.alloc_heap_new wr _)
      go_wp2_with (first
        | (at_lookup; refine wpList_look_some _ rfl _ _ rfl bn f.f0 rfl himg.out rfl hfp _ hfind.out ?_; intro qb hqb; have hq0 := hfiles.out.cell0 hqb; clear hqb)
        | (at_builtin; refine wpList_append_own_at _ rfl _ _ 35 rfl w1.heap.size 38 i0 _ 2 32 Tryd.underlying35 hi hz0 hz1 hz2 rfl (by decide) _ k _ rfl (HO.out.alloc _) ⟨wr.heap.size, 0, none⟩ 1 1 (flCells f) rfl rfl hnw.out hone.out H63.out HBB.out (by rw [World.size_alloc]; exact Nat.le_succ_of_le HSW.out) ?_; intro v' w' h1 h2 h3 h4; have HX := Lib.hid h1; have HG := Lib.hid h2; clear h1 h2 h3 h4))
      go_roundw
      case rel =>
        refine ⟨k + 1, by omega, by go_num, by rw [hst.out]; exact HX.out, ?_⟩
        exact (HB1.out.alloc HSW.out _).grown HG.out (by rw [World.size_alloc]; exact Nat.le_succ_of_le HSW.out) fun b hb => (HO.out.lt b hb).1
      case measure => simp [intOf]; omega
    · have hkk : k = T.l.length := by omega
      subst hkk
      have hEnd : Hid (wr.ownsRow w.heap.size 38 2 u3 T.l.length (T.l.flatMap flCells)) := by
        have := HO.out
        rw [List.take_length] at this
        exact World.ownsRow.mono this hsz
      have hBw : Hid (Below w.heap.size w wr) := HB.out.trans (HB1.out.mono hsz)
      go_wp2_with fail
      go_ret
      exact ⟨_, rfl, hEnd.out, hBw.out⟩
end
end Go.Proofs.YtajiidkmijeidaaDoor.Fr
