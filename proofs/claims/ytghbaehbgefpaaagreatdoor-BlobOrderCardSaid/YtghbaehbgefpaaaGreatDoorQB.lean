import Derived.Test.YtghbaehbgefpaaaGreatDoorQA
import Derived.Lib.SplitLaws
import Derived.Lib.ParseIntBMem
import Derived.Lib.Hide
import Derived.Laws.Strings3
import Derived.Laws.Closers25
import Derived.Laws.Closers25b
import Derived.WalkKit
import Derived.BigCall
import Derived.BigGuard
import Derived.Shelf.Strings.BuilderK
import Derived.Outline
import Derived.Deep.RegionHeld3
import Derived.Deep.RegionWith
import Derived.RangeFuncRecord
import Derived.Lib.AppendIntMem
import Derived.Lib.ParseIntBCases
import Derived.Lib.SmallJoins
import Derived.Test.YtghbaehbgefpaaaGreatDoorProg
import Derived.Lib.ConvBytes
import Derived.Deep.QuietTactic
import Derived.BigQuiet
import Derived.Shelf.Strings.SlTrimAscii
import Derived.OwnWalkIn
import Derived.RangeFuncOwn
import Derived.RangeFuncWrites
import Derived.Maps.AppendAt
import Derived.RangeFuncBox
import Derived.RangeFuncNested
import Derived.RangeFuncLeaves
import Derived.RangeFuncCalls
import Derived.RegionIn
/- Several texts of this session in one: the walks of the functions that the laws reach, and what they tell. -/
/- The reference's tree in memory; its callees on rows. -/
namespace Go.Proofs.YtghbaehbgefpaaaGreatDoor.Fr
open Go.RowKit Go.Proofs.YtghbaehbgefpaaaGreatDoor.F Go.Proofs.YtghbaehbgefpaaaGreatDoorW.PrintWords
set_option linter.unusedVariables false
set_option linter.unusedSimpArgs false
def kC : Kd Cg := Kd.iso (Kd.pair (Kd.int .i64) (Kd.pair Kd.string (Kd.pair Kd.string (Kd.int .i64)))) (fun x : Cg => (x.f0, x.f1, x.f2, x.f3))
/-- A row of files that is only read; of changes. -/
abbrev VF (w : World) (B : Nat → Prop) (v : Value) (l : List Fl) : Prop := Kd.V k89 89 w 0 B v l
abbrev VC (w : World) (B : Nat → Prop) (v : Value) (l : List Cg) : Prop := Kd.V kC 98 w 0 B v l
/-- Block m is the reference's tree, whose rows are among B. -/
structure RfAt (w : World) (m : Nat) (T : TS) (B : Nat → Prop) (vl vs vc : Value) : Prop where
  at_ : w.heap[m]? = some (.cells #[.int .i64 T.room, .int .i64 T.clock, vl, vs, vc] 87 (0, 0))
  now : VF w B vl T.l
  last : VF w B vs T.last
  row : VC w B vc T.ch
  nil : T.ch = [] → vc = .slice none 0 0
  free : ∀ k, B k → k < w.heap.size ∧ k ≠ m
def Rf (w : World) (m : Nat) (T : TS) (B : Nat → Prop) : Prop := ∃ vl vs vc, RfAt w m T B vl vs vc
section
variable {w w' : World} {m : Nat} {T : TS} {B S : Nat → Prop} {vl vs vc : Value}
theorem RfAt.lt (h : RfAt w m T B vl vs vc) : m < w.heap.size := (Array.getElem?_eq_some_iff.1 h.at_).1
theorem RfAt.c0 (h : RfAt w m T B vl vs vc) : w.cell? ⟨m, 0, none⟩ = some (.int .i64 T.room) := by simp [World.cell?, h.at_]
theorem RfAt.c1 (h : RfAt w m T B vl vs vc) : w.cell? ⟨m, 1, none⟩ = some (.int .i64 T.clock) := by simp [World.cell?, h.at_]
theorem RfAt.c2 (h : RfAt w m T B vl vs vc) : w.cell? ⟨m, 2, none⟩ = some vl := by simp [World.cell?, h.at_]
theorem RfAt.c3 (h : RfAt w m T B vl vs vc) : w.cell? ⟨m, 3, none⟩ = some vs := by simp [World.cell?, h.at_]
theorem RfAt.c4 (h : RfAt w m T B vl vs vc) : w.cell? ⟨m, 4, none⟩ = some vc := by simp [World.cell?, h.at_]
theorem RfAt.fz (h : RfAt w m T B vl vs vc) (k : Nat) : w.frozen? ⟨m, k, none⟩ = false := by simp [World.frozen?, h.at_]
theorem RfAt.chg (h : RfAt w m T B vl vs vc) (hc : Chg S w w') (hm : ¬ S m) (hs : ∀ k, B k → ¬ S k) : RfAt w' m T B vl vs vc where
  at_ := (hc.block m h.lt hm).trans h.at_
  now := Kd.V_step h.now fun k hk hl => hc.block k hl (hs k hk)
  last := Kd.V_step h.last fun k hk hl => hc.block k hl (hs k hk)
  row := Kd.V_step h.row fun k hk hl => hc.block k hl (hs k hk)
  nil := h.nil
  free := fun k hk => ⟨Nat.lt_of_lt_of_le (h.free k hk).1 hc.size, (h.free k hk).2⟩
theorem Rf.chg (h : Rf w m T B) (hc : Chg S w w') (hm : ¬ S m) (hs : ∀ k, B k → ¬ S k) : Rf w' m T B := by
  obtain ⟨vl, vs, vc, h⟩ := h
  exact ⟨vl, vs, vc, h.chg hc hm hs⟩
theorem RfAt.below (h : RfAt w m T B vl vs vc) (hb : Below w.heap.size w w') : RfAt w' m T B vl vs vc := h.chg (Chg.of_below hb fun _ => False) (fun e => e) fun _ _ e => e
theorem Rf.below (h : Rf w m T B) (hb : Below w.heap.size w w') : Rf w' m T B := h.chg (Chg.of_below hb fun _ => False) (fun e => e) fun _ _ e => e
theorem Rf.lt (h : Rf w m T B) : m < w.heap.size := by
  obtain ⟨vl, vs, vc, h⟩ := h
  exact h.lt
end
/-- How a call that changes the reference's tree ends. -/
def RfEnd (w : World) (m : Nat) (B : Nat → Prop) (T' : TS) (w' : World) : Prop := ∃ B', Rf w' m T' B' ∧ Chg (fun k => k = m) w w' ∧ ∀ k, B' k → B k ∨ w.heap.size ≤ k
/-! ### callees -/
section
variable {w : World} {B : Nat → Prop} {v : Value} {l : List Fl}
end
end Go.Proofs.YtghbaehbgefpaaaGreatDoor.Fr
/- The reference's after. -/
namespace Go.Proofs.YtghbaehbgefpaaaGreatDoor.Fr
open Go.RowKit Go.Proofs.YtghbaehbgefpaaaGreatDoor.F Go.Proofs.YtghbaehbgefpaaaGreatDoorW.PrintWords
set_option linter.unusedVariables false
set_option linter.unusedSimpArgs false
theorem cell_lt {w : World} {a : Addr} {u : Value} (h : w.cell? a = some u) : a.block < w.heap.size := by
  unfold World.cell? at h
  cases e : w.heap[a.block]? with
  | none => rw [e] at h; cases h
  | some o => exact (Array.getElem?_eq_some_iff.1 e).1
end Go.Proofs.YtghbaehbgefpaaaGreatDoor.Fr
/- The reference's change. -/
namespace Go.Proofs.YtghbaehbgefpaaaGreatDoor.Fr
open Go.RowKit Go.Proofs.YtghbaehbgefpaaaGreatDoor.F Go.Proofs.YtghbaehbgefpaaaGreatDoorW.PrintWords
set_option linter.unusedVariables false
set_option linter.unusedSimpArgs false
/-- In the midst of change: the files are new, the changes not yet. -/
structure ChMid (w : World) (m : Nat) (T : TS) (B : Nat → Prop) (L : List Fl) (vs vc : Value) (c : Cg) (wc : World) (u : Value) : Prop where
  at_ : wc.heap[m]? = some (.cells #[.int .i64 T.room, .int .i64 T.clock, u, vs, vc] 87 (0, 0))
  now : VF wc (fun k => B k ∨ (w.heap.size ≤ k ∧ k < wc.heap.size)) u L
  chg : Chg (fun k => k = m) w wc
  box : wc.heap[w.heap.size]? = some (.cells #[.int .i64 c.f0, .string c.f1, .string c.f2, .int .i64 c.f3] 98 (0, 0))
theorem ChMid.lt {w wc : World} {m : Nat} {T : TS} {B : Nat → Prop} {L : List Fl} {vs vc u : Value} {c : Cg} (h : ChMid w m T B L vs vc c wc u) : m < wc.heap.size ∧ w.heap.size < wc.heap.size :=
  ⟨(Array.getElem?_eq_some_iff.1 h.at_).1, (Array.getElem?_eq_some_iff.1 h.box).1⟩
theorem ChMid.below {w wc wd : World} {m : Nat} {T : TS} {B : Nat → Prop} {L : List Fl} {vs vc u : Value} {c : Cg} (h : ChMid w m T B L vs vc c wc u) (hb : Below wc.heap.size wc wd) : ChMid w m T B L vs vc c wd u :=
  ⟨(hb.block m h.lt.1).trans h.at_, Kd.V_mono (Kd.V_below h.now hb) fun k hk => hk.imp id fun hk => ⟨hk.1, Nat.lt_of_lt_of_le hk.2 hb.size⟩, h.chg.below hb, (hb.block _ h.lt.2).trans h.box⟩
section
variable {m : Nat} {T : TS} {B : Nat → Prop}
end
end Go.Proofs.YtghbaehbgefpaaaGreatDoor.Fr
/- The reference's Path is the program's. -/
namespace Go.Proofs.YtghbaehbgefpaaaGreatDoor.Fr
open Go.RowKit Go.Proofs.YtghbaehbgefpaaaGreatDoor.F Go.Proofs.YtghbaehbgefpaaaGreatDoorW.PrintWords
set_option linter.unusedVariables false
set_option linter.unusedSimpArgs false
/-- A list of bytes, cut at each byte c. -/
def splG (c : UInt8) (cur : List UInt8) : List UInt8 → List (List UInt8)
  | [] => [cur.reverse]
  | b :: t => if b = c then cur.reverse :: splG c [] t else splG c (b :: cur) t
theorem splG_app (c : UInt8) (b : List UInt8) : ∀ a cur : List UInt8, splG c cur (a ++ c :: b) = splG c cur a ++ splG c [] b := by
  intro a
  induction a with
  | nil => intro cur; simp [splG]
  | cons x t ih =>
    intro cur
    simp only [List.cons_append, splG]
    split
    · rw [ih]; rfl
    · exact ih _
theorem splG_len (c : UInt8) : ∀ a cur : List UInt8, (splG c cur a).length = a.count c + 1 := by
  intro a
  induction a with
  | nil => intro cur; rfl
  | cons x t ih =>
    intro cur
    simp only [splG]
    split
    · next h => subst h; rw [List.length_cons, ih, List.count_cons_self]
    · next h => rw [ih, List.count_cons_of_ne (by simpa using h)]
theorem splG_none (c : UInt8) : ∀ a cur : List UInt8, (∀ x ∈ a, x ≠ c) → splG c cur a = [cur.reverse ++ a] := by
  intro a
  induction a with
  | nil => intro cur _; simp [splG]
  | cons x t ih =>
    intro cur h
    rw [splG, if_neg (h x (by simp)), ih _ (fun y hy => h y (by simp [hy]))]
    simp
theorem splG_cur (c : UInt8) : ∀ a cur : List UInt8, ∃ h r, splG c [] a = h :: r ∧ splG c cur a = (cur.reverse ++ h) :: r := by
  intro a
  induction a with
  | nil => intro cur; exact ⟨[], [], rfl, by simp [splG]⟩
  | cons x t ih =>
    intro cur
    simp only [splG]
    split
    · exact ⟨[], splG c [] t, rfl, by simp⟩
    · obtain ⟨h, r, e1, e2⟩ := ih [x]
      obtain ⟨h', r', e1', e2'⟩ := ih (x :: cur)
      rw [e1] at e1'
      injection e1' with q1 q2
      subst q1 q2
      exact ⟨_, _, e2, by rw [e2']; simp⟩
theorem splitK_G (c : UInt8) : ∀ l : List UInt8, Lib.splitK [c] 0 (Lib.count l [c]) l = splG c [] l := by
  intro l
  induction l with
  | nil => rw [Lib.count_miss (by simp [Lib.index])]; rfl
  | cons b t ih =>
    by_cases h : b = c
    · subst h
      have hix : Lib.index (b :: t) [b] = ((0 : Nat) : Int) := by rw [Lib.index]; simp [List.isPrefixOf]
      rw [Lib.count_cons_eq, Nat.add_comm, Lib.splitK, hix]
      simp only [splG, if_true]
      rw [if_neg (by decide)]
      simpa using ih
    · rw [Lib.count_cons_ne b c t h, splG, if_neg h]
      obtain ⟨h1, r1, e1, e2⟩ := splG_cur c t [b]
      rw [e2]
      have hp : ([c] : List UInt8).isPrefixOf (b :: t) = false := by simp [List.isPrefixOf, Ne.symm h]
      have hix : Lib.index (b :: t) [c] = if Lib.index t [c] == -1 then -1 else Lib.index t [c] + 1 := by rw [Lib.index, hp]; simp
      rw [e1] at ih
      by_cases hm : Lib.index t [c] = -1
      · rw [Lib.count_miss hm] at ih ⊢
        simp only [Lib.splitK] at ih ⊢
        injection ih with q1 q2
        subst q1 q2
        simp
      · have hge := Lib.index_ge t [c]
        obtain ⟨j, hj⟩ : ∃ j : Nat, Lib.index t [c] = j := ⟨(Lib.index t [c]).toNat, by omega⟩
        have hix' : Lib.index (b :: t) [c] = ((j + 1 : Nat) : Int) := by rw [hix, if_neg (fun e => hm (beq_iff_eq.1 e)), hj]; omega
        rw [Lib.count_hit (by simp) hj, Nat.add_comm, Lib.splitK] at ih ⊢
        rw [hj, if_neg (by simp)] at ih
        rw [hix', if_neg (by simp; omega)]
        injection ih with q1 q2
        simp only [Int.toNat_natCast, Nat.add_zero, List.length_cons, List.length_nil, Nat.zero_add] at q1 q2 ⊢
        rw [show j + 1 + 1 = (j + 1) + 1 from rfl, List.take_succ_cons, List.drop_succ_cons, q1, q2]
        simp
/-- From some measure of steps on. -/
def Ev (p : Nat → Prop) : Prop := ∃ k0, ∀ k, k0 ≤ k → p k
theorem Ev.of {p : Nat → Prop} (h : ∀ k, p k) : Ev p := ⟨0, fun k _ => h k⟩
theorem Ev.and {p q : Nat → Prop} : Ev p → Ev q → Ev fun k => p k ∧ q k := fun ⟨a, ha⟩ ⟨b, hb⟩ => ⟨max a b, fun k hk => ⟨ha k (by omega), hb k (by omega)⟩⟩
theorem Ev.up {p : Nat → Prop} (h : Ev fun k => p (k + 1)) : Ev p := by
  obtain ⟨a, ha⟩ := h
  refine ⟨a + 1, fun k hk => ?_⟩
  obtain ⟨j, rfl⟩ : ∃ j, k = j + 1 := ⟨k - 1, by omega⟩
  exact ha j (by omega)

theorem tl (s : ByteArray) : s.toList = s.data.toList := ByteArray.toList_eq s
theorem len_data (s : ByteArray) : s.data.toList.length = s.size := by rw [Array.length_toList]; rfl

theorem data_app2 (s t : ByteArray) : (s ++ t).data.toList = s.data.toList ++ t.data.toList := by
  simp [ByteArray.data_append, Array.toList_append]
end Go.Proofs.YtghbaehbgefpaaaGreatDoor.Fr
/- Rows of files, plain: what putting and dropping does. -/
namespace Go.Proofs.YtghbaehbgefpaaaGreatDoor.Fr
open Go.RowKit Go.Proofs.YtghbaehbgefpaaaGreatDoor.F Go.Proofs.YtghbaehbgefpaaaGreatDoorW.PrintWords
set_option linter.unusedVariables false
set_option linter.unusedSimpArgs false
theorem lt_before : ∀ (a b : List UInt8), a < b → bytesBefore a b = true
  | [], [], h => absurd h (List.lt_irrefl _)
  | [], _ :: _, _ => rfl
  | _ :: _, [], h => by cases h
  | x :: xs, y :: ys, h => by
    rw [List.cons_lt_cons_iff] at h
    simp only [bytesBefore, Bool.or_eq_true, Bool.and_eq_true, decide_eq_true_eq, beq_iff_eq]
    rcases h with h | ⟨h, h2⟩
    · exact .inl h
    · exact .inr ⟨h, lt_before xs ys h2⟩
theorem ltB_iff {a b : ByteArray} : ltB a b = true ↔ a.data.toList < b.data.toList := ⟨before_lt _ _, lt_before _ _⟩
theorem ltB_trans {a b c : ByteArray} (h1 : ltB a b = true) (h2 : ltB b c = true) : ltB a c = true := ltB_iff.2 (List.lt_trans (ltB_iff.1 h1) (ltB_iff.1 h2))
theorem ltB_irrefl (a : ByteArray) : ¬ ltB a a = true := fun h => List.lt_irrefl _ (ltB_iff.1 h)
theorem ltB_total {a b : ByteArray} (h1 : ¬ ltB a b = true) (h2 : a.data.toList ≠ b.data.toList) : ltB b a = true := by
  rw [ltB_iff]
  have h3 : ¬ a.data.toList < b.data.toList := fun h => h1 (ltB_iff.2 h)
  have h4 : b.data.toList ≤ a.data.toList := List.not_lt.1 h3
  rcases List.le_iff_lt_or_eq.1 h4 with h5 | h5
  · exact h5
  · exact absurd h5.symm h2
theorem ba_eq {a b : ByteArray} (h : a.data.toList = b.data.toList) : a = b := by
  obtain ⟨⟨a⟩⟩ := a
  obtain ⟨⟨b⟩⟩ := b
  simp only at h
  rw [h]
theorem beq_ba {a b : ByteArray} : (a.data.toList == b.data.toList) = true ↔ a = b := by
  rw [beq_iff_eq]
  exact ⟨ba_eq, fun h => by rw [h]⟩
theorem mem_ins {f x : Fl} {l : List Fl} : x ∈ insF f l ↔ x = f ∨ x ∈ l := by
  induction l with
  | nil => simp [insF]
  | cons g r ih =>
    by_cases h : ltB f.f0 g.f0 = true
    · rw [insF_lt h]; simp
    · rw [insF_ge h, List.mem_cons, ih, List.mem_cons]
      constructor
      · rintro (h | h | h)
        · exact .inr (.inl h)
        · exact .inl h
        · exact .inr (.inr h)
      · rintro (h | h | h)
        · exact .inr (.inl h)
        · exact .inl h
        · exact .inr (.inr h)
theorem mem_drop {x : Fl} {l : List Fl} {q : ByteArray} : x ∈ dropF l q ↔ x ∈ l ∧ x.f0 ≠ q := by
  unfold dropF
  rw [List.mem_filter]
  constructor
  · rintro ⟨h1, h2⟩
    refine ⟨h1, fun e => ?_⟩
    rw [e] at h2
    simp at h2
  · rintro ⟨h1, h2⟩
    refine ⟨h1, ?_⟩
    cases e : (x.f0.data.toList == q.data.toList) with
    | false => rfl
    | true => exact absurd (beq_ba.1 e) h2
theorem mem_put {f x : Fl} {l : List Fl} : x ∈ putF l f ↔ x = f ∨ (x ∈ l ∧ x.f0 ≠ f.f0) := by
  unfold putF
  rw [mem_ins, mem_drop]
theorem len_ins (f : Fl) (l : List Fl) : (insF f l).length = l.length + 1 := by
  induction l with
  | nil => rfl
  | cons g r ih =>
    by_cases h : ltB f.f0 g.f0 = true
    · rw [insF_lt h]; rfl
    · rw [insF_ge h, List.length_cons, ih, List.length_cons]
theorem used_cons (f : Fl) (l : List Fl) : usedF (f :: l) = f.f1.size + usedF l := by unfold usedF; rw [List.map_cons, List.sum_cons]
theorem used_ins (f : Fl) (l : List Fl) : usedF (insF f l) = usedF l + f.f1.size := by
  induction l with
  | nil => rw [show insF f [] = [f] from rfl, used_cons]; omega
  | cons g r ih =>
    by_cases h : ltB f.f0 g.f0 = true
    · rw [insF_lt h, used_cons]; omega
    · rw [insF_ge h, used_cons, used_cons, ih]; omega
/-! ### sorted rows -/
theorem srt_cons {f : Fl} {l : List Fl} : Srt (f :: l) ↔ (∀ g ∈ l, ltB f.f0 g.f0 = true) ∧ Srt l := List.pairwise_cons
theorem srt_drop {l : List Fl} (h : Srt l) (q : ByteArray) : Srt (dropF l q) := List.Pairwise.sublist List.filter_sublist h
theorem srt_ins {f : Fl} {l : List Fl} (h : Srt l) (hn : ∀ g ∈ l, g.f0 ≠ f.f0) : Srt (insF f l) := by
  induction l with
  | nil => exact List.pairwise_singleton _ _
  | cons g r ih =>
    obtain ⟨h1, h2⟩ := srt_cons.1 h
    by_cases hl : ltB f.f0 g.f0 = true
    · rw [insF_lt hl]
      exact srt_cons.2 ⟨fun x hx => by
        rcases List.mem_cons.1 hx with rfl | hx
        · exact hl
        · exact ltB_trans hl (h1 x hx), h⟩
    · rw [insF_ge hl]
      refine srt_cons.2 ⟨fun x hx => ?_, ih h2 fun x hx => hn x (List.mem_cons_of_mem _ hx)⟩
      rcases mem_ins.1 hx with rfl | hx
      · exact ltB_total hl fun e => hn g (List.mem_cons_self ..) (ba_eq e).symm
      · exact h1 x hx
theorem srt_put {l : List Fl} (h : Srt l) (f : Fl) : Srt (putF l f) := srt_ins (srt_drop h f.f0) fun g hg => (mem_drop.1 hg).2
theorem srt_after {l : List Fl} (h : Srt l) (c : Cg) : Srt (afterF l c) := by
  unfold afterF
  split
  · exact srt_put h _
  · split
    · exact srt_put h _
    · split
      · exact srt_drop h _
      · split
        · exact h
        · exact srt_put (srt_drop h _) _
theorem find_some_iff {l : List Fl} (h : Srt l) {q : ByteArray} {f : Fl} : findF l q = some f ↔ f ∈ l ∧ f.f0 = q := by
  constructor
  · intro e
    refine ⟨mem_of_find e, ?_⟩
    unfold findF at e
    have := List.find?_some e
    exact beq_ba.1 this
  · rintro ⟨h1, rfl⟩
    exact find_of_srt h h1
theorem find_none_iff {l : List Fl} {q : ByteArray} : findF l q = none ↔ ∀ f ∈ l, f.f0 ≠ q := by
  unfold findF
  rw [List.find?_eq_none]
  constructor
  · intro h f hf e
    exact h f hf (beq_ba.2 e)
  · intro h f hf e
    exact h f hf (beq_ba.1 e)
theorem find_put {l : List Fl} (h : Srt l) (f : Fl) : findF (putF l f) f.f0 = some f := (find_some_iff (srt_put h f)).2 ⟨mem_put.2 (.inl rfl), rfl⟩
theorem find_put_ne {l : List Fl} (h : Srt l) (f : Fl) {q : ByteArray} (hq : q ≠ f.f0) : findF (putF l f) q = findF l q := by
  cases e : findF l q with
  | none =>
    rw [find_none_iff] at e ⊢
    intro g hg
    rcases mem_put.1 hg with rfl | hg
    · exact fun e => hq e.symm
    · exact e g hg.1
  | some g =>
    rw [find_some_iff h] at e
    rw [find_some_iff (srt_put h f)]
    exact ⟨mem_put.2 (.inr ⟨e.1, by rw [e.2]; exact hq⟩), e.2⟩
theorem find_drop (l : List Fl) (q : ByteArray) : findF (dropF l q) q = none := find_none_iff.2 fun f hf => (mem_drop.1 hf).2
theorem find_drop_ne {l : List Fl} (h : Srt l) {q p : ByteArray} (hq : p ≠ q) : findF (dropF l q) p = findF l p := by
  cases e : findF l p with
  | none =>
    rw [find_none_iff] at e ⊢
    exact fun g hg => e g (mem_drop.1 hg).1
  | some g =>
    rw [find_some_iff h] at e
    rw [find_some_iff (srt_drop h q)]
    exact ⟨mem_drop.2 ⟨e.1, by rw [e.2]; exact hq⟩, e.2⟩
theorem drop_none {l : List Fl} {q : ByteArray} (h : findF l q = none) : dropF l q = l := by
  unfold dropF
  rw [List.filter_eq_self]
  intro f hf
  have := find_none_iff.1 h f hf
  cases e : (f.f0.data.toList == q.data.toList) with
  | false => rfl
  | true => exact absurd (beq_ba.1 e) this
theorem drop_some {l : List Fl} (h : Srt l) {q : ByteArray} {f : Fl} (hf : findF l q = some f) : usedF (dropF l q) + f.f1.size = usedF l ∧ (dropF l q).length + 1 = l.length := by
  induction l with
  | nil => cases hf
  | cons g r ih =>
    obtain ⟨h1, h2⟩ := srt_cons.1 h
    by_cases e : g.f0 = q
    · have hg : g = f := by
        have := (find_some_iff h).1 hf
        have h3 : findF (g :: r) q = some g := (find_some_iff h).2 ⟨List.mem_cons_self .., e⟩
        rw [h3] at hf
        exact Option.some.inj hf
      subst hg
      have hr : findF r q = none := find_none_iff.2 fun x hx e2 => by
        have := h1 x hx
        rw [e, e2] at this
        exact ltB_irrefl _ this
      have : dropF (g :: r) q = r := by
        show List.filter _ (g :: r) = r
        rw [List.filter_cons_of_neg (by simp [e])]
        exact drop_none hr
      rw [this, used_cons, List.length_cons]
      omega
    · have hb : (g.f0.data.toList == q.data.toList) = false := by
        cases e2 : (g.f0.data.toList == q.data.toList) with
        | false => rfl
        | true => exact absurd (beq_ba.1 e2) e
      have : dropF (g :: r) q = g :: dropF r q := by
        show List.filter _ (g :: r) = g :: List.filter _ r
        rw [List.filter_cons_of_pos (by rw [hb]; rfl)]
      have hf' : findF r q = some f := by
        unfold findF at hf ⊢
        rw [List.find?_cons, hb] at hf
        exact hf
      obtain ⟨e3, e4⟩ := ih h2 hf'
      rw [this, used_cons, used_cons, List.length_cons, List.length_cons]
      omega
theorem put_used {l : List Fl} (h : Srt l) (f : Fl) : usedF (putF l f) + (textF l f.f0).size = usedF l + f.f1.size ∧ (putF l f).length = (if (findF l f.f0).isSome = true then l.length else l.length + 1) := by
  unfold putF textF
  rw [used_ins, len_ins]
  cases e : findF l f.f0 with
  | none =>
    rw [drop_none e]
    exact ⟨by show _ + 0 = _; omega, rfl⟩
  | some g =>
    obtain ⟨h1, h2⟩ := drop_some h e
    refine ⟨by show _ + g.f1.size = _; omega, ?_⟩
    simp only [Option.isSome_some, if_true]
    omega
/-! ### ways -/
/-- The files' paths are paths. -/
def Pth (l : List Fl) : Prop := ∀ f ∈ l, pathV f.f0 = true
/-! ### a write -/
theorem write_after (T : TS) (stays : Bool) (q s : ByteArray) : ∃ t, afterF T.l (writeC T stays q s) = putF T.l ⟨q, t, T.clock + 1⟩ ∧ t.size = sizeT T stays q s := by
  cases stays with
  | false => exact ⟨s, rfl, rfl⟩
  | true =>
    refine ⟨textF T.l q ++ s, rfl, ?_⟩
    unfold sizeT hadT
    rw [if_pos rfl, ByteArray.size_append]
    omega
theorem full_eq {T : TS} (h : Srt T.l) (stays : Bool) (q s : ByteArray) : fullT T stays q s = (decide (T.room < (usedF (afterF T.l (writeC T stays q s)) : Int)) || decide (200 < (afterF T.l (writeC T stays q s)).length)) := by
  obtain ⟨t, e1, e2⟩ := write_after T stays q s
  obtain ⟨h1, h2⟩ := put_used h ⟨q, t, T.clock + 1⟩
  rw [e1, h2]
  unfold fullT manyT
  have h3 : (usedF T.l : Int) - hadT T q + sizeT T stays q s = (usedF (putF T.l ⟨q, t, T.clock + 1⟩) : Int) := by
    unfold hadT
    simp only at h1
    omega
  rw [h3]
end Go.Proofs.YtghbaehbgefpaaaGreatDoor.Fr
/- The reference's Used, Read, Sync, Remove, Rename, New. -/
namespace Go.Proofs.YtghbaehbgefpaaaGreatDoor.Fr
open Go.RowKit Go.Proofs.YtghbaehbgefpaaaGreatDoor.F Go.Proofs.YtghbaehbgefpaaaGreatDoorW.PrintWords
set_option linter.unusedVariables false
set_option linter.unusedSimpArgs false
section
variable {m : Nat} {T : TS} {B : Nat → Prop}
theorem RfEnd.same {w w' : World} (h : Rf w m T B) (hb : Below w.heap.size w w') : RfEnd w m B T w' := ⟨B, h.below hb, Chg.of_below hb _, fun _ hk => .inl hk⟩
theorem RfEnd.left {w w1 w' : World} {T' : TS} (hb : Below w.heap.size w w1) (h : RfEnd w1 m B T' w') : RfEnd w m B T' w' := by
  obtain ⟨B', h1, h2, h3⟩ := h
  exact ⟨B', h1, (Chg.of_below hb _).trans h2 fun _ _ e => e, fun k hk => (h3 k hk).imp id fun e => Nat.le_trans hb.size e⟩
/-! ### Sync -/
end
end Go.Proofs.YtghbaehbgefpaaaGreatDoor.Fr
/- The reference's Rename. -/
namespace Go.Proofs.YtghbaehbgefpaaaGreatDoor.Fr
open Go.RowKit Go.Proofs.YtghbaehbgefpaaaGreatDoor.F Go.Proofs.YtghbaehbgefpaaaGreatDoorW.PrintWords
set_option linter.unusedVariables false
set_option linter.unusedSimpArgs false
section
variable {m : Nat} {T : TS} {B : Nat → Prop}
end
end Go.Proofs.YtghbaehbgefpaaaGreatDoor.Fr
/- The reference's write. -/
namespace Go.Proofs.YtghbaehbgefpaaaGreatDoor.Fr
open Go.RowKit Go.Proofs.YtghbaehbgefpaaaGreatDoor.F Go.Proofs.YtghbaehbgefpaaaGreatDoorW.PrintWords
set_option linter.unusedVariables false
set_option linter.unusedSimpArgs false
/-- Behind the reckoning of the new row: where the walk stands. -/
structure WrMid (w w2 : World) (B : Nat → Prop) (L : List Fl) (c : Cg) (v : Value) (wc : World) : Prop where
  row : VF wc (fun k => B k ∨ (w2.heap.size ≤ k ∧ k < wc.heap.size)) v L
  box : wc.heap[w2.heap.size]? = some (.cells #[.int .i64 c.f0, .string c.f1, .string c.f2, .int .i64 c.f3] 98 (0, 0))
  below : Below w.heap.size w wc
theorem WrMid.step {w w2 : World} {B : Nat → Prop} {L : List Fl} {c : Cg} {v : Value} {wc wd : World} (h : WrMid w w2 B L c v wc) (hb : Below wc.heap.size wc wd) : WrMid w w2 B L c v wd :=
  ⟨Kd.V_mono (Kd.V_below h.row hb) fun k hk => hk.imp id fun hk => ⟨hk.1, Nat.lt_of_lt_of_le hk.2 hb.size⟩, (hb.block _ (Array.getElem?_eq_some_iff.1 h.box).1).trans h.box, h.below.trans (hb.mono h.below.size)⟩
section
variable {m : Nat} {T : TS} {B : Nat → Prop}
end
end Go.Proofs.YtghbaehbgefpaaaGreatDoor.Fr
/- The reference's Write, Append, New. -/
namespace Go.Proofs.YtghbaehbgefpaaaGreatDoor.Fr
open Go.RowKit Go.Proofs.YtghbaehbgefpaaaGreatDoor.F Go.Proofs.YtghbaehbgefpaaaGreatDoorW.PrintWords
set_option linter.unusedVariables false
set_option linter.unusedSimpArgs false
section
variable {m : Nat} {T : TS} {B : Nat → Prop}
end
/-! ### New -/
def RNewEnd (w : World) (T : TS) (e : Ending) (w' : World) : Prop :=
  ∃ m B, e = .returned (.tuple #[.pointer (some ⟨m, 0, none⟩), .int .i64 0]) ∧ Rf w' m T B ∧ Below w.heap.size w w' ∧ w.heap.size ≤ m ∧ ∀ k, B k → w.heap.size ≤ k
theorem rnew_end (w : World) (room : Int) : RNewEnd w (newT room) (.returned (.tuple #[.pointer (some ⟨w.heap.size, 0, none⟩), .int .i64 0])) (w.alloc (.cells #[.int .i64 room, .int .i64 0, .slice none 0 0, .slice none 0 0, .slice none 0 0] 87)) :=
  ⟨w.heap.size, fun _ => False, rfl, ⟨.slice none 0 0, .slice none 0 0, .slice none 0 0, {
    at_ := World.alloc_heap_new w _
    now := Kd.V_nil _ _ _ _ _
    last := Kd.V_nil _ _ _ _ _
    row := Kd.V_nil _ _ _ _ _
    nil := fun _ => rfl
    free := fun k hk => hk.elim }⟩, newBelow w _, Nat.le_refl _, fun k hk => hk.elim⟩
set_option maxHeartbeats 1000000 in
set_option maxRecDepth 100000 in
theorem rNew_call (w : World) (room : Int) (h1 : 1 ≤ room) (h2 : room ≤ 1073741824) : Calls Tryz.prog 28 #[.int .i64 room] w (RNewEnd w (newT room)) := by
  have H := Lib.hid (rnew_end w room)
  have d1 : decide (room < 1) = false := decide_eq_false (by omega)
  have d2 : decide (1073741824 < room) = false := decide_eq_false (by omega)
  go_enter Tryz.func28, Tryz.ntmps28
  go_wp2
  go_ret2
  exact H.out
end Go.Proofs.YtghbaehbgefpaaaGreatDoor.Fr
/- The reference's Crash. -/
namespace Go.Proofs.YtghbaehbgefpaaaGreatDoor.Fr
open Go.RowKit Go.Proofs.YtghbaehbgefpaaaGreatDoor.F Go.Proofs.YtghbaehbgefpaaaGreatDoorW.PrintWords
set_option linter.unusedVariables false
set_option linter.unusedSimpArgs false
section
variable {m : Nat} {T : TS} {B : Nat → Prop}
end
end Go.Proofs.YtghbaehbgefpaaaGreatDoor.Fr
/- What a tree always is, plain. -/
namespace Go.Proofs.YtghbaehbgefpaaaGreatDoor.Fr
open Go.RowKit Go.Proofs.YtghbaehbgefpaaaGreatDoor.F Go.Proofs.YtghbaehbgefpaaaGreatDoorW.PrintWords
set_option linter.unusedVariables false
set_option linter.unusedSimpArgs false
/-- A good row of files. -/
structure Good (room : Int) (l : List Fl) : Prop where
  srt : Srt l
  pth : Pth l
  used : (usedF l : Int) ≤ room
  many : l.length ≤ 200
  texts : ∀ f ∈ l, f.f1.size ≤ 16777216
/-- A change that may stand in a tree. -/
structure CgIn (c : Cg) : Prop where
  kind : KindOK c
  path : pathV c.f1 = true
  text : c.f2.size ≤ 1000000000
  dest : c.f0 = 4 → pathV c.f2 = true
theorem path_size {q : ByteArray} (h : pathV q = true) : q.size ≤ 100 := by
  unfold pathV at h
  simp only [Bool.and_eq_true, decide_eq_true_eq] at h
  have := h.1.2
  omega
theorem CgIn.ok {c : Cg} (h : CgIn c) : CgOK c := ⟨h.kind, Nat.le_trans (path_size h.path) (by decide), h.text, fun e => Nat.le_trans (path_size (h.dest e)) (by decide)⟩
theorem pth_put {l : List Fl} (h : Pth l) {f : Fl} (hf : pathV f.f0 = true) : Pth (putF l f) := fun g hg => by
  rcases mem_put.1 hg with rfl | hg
  · exact hf
  · exact h g hg.1
theorem pth_drop {l : List Fl} (h : Pth l) (q : ByteArray) : Pth (dropF l q) := fun g hg => h g (mem_drop.1 hg).1
theorem pth_after {l : List Fl} (h : Pth l) {c : Cg} (hc : CgIn c) : Pth (afterF l c) := by
  rcases hc.kind with e | e | e | e
  · unfold afterF
    rw [if_pos e]
    exact pth_put h hc.path
  · unfold afterF
    rw [if_neg (by omega), if_pos e]
    exact pth_put h hc.path
  · unfold afterF
    rw [if_neg (by omega), if_neg (by omega), if_pos e]
    exact pth_drop h _
  · unfold afterF
    rw [if_neg (by omega), if_neg (by omega), if_neg (by omega)]
    split
    · exact h
    · exact pth_put (pth_drop h _) (hc.dest e)
theorem text_le {l : List Fl} {f : Fl} (h : f ∈ l) : f.f1.size ≤ usedF l := by
  induction l with
  | nil => cases h
  | cons g r ih =>
    rw [used_cons]
    rcases List.mem_cons.1 h with rfl | h
    · omega
    · have := ih h
      omega
theorem had_le (l : List Fl) (q : ByteArray) : (textF l q).size ≤ usedF l := by
  unfold textF
  cases e : findF l q with
  | none => exact Nat.zero_le _
  | some f => exact text_le (mem_of_find e)
/-- A change of which a part is written leaves a good row where the whole one does. -/
theorem good_cut {room : Int} {l : List Fl} (h : Good room l) {c : Cg} (hc : CgIn c) (hk : c.f0 ≤ 2) {part : Int} (hg : Good room (afterF l c)) : Good room (afterF l (cutC c part)) := by
  obtain ⟨k, q, s, t⟩ := c
  have hcs : (cutS s part).size ≤ s.size := by
    unfold cutS
    split
    · exact Nat.le_refl _
    · rw [ByteArray.size_extract]; omega
  have hk' : k = 1 ∨ k = 2 := by
    have h0 : k ≤ 2 := hk
    rcases hc.kind with e | e | e | e <;> (simp only at e; omega)
  rcases hk' with rfl | rfl
  · have e1 : afterF l ⟨1, q, s, t⟩ = putF l ⟨q, s, t⟩ := rfl
    have e2 : afterF l (cutC ⟨1, q, s, t⟩ part) = putF l ⟨q, cutS s part, t⟩ := rfl
    rw [e1] at hg
    rw [e2]
    obtain ⟨a1, a2⟩ := put_used h.srt ⟨q, s, t⟩
    obtain ⟨b1, b2⟩ := put_used h.srt ⟨q, cutS s part, t⟩
    have hu := hg.used
    have hm := hg.many
    simp only at a1 a2 b1 b2
    have ht := hg.texts _ (mem_put.2 (.inl rfl))
    simp only at ht
    exact ⟨srt_put h.srt _, pth_put h.pth hc.path, by omega, by rw [b2, ← a2]; exact hm, fun g hg' => by
      rcases mem_put.1 hg' with rfl | hg'
      · show (cutS s part).size ≤ _
        omega
      · exact h.texts g hg'.1⟩
  · have e1 : afterF l ⟨2, q, s, t⟩ = putF l ⟨q, textF l q ++ s, t⟩ := rfl
    have e2 : afterF l (cutC ⟨2, q, s, t⟩ part) = putF l ⟨q, textF l q ++ cutS s part, t⟩ := rfl
    rw [e1] at hg
    rw [e2]
    obtain ⟨a1, a2⟩ := put_used h.srt ⟨q, textF l q ++ s, t⟩
    obtain ⟨b1, b2⟩ := put_used h.srt ⟨q, textF l q ++ cutS s part, t⟩
    have hu := hg.used
    have hm := hg.many
    simp only [ByteArray.size_append] at a1 a2 b1 b2
    have ht := hg.texts _ (mem_put.2 (.inl rfl))
    simp only [ByteArray.size_append] at ht
    exact ⟨srt_put h.srt _, pth_put h.pth hc.path, by omega, by rw [b2, ← a2]; exact hm, fun g hg' => by
      rcases mem_put.1 hg' with rfl | hg'
      · show (textF l q ++ cutS s part).size ≤ _
        rw [ByteArray.size_append]
        omega
      · exact h.texts g hg'.1⟩
structure Inv (n : Nat) (T : TS) : Prop where
  room : 1 ≤ T.room ∧ T.room ≤ 1073741824
  clock : 0 ≤ T.clock ∧ T.clock ≤ n
  chs : T.ch.length ≤ n
  cin : ∀ c ∈ T.ch, CgIn c
  runs : ∀ k, k ≤ T.ch.length → Good T.room (foldF T.last (T.ch.take k))
  fold : foldF T.last T.ch = T.l
theorem Inv.good {n : Nat} {T : TS} (h : Inv n T) : Good T.room T.l := by
  have := h.runs T.ch.length (Nat.le_refl _)
  rw [List.take_length, h.fold] at this
  exact this
theorem Inv.tok {n : Nat} {T : TS} (h : Inv n T) (hn : n ≤ 1000000) : TOK T where
  room := by have := h.room; omega
  clock := by have := h.clock; omega
  many := Nat.le_trans h.good.many (by decide)
  texts := fun f hf => Nat.le_trans (h.good.texts f hf) (by decide)
  paths := fun f hf => Nat.le_trans (path_size (h.good.pth f hf)) (by decide)
  used := by have := h.good.used; have := h.room; omega
  chs := Nat.le_trans h.chs hn
theorem Inv.mono {n n' : Nat} {T : TS} (h : Inv n T) (hn : n ≤ n') : Inv n' T := ⟨h.room, by have := h.clock; omega, Nat.le_trans h.chs hn, h.cin, h.runs, h.fold⟩
theorem inv_new {room : Int} (h1 : 1 ≤ room) (h2 : room ≤ 1073741824) : Inv 0 (newT room) where
  room := ⟨h1, h2⟩
  clock := ⟨Int.le_refl _, Int.le_refl _⟩
  chs := Nat.le_refl _
  cin := fun c hc => by cases hc
  runs := fun k hk => by
    have : foldF (newT room).last ((newT room).ch.take k) = [] := by show foldF [] (List.take k []) = []; rw [List.take_nil]; rfl
    rw [this]
    exact ⟨List.Pairwise.nil, fun f hf => (by cases hf), (by show (0 : Int) ≤ room; omega), Nat.zero_le _, fun f hf => (by cases hf)⟩
  fold := rfl
theorem foldF_snoc (l : List Fl) (cs : List Cg) (c : Cg) : foldF l (cs ++ [c]) = afterF (foldF l cs) c := by
  unfold foldF
  rw [List.foldl_append]
  rfl
theorem inv_done {n : Nat} {T : TS} (h : Inv n T) {c : Cg} (hc : CgIn c) (hg : Good T.room (afterF T.l c)) : Inv (n + 1) (doneT T c) where
  room := h.room
  clock := by have := h.clock; show 0 ≤ T.clock + 1 ∧ T.clock + 1 ≤ ((n + 1 : Nat) : Int); omega
  chs := by
    show (T.ch ++ [c]).length ≤ n + 1
    rw [List.length_append]
    exact Nat.add_le_add_right h.chs 1
  cin := fun d hd => by
    rcases List.mem_append.1 hd with hd | hd
    · exact h.cin d hd
    · rw [List.mem_singleton.1 hd]
      exact hc
  runs := fun k hk => by
    have hk' : k ≤ T.ch.length + 1 := by
      have : (T.ch ++ [c]).length = T.ch.length + 1 := by rw [List.length_append]; rfl
      rw [← this]
      exact hk
    show Good T.room (foldF T.last ((T.ch ++ [c]).take k))
    by_cases e : k ≤ T.ch.length
    · rw [List.take_append_of_le_length e]
      exact h.runs k e
    · rw [List.take_of_length_le (by rw [List.length_append, List.length_singleton]; omega), foldF_snoc, h.fold]
      exact hg
  fold := by
    show foldF T.last (T.ch ++ [c]) = afterF T.l c
    rw [foldF_snoc, h.fold]
theorem inv_sync {n : Nat} {T : TS} (h1 : 1 ≤ T.room ∧ T.room ≤ 1073741824) (h2 : 0 ≤ T.clock ∧ T.clock ≤ n) (h3 : Good T.room T.l) : Inv n (syncT T) where
  room := h1
  clock := h2
  chs := Nat.zero_le _
  cin := fun c hc => by cases hc
  runs := fun k hk => by
    show Good T.room (foldF T.l (List.take k []))
    rw [List.take_nil]
    exact h3
  fold := rfl
theorem inv_crash {n : Nat} {T : TS} (h : Inv n T) (many part : Int) : Inv n (crashT T many part) := by
  refine inv_sync h.room h.clock ?_
  show Good T.room (crashL T many part)
  have hK : keptN many T.ch.length ≤ T.ch.length := by unfold keptN; omega
  unfold crashL
  simp only
  cases e : T.ch[keptN many T.ch.length]? with
  | none => exact h.runs _ hK
  | some c =>
    simp only
    obtain ⟨hlt, hget⟩ := List.getElem?_eq_some_iff.1 e
    split
    next hh =>
      refine good_cut (h.runs _ hK) (h.cin c (by rw [← hget]; exact List.getElem_mem hlt)) hh.1 ?_
      have := h.runs (keptN many T.ch.length + 1) hlt
      rw [foldF_succ _ _ _ hlt, hget] at this
      exact this
    next => exact h.runs _ hK
end Go.Proofs.YtghbaehbgefpaaaGreatDoor.Fr
/- What a tree always is: behind each act. -/
namespace Go.Proofs.YtghbaehbgefpaaaGreatDoor.Fr
open Go.RowKit Go.Proofs.YtghbaehbgefpaaaGreatDoor.F Go.Proofs.YtghbaehbgefpaaaGreatDoorW.PrintWords
set_option linter.unusedVariables false
set_option linter.unusedSimpArgs false
theorem writeE_zero {T : TS} {stays : Bool} {q s : ByteArray} (h : writeE T stays q s = 0) : pathV q = true ∧ sizeT T stays q s ≤ 16777216 ∧ blockT T.l q ⟨#[]⟩ = false ∧ fullT T stays q s = false := by
  unfold writeE at h
  cases h1 : pathV q with
  | false => rw [h1] at h; simp at h
  | true =>
    rw [h1] at h
    by_cases h2 : 16777216 < sizeT T stays q s
    · simp [h2] at h
    · cases h3 : blockT T.l q ⟨#[]⟩ with
      | true => rw [h3] at h; simp [h2] at h
      | false =>
        cases h4 : fullT T stays q s with
        | true => rw [h3, h4] at h; simp [h2] at h
        | false => exact ⟨rfl, by omega, rfl, rfl⟩
theorem writeC_in {T : TS} {stays : Bool} {q s : ByteArray} (h : pathV q = true) (hs : s.size ≤ 1000000000) : CgIn (writeC T stays q s) := by
  cases stays
  · exact ⟨.inl rfl, h, hs, fun e => absurd e (show ¬ ((1 : Int) = 4) by decide)⟩
  · exact ⟨.inr (.inl rfl), h, hs, fun e => absurd e (show ¬ ((2 : Int) = 4) by decide)⟩
theorem inv_write {n : Nat} {T : TS} (h : Inv n T) (stays : Bool) {q s : ByteArray} (hs : s.size ≤ 1000000000) : Inv (n + 1) (writeT T stays q s) := by
  unfold writeT
  split
  next he =>
    obtain ⟨h1, h2, h3, h4⟩ := writeE_zero he
    have hc := writeC_in (T := T) (stays := stays) h1 hs
    refine inv_done h hc ?_
    obtain ⟨t, e1, e2⟩ := write_after T stays q s
    have hf := full_eq h.good.srt stays q s
    rw [h4] at hf
    have hf' := hf.symm
    rw [Bool.or_eq_false_iff, decide_eq_false_iff_not, decide_eq_false_iff_not] at hf'
    refine ⟨srt_after h.good.srt _, pth_after h.good.pth hc, by omega, by omega, fun f hm => ?_⟩
    rw [e1] at hm
    rcases mem_put.1 hm with rfl | hm
    · show t.size ≤ _
      omega
    · exact h.good.texts f hm.1
  next => exact h.mono (Nat.le_succ n)
theorem inv_remove {n : Nat} {T : TS} (h : Inv n T) (q : ByteArray) : Inv (n + 1) (removeT T q) := by
  unfold removeT
  split
  next he =>
    unfold removeE at he
    cases hf : findF T.l q with
    | none => rw [hf] at he; simp at he
    | some f =>
      obtain ⟨a1, a2⟩ := (find_some_iff h.good.srt).1 hf
      have hq : pathV q = true := by rw [← a2]; exact h.good.pth f a1
      refine inv_done h ⟨.inr (.inr (.inl rfl)), hq, Nat.zero_le _, fun e => absurd e (show ¬ ((3 : Int) = 4) by decide)⟩ ?_
      show Good T.room (dropF T.l q)
      obtain ⟨b1, b2⟩ := drop_some h.good.srt hf
      have := h.good.used
      have := h.good.many
      exact ⟨srt_drop h.good.srt q, pth_drop h.good.pth q, by omega, by omega, fun g hg => h.good.texts g (mem_drop.1 hg).1⟩
  next => exact h.mono (Nat.le_succ n)
theorem inv_rename {n : Nat} {T : TS} (h : Inv n T) (a b : ByteArray) : Inv (n + 1) (renameT T a b) := by
  unfold renameT
  split
  next he =>
    obtain ⟨h1, h2, h3, h4⟩ := he
    cases hf : findF T.l a with
    | none => rw [hf] at h1; cases h1
    | some f =>
      obtain ⟨a1, a2⟩ := (find_some_iff h.good.srt).1 hf
      have hq : pathV a = true := by rw [← a2]; exact h.good.pth f a1
      have hbs := path_size h2
      refine inv_done h ⟨.inr (.inr (.inr rfl)), hq, (by show b.size ≤ _; omega), fun _ => h2⟩ ?_
      have e1 : afterF T.l ⟨4, a, b, 0⟩ = putF (dropF T.l a) ⟨b, f.f1, f.f2⟩ := by
        show (match findF T.l a with | none => T.l | some f => putF (dropF T.l a) ⟨b, f.f1, f.f2⟩) = _
        rw [hf]
      rw [e1]
      have hsd := srt_drop h.good.srt a
      obtain ⟨b1, b2⟩ := drop_some h.good.srt hf
      obtain ⟨c1, c2⟩ := put_used hsd ⟨b, f.f1, f.f2⟩
      have := h.good.used
      have := h.good.many
      simp only at c1 c2
      refine ⟨srt_put hsd _, pth_put (pth_drop h.good.pth a) h2, by omega, by split at c2 <;> omega, fun g hg => ?_⟩
      rcases mem_put.1 hg with rfl | hg
      · exact h.good.texts f a1
      · exact h.good.texts g (mem_drop.1 hg.1).1
  next => exact h.mono (Nat.le_succ n)
end Go.Proofs.YtghbaehbgefpaaaGreatDoor.Fr
/- A tree and the reference's, of one plain tree. -/
namespace Go.Proofs.YtghbaehbgefpaaaGreatDoor.Fr
open Go.RowKit Go.Proofs.YtghbaehbgefpaaaGreatDoor.F Go.Proofs.YtghbaehbgefpaaaGreatDoorW.PrintWords
set_option linter.unusedVariables false
set_option linter.unusedSimpArgs false
/-- Both trees, and that they share nothing. -/
structure Pr (w : World) (φ : Phi) (p : Nat) (A : Nat → Prop) (m : Nat) (B : Nat → Prop) (T : TS) : Prop where
  tr : Tr w φ p T A
  rf : Rf w m T B
  am : ∀ k, A k → k ≠ m ∧ ¬ B k
  fm : ∀ k, φ k ≠ none → k ≠ m
theorem Rf.free {w : World} {m : Nat} {T : TS} {B : Nat → Prop} (h : Rf w m T B) {k : Nat} (hk : B k) : k < w.heap.size ∧ k ≠ m := by
  obtain ⟨vl, vs, vc, h⟩ := h
  exact h.free k hk
theorem Tr.files {w : World} {φ : Phi} {p : Nat} {T : TS} {A : Nat → Prop} (h : Tr w φ p T A) : FilesOK w φ := by
  obtain ⟨bn, bl, v, h⟩ := h
  exact h.files
theorem Tr.free {w : World} {φ : Phi} {p : Nat} {T : TS} {A : Nat → Prop} (h : Tr w φ p T A) {k : Nat} (hk : A k) : k < w.heap.size ∧ φ k = none := by
  obtain ⟨bn, bl, v, h⟩ := h
  exact h.free k hk
theorem Pr.below {w w' : World} {φ : Phi} {p m : Nat} {A B : Nat → Prop} {T : TS} (h : Pr w φ p A m B T) (hb : Below w.heap.size w w') : Pr w' φ p A m B T := ⟨h.tr.below hb, h.rf.below hb, h.am, h.fm⟩
/-- Behind a call on the tree: the reference's stands. -/
theorem Pr.left {w w1 : World} {φ : Phi} {p m : Nat} {A B : Nat → Prop} {T T' : TS} (h : Pr w φ p A m B T) (he : TrEnd w φ p A T' w1) :
    ∃ φ' A', Tr w1 φ' p T' A' ∧ Rf w1 m T B ∧ (∀ k, A' k → k ≠ m ∧ ¬ B k) ∧ (∀ k, φ' k ≠ none → k ≠ m) ∧ Chg A w w1 ∧ Ext w φ φ' ∧ ∀ k, A' k → A k ∨ w.heap.size ≤ k := by
  obtain ⟨φ', A', h1, h2, h3, h4⟩ := he
  have hm := h.rf.lt
  refine ⟨φ', A', h1, h.rf.chg h3 (fun e => (h.am m e).1 rfl) fun k hk e => (h.am k e).2 hk, fun k hk => ?_, fun k hk => ?_, h3, h2, h4⟩
  · rcases h4 k hk with e | e
    · exact h.am k e
    · exact ⟨by omega, fun e2 => by have := (h.rf.free e2).1; omega⟩
  · rcases h2.new k hk with e | e
    · exact h.fm k e
    · omega
end Go.Proofs.YtghbaehbgefpaaaGreatDoor.Fr
/- What All tells, as a row that is read. -/
namespace Go.Proofs.YtghbaehbgefpaaaGreatDoor.Fr
open Go.RowKit Go.Proofs.YtghbaehbgefpaaaGreatDoor.F Go.Proofs.YtghbaehbgefpaaaGreatDoorW.PrintWords
set_option linter.unusedVariables false
set_option linter.unusedSimpArgs false
structure Af where
  f0 : ByteArray
  f1 : ByteArray
def kA : Kd Af := Kd.iso (Kd.pair Kd.string Kd.string) (fun x : Af => (x.f0, x.f1))
def af (f : Fl) : Af := ⟨f.f0, f.f1⟩
abbrev VA (w : World) (ok : Nat → Prop) (v : Value) (l : List Af) : Prop := Kd.V kA 95 w 0 ok v l
theorem VA.below {w w' : World} {ok : Nat → Prop} {v : Value} {l : List Af} (h : VA w ok v l) (hb : Below w.heap.size w w') : VA w' ok v l := Kd.V_below h hb
theorem VA.chg {S : Nat → Prop} {w w' : World} {ok : Nat → Prop} {v : Value} {l : List Af} (h : VA w ok v l) (hc : Chg S w w') (hs : ∀ k, ok k → ¬ S k) : VA w' ok v l := Kd.V_step h fun k hk hl => hc.block k hl (hs k hk)
end Go.Proofs.YtghbaehbgefpaaaGreatDoor.Fr
/- Trees side by side, and one reference: what a law holds. -/
namespace Go.Proofs.YtghbaehbgefpaaaGreatDoor.Fr
open Go.RowKit Go.Proofs.YtghbaehbgefpaaaGreatDoor.F Go.Proofs.YtghbaehbgefpaaaGreatDoorW.PrintWords
set_option linter.unusedVariables false
set_option linter.unusedSimpArgs false
/-- The blocks of K are kept; the trees of L and the reference m lie elsewhere, apart from one another. -/
structure StsAt (K : Nat → Prop) (L : List (Nat × TS)) (m : Nat) (Tm : TS) (W : World) (φ : Phi) (F : Nat → Nat → Prop) (B : Nat → Prop) : Prop where
  kb : ∀ k, K k → k < W.heap.size
  rf : Rf W m Tm B
  bk : ∀ k, B k → ¬ K k
  nm : ¬ K m
  fl : FilesOK W φ
  fm : ∀ k, φ k ≠ none → k ≠ m
  tr : ∀ i p T, L[i]? = some (p, T) → Tr W φ p T (F i)
  fk : ∀ i, i < L.length → ∀ k, F i k → ¬ K k ∧ k ≠ m ∧ ¬ B k
  dis : ∀ i j, i < L.length → j < L.length → i ≠ j → ∀ k, F i k → ¬ F j k
def Sts (K : Nat → Prop) (L : List (Nat × TS)) (m : Nat) (Tm : TS) (W : World) : Prop := ∃ φ F B, StsAt K L m Tm W φ F B
/-- What a call on one of them may change. -/
abbrev Kp (K : Nat → Prop) (W W' : World) : Prop := Chg (fun k => ¬ K k) W W'
section
variable {K : Nat → Prop} {L : List (Nat × TS)} {m p : Nat} {T Tm : TS} {W W' : World} {φ : Phi} {F : Nat → Nat → Prop} {B : Nat → Prop}
theorem Kp.block (h : Kp K W W') {k : Nat} (hk : K k) (hl : k < W.heap.size) : W'.heap[k]? = W.heap[k]? := Chg.block h k hl fun e => e hk
theorem Kp.trans {W2 : World} (h : Kp K W W') (k : Kp K W' W2) : Kp K W W2 := Chg.trans h k fun _ _ e => e
theorem Kp.below {B : Nat} (h : Kp K W W') (hB : B ≤ W.heap.size) (hK : ∀ k, k < B → K k) : Below B W W' := Chg.to_below h hB fun k hk => by
  by_cases e : B ≤ k
  · exact e
  · exact absurd (hK k (by omega)) hk
theorem Kp.of (hb : Below W.heap.size W W') : Kp K W W' := Chg.of_below hb _
theorem Kp.mono {K' : Nat → Prop} (h : Kp K W W') (hK : ∀ k, K' k → K k) : Kp K' W W' := Chg.mono h fun k _ e h' => e (hK k h')
theorem StsAt.lt {i : Nat} (h : StsAt K L m Tm W φ F B) (hi : L[i]? = some (p, T)) : ∀ k, F i k → k < W.heap.size := fun k hk => ((h.tr i p T hi).free hk).1
theorem idx_lt {i : Nat} {x : Nat × TS} (hi : L[i]? = some x) : i < L.length := (List.getElem?_eq_some_iff.1 hi).1
theorem StsAt.op {i : Nat} {T' : TS} (h : StsAt K L m Tm W φ F B) (hi : L[i]? = some (p, T)) (he : TrEnd W φ p (F i) T' W') : Sts K (L.set i (p, T')) m Tm W' ∧ Kp K W W' := by
  obtain ⟨φ', A', h1, h2, h3, h4⟩ := he
  have hil := idx_lt hi
  have hml := h.rf.lt
  have hlen : (L.set i (p, T')).length = L.length := List.length_set
  refine ⟨⟨φ', fun j => if j = i then A' else F j, B, ?_⟩, h3.mono fun k _ hk => (h.fk i hil k hk).1⟩
  exact {
    kb := fun k hk => Nat.lt_of_lt_of_le (h.kb k hk) h3.size
    rf := h.rf.chg h3 (fun e => (h.fk i hil m e).2.1 rfl) fun k hk e => (h.fk i hil k e).2.2 hk
    bk := h.bk
    nm := h.nm
    fl := h1.files
    fm := fun k hk => (h2.new k hk).elim (h.fm k) fun e => by omega
    tr := fun j q U hj => by
      by_cases e : j = i
      · subst e
        rw [List.getElem?_set_self hil] at hj
        cases hj
        simpa using h1
      · rw [List.getElem?_set_ne (Ne.symm e)] at hj
        simp only [if_neg e]
        exact (h.tr j q U hj).chg h3 (fun k hk hk' => h.dis j i (idx_lt hj) hil e k hk hk') h2 h1.files
    fk := fun j hj k hk => by
      rw [hlen] at hj
      by_cases e : j = i
      · subst e
        simp only [if_pos rfl] at hk
        rcases h4 k hk with h5 | h5
        · exact h.fk j hj k h5
        · exact ⟨fun e => by have := h.kb k e; omega, by omega, fun e => by have := (h.rf.free e).1; omega⟩
      · simp only [if_neg e] at hk
        exact h.fk j hj k hk
    dis := fun a b ha hb hab k hka hkb => by
      rw [hlen] at ha hb
      have lt : ∀ j, j < L.length → ∀ k, F j k → k < W.heap.size := fun j hj k hk => by
        have e : L[j]? = some (L[j].1, L[j].2) := List.getElem?_eq_getElem hj
        exact h.lt e k hk
      by_cases ea : a = i
      · subst ea
        have eb : b ≠ a := Ne.symm hab
        simp only [if_pos rfl] at hka
        simp only [if_neg eb] at hkb
        rcases h4 k hka with h5 | h5
        · exact h.dis a b ha hb hab k h5 hkb
        · have := lt b hb k hkb
          omega
      · simp only [if_neg ea] at hka
        by_cases eb : b = i
        · subst eb
          simp only [if_pos rfl] at hkb
          rcases h4 k hkb with h5 | h5
          · exact h.dis a b ha hb hab k hka h5
          · have := lt a ha k hka
            omega
        · simp only [if_neg eb] at hkb
          exact h.dis a b ha hb hab k hka hkb }
theorem StsAt.below (h : StsAt K L m Tm W φ F B) (hb : Below W.heap.size W W') : StsAt K L m Tm W' φ F B where
  kb := fun k hk => Nat.lt_of_lt_of_le (h.kb k hk) hb.size
  rf := h.rf.below hb
  bk := h.bk
  nm := h.nm
  fl := h.fl.below hb
  fm := h.fm
  tr := fun i p T hi => (h.tr i p T hi).below hb
  fk := h.fk
  dis := h.dis
theorem Sts.below (h : Sts K L m Tm W) (hb : Below W.heap.size W W') : Sts K L m Tm W' := by
  obtain ⟨φ, F, B, h⟩ := h
  exact ⟨φ, F, B, h.below hb⟩
/-- What is new is kept, too. -/
theorem Sts.kept {K' : Nat → Prop} (h : Sts K L m Tm W) (hb : Below W.heap.size W W') (hK : ∀ k, K' k → K k ∨ (W.heap.size ≤ k ∧ k < W'.heap.size)) : Sts K' L m Tm W' := by
  obtain ⟨φ, F, B, h⟩ := h
  have hml := h.rf.lt
  refine ⟨φ, F, B, { h.below hb with
    kb := fun k hk => (hK k hk).elim (fun e => Nat.lt_of_lt_of_le (h.kb k e) hb.size) fun e => e.2
    bk := fun k hk e => (hK k e).elim (h.bk k hk) fun e => by have := (h.rf.free hk).1; omega
    nm := fun e => (hK m e).elim h.nm fun e => by omega
    fk := fun i hi k hk => ⟨fun e => (hK k e).elim (h.fk i hi k hk).1 fun e => by
      have e2 : L[i]? = some (L[i].1, L[i].2) := List.getElem?_eq_getElem hi
      have := h.lt e2 k hk
      omega, (h.fk i hi k hk).2⟩ }⟩
theorem Sts.drop {K' : Nat → Prop} (h : Sts K L m Tm W) (hK : ∀ k, K' k → K k) : Sts K' L m Tm W := h.kept (Below.refl _ _) fun k hk => .inl (hK k hk)
theorem Sts.kb (h : Sts K L m Tm W) : ∀ k, K k → k < W.heap.size := by
  obtain ⟨φ, F, B, h⟩ := h
  exact h.kb
/-- A tree more. -/
theorem StsAt.more {c : Nat} {U : TS} {C : Nat → Prop} (h : StsAt K L m Tm W φ F B) (hb : Below W.heap.size W W') (hc : Tr W' φ c U C) (hC : ∀ k, C k → W.heap.size ≤ k) : Sts K (L ++ [(c, U)]) m Tm W' := by
  have hml := h.rf.lt
  have hlen : (L ++ [(c, U)]).length = L.length + 1 := by rw [List.length_append]; rfl
  refine ⟨φ, fun j => if j = L.length then C else F j, B, { h.below hb with
    tr := fun j q V hj => ?_
    fk := fun j hj k hk => ?_
    dis := fun a b ha hb hab k hka hkb => ?_ }⟩
  · by_cases e : j = L.length
    · subst e
      rw [List.getElem?_append_right (Nat.le_refl _), Nat.sub_self] at hj
      cases hj
      simpa using hc
    · have hj' := idx_lt hj
      rw [List.getElem?_append_left (by omega)] at hj
      simp only [if_neg e]
      exact (h.below hb).tr j q V hj
  · rw [hlen] at hj
    by_cases e : j = L.length
    · simp only [if_pos e] at hk
      have := hC k hk
      exact ⟨fun e => by have := h.kb k e; omega, by omega, fun e => by have := (h.rf.free e).1; omega⟩
    · simp only [if_neg e] at hk
      exact h.fk j (by omega) k hk
  · rw [hlen] at ha hb
    have lt : ∀ j, j < L.length → ∀ k, F j k → k < W.heap.size := fun j hj k hk => by
      have e : L[j]? = some (L[j].1, L[j].2) := List.getElem?_eq_getElem hj
      exact h.lt e k hk
    by_cases ea : a = L.length
    · have eb : b ≠ L.length := fun e => hab (ea.trans e.symm)
      simp only [if_pos ea] at hka
      simp only [if_neg eb] at hkb
      have := hC k hka
      have := lt b (by omega) k hkb
      omega
    · simp only [if_neg ea] at hka
      by_cases eb : b = L.length
      · simp only [if_pos eb] at hkb
        have := hC k hkb
        have := lt a (by omega) k hka
        omega
      · simp only [if_neg eb] at hkb
        exact h.dis a b (by omega) (by omega) hab k hka hkb
/-- Blocks that are kept are written by the law itself: none of the trees' is. -/
theorem StsAt.chg {K' S : Nat → Prop} (h : StsAt K L m Tm W φ F B) (hc : Chg S W W') (hS : ∀ k, S k → K k) (hf : ∀ q, φ q ≠ none → ¬ S q)
    (hK : ∀ k, K' k → K k ∨ (W.heap.size ≤ k ∧ k < W'.heap.size)) : StsAt K' L m Tm W' φ F B where
  kb := fun k hk => (hK k hk).elim (fun e => Nat.lt_of_lt_of_le (h.kb k e) hc.size) fun e => e.2
  rf := h.rf.chg hc (fun e => h.nm (hS m e)) fun k hk e => h.bk k hk (hS k e)
  bk := fun k hk e => (hK k e).elim (h.bk k hk) fun e => by have := (h.rf.free hk).1; omega
  nm := fun e => (hK m e).elim h.nm fun e => by have := h.rf.lt; omega
  fl := h.fl.chg hc hf
  fm := h.fm
  tr := fun i p T hi => (h.tr i p T hi).chg hc (fun k hk e => (h.fk i (idx_lt hi) k hk).1 (hS k e)) (Ext.refl _ _) (h.fl.chg hc hf)
  fk := fun i hi k hk => ⟨fun e => (hK k e).elim (h.fk i hi k hk).1 fun e => by
    have e2 : L[i]? = some (L[i].1, L[i].2) := List.getElem?_eq_getElem hi
    have := h.lt e2 k hk
    omega, (h.fk i hi k hk).2⟩
  dis := h.dis
theorem Pr.sts {A : Nat → Prop} (h : Pr W φ p A m B T) (hK : ∀ k, K k → k < W.heap.size) (hA : ∀ k, A k → ¬ K k) (hB : ∀ k, B k → ¬ K k) (hm : ¬ K m) : Sts K [(p, T)] m T W := by
  refine ⟨φ, fun _ => A, B, hK, h.rf, hB, hm, h.tr.files, h.fm, fun i q U hi => ?_, fun i hi k hk => ⟨hA k hk, h.am k hk⟩, fun i j hi hj hij => ?_⟩
  · cases i with
    | zero =>
      cases hi
      exact h.tr
    | succ i => cases hi
  · have h1 : i < 1 := hi
    have h2 : j < 1 := hj
    omega
end
end Go.Proofs.YtghbaehbgefpaaaGreatDoor.Fr
/- Each call, over the trees that a law holds. -/
namespace Go.Proofs.YtghbaehbgefpaaaGreatDoor.Fr
open Go.RowKit Go.Proofs.YtghbaehbgefpaaaGreatDoor.F Go.Proofs.YtghbaehbgefpaaaGreatDoorW.PrintWords
set_option linter.unusedVariables false
set_option linter.unusedSimpArgs false
def StEnd (K : Nat → Prop) (L : List (Nat × TS)) (m : Nat) (Tm : TS) (W : World) (v : Value) (e : Ending) (w' : World) : Prop := e = .returned v ∧ Sts K L m Tm w' ∧ Kp K W w'
section
variable {K : Nat → Prop} {L : List (Nat × TS)} {m p i n : Nat} {T Tm : TS} {W : World}
theorem Sts.tr (h : Sts K L m Tm W) (hi : L[i]? = some (p, T)) : ∃ φ A, Tr W φ p T A := by
  obtain ⟨φ, F, B, h⟩ := h
  exact ⟨φ, F i, h.tr i p T hi⟩
theorem Sts.rf (h : Sts K L m Tm W) : ∃ B, Rf W m Tm B := by
  obtain ⟨φ, F, B, h⟩ := h
  exact ⟨B, h.rf⟩
theorem Sts.files (h : Sts K L m Tm W) : ∃ φ, FilesOK W φ := by
  obtain ⟨φ, F, B, h⟩ := h
  exact ⟨φ, h.fl⟩
theorem Inv.runs2 (h : Inv n T) : ∀ k, k ≤ T.ch.length → (foldF T.last (T.ch.take k)).length ≤ 100000 ∧ ∀ f ∈ foldF T.last (T.ch.take k), f.f1.size ≤ 1000000000000 :=
  fun k hk => ⟨Nat.le_trans (h.runs k hk).many (by decide), fun f hf => Nat.le_trans ((h.runs k hk).texts f hf) (by decide)⟩
theorem Sts.Write (h : Sts K L m Tm W) (hi : L[i]? = some (p, T)) (hG : Glob W) (hI : Inv n T) (hn : n ≤ 1000000) (q s : ByteArray) (hq : q.size ≤ 100000) (hs : s.size ≤ 1000000000) :
    Calls Tryz.prog 52 #[.pointer (some ⟨p, 0, none⟩), .string q, .string s] W (StEnd K (L.set i (p, writeT T false q s)) m Tm W (.int .i64 (writeE T false q s))) := by
  obtain ⟨φ, F, B, h⟩ := h
  refine (Write_call W (h.tr i p T hi) hG (hI.tok hn) q s hq hs).mono ?_
  rintro e w' ⟨rfl, he⟩
  exact ⟨rfl, h.op hi he⟩
theorem Sts.Append (h : Sts K L m Tm W) (hi : L[i]? = some (p, T)) (hG : Glob W) (hI : Inv n T) (hn : n ≤ 1000000) (q s : ByteArray) (hq : q.size ≤ 100000) (hs : s.size ≤ 1000000000) :
    Calls Tryz.prog 45 #[.pointer (some ⟨p, 0, none⟩), .string q, .string s] W (StEnd K (L.set i (p, writeT T true q s)) m Tm W (.int .i64 (writeE T true q s))) := by
  obtain ⟨φ, F, B, h⟩ := h
  refine (Append_call W (h.tr i p T hi) hG (hI.tok hn) q s hq hs).mono ?_
  rintro e w' ⟨rfl, he⟩
  exact ⟨rfl, h.op hi he⟩
theorem Sts.Remove (h : Sts K L m Tm W) (hi : L[i]? = some (p, T)) (hG : Glob W) (hI : Inv n T) (hn : n ≤ 1000000) (q : ByteArray) (hq : q.size ≤ 100000) :
    Calls Tryz.prog 49 #[.pointer (some ⟨p, 0, none⟩), .string q] W (StEnd K (L.set i (p, removeT T q)) m Tm W (.int .i64 (removeE T q))) := by
  obtain ⟨φ, F, B, h⟩ := h
  refine (Remove_call W (h.tr i p T hi) (hI.tok hn) q hq).mono ?_
  rintro e w' ⟨rfl, he⟩
  exact ⟨rfl, h.op hi he⟩
theorem Sts.Rename (h : Sts K L m Tm W) (hi : L[i]? = some (p, T)) (hG : Glob W) (hI : Inv n T) (hn : n ≤ 1000000) (q r : ByteArray) (hq : q.size ≤ 100000) (hr : r.size ≤ 100000) :
    Calls Tryz.prog 53 #[.pointer (some ⟨p, 0, none⟩), .string q, .string r] W (StEnd K (L.set i (p, renameT T q r)) m Tm W (.int .i64 (renameE T q r))) := by
  obtain ⟨φ, F, B, h⟩ := h
  refine (Rename_call W (h.tr i p T hi) hG (hI.tok hn) q r hq hr).mono ?_
  rintro e w' ⟨rfl, he⟩
  exact ⟨rfl, h.op hi he⟩
theorem Sts.Sync (h : Sts K L m Tm W) (hi : L[i]? = some (p, T)) (hG : Glob W) (hI : Inv n T) (hn : n ≤ 1000000)  :
    Calls Tryz.prog 16 #[.pointer (some ⟨p, 0, none⟩)] W (StEnd K (L.set i (p, syncT T)) m Tm W (.tuple #[])) := by
  obtain ⟨φ, F, B, h⟩ := h
  refine (sync_call W (h.tr i p T hi)).mono ?_
  rintro e w' ⟨rfl, he⟩
  exact ⟨rfl, h.op hi he⟩
theorem Sts.Crash (h : Sts K L m Tm W) (hi : L[i]? = some (p, T)) (hG : Glob W) (hI : Inv n T) (hn : n ≤ 1000000) (many part : Int) (hp : part ≤ 9223372036854775807) :
    Calls Tryz.prog 17 #[.pointer (some ⟨p, 0, none⟩), .int .i64 many, .int .i64 part] W (StEnd K (L.set i (p, crashT T many part)) m Tm W (.tuple #[])) := by
  obtain ⟨φ, F, B, h⟩ := h
  refine (crash_call W (h.tr i p T hi) many part (hI.tok hn).chs hp (fun c hc => (hI.cin c hc).ok) hI.runs2).mono ?_
  rintro e w' ⟨rfl, he⟩
  exact ⟨rfl, h.op hi he⟩
theorem Sts.Read (h : Sts K L m Tm W) (hi : L[i]? = some (p, T)) (q : ByteArray) (hq : q.size ≤ 100000) : Calls Tryz.prog 81 #[.pointer (some ⟨p, 0, none⟩), .string q] W fun e w' => e = .returned (.tuple #[.string (readT T q).1, .int .i64 (readT T q).2]) ∧ W = w' := by
  obtain ⟨φ, A, ht⟩ := h.tr hi
  exact read_call W ht q hq
end
end Go.Proofs.YtghbaehbgefpaaaGreatDoor.Fr
/- strconv.ParseUint(s, 16, 8) at a text of two bytes. -/
namespace Go.Proofs.YtghbaehbgefpaaaGreatDoor.Hand
open Go.Shelf Go.RowKit
set_option linter.unusedVariables false
set_option linter.unusedSimpArgs false
def lowN (n : Nat) : Nat := if n / 32 % 2 = 1 then n else n + 32
theorem low_bits : ∀ n : Fin 256, bits .or .u8 ((n.val : Nat) : Int) 32 = ((lowN n.val : Nat) : Int) := by decide +kernel
theorem low_lt : ∀ n : Fin 256, lowN n.val < 256 := by decide +kernel
def hexv (c : UInt8) : Option Nat := if 48 ≤ c.toNat ∧ c.toNat ≤ 57 then some (c.toNat - 48) else if 97 ≤ lowN c.toNat ∧ lowN c.toNat ≤ 102 then some (lowN c.toNat - 87) else none
def hexG : Nat → List UInt8 → Option Nat
  | acc, [] => some acc
  | acc, c :: t => match hexv c with
    | some d => hexG (acc * 16 + d) t
    | none => none
def hexOut : Option Nat → Value
  | some n => .tuple #[.int .u64 n, .nilIface]
  | none => .tuple #[.int .u64 0, .iface 221 (.int .i64 2)]
theorem lower_walk (n : Nat) (h : n < 256) (w : World) : Calls Tryz.prog 174 #[.int .u8 n] w fun e w' => e = .returned (.int .u8 (lowN n)) ∧ w = w' := by
  refine (Tryz.internal_strconv_lower n w).mono ?_
  rintro e w' ⟨rfl, rfl⟩
  exact ⟨by rw [low_bits ⟨n, h⟩], rfl⟩
set_option maxHeartbeats 8000000 in
set_option maxRecDepth 100000 in
theorem parse16_in (t : ByteArray) (h2 : t.size = 2) (w : World) :
    Calls Tryz.prog 170 #[.string t, .int .i64 16, .int .i64 8] w fun e w' => e = .returned (hexOut (hexG 0 t.data.toList)) ∧ w' = Lib.bytesWorld w 5 t := by
  have hemp : t.toList.isEmpty = false := by
    rw [← decide_eq_emptyBytes]
    exact decide_eq_false (fun h => by rw [h] at h2; exact absurd h2 (by decide))
  have hcv := Lib.run_convert_string_bytes (P := Tryz.prog) w 9 120 5 t (u := .string) Tryz.underlying9 Tryz.underlying120 Tryz.underlying5
  have hB : ∀ j, j < t.size → (Lib.bytesWorld w 5 t).cell? ⟨w.heap.size, j, none⟩ = some (.int .u8 (t.data.toList.getD j 0).toNat) := fun j hj => Lib.bytesWorld_cell w 5 t j hj
  obtain ⟨W1, hW1⟩ : ∃ W1, W1 = Lib.bytesWorld w 5 t := ⟨_, rfl⟩
  rw [← hW1] at hcv hB ⊢
  clear hW1
  obtain ⟨bs, hL⟩ : ∃ bs, bs = t.data.toList := ⟨_, rfl⟩
  have hLn : bs.length = t.size := by rw [hL, Lib.size_eq]
  rw [← hL] at hB ⊢
  clear hL
  have hmv : IntKind.u64.wrap (IntKind.u64.wrap 256 - 1) = 255 := by
    rw [IntKind.wrap_u64, IntKind.wrap_u64]
    decide
  have hmax : t.size ≤ 2 := by omega
  have H2 := Lib.hid h2
  have HLn := Lib.hid hLn
  clear h2 hLn
  go_enter Tryz.func170, Tryz.ntmps170
  go_wp2
  go_loop [12, 13, 101] (fun vu vn vi => ∃ (k acc : Nat) (a : Int), vu = .bool false ∧ vn = .int .u64 a ∧ vi = .int .i64 k ∧ k ≤ t.size ∧ Hid (a = (acc : Int) ∧ acc < 16 ^ k ∧ hexG 0 bs = hexG acc (bs.drop k)))
    (fun _ _ vi => t.size - (intOf vi).toNat)
  case atStart => exact ⟨0, 0, 0, rfl, rfl, rfl, by omega, rfl, by simp, rfl⟩
  case round =>
    obtain ⟨k, acc, a, rfl, rfl, rfl, hk, hh⟩ := hrel
    obtain ⟨ha, hacc, hdec⟩ := hh.out
    clear hh
    by_cases hkn : k < t.size
    · have hLn := HLn.out
      have hc := hB k hkn
      have hdrop : bs.drop k = bs[k]'(by omega) :: bs.drop (k + 1) := List.drop_eq_getElem_cons (by omega)
      have hget : bs.getD k 0 = bs[k]'(by omega) := by simp [List.getD, List.getElem?_eq_getElem (show k < bs.length by omega)]
      rw [hdrop] at hdec
      rw [hget] at hc
      generalize bs[k]'(by omega) = c at hc hdec
      have hc256 : c.toNat < 256 := c.toNat_lt
      clear hB hdrop hget hLn
      have hacc2 : acc ≤ 15 := by
        have : k ≤ 1 := by omega
        rcases Nat.le_one_iff_eq_zero_or_eq_one.1 this with e | e <;> subst e <;> omega
      have hp : 16 ^ (k + 1) = 16 ^ k * 16 := Nat.pow_succ 16 k
      have a0 : 0 ≤ a := by omega
      have a1 : a ≤ 15 := by omega
      have icut : a < 1152921504606846976 := by omega
      obtain ⟨H, hH⟩ : ∃ H, Hid (hexG 0 bs = H) := ⟨_, Lib.hid rfl⟩
      rw [hH.out] at hdec ⊢
      by_cases hdig : 48 ≤ c.toNat ∧ c.toNat ≤ 57
      · have hv : hexv c = some (c.toNat - 48) := by unfold hexv; rw [if_pos hdig]
        obtain ⟨hd0, hd1⟩ := hdig
        have HN : Hid (a * 16 + ((c.toNat : Int) - 48) = ((acc * 16 + (c.toNat - 48) : Nat) : Int) ∧ acc * 16 + (c.toNat - 48) < 16 ^ (k + 1) ∧ H = hexG (acc * 16 + (c.toNat - 48)) (bs.drop (k + 1))) :=
          Lib.hid ⟨by omega, by omega, by rw [hdec, hexG, hv]⟩
        have iov : a * 16 + ((c.toNat : Int) - 48) ≤ 255 := by omega
        clear hdec ha hv hacc hacc2 hp
        generalize c.toNat = n at *
        go_wp2
        refine ⟨⟨k + 1, acc * 16 + (n - 48), a * 16 + ((n : Int) - 48), rfl, (by first | rfl | (congr 1; omega)), (by first | rfl | (congr 1; omega)), by omega, HN⟩, by simp [intOf]; omega⟩
      · have hm := low_lt ⟨c.toNat, hc256⟩
        simp only at hm
        by_cases hlet : 97 ≤ lowN c.toNat ∧ lowN c.toNat ≤ 102
        · have hv : hexv c = some (lowN c.toNat - 87) := by unfold hexv; rw [if_neg hdig, if_pos hlet]
          obtain ⟨hl0, hl1⟩ := hlet
          have HN : Hid (a * 16 + ((lowN c.toNat : Int) - 97 + 10) = ((acc * 16 + (lowN c.toNat - 87) : Nat) : Int) ∧ acc * 16 + (lowN c.toNat - 87) < 16 ^ (k + 1) ∧ H = hexG (acc * 16 + (lowN c.toNat - 87)) (bs.drop (k + 1))) :=
            Lib.hid ⟨by omega, by omega, by rw [hdec, hexG, hv]⟩
          have h95 : ((c.toNat : Int) == 95) = false := by
            rw [beq_eq_false_iff_ne]
            intro e
            have : c.toNat = 95 := by omega
            rw [this] at hl1
            exact absurd hl1 (by decide)
          clear hdec ha hv hacc hacc2 hp
          have hlow := fun w => lower_walk c.toNat hc256 w
          generalize lowN c.toNat = m at *
          generalize c.toNat = n at *
          have iov : a * 16 + ((m : Int) - 97 + 10) ≤ 255 := by omega
          have hlow := Lib.hid hlow
          go_wp2_with (go_at_call 174; refine (hlow.out _).mono ?_; rintro e w' ⟨rfl, rfl⟩)
          all_goals
            refine ⟨⟨k + 1, acc * 16 + (m - 87), a * 16 + ((m : Int) - 97 + 10), rfl, (by first | rfl | (congr 1; omega)), (by first | rfl | (congr 1; omega)), by omega, HN⟩, by simp [intOf]; omega⟩
        · have hv : hexv c = none := by unfold hexv; rw [if_neg hdig, if_neg hlet]
          have hF : H = none := by rw [hdec, hexG, hv]
          subst hF
          clear hdec ha hv hacc hacc2 hp
          by_cases h95 : c.toNat = 95
          · rw [h95] at hc
            have hlow : ∀ w, Calls Tryz.prog 174 #[.int .u8 95] w fun e w' => e = .returned (.int .u8 127) ∧ w = w' := fun w => lower_walk 95 (by decide) w
            have hlow := Lib.hid hlow
            clear h95 hlet hdig
            go_wp2_with (go_at_call 174; refine (hlow.out _).mono ?_; rintro e w' ⟨rfl, rfl⟩)
            all_goals go_ret2
            all_goals exact ⟨by rw [hH.out]; rfl, rfl⟩
          have h95' : ((c.toNat : Int) == 95) = false := by
            rw [beq_eq_false_iff_ne]
            omega
          have hlow := Lib.hid (fun w => lower_walk c.toNat hc256 w)
          generalize lowN c.toNat = m at *
          generalize c.toNat = n at *
          by_cases hz : 97 ≤ m ∧ m ≤ 122
          · obtain ⟨hz0, hz1⟩ := hz
            have hz2 : 103 ≤ m := by omega
            clear hlet
            go_wp2_with (go_at_call 174; refine (hlow.out _).mono ?_; rintro e w' ⟨rfl, rfl⟩)
            all_goals go_ret2
            all_goals exact ⟨by rw [hH.out]; rfl, rfl⟩
          · clear hlet
            go_wp2_with (go_at_call 174; refine (hlow.out _).mono ?_; rintro e w' ⟨rfl, rfl⟩)
            all_goals go_ret2
            all_goals exact ⟨by rw [hH.out]; rfl, rfl⟩
    · have hkk : k = t.size := by omega
      subst hkk
      have hF : hexG acc (bs.drop t.size) = some acc := by rw [List.drop_eq_nil_of_le (by have := HLn.out; omega)]; rfl
      rw [hF] at hdec
      subst ha
      clear hacc hF
      go_wp2
      go_ret2
      exact ⟨by first | rfl | (rw [hdec]; rfl), rfl⟩
end Go.Proofs.YtghbaehbgefpaaaGreatDoor.Hand
namespace Go.Proofs.YtghbaehbgefpaaaGreatDoor.Hand
open Go.RowKit
set_option linter.unusedVariables false
set_option linter.unusedSimpArgs false
set_option maxHeartbeats 1000000 in
set_option maxRecDepth 100000 in
theorem copyCheck_used (b : Nat) (v : Value) (w : World) (hb : w.heap[b]? = some (.cells #[.pointer (some ⟨b, 0, none⟩), v] 125 (0, 0))) :
    Calls Tryz.prog 92 #[.pointer (some ⟨b, 0, none⟩)] w fun e w' => e = .returned (.tuple #[]) ∧ w' = w := by
  have c0 : w.cell? ⟨b, 0, none⟩ = some (.pointer (some ⟨b, 0, none⟩)) := by rw [Lib.cell_of_heap hb]; rfl
  clear hb
  obtain ⟨j, hj, _⟩ := Option.map_eq_some_iff.1 Tryz.Builder_Extra_169.sizeBuilder
  go_enter Tryz.func92, Tryz.ntmps92
  go_wp2
  rw [Lib.run_neq_ptr_same w _ Tryz.underlying123 hj]
  go_wp2
  go_end0
  exact ⟨rfl, rfl⟩
set_option maxHeartbeats 1000000 in
set_option maxRecDepth 100000 in
theorem copyCheck_fresh (b : Nat) (v : Value) (w : World) (hb : w.heap[b]? = some (.cells #[.pointer none, v] 125 (0, 0))) :
    Calls Tryz.prog 92 #[.pointer (some ⟨b, 0, none⟩)] w fun e w' => e = .returned (.tuple #[]) ∧ w' = w.setCell ⟨b, 0, none⟩ (.pointer (some ⟨b, 0, none⟩)) := by
  have c0 : w.cell? ⟨b, 0, none⟩ = some (.pointer none) := by rw [Lib.cell_of_heap hb]; rfl
  have f0 : w.frozen? ⟨b, 0, none⟩ = false := Lib.frozen_of_heap hb 0
  have hsh : w.shape? b = some (125, 2) := by simp [World.shape?, hb]
  clear hb
  obtain ⟨j, hj, hjs⟩ := Option.map_eq_some_iff.1 Tryz.Builder_Extra_169.sizeBuilder
  go_enter Tryz.func92, Tryz.ntmps92
  go_wp2
  rw [Lib.run_to_unsafe w ⟨b, 0, none⟩ Tryz.underlying123 Tryz.underlying161 hj (by rw [hjs]; decide) hsh (Nat.zero_lt_succ 1)]
  simp only [Result.andThen]
  rw [Oper.upon_value]
  go_wp2
  rw [run_callFunc_extern Tryz.func108 (by kernel_rfl) (by kernel_rfl) (by kernel_rfl) (e := Extern.AbiNoEscape.same) (by kernel_rfl)]
  rw [Lib.run_noEscape]
  simp only [Result.andThen]
  rw [Oper.upon_value]
  go_wp2
  rw [Lib.run_from_unsafe w ⟨b, 0, none⟩ Tryz.underlying161 Tryz.underlying123 hj hsh Tryz.Builder_Extra_169.liesBuilder]
  simp only [Result.andThen]
  rw [Oper.upon_value]
  go_wp2
  go_end0
  exact ⟨rfl, rfl⟩

/-- Block b is a builder that holds bs, in a row of its own from B1 on. -/
def Bld (b B1 : Nat) (bs : List Value) (w : World) : Prop := b < B1 ∧ B1 ≤ w.heap.size ∧ ∃ p v, (p = .pointer none ∨ p = .pointer (some ⟨b, 0, none⟩)) ∧ w.heap[b]? = some (.cells #[p, v] 125 (0, 0)) ∧ w.ownsRowF B1 5 1 v bs.length bs
/-- What lay below B1, but for block b, lies as it lay. -/
structure Apart (b B1 : Nat) (w w' : World) : Prop where
  os : w'.os = w.os
  tape : w'.tape = w.tape
  output : w'.output = w.output
  size : w.heap.size ≤ w'.heap.size
  block : ∀ k, k < B1 → k ≠ b → w'.heap[k]? = w.heap[k]?
theorem Apart.refl (b B1 : Nat) (w : World) : Apart b B1 w w := ⟨rfl, rfl, rfl, Nat.le_refl _, fun _ _ _ => rfl⟩
theorem Apart.trans {b B1 : Nat} {w w1 w2 : World} (h : Apart b B1 w w1) (k : Apart b B1 w1 w2) : Apart b B1 w w2 := ⟨k.os.trans h.os, k.tape.trans h.tape, k.output.trans h.output, Nat.le_trans h.size k.size, fun i hi hb => (k.block i hi hb).trans (h.block i hi hb)⟩
theorem Apart.below {b B1 : Nat} {w w' : World} (h : Apart b B1 w w') (hb : b < B1) : Below b w w' := ⟨h.os, h.tape, h.output, h.size, fun k hk => h.block k (by omega) (by omega)⟩
theorem Apart.set {b B1 : Nat} (w : World) (o : Nat) (v : Value) : Apart b B1 w (w.setCell ⟨b, o, none⟩ v) := ⟨rfl, rfl, rfl, by simp [World.setCell], fun k _ hk => Below.heap_setCell _ _ _ _ hk⟩
theorem Apart.grown {b B1 : Nat} {w w1 : World} {row : Option Nat} (hg : w.grownBy w1 row) (hB : B1 ≤ w.heap.size) (hr : ∀ k, row = some k → B1 ≤ k) : Apart b B1 w w1 :=
  ⟨hg.os, hg.tape, hg.output, hg.size, fun k hk _ => hg.block k (by omega) (fun e => by have := hr k e.symm; omega)⟩
theorem Apart.alloc {b B1 : Nat} (w : World) (o : Obj) (hB : B1 ≤ w.heap.size) : Apart b B1 w (w.alloc o) := Apart.grown (World.grownBy_alloc w o none) hB (fun k e => by cases e)
theorem Apart.cell {b B1 : Nat} {w w' : World} (h : Apart b B1 w w') {p : Addr} (h1 : p.block < B1) (h2 : p.block ≠ b) : w'.cell? p = w.cell? p := World.cell?_of_block (h.block _ h1 h2)
theorem heap_set0 {w : World} {b : Nat} {x y u : Value} (h : w.heap[b]? = some (.cells #[x, y] 125 (0, 0))) : (w.setCell ⟨b, 0, none⟩ u).heap[b]? = some (.cells #[u, y] 125 (0, 0)) := by
  simp [World.setCell, Array.getElem?_modify, h]
theorem heap_set1 {w : World} {b : Nat} {x y u : Value} (h : w.heap[b]? = some (.cells #[x, y] 125 (0, 0))) : (w.setCell ⟨b, 1, none⟩ u).heap[b]? = some (.cells #[x, u] 125 (0, 0)) := by
  simp [World.setCell, Array.getElem?_modify, h]
theorem grownSet (w : World) (b o : Nat) (v : Value) : w.grownBy (w.setCell ⟨b, o, none⟩ v) (some b) := ⟨rfl, rfl, rfl, by simp [World.setCell], fun k _ hk => Below.heap_setCell _ _ _ _ (fun e => hk (by rw [e]))⟩
theorem copyCheck (b B1 : Nat) (bs : List Value) (w : World) (h : Bld b B1 bs w) :
    Calls Tryz.prog 92 #[.pointer (some ⟨b, 0, none⟩)] w fun e w' => e = .returned (.tuple #[]) ∧ (∃ v, w'.heap[b]? = some (.cells #[.pointer (some ⟨b, 0, none⟩), v] 125 (0, 0)) ∧ w'.ownsRowF B1 5 1 v bs.length bs) ∧ B1 ≤ w'.heap.size ∧ Apart b B1 w w' := by
  obtain ⟨h1, h2, p, v, hp, hb, hown⟩ := h
  rcases hp with rfl | rfl
  · refine (copyCheck_fresh b v w hb).mono ?_
    rintro e w' ⟨rfl, rfl⟩
    refine ⟨rfl, ⟨v, heap_set0 hb, hown.kept (grownSet w b 0 _) (.inr (Lib.ownBlock_neF hown hb (by decide)))⟩, by simpa using h2, Apart.set w 0 _⟩
  · refine (copyCheck_used b v w hb).mono ?_
    rintro e w' ⟨rfl, rfl⟩
    exact ⟨rfl, ⟨v, hb, hown⟩, h2, Apart.refl _ _ _⟩
set_option maxHeartbeats 1000000 in
set_option maxRecDepth 100000 in
theorem writeByte (b B1 : Nat) (bs : List Value) (c : Int) (w : World) (h : Bld b B1 bs w) (hlen : bs.length + 1 ≤ 100000000) :
    Calls Tryz.prog 93 #[.pointer (some ⟨b, 0, none⟩), .int .u8 c] w fun e w' => e = .returned .nilIface ∧ Bld b B1 (bs ++ [.int .u8 c]) w' ∧ Apart b B1 w w' := by
  have hcc := Lib.hid (copyCheck b B1 bs w h)
  have hb1 := h.1
  clear h
  obtain ⟨i0, hi, hz0, hz1, hz2⟩ := info_parts Tryz.Builder_Extra_169.infoByte
  go_enter Tryz.func93, Tryz.ntmps93
  go_wp2_with (go_at_call 92; refine hcc.out.mono ?_)
  rintro e w1 ⟨rfl, ⟨v, hbk, hown⟩, hB, hA⟩
  have c0 : w1.cell? ⟨b, 0, none⟩ = some (.pointer (some ⟨b, 0, none⟩)) := by rw [Lib.cell_of_heap hbk]; rfl
  have c1 : w1.cell? ⟨b, 1, none⟩ = some v := by rw [Lib.cell_of_heap hbk]; rfl
  go_wp2_with (at_builtin; refine wpList_append_ownF _ rfl _ _ 120 rfl B1 5 i0 (.int .u8 0) 1 1 Tryz.underlying120 hi hz0 hz1 hz2 rfl (by decide) _ _ _ rfl (hown.alloc _) ⟨w1.heap.size, 0, none⟩ 1 1 [.int .u8 c] rfl rfl ?c1 ?c2 ?c3 ?c4 ?c5 ?_)
  case c1 =>
    intro j u hj
    match j, hj with
    | 0, hj => simp at hj; subst hj; simp [Addr.add]
  case c2 => intro u hu; simp at hu; subst hu; rfl
  case c3 => unfold maxLen; omega
  case c4 => omega
  case c5 => simp; omega
  intro v' w2 hown' hgrow _
  have hlt : b < w1.heap.size := by omega
  have hne : v.ownBlock ≠ some b := Lib.ownBlock_neF hown hbk (by decide)
  have hb2 : w2.heap[b]? = some (.cells #[.pointer (some ⟨b, 0, none⟩), v] 125 (0, 0)) := by
    rw [hgrow.block b (by simp; omega) (fun e => hne e.symm), Lib.alloc_old w1 _ b hlt]
    exact hbk
  have d0 : w2.cell? ⟨b, 0, none⟩ = some (.pointer (some ⟨b, 0, none⟩)) := by rw [Lib.cell_of_heap hb2]; rfl
  have d1 : w2.cell? ⟨b, 1, none⟩ = some v := by rw [Lib.cell_of_heap hb2]; rfl
  have f1 : w2.frozen? ⟨b, 1, none⟩ = false := Lib.frozen_of_heap hb2 1
  obtain ⟨g, cap, rfl⟩ : ∃ g cap, v' = .slice (some ⟨g, 0, none⟩) (bs.length + 1) cap := by
    rcases hown'.2 with ⟨_, h0⟩ | ⟨g, cap, cur, fz, hv, _⟩
    · omega
    · exact ⟨g, cap, hv⟩
  have hA2 : Apart b B1 w1 w2 := (Apart.alloc w1 _ hB).trans (Apart.grown hgrow (by simp; omega) (fun k hk => (hown.lt k hk).1))
  have hs2 := hA2.size
  go_wp2
  go_ret
  refine ⟨rfl, ⟨hb1, by simp; omega, _, _, .inr rfl, heap_set1 hb2, ?_⟩, (hA.trans hA2).trans (Apart.set w2 1 _)⟩
  have := hown'.kept (grownSet w2 b 1 (.slice (some ⟨g, 0, none⟩) (bs.length + 1) cap)) (.inr (Lib.ownBlock_neF hown' hb2 (by decide)))
  simpa using this

set_option maxHeartbeats 1000000 in
set_option maxRecDepth 100000 in
theorem writeString (b B1 : Nat) (bs : List Value) (s : ByteArray) (w : World) (h : Bld b B1 bs w) (hlen : bs.length + s.size ≤ 100000000) :
    Calls Tryz.prog 68 #[.pointer (some ⟨b, 0, none⟩), .string s] w fun e w' => e = .returned (.tuple #[.int .i64 s.size, .nilIface]) ∧ Bld b B1 (bs ++ Lib.strCells s) w' ∧ Apart b B1 w w' := by
  have hcc := Lib.hid (copyCheck b B1 bs w h)
  have hb1 := h.1
  clear h
  obtain ⟨i0, hi, hz0, hz1, hz2⟩ := info_parts Tryz.Builder_Extra_169.infoByte
  go_enter Tryz.func68, Tryz.ntmps68
  go_wp2_with (go_at_call 92; refine hcc.out.mono ?_)
  rintro e w1 ⟨rfl, ⟨v, hbk, hown⟩, hB, hA⟩
  have c0 : w1.cell? ⟨b, 0, none⟩ = some (.pointer (some ⟨b, 0, none⟩)) := by rw [Lib.cell_of_heap hbk]; rfl
  have c1 : w1.cell? ⟨b, 1, none⟩ = some v := by rw [Lib.cell_of_heap hbk]; rfl
  go_wp2_with (at_builtin; refine Lib.wpList_append_own_stringF _ rfl _ _ 120 9 rfl B1 5 i0 Tryz.underlying120 Tryz.underlying9 hi hz0 hz1 hz2 _ _ _ rfl hown s rfl ?c3 ?c4 ?c5 ?_)
  case c3 => unfold maxLen; omega
  case c4 => omega
  case c5 => omega
  intro v' w2 hown' hgrow _
  have hlt : b < w1.heap.size := by omega
  have hne : v.ownBlock ≠ some b := Lib.ownBlock_neF hown hbk (by decide)
  have hb2 : w2.heap[b]? = some (.cells #[.pointer (some ⟨b, 0, none⟩), v] 125 (0, 0)) := by
    rw [hgrow.block b hlt (fun e => hne e.symm)]
    exact hbk
  have d0 : w2.cell? ⟨b, 0, none⟩ = some (.pointer (some ⟨b, 0, none⟩)) := by rw [Lib.cell_of_heap hb2]; rfl
  have d1 : w2.cell? ⟨b, 1, none⟩ = some v := by rw [Lib.cell_of_heap hb2]; rfl
  have f1 : w2.frozen? ⟨b, 1, none⟩ = false := Lib.frozen_of_heap hb2 1
  obtain ⟨ao, n', cap, hv'⟩ : ∃ ao n' cap, v' = .slice ao n' cap := by
    rcases hown'.2 with ⟨hv, _⟩ | ⟨g, cap, cur, fz, hv, _⟩
    · exact ⟨_, _, _, hv⟩
    · exact ⟨_, _, _, hv⟩
  subst hv'
  have hA2 : Apart b B1 w1 w2 := Apart.grown hgrow hB (fun k hk => (hown.lt k hk).1)
  have hs2 := hA2.size
  go_wp2
  go_ret2
  refine ⟨rfl, ⟨hb1, by simp; omega, _, _, .inr rfl, heap_set1 hb2, ?_⟩, (hA.trans hA2).trans (Apart.set w2 1 _)⟩
  have := hown'.kept (grownSet w2 b 1 (.slice ao n' cap)) (.inr (Lib.ownBlock_neF hown' hb2 (by decide)))
  have e : (bs ++ Lib.strCells s).length = bs.length + s.size := by
    rw [List.length_append, Lib.strCells, List.length_map, ← Lib.size_eq]
  rw [e]
  exact this
theorem bstring (b B1 : Nat) (l : List UInt8) (w : World) (h : Bld b B1 (Lib.byteCells l) w) :
    Calls Tryz.prog 72 #[.pointer (some ⟨b, 0, none⟩)] w fun e w' => e = .returned (.string ⟨l.toArray⟩) ∧ Below b w w' := by
  obtain ⟨h1, h2, p, v, hp, hb, hown⟩ := h
  have hlow : w.ownsRowF b 5 1 v (Lib.byteCells l).length (Lib.byteCells l) := by
    refine ⟨hown.1, ?_⟩
    rcases hown.2 with hz | ⟨g, cap, cur, fz, hv, hg, hr⟩
    · exact .inl hz
    · exact .inr ⟨g, cap, cur, fz, hv, by omega, hr⟩
  have hat : Lib.BuilderAtF 125 5 b b p (Lib.byteCells l) w := ⟨Nat.le_refl _, v, hb, hlow, Lib.ownBlock_neF hown hb (by decide)⟩
  refine (Tryz.Builder_String_any_f b b l w ?_ (by omega)).mono (fun e w' h => ⟨h.1, h.2.2⟩)
  rcases hp with rfl | rfl
  · exact .inl hat
  · exact .inr hat

end Go.Proofs.YtghbaehbgefpaaaGreatDoor.Hand
namespace Go.Proofs.YtghbaehbgefpaaaGreatDoor.Hand
open Go.RowKit Go.Proofs.YtghbaehbgefpaaaGreatDoorW.PrintWords Go.Proofs.YtghbaehbgefpaaaGreatDoor.Fr
set_option linter.unusedVariables false
set_option linter.unusedSimpArgs false
/-! #### plain -/

/-! #### Quote -/
def hexD (n : Nat) : UInt8 := if n < 10 then UInt8.ofNat (48 + n) else UInt8.ofNat (55 + n)
def quoteB (c : UInt8) : List UInt8 := if plainI c.toNat = true then [c] else [37, hexD (c.toNat / 16), hexD (c.toNat % 16)]
def quoteV (s : ByteArray) : ByteArray := if s.size = 0 then ⟨#[37]⟩ else ⟨(s.data.toList.flatMap quoteB).toArray⟩
theorem apart_drewN (b B1 : Nat) (w : World) (n : Nat) : Apart b B1 w (w.drewN n) := ⟨rfl, rfl, rfl, Nat.le_refl _, fun _ _ _ => rfl⟩
theorem quote_ne {s : ByteArray} (e : ¬ s = ByteArray.empty) : quoteV s = ⟨(s.data.toList.flatMap quoteB).toArray⟩ := by
  unfold quoteV
  rw [if_neg]
  intro h
  apply e
  have h1 : s.data.toList = [] := List.eq_nil_of_length_eq_zero (by rw [← Lib.size_eq]; exact h)
  cases s with
  | mk d => rw [show d = #[] from Array.ext' h1]; rfl
theorem lit_at (m : Nat) (h : m < 16) : ((⟨#[48, 49, 50, 51, 52, 53, 54, 55, 56, 57, 65, 66, 67, 68, 69, 70]⟩ : ByteArray)[m]'(by show m < 16; exact h)) = hexD m := by
  have : ∀ m : Fin 16, ((⟨#[48, 49, 50, 51, 52, 53, 54, 55, 56, 57, 65, 66, 67, 68, 69, 70]⟩ : ByteArray)[m.1]'(by show m.1 < 16; exact m.2)) = hexD m.1 := by decide
  exact this ⟨m, h⟩
theorem quoteB_len (c : UInt8) : (quoteB c).length ≤ 3 := by
  unfold quoteB
  split <;> simp
theorem quote_len (l : List UInt8) : (l.flatMap quoteB).length ≤ 3 * l.length := by
  induction l with
  | nil => simp
  | cons c t ih =>
    have := quoteB_len c
    rw [List.flatMap_cons, List.length_append, List.length_cons]
    omega
set_option maxHeartbeats 2000000 in
set_option maxRecDepth 100000 in
theorem quote_walk (s : ByteArray) (hs : s.size ≤ 100000) (w : World) : Calls Tryz.prog 69 #[.string s] w fun e w' => e = .returned (.string (quoteV s)) ∧ Below w.heap.size w w' := by
  by_cases e : s = ByteArray.empty
  · subst e
    go_enter Tryz.func69, Tryz.ntmps69
    go_wp2
    go_ret
    exact ⟨rfl, Below.refl _ _⟩
  · have hemp : s.toList.isEmpty = false := by
      rw [Lib.toList_data]
      cases h : s.data.toList with
      | nil => exact absurd (by cases s with | mk d => rw [show d = #[] from Array.ext' h]; rfl) e
      | cons => rfl
    have hcv := fun (W : World) => Lib.run_convert_string_bytes (P := Tryz.prog) W 9 120 5 s Tryz.underlying9 Tryz.underlying120 Tryz.underlying5
    go_enter Tryz.func69, Tryz.ntmps69
    go_wp2
    clear hcv
    obtain ⟨w0, hw0⟩ : ∃ w0, Lib.bytesWorld (w.alloc (Obj.cells #[Value.pointer none, Value.slice none 0 0] 125)) 5 s = w0 := ⟨_, rfl⟩
    have hs0 : w0.heap.size = w.heap.size + 2 := by rw [← hw0, Lib.bytesWorld_size]; simp
    have hcell : Hid (∀ j, j < s.size → w0.cell? ⟨w.heap.size + 1, j, none⟩ = some (.int .u8 (s.data.toList.getD j 0).toNat)) := by
      intro j hj
      rw [← hw0]
      have := Lib.bytesWorld_cell (w.alloc (Obj.cells #[Value.pointer none, Value.slice none 0 0] 125)) 5 s j hj
      simpa using this
    have hB0 : Hid (Below w.heap.size w w0) := by
      rw [Hid, ← hw0]
      exact ((Below.refl _ _).alloc (Nat.le_refl _) _).trans ⟨rfl, rfl, rfl, by rw [Lib.bytesWorld_size]; omega, fun k hk => Lib.bytesWorld_at_old _ 5 s k (by simp; omega)⟩
    have hbl0 : Hid (Bld w.heap.size (w.heap.size + 2) [] w0) := by
      refine ⟨by omega, by rw [hs0]; omega, _, _, .inl rfl, ?_, World.ownsRowF_nil _ _ _ _⟩
      rw [← hw0, Lib.bytesWorld_at_old _ _ _ _ (by simp)]
      exact World.alloc_heap_new w _
    rw [hw0]
    clear hw0
    go_loopw [11] (fun i wr => ∃ (k : Nat), k ≤ s.size ∧ i = .int .i64 k ∧ Hid (Bld w.heap.size (w.heap.size + 2) (Lib.byteCells ((s.data.toList.take k).flatMap quoteB)) wr) ∧ Hid (Apart w.heap.size (w.heap.size + 2) w0 wr))
      (fun i _ => s.size - (intOf i).toNat)
    case atStart => exact ⟨0, Nat.zero_le _, rfl, hbl0, Apart.refl _ _ _⟩
    case round =>
      obtain ⟨k, hk, rfl, hbl, hA⟩ := hrel
      by_cases hlt : k < s.size
      · have hc : wr.cell? ⟨w.heap.size + 1, k, none⟩ = some (.int .u8 (s.data.toList.getD k 0).toNat) := (hA.out.cell (p := ⟨w.heap.size + 1, k, none⟩) (by show w.heap.size + 1 < _; omega) (by show w.heap.size + 1 ≠ _; omega)).trans (hcell.out k hlt)
        have hk' : k < s.data.toList.length := by simpa using hlt
        obtain ⟨c, hcc⟩ : ∃ c, Hid (s.data.toList.getD k 0 = c) := ⟨_, Lib.hid rfl⟩
        rw [hcc.out] at hc
        have hstep : Hid ((s.data.toList.take (k + 1)).flatMap quoteB = (s.data.toList.take k).flatMap quoteB ++ quoteB c) := by
          rw [Hid, List.take_succ_eq_append_getElem hk', List.flatMap_append, ← hcc.out]
          simp [List.getD_eq_getElem?_getD, List.getElem?_eq_getElem hk']
        have hcl := UInt8.toNat_lt c
        generalize hn : c.toNat = n at hc hcl
        cases hp : plainI (n : Int) with
        | true =>
          have hq : Hid (quoteB c = [c]) := by
            rw [Hid, quoteB, hn, hp]
            rfl
          have hlen : Hid ((Lib.byteCells ((s.data.toList.take k).flatMap quoteB)).length + 1 ≤ 100000000) := by
            have h1 := quote_len (s.data.toList.take k)
            have h2 : (s.data.toList.take k).length ≤ k := by rw [List.length_take]; exact Nat.min_le_left _ _
            rw [Hid, Lib.byteCells_length]
            omega
          go_wp2_with (first | (go_at_call 66; refine (plain_walk _ _).mono ?_; rintro e w1 ⟨rfl, ⟨nd, rfl⟩⟩; rw [hp]; have HW := Lib.hid (writeByte w.heap.size (w.heap.size + 2) _ (n : Int) (wr.drewN nd) hbl.out hlen.out)) | (go_at_call 93; refine HW.out.mono ?_; rintro e w2 ⟨rfl, hb2, hA2⟩; have HB2 := Lib.hid hb2; have HA2 := Lib.hid hA2; clear hb2 hA2))
          go_roundw
          case rel =>
            refine ⟨k + 1, by omega, by go_num, ?_, ?_⟩
            · rw [Hid, hstep.out, hq.out, Lib.byteCells_append]
              have := HB2.out
              rw [← hn] at this
              exact this
            · exact (hA.out.trans (apart_drewN _ _ wr nd)).trans HA2.out
          case measure => simp [intOf]; omega
        | false =>
          have hq : Hid (quoteB c = [37, hexD (n / 16), hexD (n % 16)]) := by
            rw [Hid, quoteB, hn, hp]
            rfl
          have hlen : Hid ((Lib.byteCells ((s.data.toList.take k).flatMap quoteB)).length + 3 ≤ 100000000) := by
            have h1 := quote_len (s.data.toList.take k)
            have h2 : (s.data.toList.take k).length ≤ k := by rw [List.length_take]; exact Nat.min_le_left _ _
            rw [Hid, Lib.byteCells_length]
            omega
          generalize hbs : Lib.byteCells ((s.data.toList.take k).flatMap quoteB) = bs at hbl hlen
          have HA0 := hA
          go_wp2_with (first | (go_at_call 66; refine (plain_walk _ _).mono ?_; rintro e w1 ⟨rfl, ⟨nd, rfl⟩⟩; rw [hp]; have HC : Hid (Bld w.heap.size (w.heap.size + 2) bs (wr.drewN nd)) := hbl; have HT : Hid (Apart w.heap.size (w.heap.size + 2) w0 (wr.drewN nd)) := hA.out.trans (apart_drewN _ _ wr nd)) | (go_at_call 93; refine (writeByte w.heap.size (w.heap.size + 2) _ _ _ HC.out (by have := hlen.out; (try simp only [List.length_append, List.length_singleton]); omega)).mono ?_; rintro e w2 ⟨rfl, hb2, hA2⟩; have HC' := Lib.hid hb2; have HT' := Lib.hid (HT.out.trans hA2); clear hb2 hA2 HC HT; have HC := HC'; have HT := HT'; clear HC' HT'))
          go_roundw
          case rel =>
            refine ⟨k + 1, by omega, by go_num, ?_, HT⟩
            rw [Hid, hstep.out, hq.out, Lib.byteCells_append, hbs]
            have h1 := lit_at (n / 16) (by omega)
            have h2 := lit_at (n % 16) (by omega)
            have := HC.out
            rw [h1, h2] at this
            simpa [Lib.byteCells] using this
          case measure => simp [intOf]; omega
      · have HS := Lib.hid (bstring w.heap.size (w.heap.size + 2) _ wr hbl.out)
        have hkk : k = s.size := by omega
        go_wp2_with (go_at_call 72; refine HS.out.mono ?_; rintro e w2 ⟨rfl, hb2⟩)
        go_ret
        refine ⟨?_, hB0.out.trans ((hA.out.below (by omega)).trans hb2)⟩
        rw [quote_ne e]
        have ht : s.data.toList.take s.size = s.data.toList := List.take_of_length_le (by rw [← Lib.size_eq]; exact Nat.le_refl _)
        show _ = Ending.returned (.string ⟨(s.data.toList.flatMap quoteB).toArray⟩)
        have hx : (⟨(s.data.toList.flatMap quoteB).toArray⟩ : ByteArray) = ⟨((s.data.toList.take s.size).flatMap quoteB).toArray⟩ := by rw [ht]
        rw [hx]
        rfl
end Go.Proofs.YtghbaehbgefpaaaGreatDoor.Hand
/- strconv.ParseUint(s, 16, 8) of two bytes. -/
namespace Go.Proofs.YtghbaehbgefpaaaGreatDoor.Hand
open Go.Sort Go.RowKit Go.Proofs.YtghbaehbgefpaaaGreatDoorW.PrintWords
set_option linter.unusedVariables false
set_option linter.unusedSimpArgs false
theorem cell_lt' {w : World} {p : Addr} {v : Value} (h : w.cell? p = some v) : p.block < w.heap.size := World.block_lt_of_cell? w _ h
theorem ba_ext {a b : ByteArray} (h : a.data.toList = b.data.toList) : a = b := by
  cases a with
  | mk x =>
    cases b with
    | mk y => rw [show x = y from Array.ext' h]
theorem ext_take (v : ByteArray) (k : Nat) : (⟨(v.data.toList.take k).toArray⟩ : ByteArray) = v.extract 0 k := by
  apply ba_ext
  simp [ByteArray.data_extract]
theorem ext_drop (v : ByteArray) (k : Nat) : (⟨(v.data.toList.drop k).toArray⟩ : ByteArray) = v.extract k v.size := by
  apply ba_ext
  rw [ByteArray.data_extract, Array.toList_extract, List.extract_eq_take_drop, List.take_of_length_le]
  rw [List.length_drop, ← Lib.size_eq]
  exact Nat.le_refl _
theorem ba_ne {u : ByteArray} (e : u ≠ ByteArray.empty) : u.data.toList ≠ [] := by
  intro h
  apply e
  cases u with
  | mk d =>
    have : d = #[] := Array.ext' h
    rw [this]
    rfl
theorem ba_isEmpty {u : ByteArray} (e : u ≠ ByteArray.empty) : u.toList.isEmpty = false := by
  rw [ByteArray.toList_eq]
  cases h : u.data.toList with
  | nil => exact absurd h (ba_ne e)
  | cons => rfl
theorem grown_of_below {W W' : World} (h : Below W.heap.size W W') : W.grownBy W' none := ⟨h.os, h.tape, h.output, h.size, fun k hk _ => h.block k hk⟩
theorem belowD (w : World) (n : Nat) : Below w.heap.size w (w.drewN n) := ⟨rfl, rfl, rfl, Nat.le_refl _, fun _ _ => rfl⟩
theorem bytes_below (w : World) (s : ByteArray) : Below w.heap.size w (Lib.bytesWorld w 5 s) := ⟨rfl, rfl, rfl, by rw [Lib.bytesWorld_size]; omega, fun k hk => Lib.bytesWorld_at_old w 5 s k hk⟩
set_option maxHeartbeats 4000000 in
set_option maxRecDepth 100000 in
theorem parse16_ok (s : ByteArray) (h2 : s.size = 2) (n : Nat) (h : hexG 0 s.data.toList = some n) (w : World) :
    Calls Tryz.prog 161 #[.string s, .int .i64 16, .int .i64 8] w fun e w' => e = .returned (.tuple #[.int .u64 n, .nilIface]) ∧ Below w.heap.size w w' := by
  have hI := parse16_in s h2 w
  rw [h] at hI
  have hI : Hid (Calls Tryz.prog 170 #[.string s, .int .i64 16, .int .i64 8] w fun e w' => e = .returned (.tuple #[.int .u64 n, .nilIface]) ∧ w' = Lib.bytesWorld w 5 s) := hI
  clear h h2
  go_enter Tryz.func161, Tryz.ntmps161
  go_wp2_with (go_at_call 170; refine hI.out.mono ?_; rintro e W1 ⟨rfl, hW⟩)
  go_wp2
  go_ret2
  exact ⟨rfl, hW ▸ bytes_below w s⟩
set_option maxHeartbeats 4000000 in
set_option maxRecDepth 100000 in
theorem parse16_bad (s : ByteArray) (h2 : s.size = 2) (h : hexG 0 s.data.toList = none) (tp : TypeId) (pv : Value) (w : World) (hv : w.cell? ⟨6, 0, none⟩ = some (.iface tp pv)) :
    Calls Tryz.prog 161 #[.string s, .int .i64 16, .int .i64 8] w fun e w' => ∃ N : Nat, e = .returned (.tuple #[.int .u64 0, .iface 223 (.pointer (some ⟨N, 0, none⟩))]) ∧ Below w.heap.size w w' := by
  have hI := parse16_in s h2 w
  rw [h] at hI
  have hI : Hid (Calls Tryz.prog 170 #[.string s, .int .i64 16, .int .i64 8] w fun e w' => e = .returned (.tuple #[.int .u64 0, .iface 221 (.int .i64 2)]) ∧ w' = Lib.bytesWorld w 5 s) := hI
  have hs : s.size ≤ 281474976710656 := by omega
  have hG : (6 : Nat) < w.heap.size := cell_lt' hv
  have hb1 := bytes_below w s
  have hv1 : (Lib.bytesWorld w 5 s).cell? ⟨6, 0, none⟩ = some (.iface tp pv) := (hb1.cell (p := ⟨6, 0, none⟩) hG).trans hv
  clear h h2 hv
  have hv1 := Lib.hid hv1
  have hb1 := Lib.hid hb1
  go_enter Tryz.func161, Tryz.ntmps161
  go_wp2_with (go_at_call 170; refine hI.out.mono ?_)
  rintro e W1 ⟨rfl, hW⟩
  have hv2 : W1.cell? ⟨6, 0, none⟩ = some (.iface tp pv) := by rw [hW]; exact hv1.out
  have hb2 : Below w.heap.size w W1 := by rw [hW]; exact hb1.out
  clear hW
  go_wp2_with (go_at_call 171; refine (Tryz.strconv_toError_syntax ⟨#[80, 97, 114, 115, 101, 85, 105, 110, 116]⟩ s 16 8 (.iface tp pv) _ hs hv2 (.inr ⟨_, _, rfl⟩)).mono ?_; rintro e W2 ⟨N, rfl, h1, h2, h3⟩)
  go_wp2
  go_ret2
  exact ⟨N, rfl, hb2.trans (h3.mono hb2.size)⟩

end Go.Proofs.YtghbaehbgefpaaaGreatDoor.Hand
/- What a quoted word stands for, plain. -/
namespace Go.Proofs.YtghbaehbgefpaaaGreatDoor.Hand
open Go.RowKit
set_option linter.unusedVariables false
set_option linter.unusedSimpArgs false
theorem index_one (c : UInt8) : ∀ l : List UInt8, (Lib.index l [c] = -1 ∧ c ∉ l) ∨ ∃ j : Nat, Lib.index l [c] = j ∧ j < l.length ∧ c ∉ l.take j ∧ l = l.take j ++ c :: l.drop (j + 1) := by
  intro l
  induction l with
  | nil => exact .inl ⟨by simp [Lib.index], by simp⟩
  | cons b t ih =>
    by_cases h : b = c
    · subst h
      exact .inr ⟨0, by rw [Lib.index]; simp [List.isPrefixOf], by simp, by simp, by simp⟩
    · have hp : ([c] : List UInt8).isPrefixOf (b :: t) = false := by simp [List.isPrefixOf, Ne.symm h]
      have hix : Lib.index (b :: t) [c] = if Lib.index t [c] == -1 then -1 else Lib.index t [c] + 1 := by rw [Lib.index, hp]; simp
      rcases ih with ⟨h1, h2⟩ | ⟨j, h1, h2, h3, h4⟩
      · exact .inl ⟨by rw [hix, h1]; rfl, by simp [h2, Ne.symm h]⟩
      · refine .inr ⟨j + 1, ?_, by simp; omega, ?_, ?_⟩
        · rw [hix, h1, if_neg (by simp)]
          omega
        · rw [List.take_succ_cons]
          simp [h3, Ne.symm h]
        · rw [List.take_succ_cons, List.drop_succ_cons, List.cons_append, ← h4]
theorem cut_one (c : UInt8) (l : List UInt8) : c ∉ (Lib.cut l [c]).1 ∧ (((Lib.cut l [c]).2.2 = true ∧ l = (Lib.cut l [c]).1 ++ c :: (Lib.cut l [c]).2.1) ∨ ((Lib.cut l [c]).2.2 = false ∧ l = (Lib.cut l [c]).1)) := by
  rcases index_one c l with ⟨h1, h2⟩ | ⟨j, h1, h2, h3, h4⟩
  · unfold Lib.cut
    rw [if_neg (by omega)]
    exact ⟨h2, .inr ⟨rfl, rfl⟩⟩
  · unfold Lib.cut
    rw [if_pos (by omega), h1]
    exact ⟨h3, .inl ⟨rfl, h4⟩⟩
def decG : List UInt8 → Option (List UInt8)
  | [] => some []
  | c :: t => if c = 37 then
      match t with
      | x :: y :: r => match hexG 0 [x, y] with
        | some v => (decG r).map (UInt8.ofNat v :: ·)
        | none => none
      | _ => none
    else (decG t).map (c :: ·)
termination_by l => l.length
decreasing_by all_goals simp <;> omega
theorem decG_nil : decG [] = some [] := by rw [decG.eq_def]
theorem decG_plain (c : UInt8) (t : List UInt8) (h : c ≠ 37) : decG (c :: t) = (decG t).map (c :: ·) := by rw [decG.eq_def]; exact if_neg h
theorem decG_pct (x y : UInt8) (r : List UInt8) : decG (37 :: x :: y :: r) = match hexG 0 [x, y] with
        | some v => (decG r).map (UInt8.ofNat v :: ·)
        | none => none := by rw [decG.eq_def]; exact if_pos rfl
theorem decG_short (t : List UInt8) (h : t.length < 2) : decG (37 :: t) = none := by
  rw [decG.eq_def]
  refine (if_pos rfl).trans ?_
  match t, h with
  | [], _ => rfl
  | [_], _ => rfl
  | _ :: _ :: _, h => simp at h; omega
theorem decG_app (r : List UInt8) : ∀ a : List UInt8, 37 ∉ a → decG (a ++ r) = (decG r).map (a ++ ·) := by
  intro a
  induction a with
  | nil => intro _; simp
  | cons c t ih =>
    intro h
    rw [List.mem_cons, not_or] at h
    rw [List.cons_append, decG_plain c _ (fun e => h.1 e.symm), ih h.2, Option.map_map]
    rfl
theorem hexv_le {c : UInt8} {d : Nat} (h : hexv c = some d) : d ≤ 15 := by
  unfold hexv at h
  split at h
  · injection h with h; omega
  · split at h
    · injection h with h; omega
    · cases h
theorem hexG2_le {x y : UInt8} {v : Nat} (h : hexG 0 [x, y] = some v) : v ≤ 255 := by
  simp only [hexG] at h
  cases hx : hexv x with
  | none => rw [hx] at h; cases h
  | some a =>
    rw [hx] at h
    simp only at h
    cases hy : hexv y with
    | none => rw [hy] at h; cases h
    | some b =>
      rw [hy] at h
      simp only at h
      injection h with h
      have := hexv_le hx
      have := hexv_le hy
      omega
def unqO (s : ByteArray) : Option (List UInt8) → Option ByteArray
  | some t => if t ≠ [] ∧ quoteV ⟨t.toArray⟩ = s then some ⟨t.toArray⟩ else none
  | none => none
def unqV (s : ByteArray) : Option ByteArray := if s.data.toList = [37] then some ⟨#[]⟩ else unqO s (decG s.data.toList)
def unqP : Option ByteArray → ByteArray × Int
  | some t => (t, 0)
  | none => (⟨#[]⟩, 2)
theorem unqV_of {s : ByteArray} {o : Option (List UInt8)} (h : s.data.toList ≠ [37]) (hd : decG s.data.toList = o) : unqV s = unqO s o := by
  unfold unqV
  rw [if_neg h, hd]
end Go.Proofs.YtghbaehbgefpaaaGreatDoor.Hand
/- text.Unquote. -/
namespace Go.Proofs.YtghbaehbgefpaaaGreatDoor.Hand
open Go.RowKit Go.Proofs.YtghbaehbgefpaaaGreatDoorW.PrintWords
set_option linter.unusedVariables false
set_option linter.unusedSimpArgs false
def uOut (p : ByteArray × Int) : Value := .tuple #[.string p.1, .int .i64 p.2]
theorem bld_below {b B1 : Nat} {bs : List Value} {w w' : World} (h : Bld b B1 bs w) (hb : Below w.heap.size w w') : Bld b B1 bs w' := by
  obtain ⟨h1, h2, p, v, hp, hc, hr⟩ := h
  refine ⟨h1, Nat.le_trans h2 hb.size, p, v, hp, (hb.block b (by omega)).trans hc, hr.kept (grown_of_below hb) ?_⟩
  cases v.ownBlock with
  | none => exact .inl rfl
  | some k => exact .inr (by simp)
theorem apart_of_below {b B1 : Nat} {w w' : World} (hb : Below w.heap.size w w') (h : B1 ≤ w.heap.size) : Apart b B1 w w' := ⟨hb.os, hb.tape, hb.output, hb.size, fun k hk _ => hb.block k (by omega)⟩
def sizeOf' (v : Value) : Nat := match v with
  | .string s => s.size
  | _ => 0
set_option maxHeartbeats 8000000 in
set_option maxRecDepth 100000 in
theorem unquote_walk (s : ByteArray) (hs : s.size ≤ 100000) (m : Int) (w : World) (hw : 7 < w.heap.size) (hm : w.cell? ⟨0, 0, none⟩ = some (.int .i64 m))
    (t0 : TypeId) (p0 : Value) (h0 : w.cell? ⟨6, 0, none⟩ = some (.iface t0 p0)) :
    Calls Tryz.prog 136 #[.string s] w fun e w' => e = .returned (uOut (unqP (unqV s))) ∧ Below w.heap.size w w' := by
  have HM := Lib.hid hm
  have H0 := Lib.hid h0
  clear hm h0
  by_cases e : s.data.toList = [37]
  · have e' : s = ⟨#[37]⟩ := ba_ext e
    subst e'
    clear e
    go_enter Tryz.func136, Tryz.ntmps136
    go_wp2
    go_ret2
    exact ⟨rfl, Below.refl _ _⟩
  · have hne : (s.toList == [37]) = false := by
      rw [ByteArray.toList_eq]
      simpa using e
    have HV : ∀ o, decG s.data.toList = o → unqV s = unqO s o := fun o h => unqV_of e h
    have HV := Lib.hid HV
    clear e
    go_enter Tryz.func136, Tryz.ntmps136
    go_wp2
    obtain ⟨w0, hw0⟩ : ∃ w0, w.alloc (Obj.cells #[Value.pointer none, Value.slice none 0 0] 125) = w0 := ⟨_, rfl⟩
    have hs0 : w0.heap.size = w.heap.size + 1 := by rw [← hw0]; simp
    have hB0 : Hid (Below w.heap.size w w0) := by
      rw [Hid, ← hw0]
      exact (Below.refl _ _).alloc (Nat.le_refl _) _
    have hbl0 : Hid (Bld w.heap.size (w.heap.size + 1) [] w0) := by
      refine ⟨by omega, by rw [hs0]; omega, _, _, .inl rfl, ?_, World.ownsRowF_nil _ _ _ _⟩
      rw [← hw0]
      exact World.alloc_heap_new w _
    have hm0 : Hid (w0.cell? ⟨0, 0, none⟩ = some (.int .i64 m)) := (hB0.out.cell (p := ⟨0, 0, none⟩) (by show 0 < _; omega)).trans HM.out
    have he0 : Hid (w0.cell? ⟨6, 0, none⟩ = some (.iface t0 p0)) := (hB0.out.cell (p := ⟨6, 0, none⟩) (cell_lt' H0.out)).trans H0.out
    rw [hw0]
    clear hw0
    go_loopw [5] (fun r wr => ∃ (acc : List UInt8) (u : ByteArray), r = .string u ∧ acc.length + u.size ≤ s.size ∧ Hid (decG s.data.toList = (decG u.data.toList).map (acc ++ ·)) ∧ Hid (Bld w.heap.size (w.heap.size + 1) (Lib.byteCells acc) wr) ∧ Hid (Apart w.heap.size (w.heap.size + 1) w0 wr))
      (fun r _ => sizeOf' r)
    case atStart => exact ⟨[], s, rfl, by simp, by simp [Hid], hbl0, Apart.refl _ _ _⟩
    case round =>
      obtain ⟨acc, u, rfl, hsz, hdec, hbl, hA⟩ := hrel
      by_cases e : u = ByteArray.empty
      · subst e
        have hfin : Hid (decG s.data.toList = some acc) := by
          rw [Hid, hdec.out, show (ByteArray.empty.data.toList : List UInt8) = [] from rfl, decG_nil]
          simp
        have HS := Lib.hid (bstring w.heap.size (w.heap.size + 1) acc wr hbl.out)
        have HT := Lib.hid ((hB0.out.trans (hA.out.below (by omega))))
        by_cases ha : acc = []
        · have HX : Hid (unqV s = none) := by rw [Hid, HV.out _ hfin.out, unqO, if_neg (fun h => h.1 ha)]
          rw [ha] at HS
          clear ha
          go_wp2_with (go_at_call 72; refine HS.out.mono ?_; rintro e W5 ⟨rfl, hb5⟩; have HB5 := Lib.hid (HT.out.trans hb5); clear hb5)
          go_ret2
          exact ⟨by rw [HX.out]; rfl, HB5.out⟩
        · obtain ⟨t, ht⟩ : ∃ t : ByteArray, Hid ((⟨(acc).toArray⟩ : ByteArray) = t) := ⟨_, Lib.hid rfl⟩
          have hdat : t.data.toList = acc := by rw [← ht.out]
          have hte : t.toList.isEmpty = false := by
            rw [ByteArray.toList_eq, hdat]
            simpa using ha
          have hts : t.size ≤ 100000 := by
            have h1 : t.data.toList.length = t.size := by rw [Array.length_toList]; rfl
            rw [hdat] at h1
            omega
          rw [ht.out] at HS
          by_cases hq : quoteV t = s
          · have HX : Hid (unqV s = some t) := by rw [Hid, HV.out _ hfin.out, unqO, ht.out, if_pos ⟨ha, hq⟩]
            have hqe : ((quoteV t).toList == s.toList) = true := by rw [hq]; simp
            clear hq ha hdat
            go_wp2_with (first | (go_at_call 72; refine HS.out.mono ?_; rintro e W5 ⟨rfl, hb5⟩; have HB5 := Lib.hid (HT.out.trans hb5); clear hb5) | (go_at_call 69; refine (quote_walk t hts _).mono ?_; rintro e W6 ⟨rfl, hb6⟩; have HB6 := Lib.hid (HB5.out.trans (hb6.mono HB5.out.size)); clear hb6))
            go_ret2
            exact ⟨by rw [HX.out]; rfl, HB6.out⟩
          · have HX : Hid (unqV s = none) := by rw [Hid, HV.out _ hfin.out, unqO, ht.out, if_neg (fun h => hq h.2)]
            have hqe : ((quoteV t).toList == s.toList) = false := by
              rw [ByteArray.toList_eq, ByteArray.toList_eq, beq_eq_false_iff_ne]
              exact fun h => hq (ba_ext h)
            clear hq ha hdat
            go_wp2_with (first | (go_at_call 72; refine HS.out.mono ?_; rintro e W5 ⟨rfl, hb5⟩; have HB5 := Lib.hid (HT.out.trans hb5); clear hb5) | (go_at_call 69; refine (quote_walk t hts _).mono ?_; rintro e W6 ⟨rfl, hb6⟩; have HB6 := Lib.hid (HB5.out.trans (hb6.mono HB5.out.size)); clear hb6))
            go_ret2
            exact ⟨by rw [HX.out]; rfl, HB6.out⟩
      · have hune : u.toList.isEmpty = false := ba_isEmpty e
        have hu0 : u.data.toList.length = u.size := by rw [Array.length_toList]; rfl
        clear e
        have hmu : wr.cell? ⟨0, 0, none⟩ = some (.int .i64 m) := (hA.out.cell (p := ⟨0, 0, none⟩) (by show 0 < _; omega) (by show 0 ≠ _; omega)).trans hm0.out
        have hcut := Lib.hid (Tryz.strings_Cut u ⟨#[37]⟩ m wr (by omega) hmu)
        clear hmu
        have hspec := cut_one 37 u.data.toList
        rw [show ((⟨#[37]⟩ : ByteArray).data.toList) = [37] from rfl] at hcut
        obtain ⟨ah, hah⟩ : ∃ ah : ByteArray, (⟨(Lib.cut u.data.toList [37]).1.toArray⟩ : ByteArray) = ah := ⟨_, rfl⟩
        obtain ⟨v, hv⟩ : ∃ v : ByteArray, (⟨(Lib.cut u.data.toList [37]).2.1.toArray⟩ : ByteArray) = v := ⟨_, rfl⟩
        have hahd : (Lib.cut u.data.toList [37]).1 = ah.data.toList := by rw [← hah]
        have hvd : (Lib.cut u.data.toList [37]).2.1 = v.data.toList := by rw [← hv]
        have hal : ah.data.toList.length = ah.size := by rw [Array.length_toList]; rfl
        have hvl : v.data.toList.length = v.size := by rw [Array.length_toList]; rfl
        rw [hah, hv] at hcut
        rw [hahd, hvd] at hspec
        clear hah hv hahd hvd
        obtain ⟨hno, hspec⟩ := hspec
        rcases hspec with ⟨hf, hu⟩ | ⟨hf, hu⟩
        · rw [hf] at hcut
          have hlen : ah.size + 1 + v.size = u.size := by
            rw [← hu0, ← hal, ← hvl, hu, List.length_append, List.length_cons]
            omega
          have hd2 : Hid (decG s.data.toList = (decG (37 :: v.data.toList)).map ((acc ++ ah.data.toList) ++ ·)) := by
            rw [Hid, hdec.out, hu, decG_app _ _ hno, Option.map_map]
            congr 1
            funext x
            simp
          have hwl : Hid ((Lib.byteCells acc).length + ah.size ≤ 100000000) := by
            rw [Hid, Lib.byteCells_length]
            omega
          clear hf hu hno hu0 hal hdec
          have hvl := Lib.hid hvl
          go_wp2_with (first | (go_at_call 134; refine hcut.out.mono ?_; rintro e W1 ⟨rfl, nd, rfl⟩) | (go_at_call 68; refine (writeString w.heap.size (w.heap.size + 1) _ ah _ (show Bld w.heap.size (w.heap.size + 1) (Lib.byteCells acc) (wr.drewN nd) from hbl.out) hwl.out).mono ?_))
          rintro e W2 ⟨rfl, hb2, hA2⟩
          have HL2 : Hid (Bld w.heap.size (w.heap.size + 1) (Lib.byteCells (acc ++ ah.data.toList)) W2) := by
            rw [Hid, Lib.byteCells_append]
            exact hb2
          have HA2 := Lib.hid ((hA.out.trans (apart_drewN _ _ wr nd)).trans hA2)
          clear hb2 hA2
          have HT2 := Lib.hid ((hB0.out.trans (HA2.out.below (by omega))))
          by_cases h2 : v.size < 2
          · have HX : Hid (unqV s = none) := by
              rw [Hid, HV.out none ?_]
              · rfl
              · rw [hd2.out, decG_short _ (by have := hvl.out; omega)]
                rfl
            go_wp2
            go_ret2
            exact ⟨by rw [HX.out]; rfl, HT2.out⟩
          · obtain ⟨x, y, r, hxy⟩ : ∃ x y r, v.data.toList = x :: y :: r := by
              have h3 := hvl.out
              match hm : v.data.toList with
              | [] => rw [hm] at h3; simp at h3; omega
              | [_] => rw [hm] at h3; simp at h3; omega
              | x :: y :: r => exact ⟨x, y, r, rfl⟩
            have hpd : (v.extract 0 2).data.toList = [x, y] := by
              rw [← ext_take]
              show (v.data.toList.take 2) = _
              rw [hxy]
              rfl
            have hps : (v.extract 0 2).size = 2 := by rw [ByteArray.size_extract]; omega
            have hrd : (v.extract 2 v.size).data.toList = r := by
              rw [← ext_drop]
              show (v.data.toList.drop 2) = _
              rw [hxy]
              rfl
            have hrs : (v.extract 2 v.size).size = v.size - 2 := by rw [ByteArray.size_extract]; omega
            have he2 : Hid (W2.cell? ⟨6, 0, none⟩ = some (.iface t0 p0)) := (HA2.out.cell (p := ⟨6, 0, none⟩) (by show 6 < _; omega) (by show 6 ≠ _; omega)).trans he0.out
            rw [hxy, decG_pct] at hd2
            cases hh : hexG 0 [x, y] with
            | none =>
              have HP := Lib.hid (parse16_bad (v.extract 0 2) hps (by rw [hpd, hh]) t0 p0 W2 he2.out)
              rw [hh] at hd2
              have HX : Hid (unqV s = none) := by
                rw [Hid, HV.out none ?_]
                · rfl
                · rw [hd2.out]
                  rfl
              clear hh hpd hps hrd hrs hxy
              go_wp2_with (go_at_call 161; refine HP.out.mono ?_; rintro e W3 ⟨N, rfl, hb3⟩; have HB3 := Lib.hid (HT2.out.trans (hb3.mono HT2.out.size)); clear hb3)
              go_ret2
              exact ⟨by rw [HX.out]; rfl, HB3.out⟩
            | some d =>
              have hd255 := hexG2_le hh
              have HP := Lib.hid (parse16_ok (v.extract 0 2) hps d (by rw [hpd, hh]) W2)
              rw [hh] at hd2
              have hn8 : (UInt8.ofNat d).toNat = d := by simp [UInt8.toNat_ofNat']; omega
              have hd3 : Hid (decG s.data.toList = (decG (v.extract 2 v.size).data.toList).map (((acc ++ ah.data.toList) ++ [UInt8.ofNat d]) ++ ·)) := by
                rw [Hid, hd2.out, hrd]
                show Option.map _ (Option.map _ (decG r)) = _
                rw [Option.map_map]
                congr 1
                funext x
                simp
              obtain ⟨dI, hdI⟩ : ∃ dI : Int, dI = (d : Int) := ⟨_, rfl⟩
              have hdI0 : 0 ≤ dI := by omega
              have hdI1 : dI ≤ 255 := by omega
              rw [← hdI] at HP
              have HDI := Lib.hid hdI
              have HN8 := Lib.hid hn8
              have hrs := Lib.hid hrs
              have hvl2 := Lib.hid hvl
              have hwl2 : Hid ((Lib.byteCells (acc ++ ah.data.toList)).length + 1 ≤ 100000000) := by
                have hal2 : ah.data.toList.length = ah.size := by rw [Array.length_toList]; rfl
                rw [Hid, Lib.byteCells_length, List.length_append, hal2]
                omega
              clear hh hpd hps hrd hxy hd255 hn8 hdI hd2
              go_wp2_with (go_at_call 161; refine HP.out.mono ?_)
              rintro e W3 ⟨rfl, hb3⟩
              have HL3 := Lib.hid (bld_below HL2.out hb3)
              have HA3 := Lib.hid (HA2.out.trans (apart_of_below hb3 HL2.out.2.1))
              clear hb3
              go_wp2_with (go_at_call 93; refine (writeByte w.heap.size (w.heap.size + 1) _ dI _ HL3.out hwl2.out).mono ?_)
              rintro e W4 ⟨rfl, hb4, hA4⟩
              have HL4 := Lib.hid hb4
              have HA4 := Lib.hid (HA3.out.trans hA4)
              clear hb4 hA4
              go_wp2
              go_roundw
              case rel =>
                refine ⟨(acc ++ ah.data.toList) ++ [UInt8.ofNat d], v.extract 2 v.size, rfl, ?_, hd3, ?_, HA4⟩
                · have hal2 : ah.data.toList.length = ah.size := by rw [Array.length_toList]; rfl
                  rw [List.length_append, List.length_append, hal2, hrs.out]
                  simp only [List.length_cons, List.length_nil]
                  omega
                · have h5 := HL4.out
                  rw [HDI.out] at h5
                  rw [Hid, Lib.byteCells_append]
                  simpa [Lib.byteCells, HN8.out] using h5
              case measure =>
                have h6 := hrs.out
                simp [sizeOf']
                omega
        · rw [hf] at hcut
          have hul : ah.size = u.size := by
            rw [← hu0, ← hal, hu]
          have hfin : Hid (decG s.data.toList = some (acc ++ ah.data.toList)) := by
            have h1 := decG_app [] ah.data.toList hno
            rw [List.append_nil, decG_nil] at h1
            rw [Hid, hdec.out, hu, h1]
            simp
          have hwl : Hid ((Lib.byteCells acc).length + ah.size ≤ 100000000) := by
            rw [Hid, Lib.byteCells_length]
            omega
          clear hf hu hno hu0 hdec hvl
          have hal := Lib.hid hal
          go_wp2_with (first | (go_at_call 134; refine hcut.out.mono ?_; rintro e W1 ⟨rfl, nd, rfl⟩) | (go_at_call 68; refine (writeString w.heap.size (w.heap.size + 1) _ ah _ (show Bld w.heap.size (w.heap.size + 1) (Lib.byteCells acc) (wr.drewN nd) from hbl.out) hwl.out).mono ?_))
          rintro e W2 ⟨rfl, hb2, hA2⟩
          have HL2 : Hid (Bld w.heap.size (w.heap.size + 1) (Lib.byteCells (acc ++ ah.data.toList)) W2) := by
            rw [Hid, Lib.byteCells_append]
            exact hb2
          have HA2 := Lib.hid ((hA.out.trans (apart_drewN _ _ wr nd)).trans hA2)
          clear hb2 hA2
          have HS := Lib.hid (bstring w.heap.size (w.heap.size + 1) (acc ++ ah.data.toList) W2 HL2.out)
          have HT := Lib.hid ((hB0.out.trans (HA2.out.below (by omega))))
          by_cases ha : (acc ++ ah.data.toList) = []
          · have HX : Hid (unqV s = none) := by rw [Hid, HV.out _ hfin.out, unqO, if_neg (fun h => h.1 ha)]
            rw [ha] at HS
            clear ha
            go_wp2_with (go_at_call 72; refine HS.out.mono ?_; rintro e W5 ⟨rfl, hb5⟩; have HB5 := Lib.hid (HT.out.trans hb5); clear hb5)
            go_ret2
            exact ⟨by rw [HX.out]; rfl, HB5.out⟩
          · obtain ⟨t, ht⟩ : ∃ t : ByteArray, Hid ((⟨((acc ++ ah.data.toList)).toArray⟩ : ByteArray) = t) := ⟨_, Lib.hid rfl⟩
            have hdat : t.data.toList = (acc ++ ah.data.toList) := by rw [← ht.out]
            have hte : t.toList.isEmpty = false := by
              rw [ByteArray.toList_eq, hdat]
              simpa using ha
            have hts : t.size ≤ 100000 := by
              have h1 : t.data.toList.length = t.size := by rw [Array.length_toList]; rfl
              rw [hdat] at h1
              rw [List.length_append, hal.out] at h1
              omega
            rw [ht.out] at HS
            by_cases hq : quoteV t = s
            · have HX : Hid (unqV s = some t) := by rw [Hid, HV.out _ hfin.out, unqO, ht.out, if_pos ⟨ha, hq⟩]
              have hqe : ((quoteV t).toList == s.toList) = true := by rw [hq]; simp
              clear hq ha hdat
              go_wp2_with (first | (go_at_call 72; refine HS.out.mono ?_; rintro e W5 ⟨rfl, hb5⟩; have HB5 := Lib.hid (HT.out.trans hb5); clear hb5) | (go_at_call 69; refine (quote_walk t hts _).mono ?_; rintro e W6 ⟨rfl, hb6⟩; have HB6 := Lib.hid (HB5.out.trans (hb6.mono HB5.out.size)); clear hb6))
              go_ret2
              exact ⟨by rw [HX.out]; rfl, HB6.out⟩
            · have HX : Hid (unqV s = none) := by rw [Hid, HV.out _ hfin.out, unqO, ht.out, if_neg (fun h => hq h.2)]
              have hqe : ((quoteV t).toList == s.toList) = false := by
                rw [ByteArray.toList_eq, ByteArray.toList_eq, beq_eq_false_iff_ne]
                exact fun h => hq (ba_ext h)
              clear hq ha hdat
              go_wp2_with (first | (go_at_call 72; refine HS.out.mono ?_; rintro e W5 ⟨rfl, hb5⟩; have HB5 := Lib.hid (HT.out.trans hb5); clear hb5) | (go_at_call 69; refine (quote_walk t hts _).mono ?_; rintro e W6 ⟨rfl, hb6⟩; have HB6 := Lib.hid (HB5.out.trans (hb6.mono HB5.out.size)); clear hb6))
              go_ret2
              exact ⟨by rw [HX.out]; rfl, HB6.out⟩
end Go.Proofs.YtghbaehbgefpaaaGreatDoor.Hand
/- What the library's variables hold, for the walks of text and line. -/
namespace Go.Proofs.YtghbaehbgefpaaaGreatDoor.Hand2
open Go.RowKit Go.Proofs.YtghbaehbgefpaaaGreatDoorW.PrintWords
set_option linter.unusedVariables false
/-- bytealg.MaxLen, the error of a bad digit, a row of bits' table. -/
structure Glob (w : World) : Prop where
  g : Fr.Glob w
  e0 : ∃ t p, w.cell? ⟨6, 0, none⟩ = some (.iface t p)
  bru : w.cell? ⟨5, 15, none⟩ = some (.int .u8 4)
  big : 7 < w.heap.size
theorem Glob.below {w w' : World} (h : Glob w) (hb : Below w.heap.size w w') : Glob w' where
  g := h.g.below hb
  e0 := by obtain ⟨t, p, e⟩ := h.e0; exact ⟨t, p, (hb.cell (p := ⟨6, 0, none⟩) (Hand.cell_lt' e)).trans e⟩
  bru := (hb.cell (p := ⟨5, 15, none⟩) (Hand.cell_lt' h.bru)).trans h.bru
  big := Nat.lt_of_lt_of_le h.big hb.size
theorem Glob.cell {w : World} (h : Glob w) : ∃ m, w.cell? ⟨0, 0, none⟩ = some (.int .i64 m) := h.g.cell
def text_Unquote.f (a0 : ByteArray) : Option (ByteArray × Int) := if a0.size ≤ 100000 then some (Hand.unqP (Hand.unqV a0)) else none
theorem text_Unquote.calls (a0 : ByteArray) (r1 : ByteArray) (r2 : Int) (w : World) (hG : Glob w) (h : text_Unquote.f a0 = some (r1, r2)) :
    Calls Tryz.prog 136 #[.string a0] w fun e w' => e = .returned (.tuple #[.string r1, .int .i64 r2]) ∧ Below w.heap.size w w' := by
  unfold text_Unquote.f at h
  split at h
  next hs =>
    injection h with h
    obtain ⟨t0, p0, e0⟩ := hG.e0
    obtain ⟨m, hm⟩ := hG.g.cell
    have := Hand.unquote_walk a0 hs m w hG.big hm t0 p0 e0
    rw [h] at this
    exact this
  next => exact absurd h (by simp)
end Go.Proofs.YtghbaehbgefpaaaGreatDoor.Hand2
/- What a law holds. -/
namespace Go.Proofs.YtghbaehbgefpaaaGreatDoor.Fr
open Go.RowKit Go.Proofs.YtghbaehbgefpaaaGreatDoor.F Go.Proofs.YtghbaehbgefpaaaGreatDoorW.PrintWords
set_option linter.unusedVariables false
set_option linter.unusedSimpArgs false
/-- What a law knows of a world, and goes on to know. -/
abbrev Vw := World → Prop
/-- w: where the law began; K: what is kept; V: what else is known. -/
structure Law (w : World) (K : Nat → Prop) (m : Nat) (L : List (Nat × TS)) (Tm : TS) (V : List Vw) (W : World) : Prop where
  g0 : Hand2.Glob w
  sts : Sts K L m Tm W
  bel : Below w.heap.size w W
  kw : ∀ k, k < w.heap.size → K k
  vs : ∀ P ∈ V, P W ∧ ∀ W1 W2, Kp K W1 W2 → P W1 → P W2
theorem Sts.boxed {W : World} {K : Nat → Prop} {m : Nat} {L : List (Nat × TS)} {Tm : TS} (h : Sts K L m Tm W) (o : Obj) : Sts (fun k => K k ∨ k = W.heap.size) L m Tm (W.alloc o) :=
  h.kept (newBelow W o) fun k hk => hk.imp id fun e => ⟨by omega, by rw [World.size_alloc]; omega⟩
section
variable {w W W' : World} {K : Nat → Prop} {m : Nat} {L L' : List (Nat × TS)} {Tm Tm' : TS} {V V' : List Vw}
theorem Law.glob (h : Law w K m L Tm V W) : Hand2.Glob W := h.g0.below h.bel
theorem Law.step (h : Law w K m L Tm V W) (hs : Sts K L' m Tm' W') (hk : Kp K W W') : Law w K m L' Tm' V W' where
  g0 := h.g0
  sts := hs
  bel := h.bel.trans (hk.below h.bel.size h.kw)
  kw := h.kw
  vs := fun x hx => ⟨(h.vs x hx).2 _ _ hk (h.vs x hx).1, (h.vs x hx).2⟩
theorem Law.below (h : Law w K m L Tm V W) (hb : Below W.heap.size W W') : Law w K m L Tm V W' := h.step (h.sts.below hb) (Kp.of hb)
theorem Law.more (h : Law w K m L Tm V W) (hs : Sts K L' m Tm' W') (hb : Below W.heap.size W W') : Law w K m L' Tm' V W' := h.step hs (Kp.of hb)
theorem Law.keep (h : Law w K m L Tm V W) (o : Obj) : Law w (fun k => K k ∨ k = W.heap.size) m L Tm V (W.alloc o) :=
  { h.below (newBelow W o) with
    sts := h.sts.boxed o
    kw := fun k hk => .inl (h.kw k hk)
    vs := fun x hx => ⟨((h.below (newBelow W o)).vs x hx).1, fun W1 W2 hk => (h.vs x hx).2 W1 W2 (hk.mono fun k e => .inl e)⟩ }
/-- A box of the law's own is kept. -/
theorem Law.box1 (h : Law w K m L Tm V W) (o : Obj) : Law w (fun k => K k ∨ k = W.heap.size) m L Tm ((fun W' => W'.heap[W.heap.size]? = some o) :: V) (W.alloc o) :=
  { h.keep o with
    vs := fun x hx => by
      rcases List.mem_cons.1 hx with rfl | hx
      · exact ⟨World.alloc_heap_new W o, fun W1 W2 hk h1 => (hk.block (.inr rfl) (Array.getElem?_eq_some_iff.1 h1).1).trans h1⟩
      · exact (h.keep o).vs x hx }
/-- All that lay there at h0, but for the trees, is kept still. -/
theorem Law.drop {K0 : Nat → Prop} {V0 : List Vw} {L0 : List (Nat × TS)} {T0 : TS} {W0 : World} (h : Law w K m L Tm V W) (h0 : Law w K0 m L0 T0 V0 W0) (hK : ∀ k, K0 k → K k) (hV : ∀ x ∈ V0, x ∈ V) : Law w K0 m L Tm V0 W where
  g0 := h.g0
  sts := h.sts.drop hK
  bel := h.bel
  kw := h0.kw
  vs := fun x hx => ⟨(h.vs x (hV x hx)).1, (h0.vs x hx).2⟩
theorem Law.va (h : Law w K m L Tm V W) (i : Nat) {P : Vw} (hi : V[i]? = some P) : P W := (h.vs _ (List.mem_of_getElem? hi)).1
/-- Whatever else is known, and stays. -/
theorem Law.know (h : Law w K m L Tm V W) {P : Vw} (hP : P W) (hs : ∀ W1 W2, Kp K W1 W2 → P W1 → P W2) : Law w K m L Tm (P :: V) W :=
  { h with
    vs := fun x hx => by
      rcases List.mem_cons.1 hx with rfl | hx
      · exact ⟨hP, hs⟩
      · exact h.vs x hx }
/-- Trees that are not asked of again. -/
theorem Sts.fst {x : Nat × TS} (h : Sts K (x :: L) m Tm W) : Sts K [x] m Tm W := by
  obtain ⟨φ, F, B, h⟩ := h
  refine ⟨φ, F, B, { h with
    tr := fun i p T hi => ?_
    fk := fun i hi k hk => h.fk i (by have h1 : i < 1 := hi; show i < L.length + 1; omega) k hk
    dis := fun i j hi hj => by
      have h1 : i < 1 := hi
      have h2 : j < 1 := hj
      intro e
      omega }⟩
  cases i with
  | zero => exact h.tr 0 p T hi
  | succ i => cases hi
theorem Law.fst {x : Nat × TS} (h : Law w K m (x :: L) Tm V W) : Law w K m [x] Tm V W := { h with sts := h.sts.fst }
theorem cell_box {W : World} {u : Nat} {cs : Array Value} {ty : TypeId} {fr : Nat × Nat} (h : W.heap[u]? = some (.cells cs ty fr)) (j : Nat) {v : Value} (hj : cs[j]? = some v) : W.cell? ⟨u, j, none⟩ = some v := by
  simp [World.cell?, h, hj]
end
end Go.Proofs.YtghbaehbgefpaaaGreatDoor.Fr
namespace Go.Proofs.YtghbaehbgefpaaaGreatDoor.SumW
open Go.RowKit
set_option linter.unusedVariables false
set_option linter.unusedSimpArgs false

/-- One byte more: A, then B. -/
def adlStep (p : Nat × Nat) (c : UInt8) : Nat × Nat := ((p.1 + c.toNat) % 65521, (p.2 + (p.1 + c.toNat) % 65521) % 65521)
def adl (p : Nat × Nat) (l : List UInt8) : Nat × Nat := l.foldl adlStep p
def adlStart (n : Nat) : Nat × Nat := (n % 65536 % 65521, n / 65536 % 65521)
def adlSum (p : Nat × Nat) : Nat := p.2 * 65536 + p.1

theorem adl_lt (l : List UInt8) : ∀ (p : Nat × Nat), p.1 < 65521 → p.2 < 65521 → (adl p l).1 < 65521 ∧ (adl p l).2 < 65521 := by
  induction l with
  | nil => intro p h1 h2; exact ⟨h1, h2⟩
  | cons c l ih => intro p h1 h2; exact ih _ (Nat.mod_lt _ (by decide)) (Nat.mod_lt _ (by decide))
theorem adl_snoc (p : Nat × Nat) (l : List UInt8) (c : UInt8) : adl p (l ++ [c]) = adlStep (adl p l) c := by
  simp [adl, List.foldl_append]
theorem adlStart_lt (n : Nat) : (adlStart n).1 < 65521 ∧ (adlStart n).2 < 65521 := ⟨Nat.mod_lt _ (by decide), Nat.mod_lt _ (by decide)⟩

theorem and65535 (n : Nat) (h : n < 4294967296) : bits .and .u32 (n : Int) 65535 = ((n % 65536 : Nat) : Int) := by
  have := u32_and_nat n 65535 h (by decide)
  rw [nat_mask16] at this
  exact this
theorem orShift (a b : Nat) (ha : a < 65521) (hb : b < 65521) : bits .or .u32 ((b : Int) * 65536) (a : Int) = ((b * 65536 + a : Nat) : Int) := by
  have h := u32_or_nat (b * 65536) a (by omega) (by omega)
  rw [nat_join 16 (b * 65536) a (by omega) (by omega)] at h
  simpa using h

theorem below_bytes {B : Nat} {a w : World} (h : Below B a w) (hB : B ≤ w.heap.size) (e : TypeId) (s : ByteArray) : Below B a (Lib.bytesWorld w e s) :=
  h.trans ⟨rfl, rfl, rfl, by rw [Lib.bytesWorld_size]; omega, fun k hk => Lib.bytesWorld_at_old w e s k (by omega)⟩
theorem bytes_frozen_old (w : World) (e : TypeId) (s : ByteArray) (a : Addr) (ha : a.block < w.heap.size) : (Lib.bytesWorld w e s).frozen? a = w.frozen? a :=
  World.frozen?_of_block (Lib.bytesWorld_at_old w e s a.block ha)

set_option maxHeartbeats 800000 in
theorem add_walk (n : Nat) (s : ByteArray) (w : World) (h1 : n < 4294967296) (hs : s.size ≤ 140737488351232) :
    Calls Tryz.prog 95 #[.int .u32 (n : Int), .string s] w fun e w' => e = .returned (.int .u32 ((adlSum (adl (adlStart n) s.data.toList) : Nat) : Int)) ∧ Below w.heap.size w w' := by
  have hcv := fun (W : World) => Lib.run_convert_string_bytes (P := Tryz.prog) W 9 120 5 s Tryz.underlying9 Tryz.underlying120 Tryz.underlying5
  have ha := and65535 n h1
  go_enter Tryz.func95, Tryz.ntmps95
  go_wp2
  clear ha hcv
  go_loopw [7, 18] (fun v7 i wr => ∃ (k : Nat) (a b : Nat), k ≤ s.size ∧ i = .int .i64 k ∧ Hid ((a, b) = adl (adlStart n) (s.data.toList.take k)) ∧ a < 65521 ∧ b < 65521 ∧
      wr.cell? ⟨w.heap.size, 0, none⟩ = some (.int .u32 (a : Int)) ∧ wr.cell? ⟨w.heap.size, 1, none⟩ = some (.int .u32 (b : Int)) ∧
      wr.frozen? ⟨w.heap.size, 0, none⟩ = false ∧ wr.frozen? ⟨w.heap.size, 1, none⟩ = false ∧
      (∀ j, j < s.size → wr.cell? ⟨w.heap.size + 1, j, none⟩ = some (.int .u8 (s.data.toList.getD j 0).toNat)) ∧ Below w.heap.size w wr)
    (fun _ i _ => s.size - (intOf i).toNat)
  case atStart =>
    have hst := adlStart_lt n
    refine ⟨0, (adlStart n).1, (adlStart n).2, Nat.zero_le _, rfl, rfl, hst.1, hst.2, ?_, ?_, ?_, ?_, ?_, ?_⟩
    · rw [Lib.bytesWorld_old _ _ _ _ (by simp)]; simp [adlStart]
    · rw [Lib.bytesWorld_old _ _ _ _ (by simp)]; simp [adlStart]
    · rw [bytes_frozen_old _ _ _ _ (by simp)]; simp
    · rw [bytes_frozen_old _ _ _ _ (by simp)]; simp
    · intro j hj
      have := Lib.bytesWorld_cell (w.alloc (Obj.cells #[Value.int IntKind.u32 (↑n % 65536 % 65521), Value.int IntKind.u32 (↑n / 65536 % 65521)] 163)) 5 s j hj
      simpa using this
    · exact below_bytes ((Below.refl _ _).alloc (Nat.le_refl _) _) (by simp) _ _
  case round =>
    obtain ⟨k, a, b, hk, rfl, hab, la, lb, ca, cb, fa, fb, hcell, hB⟩ := hrel
    by_cases hlt : k < s.size
    · have hc := hcell k hlt
      have hc8 : (s.data.toList.getD k 0).toNat < 256 := UInt8.toNat_lt _
      have hCell : Hid _ := Lib.hid hcell
      clear hcell
      obtain ⟨c, hcv⟩ : ∃ c, Hid ((s.data.toList.getD k 0).toNat = c) := ⟨_, rfl⟩
      rw [hcv.out] at hc hc8
      go_wp2
      go_roundw
      case rel =>
        have hstep : adl (adlStart n) (s.data.toList.take (k + 1)) = ((a + c) % 65521, (b + (a + c) % 65521) % 65521) := by
          have hk' : k < s.data.toList.length := by simpa using hlt
          rw [List.take_succ_eq_append_getElem hk', adl_snoc, ← hab.out, ← hcv.out]
          simp [adlStep, List.getD_eq_getElem?_getD, List.getElem?_eq_getElem hk']
        refine ⟨k + 1, (a + c) % 65521, (b + (a + c) % 65521) % 65521, by omega, by go_num, hstep.symm, Nat.mod_lt _ (by decide), Nat.mod_lt _ (by decide), ?_, ?_, ?_, ?_, ?_, ?_⟩
        · go_simp
        · go_simp
        · simp [fa]
        · simp [fb]
        · intro j hj
          have := hCell.out j hj
          go_simp
        · exact (hB.setCell (p := ⟨w.heap.size, 0, none⟩) (Nat.le_refl _) _).setCell (p := ⟨w.heap.size, 1, none⟩) (Nat.le_refl _) _
      case measure => simp [intOf]; omega
    · have ho := orShift a b la lb
      clear hcell
      go_wp2
      go_ret
      refine ⟨?_, hB⟩
      rw [List.take_of_length_le (by simp; omega)] at hab
      rw [← hab.out]
      rfl
def hexd (n : Nat) : UInt8 := UInt8.ofNat (if n < 10 then 48 + n else 87 + n)
def hexList (n : Nat) : List UInt8 := if h : n < 16 then [hexd n] else hexList (n / 16) ++ [hexd (n % 16)]
decreasing_by omega

theorem hexList_lt {n : Nat} (h : n < 16) : hexList n = [hexd n] := by rw [hexList, dif_pos h]
theorem hexList_ge {n : Nat} (h : 16 ≤ n) : hexList n = hexList (n / 16) ++ [hexd (n % 16)] := by rw [hexList, dif_neg (by omega)]
theorem hexList_pos (n : Nat) : 1 ≤ (hexList n).length := by
  by_cases h : n < 16
  · rw [hexList_lt h]; simp
  · rw [hexList_ge (by omega)]; simp
theorem hexList_len : ∀ (k n : Nat), n < 16 ^ k → 1 ≤ k → (hexList n).length ≤ k := by
  intro k
  induction k with
  | zero => intro n _ h; omega
  | succ k ih =>
    intro n hn _
    by_cases h : n < 16
    · rw [hexList_lt h]; simp
    · rw [hexList_ge (by omega)]
      have hk : 1 ≤ k := by
        rcases Nat.eq_zero_or_pos k with rfl | h'
        · simp at hn; omega
        · exact h'
      have := ih (n / 16) (by rw [Nat.div_lt_iff_lt_mul (by decide)]; rw [Nat.pow_succ] at hn; omega) hk
      simp; omega

set_option maxHeartbeats 400000 in
theorem tz16 (w : World) (hc : w.cell? ⟨5, 15, none⟩ = some (.int .u8 4)) :
    Calls Tryz.prog 166 #[.int .u64 16] w fun e w' => e = .returned (.int .i64 4) ∧ w' = w := by
  have h1 : bits .and .u64 16 (IntKind.u64.wrap (-16)) = 16 := by decide +kernel
  have h2 : IntKind.u64.wrap (16 * 285870213051353865) = 4573923408821661840 := by decide +kernel
  go_enter Tryz.func166, Tryz.ntmps166
  go_wp2
  go_ret
  exact ⟨rfl, rfl⟩
set_option maxHeartbeats 400000 in
theorem tz16' (w : World) (hc : w.cell? ⟨5, 15, none⟩ = some (.int .u8 4)) :
    Calls Tryz.prog 152 #[.int .u64 16] w fun e w' => e = .returned (.int .i64 4) ∧ w' = w := by
  go_enter Tryz.func152, Tryz.ntmps152
  go_wp2_with (go_at_call 166; refine (tz16 _ hc).mono ?_; rintro e w' ⟨rfl, rfl⟩)
  go_ret
  exact ⟨rfl, rfl⟩
set_option maxHeartbeats 400000 in
theorem p216 (w : World) :
    Calls Tryz.prog 151 #[.int .i64 16] w fun e w' => e = .returned (.bool true) ∧ w' = w := by
  have h1 : bits .and .i64 16 15 = 0 := by decide +kernel
  go_enter Tryz.func151, Tryz.ntmps151
  go_wp2
  go_ret
  exact ⟨rfl, rfl⟩
theorem and15 (n : Nat) (h : n < 18446744073709551616) : bits .and .u64 (n : Int) 15 = ((n % 16 : Nat) : Int) := by
  have := u64_and_nat n 15 h (by decide)
  rw [nat_mask4] at this
  exact this

theorem digs_at : ∀ (m : Nat) (h : m < 36), (⟨#[48, 49, 50, 51, 52, 53, 54, 55, 56, 57, 97, 98, 99, 100, 101, 102, 103, 104, 105, 106, 107, 108, 109, 110, 111, 112, 113, 114, 115, 116, 117, 118, 119, 120, 121, 122]⟩ : ByteArray)[m] = hexd m := by decide +kernel
def z65 : Array Value := Array.replicate 65 (.int .u8 0)
theorem sl65 (W : World) (b l : Nat) (h : l < 65) : (Instr.sliceAt 196 (.pointer (some ⟨b, 0, none⟩)) (some (.int .i64 (l : Int))) none none).run Tryz.prog W = .ok (.slice (some ⟨b, l, none⟩) (65 - l) (65 - l)) W := by
  have h1 : Tryz.prog.arrayLen 196 = 65 := by kernel_rfl
  have h2 : Tryz.prog.elem 196 = 5 := by kernel_rfl
  rw [run_sliceAt_array_l W 196 _ (by rw [h1, h2]; exact Tryz.underlying196) _ _ (by omega) (by rw [h1]; omega), h1, h2]
  have h3 : (sizeOf 5).run Tryz.prog W = .ok 1 W := by kernel_rfl
  rw [h3]
  simp [Result.andThen, slicedAt, show ¬ 65 = l by omega, Addr.add]
  intro e; exact e.symm
theorem zero65 (w : World) : (zeroValue 196).run Tryz.prog w = .ok (.agg z65) w := by kernel_rfl
theorem z65_at (w : World) (o : Nat) (h : o < 65) : (w.alloc (.cells z65 196)).cell? ⟨w.heap.size, o, none⟩ = some (.int .u8 0) := by
  simp [z65, h]

set_option maxRecDepth 100000 in
set_option maxHeartbeats 1000000 in
theorem formatBits16 (u : Nat) (w : World) (hu : u < 18446744073709551616) (hc : w.cell? ⟨5, 15, none⟩ = some (.int .u8 4)) (hw : 7 < w.heap.size) :
    Calls Tryz.prog 133 #[.slice none 0 0, .int .u64 (u : Int), .int .i64 16, .bool false, .bool false] w fun e w' => e = .returned (.tuple #[.slice none 0 0, .string ⟨(hexList u).toArray⟩]) ∧ Below w.heap.size w w' := by
  have hc1 : (w.alloc (.cells z65 196)).cell? ⟨5, 15, none⟩ = some (.int .u8 4) := by rw [World.cell?_alloc_old _ _ _ (by simp; omega)]; exact hc
  have hz := zero65
  go_enter Tryz.func133, Tryz.ntmps133
  go_wp2_with (first | (go_at_call 151; refine (p216 _).mono ?_; rintro e w' ⟨rfl, rfl⟩) | (go_at_call 152; refine (tz16' _ hc1).mono ?_; rintro e w' ⟨rfl, rfl⟩))
  clear hc1 hz
  have hlen : (hexList u).length ≤ 16 := hexList_len 16 u (by omega) (by omega)
  go_loopw [1, 13] (fun v1 v13 wr => ∃ (v c : Nat) (ds : List UInt8), v1 = .int .u64 (v : Int) ∧ v13 = .int .i64 (c : Int) ∧ v < 18446744073709551616 ∧ c ≤ 65 ∧ Hid (c + ds.length = 65) ∧ Hid (hexList v ++ ds = hexList u) ∧
      Hid (∀ o, o < 65 → ∃ x, wr.cell? ⟨w.heap.size, o, none⟩ = some x) ∧ Hid (∀ o, wr.frozen? ⟨w.heap.size, o, none⟩ = false) ∧
      Hid (∀ j, j < ds.length → wr.cell? ⟨w.heap.size, c + j, none⟩ = some (.int .u8 (ds.getD j 0).toNat)) ∧ Below w.heap.size w wr)
    (fun v1 _ _ => (intOf v1).toNat)
  case atStart =>
    refine ⟨u, 65, [], rfl, rfl, hu, Nat.le_refl _, rfl, by simp [Hid], fun o ho => ⟨_, z65_at w o ho⟩, fun o => by simp, fun j hj => by simp at hj, (Below.refl _ _).alloc (Nat.le_refl _) _⟩
  case round =>
    obtain ⟨v, c, ds, rfl, rfl, hv, hc65, hcd, hds, hcell, hfr, hdc, hB⟩ := hrel
    have hl1 := congrArg List.length hds.out
    rw [List.length_append] at hl1
    have hp := hexList_pos v
    have hcd' := hcd.out
    have hc49 : 49 ≤ c - 1 := by omega
    clear hcd' hl1 hp hlen
    obtain ⟨x, hx⟩ := hcell.out (c - 1) (by omega)
    have hf := hfr.out (c - 1)
    by_cases hge : 16 ≤ v
    · have ha := and15 v hv
      go_wp2
      go_roundw
      case rel =>
        rw [hexList_ge hge] at hds
        refine ⟨v / 16, c - 1, hexd (v % 16) :: ds, by simp, by simp; omega, by omega, by omega, ?_, ?_, ?_, ?_, ?_, ?_⟩
        · have := hcd.out
          show c - 1 + (ds.length + 1) = 65
          omega
        · have := hds.out
          show hexList (v / 16) ++ hexd (v % 16) :: ds = hexList u
          rw [← this]
          simp
        · intro o ho
          by_cases e : o = c - 1
          · subst e
            exact ⟨_, World.cell?_setCell_same _ _ _ hx⟩
          · obtain ⟨y, hy⟩ := hcell.out o ho
            refine ⟨y, ?_⟩
            rw [World.cell?_setCell_other _ _ _ _ (by intro e_; simp at e_ <;> omega)]
            exact hy
        · intro o
          simpa using hfr.out o
        · intro j hj
          rw [digs_at (v % 16) (by omega)]
          cases j with
          | zero => exact World.cell?_setCell_same _ _ _ hx
          | succ j =>
            rw [World.cell?_setCell_other _ _ _ _ (by intro e_; simp at e_ <;> omega)]
            have := hdc.out j (by simpa using hj)
            rw [show c - 1 + (j + 1) = c + j by omega]
            simpa using this
        · exact hB.setCell (p := ⟨w.heap.size, c - 1, none⟩) (Nat.le_refl _) _
      case measure => simp [intOf]; omega
    · have hv16 : v < 16 := by omega
      have hcast : (c : Int) - 1 = ((c - 1 : Nat) : Int) := by omega
      have hsl := fun W => sl65 W w.heap.size (c - 1) (by omega)
      rw [← hcast] at hsl
      have hdig := fun h => digs_at v h
      have hcv : ∀ dst, Tryz.prog.underlying dst = some .string → (convert 120 dst (.slice (some ⟨w.heap.size, c - 1, none⟩) (65 - (c - 1)) (65 - (c - 1)))).run Tryz.prog (wr.setCell ⟨w.heap.size, c - 1, none⟩ (.int .u8 (hexd v).toNat)) = .ok (.string (strOfNums ((hexd v :: ds).map fun b => (b.toNat : Int)))) (wr.setCell ⟨w.heap.size, c - 1, none⟩ (.int .u8 (hexd v).toNat)) := by
        refine run_convert_bytes_arg _ 120 5 Tryz.underlying120 Tryz.underlying5 w.heap.size (c - 1) _ _ _ (by have := hcd.out; simp; omega) ?_
        intro j hj
        cases j with
        | zero => exact World.cell?_setCell_same _ _ _ hx
        | succ j =>
          rw [World.cell?_setCell_other _ _ _ _ (by intro e_; simp at e_ <;> omega)]
          have := hdc.out j (by have := hcd.out; omega)
          rw [show c - 1 + (j + 1) = c + j by omega, this]
          have hj' : j < ds.length := by have := hcd.out; omega
          simp [List.getD_eq_getElem?_getD, List.getElem?_eq_getElem hj']
      replace hcv := hcv 9 Tryz.underlying9
      have hfin : strOfNums ((hexd v :: ds).map fun b => (b.toNat : Int)) = ⟨(hexList u).toArray⟩ := by
        have := hds.out
        rw [hexList_lt hv16] at this
        rw [← this]
        simp [strOfNums, Function.comp_def]
      rw [hfin] at hcv
      clear hfin hcast
      go_wp2
      go_ret2
      exact ⟨rfl, hB.setCell (p := ⟨w.heap.size, c - 1, none⟩) (Nat.le_refl _) _⟩

set_option maxHeartbeats 400000 in
theorem formatUint16 (u : Nat) (w : World) (hu : u < 18446744073709551616) (hc : w.cell? ⟨5, 15, none⟩ = some (.int .u8 4)) (hw : 7 < w.heap.size) :
    Calls Tryz.prog 109 #[.int .u64 (u : Int), .int .i64 16] w fun e w' => e = .returned (.string ⟨(hexList u).toArray⟩) ∧ Below w.heap.size w w' := by
  go_enter Tryz.func109, Tryz.ntmps109
  go_wp2_with (go_at_call 133; refine (formatBits16 u _ hu hc hw).mono ?_; rintro e w1 ⟨rfl, hb⟩)
  go_ret
  exact ⟨rfl, hb⟩
set_option maxHeartbeats 400000 in
theorem formatUint16' (u : Nat) (w : World) (hu : u < 18446744073709551616) (hc : w.cell? ⟨5, 15, none⟩ = some (.int .u8 4)) (hw : 7 < w.heap.size) :
    Calls Tryz.prog 94 #[.int .u64 (u : Int), .int .i64 16] w fun e w' => e = .returned (.string ⟨(hexList u).toArray⟩) ∧ Below w.heap.size w w' := by
  go_enter Tryz.func94, Tryz.ntmps94
  go_wp2_with (go_at_call 109; refine (formatUint16 u _ hu hc hw).mono ?_; rintro e w1 ⟨rfl, hb⟩)
  go_ret
  exact ⟨rfl, hb⟩

/-- Eight digits of base 16. -/
def hex8 (n : Nat) : ByteArray := ⟨((hexList (n + 4294967296)).drop 1).toArray⟩
theorem orTop (n : Nat) (h : n < 4294967296) : bits .or .u64 (n : Int) 4294967296 = ((n + 4294967296 : Nat) : Int) := by
  have h1 := u64_or_nat n 4294967296 (by omega) (by decide)
  rw [Nat.or_comm, nat_join 32 4294967296 n (by decide) (by simpa using h), Nat.add_comm] at h1
  exact h1

theorem formatTop (n : Nat) (w : World) (hn : n < 4294967296) (hc : w.cell? ⟨5, 15, none⟩ = some (.int .u8 4)) (hw : 7 < w.heap.size) :
    Calls Tryz.prog 94 #[.int .u64 ((n : Int) + 4294967296), .int .i64 16] w fun e w' => ∃ s : ByteArray, 1 ≤ s.size ∧ Hid (s.extract 1 s.size = hex8 n) ∧ e = .returned (.string s) ∧ Below w.heap.size w w' := by
  have h := formatUint16' (n + 4294967296) w (by omega) hc hw
  simp only [Int.natCast_add] at h
  refine h.mono fun e w' ⟨he, hb⟩ => ⟨⟨(hexList (n + 4294967296)).toArray⟩, by have := hexList_pos (n + 4294967296); simpa [ByteArray.size] using this, ?_, he, hb⟩
  show _ = hex8 n
  unfold hex8
  apply ByteArray.ext
  simp [ByteArray.size, List.take_of_length_le]

set_option maxHeartbeats 400000 in
theorem hex_walk (n : Nat) (w : World) (hn : n < 4294967296) (hc : w.cell? ⟨5, 15, none⟩ = some (.int .u8 4)) (hw : 7 < w.heap.size) :
    Calls Tryz.prog 70 #[.int .u32 (n : Int)] w fun e w' => e = .returned (.string (hex8 n)) ∧ Below w.heap.size w w' := by
  have ho := orTop n hn
  go_enter Tryz.func70, Tryz.ntmps70
  go_wp2_with (go_at_call 94; refine (formatTop n _ hn hc hw).mono ?_; rintro e w1 ⟨s, hs1, hs, rfl, hb⟩)
  go_ret
  rw [hs.out]
  exact ⟨rfl, hb⟩

/-- THE TABLE THAT IS READ: math/bits.deBruijn64tab at 15. -/
structure Glob (w : World) : Prop where
  cell : w.cell? ⟨5, 15, none⟩ = some (.int .u8 4)
  size : 7 < w.heap.size
theorem Glob.below {w w' : World} (h : Glob w) (hb : Below w.heap.size w w') : Glob w' :=
  ⟨(hb.cell (p := ⟨5, 15, none⟩) (by have := h.size; simp; omega)).trans h.cell, Nat.le_trans h.size hb.size⟩

end Go.Proofs.YtghbaehbgefpaaaGreatDoor.SumW
/- line.Put. -/
namespace Go.Proofs.YtghbaehbgefpaaaGreatDoor.Hand
open Go.RowKit Go.Proofs.YtghbaehbgefpaaaGreatDoorW.PrintWords
set_option linter.unusedVariables false
set_option linter.unusedSimpArgs false
theorem bld_isF {b B1 : Nat} {bs : List Value} {w : World} (h : Bld b B1 bs w) : Lib.IsBuilderF 125 5 b b bs w := by
  obtain ⟨h1, h2, p, v, hp, hb, hown⟩ := h
  have hlow : w.ownsRowF b 5 1 v bs.length bs := by
    refine ⟨hown.1, ?_⟩
    rcases hown.2 with hz | ⟨g, cap, cur, fz, hv, hg, hr⟩
    · exact .inl hz
    · exact .inr ⟨g, cap, cur, fz, hv, by omega, hr⟩
  have hat : Lib.BuilderAtF 125 5 b b p bs w := ⟨Nat.le_refl _, v, hb, hlow, Lib.ownBlock_neF hown hb (by decide)⟩
  rcases hp with rfl | rfl
  · exact .inl hat
  · exact .inr hat
theorem bld_of_isF {b : Nat} {bs : List Value} {w : World} (h : Lib.IsBuilderF 125 5 b b bs w) : Bld b (b + 1) bs w := by
  have key : ∀ p, (p = .pointer none ∨ p = .pointer (some ⟨b, 0, none⟩)) → Lib.BuilderAtF 125 5 b b p bs w → Bld b (b + 1) bs w := by
    intro p hp hat
    obtain ⟨-, v, hb, hown, hne⟩ := hat
    refine ⟨Nat.lt_succ_self b, (Array.getElem?_eq_some_iff.1 hb).1, p, v, hp, hb, hown.1, ?_⟩
    rcases hown.2 with hz | ⟨g, cap, cur, fz, hv, hg, hr⟩
    · exact .inl hz
    · refine .inr ⟨g, cap, cur, fz, hv, ?_, hr⟩
      have : g ≠ b := by
        intro e
        apply hne
        rw [hv, e]
        rfl
      omega
  rcases h with h | h
  · exact key _ (.inl rfl) h
  · exact key _ (.inr rfl) h
theorem apart_of_belowB {b : Nat} {w w' : World} (h : Below b w w') : Apart b (b + 1) w w' := ⟨h.os, h.tape, h.output, h.size, fun k hk hne => h.block k (by omega)⟩
theorem bstring2 (b : Nat) (l : List UInt8) (w : World) (h : Bld b (b + 1) (Lib.byteCells l) w) :
    Calls Tryz.prog 72 #[.pointer (some ⟨b, 0, none⟩)] w fun e w' => e = .returned (.string ⟨l.toArray⟩) ∧ Bld b (b + 1) (Lib.byteCells l) w' ∧ Apart b (b + 1) w w' :=
  (Tryz.Builder_String_any_f b b l w (bld_isF h) (by have := h.2.1; omega)).mono fun e w' h => ⟨h.1, bld_of_isF h.2.1, apart_of_belowB h.2.2⟩
theorem blen (b B1 : Nat) (bs : List Value) (w : World) (h : Bld b B1 bs w) :
    Calls Tryz.prog 73 #[.pointer (some ⟨b, 0, none⟩)] w fun e w' => e = .returned (.int .i64 bs.length) ∧ w = w' :=
  (Tryz.Builder_Len_f b b bs w (bld_isF h)).mono fun e w' h => ⟨h.1, h.2.symm⟩
def adlOf (l : List UInt8) : Nat := SumW.adlSum (SumW.adl (SumW.adlStart 1) l)
theorem adlOf_lt (l : List UInt8) : adlOf l < 4294967296 := by
  have h := SumW.adlStart_lt 1
  have := SumW.adl_lt l _ h.1 h.2
  unfold adlOf SumW.adlSum
  omega
theorem of_walk (s : ByteArray) (hs : s.size ≤ 140737488351232) (w : World) : Calls Tryz.prog 71 #[.string s] w fun e w' => e = .returned (.int .u32 (adlOf s.data.toList : Nat)) ∧ Below w.heap.size w w' := by
  have HA := Lib.hid (SumW.add_walk 1 s w (by decide) hs)
  go_enter Tryz.func71, Tryz.ntmps71
  go_wp2_with (go_at_call 95; refine HA.out.mono ?_; rintro e w' ⟨rfl, hb⟩)
  go_ret
  exact ⟨rfl, hb⟩
def bodyL (l : List ByteArray) : List UInt8 := l.flatMap fun s => (quoteV s).data.toList ++ [32]
def lineL (l : List ByteArray) : List UInt8 := bodyL l ++ (SumW.hex8 (adlOf (bodyL l))).data.toList ++ [10]
def putV (l : List ByteArray) : ByteArray × Int := if l.length = 0 then (⟨#[]⟩, 1) else if 40 < l.length then (⟨#[]⟩, 3) else if 13000 < (lineL l).length then (⟨#[]⟩, 3) else (⟨(lineL l).toArray⟩, 0)
theorem bodyL_snoc (l : List ByteArray) (x : ByteArray) : bodyL (l ++ [x]) = bodyL l ++ ((quoteV x).data.toList ++ [32]) := by simp [bodyL]
theorem quoteV_len (s : ByteArray) : (quoteV s).size ≤ 3 * s.size + 1 := by
  unfold quoteV
  split
  · show 1 ≤ _
    omega
  · have := quote_len s.data.toList
    have h2 : s.data.toList.length = s.size := by rw [Array.length_toList]; rfl
    rw [h2] at this
    show (s.data.toList.flatMap quoteB).toArray.size ≤ _
    rw [List.size_toArray]
    omega
theorem bodyL_len (m : Nat) : ∀ l : List ByteArray, (∀ x ∈ l, x.size ≤ m) → (bodyL l).length ≤ (3 * m + 2) * l.length := by
  intro l
  induction l with
  | nil => intro _; exact Nat.le_refl _
  | cons x r ih =>
    intro h
    have h1 := ih fun y hy => h y (by simp [hy])
    have h2 := quoteV_len x
    have h3 := h x (by simp)
    have h4 : (quoteV x).data.toList.length = (quoteV x).size := by rw [Array.length_toList]; rfl
    show (((quoteV x).data.toList ++ [32]) ++ bodyL r).length ≤ _
    rw [List.length_append, List.length_append, h4, List.length_cons (a := x), Nat.mul_succ]
    simp only [List.length_cons, List.length_nil]
    omega
end Go.Proofs.YtghbaehbgefpaaaGreatDoor.Hand
/- line.Put. -/
namespace Go.Proofs.YtghbaehbgefpaaaGreatDoor.Hand
open Go.RowKit Go.Proofs.YtghbaehbgefpaaaGreatDoorW.PrintWords
set_option linter.unusedVariables false
set_option linter.unusedSimpArgs false
theorem cells_of_C {w : World} {A : Option Addr} {l : List ByteArray} (hC : Kd.C Kd.string w A l.length l) (h0 : 0 < l.length) :
    ∃ bk o, A = some ⟨bk, o, none⟩ ∧ bk < w.heap.size ∧ ∀ (j : Nat) (h : j < l.length), w.cell? ⟨bk, o + j, none⟩ = some (.string l[j]) := by
  obtain ⟨ad, rfl, hxs⟩ := hC.2.2 h0
  have hcell : ∀ (j : Nat) y, l[j]? = some y → w.cell? (ad.add j) = some (.string y) := by
    intro j y hy
    obtain ⟨cs, hl, hk, hcs⟩ := hxs j y hy
    obtain rfl : cs = [.string y] := hk
    have := hcs 0 _ rfl
    simpa [Kd.string, Kd.scalar] using this
  have h1 := hcell 0 _ (List.getElem?_eq_getElem h0)
  obtain ⟨bk, o, sp⟩ := ad
  obtain rfl : sp = none := by
    cases sp with
    | none => rfl
    | some k =>
      have h0' : w.cell? ⟨bk, o, some k⟩ = some (.string l[0]) := by simpa [Addr.add] using h1
      unfold World.cell? at h0'
      simp only [Option.isSome_some, if_true] at h0'
      split at h0' <;> cases h0'
  have hadd : ∀ j, (⟨bk, o, none⟩ : Addr).add j = ⟨bk, o + j, none⟩ := by
    intro j
    unfold Addr.add
    split
    · next h => rw [h]; rfl
    · rfl
  refine ⟨bk, o, rfl, cell_lt' (p := ⟨bk, o, none⟩) (by rwa [hadd] at h1), fun j h => ?_⟩
  rw [← hadd]
  exact hcell j _ (List.getElem?_eq_getElem h)
theorem hexList_ge8 : ∀ (k n : Nat), 16 ^ k ≤ n → k + 1 ≤ (SumW.hexList n).length := by
  intro k
  induction k with
  | zero =>
    intro n h
    exact SumW.hexList_pos n
  | succ k ih =>
    intro n h
    have hp : 16 ^ (k + 1) = 16 ^ k * 16 := Nat.pow_succ 16 k
    have h1 : 1 ≤ 16 ^ k := Nat.pos_of_ne_zero (by simp)
    rw [SumW.hexList_ge (by omega), List.length_append]
    have := ih (n / 16) (by omega)
    simp only [List.length_cons, List.length_nil]
    omega
theorem hex8_size (n : Nat) (h : n < 4294967296) : (SumW.hex8 n).size = 8 := by
  have h1 := SumW.hexList_len 9 (n + 4294967296) (by omega) (by decide)
  have h2 := hexList_ge8 8 (n + 4294967296) (by omega)
  show ((SumW.hexList (n + 4294967296)).drop 1).toArray.size = 8
  rw [List.size_toArray, List.length_drop]
  omega
def pOut (p : ByteArray × Int) : Value := .tuple #[.string p.1, .int .i64 p.2]
set_option maxHeartbeats 8000000 in
set_option maxRecDepth 100000 in
theorem put_walk (A : Option Addr) (c : Nat) (l : List ByteArray) (w : World) (hG : Hand2.Glob w) (hC : Kd.C Kd.string w A l.length l) (hc : l.length ≤ c) (hx : ∀ x ∈ l, x.size ≤ 100000) :
    Calls Tryz.prog 44 #[.slice A l.length c] w fun e w' => e = .returned (pOut (putV l)) ∧ Below w.heap.size w w' := by
  have HG := Lib.hid hG
  by_cases h0 : l.length = 0
  · have hX : Hid (putV l = (⟨#[]⟩, 1)) := by rw [Hid, putV, if_pos h0]
    rw [h0]
    clear hC hc h0
    go_enter Tryz.func44, Tryz.ntmps44
    go_wp2
    go_ret2
    exact ⟨by rw [hX.out]; rfl, Below.refl _ _⟩
  · by_cases h40 : 40 < l.length
    · have hX : Hid (putV l = (⟨#[]⟩, 3)) := by rw [Hid, putV, if_neg h0, if_pos h40]
      clear hC
      generalize l.length = n at *
      have h1 : decide (n = 0) = false := decide_eq_false h0
      clear h0
      go_enter Tryz.func44, Tryz.ntmps44
      go_wp2
      go_ret2
      exact ⟨by rw [hX.out]; rfl, Below.refl _ _⟩
    · obtain ⟨bk, o, rfl, hbk, hcell⟩ := cells_of_C hC (by omega)
      have HCELL := Lib.hid hcell
      have HX := Lib.hid hx
      clear hC hcell hx
      obtain ⟨n, hn⟩ : ∃ n, Hid (l.length = n) := ⟨_, Lib.hid rfl⟩
      rw [hn.out] at h0 h40 hc ⊢
      have h1 : ((n : Int) == 0) = false := beq_eq_false_iff_ne.2 (by omega)
      have h2 : n ≤ 40 := by omega
      have hn1 : 1 ≤ n := by omega
      clear h0 h40
      go_enter Tryz.func44, Tryz.ntmps44
      go_wp2
      obtain ⟨w0, hw0⟩ : ∃ w0, w.alloc (Obj.cells #[Value.pointer none, Value.slice none 0 0] 125) = w0 := ⟨_, rfl⟩
      have hs0 : w0.heap.size = w.heap.size + 1 := by rw [← hw0]; simp
      have hB0 : Hid (Below w.heap.size w w0) := by
        rw [Hid, ← hw0]
        exact (Below.refl _ _).alloc (Nat.le_refl _) _
      have hbl0 : Hid (Bld w.heap.size (w.heap.size + 1) [] w0) := by
        refine ⟨by omega, by rw [hs0]; omega, _, _, .inl rfl, ?_, World.ownsRowF_nil _ _ _ _⟩
        rw [← hw0]
        exact World.alloc_heap_new w _
      rw [hw0]
      clear hw0
      go_loopw [17] (fun i wr => ∃ k : Nat, k ≤ n ∧ i = .int .i64 k ∧ Hid (Bld w.heap.size (w.heap.size + 1) (Lib.byteCells (bodyL (l.take k))) wr) ∧ Hid (Apart w.heap.size (w.heap.size + 1) w0 wr))
        (fun i _ => n - (intOf i).toNat)
      case atStart => exact ⟨0, Nat.zero_le _, rfl, hbl0, Apart.refl _ _ _⟩
      case round =>
        obtain ⟨k, hk, rfl, hbl, hA⟩ := hrel
        have hlen : Hid ((bodyL (l.take k)).length ≤ 300002 * k) := by
          have h3 := bodyL_len 100000 (l.take k) fun x hm => HX.out x (List.mem_of_mem_take hm)
          have h4 : (l.take k).length ≤ k := List.length_take_le _ _
          rw [Hid]
          exact Nat.le_trans h3 (Nat.mul_le_mul_left _ h4)
        by_cases hlt : k < n
        · have hkl : k < l.length := by rw [hn.out]; exact hlt
          have hc1 : wr.cell? ⟨bk, o + k, none⟩ = some (.string l[k]) := (hA.out.cell (p := ⟨bk, o + k, none⟩) (by show bk < _; omega) (by show bk ≠ _; omega)).trans ((hB0.out.cell (p := ⟨bk, o + k, none⟩) hbk).trans (HCELL.out k hkl))
          have hxk := HX.out l[k] (List.getElem_mem hkl)
          have hst : Hid (bodyL (l.take (k + 1)) = bodyL (l.take k) ++ ((quoteV l[k]).data.toList ++ [32])) := by
            rw [Hid, List.take_succ_eq_append_getElem hkl, bodyL_snoc]
          generalize l[k] = x at hc1 hst hxk
          have hqs := quoteV_len x
          have hql : Hid ((quoteV x).data.toList.length = (quoteV x).size) := by rw [Hid, Array.length_toList]; rfl
          have HQ := Lib.hid (quote_walk x hxk wr)
          obtain ⟨q, hq⟩ : ∃ q, quoteV x = q := ⟨_, rfl⟩
          rw [hq] at hqs hql hst HQ
          clear hq
          have hz1 : Hid ((q ++ (⟨#[32]⟩ : ByteArray)).size = q.size + 1) := by rw [Hid, ByteArray.size_append]; rfl
          have hz2 : Hid (Lib.strCells (q ++ (⟨#[32]⟩ : ByteArray)) = Lib.byteCells (q.data.toList ++ [32])) := by
            rw [Hid, Lib.strCells_eq]
            congr 1
            try simp [ByteArray.data_append, Array.toList_append]
          have hwl : Hid ((Lib.byteCells (bodyL (l.take k))).length + (q ++ (⟨#[32]⟩ : ByteArray)).size ≤ 100000000) := by
            have := hlen.out
            rw [Hid, Lib.byteCells_length, hz1.out]
            omega
          go_wp2_with (first | (go_at_call 69; refine HQ.out.mono ?_; rintro e W1 ⟨rfl, hb1⟩; have HL1 := Lib.hid (bld_below hbl.out hb1); have HA1 := Lib.hid (hA.out.trans (apart_of_below hb1 hbl.out.2.1)); clear hb1) | (go_at_call 68; refine (writeString w.heap.size (w.heap.size + 1) _ _ _ HL1.out hwl.out).mono ?_; rintro e W2 ⟨rfl, hb2, hA2⟩; have HL2 := Lib.hid hb2; have HA2 := Lib.hid (HA1.out.trans hA2); clear hb2 hA2))
          go_roundw
          case rel =>
            refine ⟨k + 1, by omega, by go_num, ?_, HA2⟩
            have := HL2.out
            rw [hz2.out] at this
            rw [Hid, hst.out, Lib.byteCells_append]
            exact this
          case measure => simp [intOf]; omega
        · have hkn : k = n := by omega
          subst hkn
          have htk : l.take k = l := List.take_of_length_le (by rw [hn.out]; exact Nat.le_refl _)
          rw [htk] at hbl hlen
          clear htk
          have hHT := Lib.hid ((hB0.out.trans (hA.out.below (by omega))))
          obtain ⟨B, hB⟩ : ∃ B, Hid (bodyL l = B) := ⟨_, Lib.hid rfl⟩
          rw [hB.out] at hbl hlen
          have hBs : Hid ((⟨B.toArray⟩ : ByteArray).size = B.length) := by rw [Hid]; exact List.size_toArray
          have hBs2 : (⟨B.toArray⟩ : ByteArray).size ≤ 140737488351232 := by have := hlen.out; rw [hBs.out]; omega
          have had : (⟨B.toArray⟩ : ByteArray).data.toList = B := rfl
          have HS := Lib.hid (bstring2 w.heap.size B wr hbl.out)
          have HOF := Lib.hid fun W => of_walk ⟨B.toArray⟩ hBs2 W
          rw [had] at HOF
          clear hBs2 had
          obtain ⟨t, ht⟩ : ∃ t, (⟨B.toArray⟩ : ByteArray) = t := ⟨_, rfl⟩
          rw [ht] at HS HOF
          have hadl := adlOf_lt B
          have HX8 := Lib.hid fun W h1 h2 => SumW.hex_walk (adlOf B) W hadl h1 h2
          obtain ⟨H8, hH8⟩ : ∃ H8, Hid (SumW.hex8 (adlOf B) = H8) := ⟨_, Lib.hid rfl⟩
          rw [hH8.out] at HX8
          have h8l : Hid (H8.size = 8) := by
            rw [Hid, ← hH8.out]
            exact hex8_size _ hadl
          obtain ⟨a, ha⟩ : ∃ a, Hid (adlOf B = a) := ⟨_, Lib.hid rfl⟩
          rw [ha.out] at HOF HX8
          clear hadl ht
          have h8b : H8.size ≤ 8 := by rw [h8l.out]; exact Nat.le_refl 8
          have hz1 : Hid ((H8 ++ (⟨#[10]⟩ : ByteArray)).size = 9) := by rw [Hid, ByteArray.size_append, h8l.out]; rfl
          have hz2 : Hid (Lib.strCells (H8 ++ (⟨#[10]⟩ : ByteArray)) = Lib.byteCells (H8.data.toList ++ [10])) := by
            rw [Hid, Lib.strCells_eq]
            congr 1
            try simp [ByteArray.data_append, Array.toList_append]
          have hwl : Hid ((Lib.byteCells B).length + (H8 ++ (⟨#[10]⟩ : ByteArray)).size ≤ 100000000) := by
            have := hlen.out
            rw [Hid, Lib.byteCells_length, hz1.out]
            omega
          have hline : Hid (lineL l = B ++ H8.data.toList ++ [10]) := by
            rw [Hid]
            unfold lineL
            rw [hB.out, ha.out, ← hH8.out, ha.out]
          have hlt2 : Hid ((B ++ (H8.data.toList ++ [10])).length = (lineL l).length) := by rw [Hid, hline.out, List.append_assoc]
          go_wp2_with (go_at_call 72; refine HS.out.mono ?_)
          rintro e W1 ⟨rfl, hb1, hA1⟩
          have HL1 := Lib.hid hb1
          have HA1 := Lib.hid (hA.out.trans hA1)
          clear hb1 hA1
          go_wp2_with (go_at_call 71; refine (HOF.out _).mono ?_)
          rintro e W2 ⟨rfl, hb2⟩
          have HL2 := Lib.hid (bld_below HL1.out hb2)
          have HA2 := Lib.hid (HA1.out.trans (apart_of_below hb2 HL1.out.2.1))
          have HG2 := Lib.hid (HG.out.below ((hB0.out.trans (HA2.out.below (by omega)))))
          clear hb2
          go_wp2_with (go_at_call 70; refine (HX8.out _ HG2.out.bru HG2.out.big).mono ?_)
          rintro e W3 ⟨rfl, hb3⟩
          have HL3 := Lib.hid (bld_below HL2.out hb3)
          have HA3 := Lib.hid (HA2.out.trans (apart_of_below hb3 HL2.out.2.1))
          clear hb3
          go_wp2_with (go_at_call 68; refine (writeString w.heap.size (w.heap.size + 1) _ _ _ HL3.out hwl.out).mono ?_)
          rintro e W4 ⟨rfl, hb4, hA4⟩
          have HL4 : Hid (Bld w.heap.size (w.heap.size + 1) (Lib.byteCells (B ++ (H8.data.toList ++ [10]))) W4) := by
            rw [hz2.out] at hb4
            rw [Hid, Lib.byteCells_append]
            exact hb4
          have HA4 := Lib.hid (HA3.out.trans hA4)
          clear hb4 hA4
          have HT4 := Lib.hid (hB0.out.trans (HA4.out.below (by omega)))
          have HLEN : Hid (Calls Tryz.prog 73 #[.pointer (some ⟨w.heap.size, 0, none⟩)] W4 fun e w' => e = .returned (.int .i64 ((lineL l).length : Nat)) ∧ W4 = w') := by
            have := blen _ _ _ W4 HL4.out
            rw [Lib.byteCells_length, hlt2.out] at this
            exact this
          obtain ⟨m, hm⟩ : ∃ m, Hid ((lineL l).length = m) := ⟨_, Lib.hid rfl⟩
          rw [hm.out] at HLEN
          by_cases h13 : 13000 < m
          · have HX : Hid (putV l = (⟨#[]⟩, 3)) := by
              rw [Hid, putV, if_neg (by rw [hn.out]; omega), if_neg (by rw [hn.out]; omega), if_pos (by rw [hm.out]; exact h13)]
            go_wp2_with (go_at_call 73; refine HLEN.out.mono ?_; rintro e W5 ⟨rfl, rfl⟩)
            go_ret2
            exact ⟨by rw [HX.out]; rfl, HT4.out⟩
          · have HX : Hid (putV l = (⟨(lineL l).toArray⟩, 0)) := by
              rw [Hid, putV, if_neg (by rw [hn.out]; omega), if_neg (by rw [hn.out]; omega), if_neg (by rw [hm.out]; exact h13)]
            have h13' : m ≤ 13000 := by omega
            have HS4 := Lib.hid (bstring2 w.heap.size (B ++ (H8.data.toList ++ [10])) W4 HL4.out)
            rw [← List.append_assoc, ← hline.out] at HS4
            clear h13
            go_wp2_with (first | (go_at_call 73; refine HLEN.out.mono ?_; rintro e W5 ⟨rfl, rfl⟩) | (go_at_call 72; refine HS4.out.mono ?_; rintro e W6 ⟨rfl, hb6, hA6⟩; have HT6 := Lib.hid (hB0.out.trans ((HA4.out.trans hA6).below (by omega))); clear hb6 hA6))
            go_ret2
            exact ⟨by rw [HX.out]; rfl, HT6.out⟩
end Go.Proofs.YtghbaehbgefpaaaGreatDoor.Hand
open Go
namespace Go.Proofs.YtghbaehbgefpaaaGreatDoor.Spl
/-- A list of bytes, cut at each byte c. -/
def splG (c : UInt8) (cur : List UInt8) : List UInt8 → List (List UInt8)
  | [] => [cur.reverse]
  | b :: t => if b = c then cur.reverse :: splG c [] t else splG c (b :: cur) t
theorem splG_app (c : UInt8) (b : List UInt8) : ∀ a cur : List UInt8, splG c cur (a ++ c :: b) = splG c cur a ++ splG c [] b := by
  intro a
  induction a with
  | nil => intro cur; simp [splG]
  | cons x t ih =>
    intro cur
    simp only [List.cons_append, splG]
    split
    · rw [ih]; rfl
    · exact ih _
theorem splG_len (c : UInt8) : ∀ a cur : List UInt8, (splG c cur a).length = a.count c + 1 := by
  intro a
  induction a with
  | nil => intro cur; rfl
  | cons x t ih =>
    intro cur
    simp only [splG]
    split
    · next h => subst h; rw [List.length_cons, ih, List.count_cons_self]
    · next h => rw [ih, List.count_cons_of_ne (by simpa using h)]
theorem splG_none (c : UInt8) : ∀ a cur : List UInt8, (∀ x ∈ a, x ≠ c) → splG c cur a = [cur.reverse ++ a] := by
  intro a
  induction a with
  | nil => intro cur _; simp [splG]
  | cons x t ih =>
    intro cur h
    rw [splG, if_neg (h x (by simp)), ih _ (fun y hy => h y (by simp [hy]))]
    simp
theorem splG_cur (c : UInt8) : ∀ a cur : List UInt8, ∃ h r, splG c [] a = h :: r ∧ splG c cur a = (cur.reverse ++ h) :: r := by
  intro a
  induction a with
  | nil => intro cur; exact ⟨[], [], rfl, by simp [splG]⟩
  | cons x t ih =>
    intro cur
    simp only [splG]
    split
    · exact ⟨[], splG c [] t, rfl, by simp⟩
    · obtain ⟨h, r, e1, e2⟩ := ih [x]
      obtain ⟨h', r', e1', e2'⟩ := ih (x :: cur)
      rw [e1] at e1'
      injection e1' with q1 q2
      subst q1 q2
      exact ⟨_, _, e2, by rw [e2']; simp⟩
theorem splitK_G (c : UInt8) : ∀ l : List UInt8, Lib.splitK [c] 0 (Lib.count l [c]) l = splG c [] l := by
  intro l
  induction l with
  | nil => rw [Lib.count_miss (by simp [Lib.index])]; rfl
  | cons b t ih =>
    by_cases h : b = c
    · subst h
      have hix : Lib.index (b :: t) [b] = ((0 : Nat) : Int) := by rw [Lib.index]; simp [List.isPrefixOf]
      rw [Lib.count_cons_eq, Nat.add_comm, Lib.splitK, hix]
      simp only [splG, if_true]
      rw [if_neg (by decide)]
      simpa using ih
    · rw [Lib.count_cons_ne b c t h, splG, if_neg h]
      obtain ⟨h1, r1, e1, e2⟩ := splG_cur c t [b]
      rw [e2]
      have hp : ([c] : List UInt8).isPrefixOf (b :: t) = false := by simp [List.isPrefixOf, Ne.symm h]
      have hix : Lib.index (b :: t) [c] = if Lib.index t [c] == -1 then -1 else Lib.index t [c] + 1 := by rw [Lib.index, hp]; simp
      rw [e1] at ih
      by_cases hm : Lib.index t [c] = -1
      · rw [Lib.count_miss hm] at ih ⊢
        simp only [Lib.splitK] at ih ⊢
        injection ih with q1 q2
        subst q1 q2
        simp
      · have hge := Lib.index_ge t [c]
        obtain ⟨j, hj⟩ : ∃ j : Nat, Lib.index t [c] = j := ⟨(Lib.index t [c]).toNat, by omega⟩
        have hix' : Lib.index (b :: t) [c] = ((j + 1 : Nat) : Int) := by rw [hix, if_neg (fun e => hm (beq_iff_eq.1 e)), hj]; omega
        rw [Lib.count_hit (by simp) hj, Nat.add_comm, Lib.splitK] at ih ⊢
        rw [hj, if_neg (by simp)] at ih
        rw [hix', if_neg (by simp; omega)]
        injection ih with q1 q2
        simp only [Int.toNat_natCast, Nat.add_zero, List.length_cons, List.length_nil, Nat.zero_add] at q1 q2 ⊢
        rw [show j + 1 + 1 = (j + 1) + 1 from rfl, List.take_succ_cons, List.drop_succ_cons, q1, q2]
        simp
end Go.Proofs.YtghbaehbgefpaaaGreatDoor.Spl
/- line.Take. -/
namespace Go.Proofs.YtghbaehbgefpaaaGreatDoor.Hand
open Go.Shelf Go.RowKit Go.Proofs.YtghbaehbgefpaaaGreatDoorW.PrintWords
set_option linter.unusedVariables false
set_option linter.unusedSimpArgs false
theorem infoAS : (Tryz.prog.info? 200).map (fun i => (i.zero, i.size)) = some (some (.agg (Array.replicate 256 (.bool false))), 256) := by kernel_rfl
def hexB : ByteArray := ⟨#[48, 49, 50, 51, 52, 53, 54, 55, 56, 57, 97, 98, 99, 100, 101, 102]⟩
def hexL : List UInt8 := [48, 49, 50, 51, 52, 53, 54, 55, 56, 57, 97, 98, 99, 100, 101, 102]
theorem ascii_hex : ∀ (j : Nat) b, hexB.data.toList[j]? = some b → b.toNat < 128 := ascii_of_all (by decide)
theorem trim_hex (s : ByteArray) (hs : s.size ≤ 100000) (w : World) :
    Calls Tryz.prog 135 #[.string s, .string hexB] w fun e w' => e = .returned (.string ⟨(Lib.trimS s.data.toList hexL).toArray⟩) ∧ Below w.heap.size w w' :=
  Any.strings_Trim_laid Tryz.lays160 infoAS s hexB w (by omega) (by decide) ascii_hex
theorem dropWhile_nil {p : UInt8 → Bool} : ∀ l : List UInt8, l.dropWhile p = [] ↔ l.all p = true := by
  intro l
  induction l with
  | nil => simp
  | cons c t ih =>
    rw [List.dropWhile_cons, List.all_cons]
    by_cases h : p c = true
    · rw [if_pos h, h, ih]
      simp
    · rw [if_neg h]
      simp [h]
theorem mem_tw {p : UInt8 → Bool} : ∀ (l : List UInt8) (c : UInt8), c ∈ l.takeWhile p → p c = true := by
  intro l
  induction l with
  | nil => intro c h; simp at h
  | cons x t ih =>
    intro c h
    rw [List.takeWhile_cons] at h
    split at h
    next hx =>
      rcases List.mem_cons.1 h with e | e
      · subst e; exact hx
      · exact ih c e
    next => simp at h
theorem trimS_nil (l cs : List UInt8) : Lib.trimS l cs = [] ↔ l.all (fun c => cs.contains c) = true := by
  unfold Lib.trimS Lib.trimRightS Lib.trimLeftS
  rw [dropWhile_nil, List.all_reverse, List.all_eq_true]
  constructor
  · intro h
    rw [List.all_eq_true]
    intro c hc
    by_cases hm : c ∈ l.reverse.dropWhile fun c => cs.contains c
    · exact h c hm
    · have h2 : c ∈ l.reverse.takeWhile (fun c => cs.contains c) := by
        have := List.takeWhile_append_dropWhile (p := fun c => cs.contains c) (l := l.reverse)
        have hr : c ∈ l.reverse := by simpa using hc
        rw [← this] at hr
        rcases List.mem_append.1 hr with h | h
        · exact h
        · exact absurd h hm
      exact mem_tw _ c h2
  · intro h c hc
    rw [List.all_eq_true] at h
    exact h c (by
      have := (List.dropWhile_sublist (p := fun c => cs.contains c) (l := l.reverse)).mem hc
      simpa using this)
/-- May what is ahead of the line feed be a line? -/
def formB (a : ByteArray) : Bool := decide (9 ≤ a.size) && decide (a.size < 13000) && decide (a.data.toList[a.size - 9]? = some 32) && (a.data.toList.drop (a.size - 8)).all (fun c => hexL.contains c)
def blankB : ByteArray := ⟨#[32]⟩
def wordsB (a : ByteArray) : List ByteArray := Lib.splitB blankB 0 (Lib.countB (a.extract 0 (a.size - 9)) blankB) (a.extract 0 (a.size - 9))
def takeB (a r : ByteArray) : List ByteArray × ByteArray × Int :=
  if formB a = false then ([], ⟨#[]⟩, 2) else if 40 < (wordsB a).length then ([], ⟨#[]⟩, 2) else if (wordsB a).all (fun x => (unqV x).isSome) = false then ([], ⟨#[]⟩, 2)
  else if SumW.hex8 (adlOf (a.data.toList.take (a.size - 8))) = a.extract (a.size - 8) a.size then ((wordsB a).map fun x => (unqV x).getD ⟨#[]⟩, r, 0) else ([], ⟨#[]⟩, 13)
def takeV (s : ByteArray) : List ByteArray × ByteArray × Int :=
  if (Lib.cut s.data.toList [10]).2.2 = false then ([], ⟨#[]⟩, 14) else takeB ⟨(Lib.cut s.data.toList [10]).1.toArray⟩ ⟨(Lib.cut s.data.toList [10]).2.1.toArray⟩
/-- How Take ends. -/
def TakeEnd (w : World) (p : List ByteArray × ByteArray × Int) (e : Ending) (w' : World) : Prop :=
  ∃ v : Value, e = .returned (.tuple #[v, .string p.2.1, .int .i64 p.2.2]) ∧ Kd.R Kd.string 9 w' w.heap.size (fun _ => True) v p.1 ∧ Below w.heap.size w w'
theorem TakeEnd.err {w w' : World} {p : List ByteArray × ByteArray × Int} {c : Int} (h : p = ([], ⟨#[]⟩, c)) (hb : Below w.heap.size w w') : TakeEnd w p (.returned (.tuple #[.slice none 0 0, .string ⟨#[]⟩, .int .i64 c])) w' := by
  subst h
  exact ⟨_, rfl, Kd.R_nil _ _ _ _ _, hb⟩
theorem splG_size (c : UInt8) : ∀ (l cur : List UInt8), ∀ x ∈ Spl.splG c cur l, x.length ≤ cur.length + l.length := by
  intro l
  induction l with
  | nil =>
    intro cur x hx
    rw [Spl.splG, List.mem_singleton] at hx
    subst hx
    simp
  | cons b t ih =>
    intro cur x hx
    rw [Spl.splG] at hx
    split at hx
    · rcases List.mem_cons.1 hx with e | e
      · subst e
        rw [List.length_reverse, List.length_cons]
        omega
      · have := ih [] x e
        simp only [List.length_nil, List.length_cons] at this ⊢
        omega
    · have := ih (b :: cur) x hx
      simp only [List.length_cons] at this ⊢
      omega
theorem words_data (a : ByteArray) : (wordsB a).map (·.data.toList) = Spl.splG 32 [] (a.extract 0 (a.size - 9)).data.toList := by
  unfold wordsB
  rw [Lib.splitB_data]
  exact Spl.splitK_G 32 _
theorem words_size (a : ByteArray) : ∀ x ∈ wordsB a, x.size ≤ a.size := by
  intro x hx
  have h1 : x.data.toList ∈ Spl.splG 32 [] (a.extract 0 (a.size - 9)).data.toList := by
    rw [← words_data]
    exact List.mem_map_of_mem hx
  have h2 := splG_size 32 _ _ _ h1
  have h3 : x.data.toList.length = x.size := by rw [Array.length_toList]; rfl
  have h4 : (a.extract 0 (a.size - 9)).data.toList.length = (a.extract 0 (a.size - 9)).size := by rw [Array.length_toList]; rfl
  rw [h3, h4, ByteArray.size_extract] at h2
  simp only [List.length_nil] at h2
  omega
theorem infoStr2 : (Tryz.prog.info? 9).map (fun i => (i.zero, i.size, i.bytes)) = some (some (.string ⟨#[]⟩), 1, 16) := by kernel_rfl
def uq (x : ByteArray) : ByteArray := (unqV x).getD ⟨#[]⟩
theorem glob_cell {w : World} (h : Hand2.Glob w) : ∃ m, w.cell? ⟨0, 0, none⟩ = some (.int .i64 m) := h.g.cell
set_option maxHeartbeats 8000000 in
set_option maxRecDepth 100000 in
theorem take_walk (s : ByteArray) (hs : s.size ≤ 2000000) (w : World) (hG : Hand2.Glob w) :
    Calls Tryz.prog 111 #[.string s] w (TakeEnd w (takeV s)) := by
  have HG := Lib.hid hG
  clear hG
  obtain ⟨m, hm⟩ := HG.out.g.cell
  have hcut := Lib.hid (Tryz.strings_Cut s ⟨#[10]⟩ m w (by omega) hm)
  clear hm
  rw [show ((⟨#[10]⟩ : ByteArray).data.toList) = [10] from rfl] at hcut
  obtain ⟨R, hR⟩ : ∃ R, takeV s = R := ⟨_, rfl⟩
  have hR' := hR
  unfold takeV at hR'
  have hspec := cut_one 10 s.data.toList
  have hsl : s.data.toList.length = s.size := by rw [Array.length_toList]; rfl
  obtain ⟨a, ha⟩ : ∃ a : ByteArray, (⟨(Lib.cut s.data.toList [10]).1.toArray⟩ : ByteArray) = a := ⟨_, rfl⟩
  obtain ⟨r, hr⟩ : ∃ r : ByteArray, (⟨(Lib.cut s.data.toList [10]).2.1.toArray⟩ : ByteArray) = r := ⟨_, rfl⟩
  have had : (Lib.cut s.data.toList [10]).1 = a.data.toList := by rw [← ha]
  rw [ha, hr] at hcut hR'
  rw [had] at hspec
  have hal : a.data.toList.length = a.size := by rw [Array.length_toList]; rfl
  have has : a.size ≤ s.size := by
    rcases hspec.2 with ⟨-, h⟩ | ⟨-, h⟩
    · have := congrArg List.length h
      rw [hsl, List.length_append, hal] at this
      omega
    · have := congrArg List.length h
      rw [hsl, hal] at this
      omega
  rw [hR]
  have HR := Lib.hid hR'
  clear hR hR' hspec hsl ha hr had
  generalize (Lib.cut s.data.toList [10]).2.2 = found at hcut HR
  cases found with
  | false =>
    have HX : Hid (R = ([], ⟨#[]⟩, 14)) := by rw [Hid, ← HR.out, if_pos rfl]
    clear HR
    go_enter Tryz.func111, Tryz.ntmps111
    go_wp2_with (go_at_call 134; refine hcut.out.mono ?_; rintro e W1 ⟨rfl, nd, rfl⟩)
    exact bodyPost_ret (v := .tuple #[.slice none 0 0, .string ⟨#[]⟩, .int .i64 14]) (by simp [results, Tryz.results111, go_sem]) rfl (TakeEnd.err HX.out (belowD _ _))
  | true =>
    have HX : Hid (R = takeB a r) := by rw [Hid, ← HR.out, if_neg (by decide)]
    clear HR
    have hcut2 : Hid (∀ e w', (e = Ending.returned (.tuple #[.string a, .string r, .bool true]) ∧ ∃ n, w' = w.drewN n) → Below w.heap.size w w') := by
      rintro e w' ⟨-, n, rfl⟩
      exact belowD _ _
    by_cases h9 : a.size < 9
    · have HY : Hid (R = ([], ⟨#[]⟩, 2)) := by
        rw [Hid, HX.out, takeB, if_pos]
        unfold formB
        rw [decide_eq_false (by omega : ¬ 9 ≤ a.size)]
        rfl
      go_enter Tryz.func111, Tryz.ntmps111
      go_wp2_with (go_at_call 134; refine hcut.out.mono ?_; rintro e W1 ⟨rfl, nd, rfl⟩)
      exact bodyPost_ret (v := .tuple #[.slice none 0 0, .string ⟨#[]⟩, .int .i64 2]) (by simp [results, Tryz.results111, go_sem]) rfl (TakeEnd.err HY.out (belowD _ _))
    · by_cases h13 : 13000 ≤ a.size
      · have HY : Hid (R = ([], ⟨#[]⟩, 2)) := by
          rw [Hid, HX.out, takeB, if_pos]
          unfold formB
          rw [decide_eq_false (by omega : ¬ a.size < 13000)]
          simp
        go_enter Tryz.func111, Tryz.ntmps111
        go_wp2_with (go_at_call 134; refine hcut.out.mono ?_; rintro e W1 ⟨rfl, nd, rfl⟩)
        exact bodyPost_ret (v := .tuple #[.slice none 0 0, .string ⟨#[]⟩, .int .i64 2]) (by simp [results, Tryz.results111, go_sem]) rfl (TakeEnd.err HY.out (belowD _ _))
      · obtain ⟨k, hk⟩ : ∃ k, a.size = k + 9 := ⟨a.size - 9, by omega⟩
        have hkl : k < a.size := by omega
        have hk13 : k < 12991 := by omega
        have e8 : (a.size : Int) - 8 = (k : Int) + 1 := by omega
        have hne : ¬ (k : Int) + 9 ≥ 13000 := by omega
        have hz : (a.size : Int) < 13000 := by omega
        by_cases hb : a[k] = 32
        · have hb32 : (a[k].toNat : Int) = 32 := by rw [hb]; rfl
          have h32 : decide (a.data.toList[k]? = some 32) = true := by
            apply decide_eq_true
            rw [List.getElem?_eq_getElem (by omega)]
            exact congrArg some hb
          have hk8 : a.size - 8 = k + 1 := by omega
          have hk9 : a.size - 9 = k := by omega
          have hform : formB a = (a.data.toList.drop (k + 1)).all (fun c => hexL.contains c) := by
            unfold formB
            rw [hk9, hk8, h32, decide_eq_true (by omega : 9 ≤ a.size), decide_eq_true (by omega : a.size < 13000)]
            rfl
          have e9 : (k : Int) + 1 - 1 = (k : Int) := by omega
          have hto : ((k : Int) + 1).toNat = k + 1 := by omega
          have htl : (a.extract (k + 1) a.size).size ≤ 100000 := by rw [ByteArray.size_extract]; omega
          have htd : (a.extract (k + 1) a.size).data.toList = a.data.toList.drop (k + 1) := by
            rw [← ext_drop]
          have HTR := Lib.hid fun W => trim_hex (a.extract (k + 1) a.size) htl W
          rw [htd] at HTR
          obtain ⟨T, hT⟩ : ∃ T : ByteArray, (⟨(Lib.trimS (a.data.toList.drop (k + 1)) hexL).toArray⟩ : ByteArray) = T := ⟨_, rfl⟩
          have hTd : T.toList = Lib.trimS (a.data.toList.drop (k + 1)) hexL := by rw [ByteArray.toList_eq, ← hT]
          rw [hT] at HTR
          have HK := Lib.hid hk
          have HK8 := Lib.hid hk8
          have HK9 := Lib.hid hk9
          have HFORM := Lib.hid hform
          have HTD := Lib.hid hTd
          clear hb hne h9 h13 hal hcut2 hk h32 hk8 hk9 hform htd hT hTd htl
          cases hTe : T.toList.isEmpty with
          | false =>
            have HY : Hid (R = ([], ⟨#[]⟩, 2)) := by
              rw [Hid, HX.out, takeB, if_pos]
              rw [HFORM.out]
              cases hall : (a.data.toList.drop (k + 1)).all (fun c => hexL.contains c) with
              | false => rfl
              | true =>
                rw [HTD.out, (trimS_nil _ _).2 hall] at hTe
                simp at hTe
            go_enter Tryz.func111, Tryz.ntmps111
            go_wp2_with (go_at_call 134; refine hcut.out.mono ?_)
            rintro e W1 ⟨rfl, nd, rfl⟩
            go_wp2_with (go_at_call 135; refine (HTR.out _).mono ?_)
            rintro e W2 ⟨rfl, hb2⟩
            have HB2 := Lib.hid ((belowD w nd).trans (hb2.mono (belowD w nd).size))
            clear hb2
            go_wp2
            exact bodyPost_ret (v := .tuple #[.slice none 0 0, .string ⟨#[]⟩, .int .i64 2]) (by simp [results, Tryz.results111, go_sem]) rfl (TakeEnd.err HY.out HB2.out)
          | true =>
            have HF : Hid (formB a = true) := by
              rw [Hid, HFORM.out, ← trimS_nil, ← HTD.out]
              exact List.isEmpty_iff.1 hTe
            go_enter Tryz.func111, Tryz.ntmps111
            go_wp2_with (go_at_call 134; refine hcut.out.mono ?_)
            rintro e W1 ⟨rfl, nd, rfl⟩
            go_wp2_with (go_at_call 135; refine (HTR.out _).mono ?_)
            rintro e W2 ⟨rfl, hb2⟩
            have HB2 := Lib.hid ((belowD w nd).trans (hb2.mono (belowD w nd).size))
            have HG2 := Lib.hid (HG.out.below HB2.out)
            clear hb2
            obtain ⟨m2, hm2⟩ := glob_cell HG2.out
            have hxs : (a.extract 0 k).size < 4294967281 := by rw [ByteArray.size_extract]; omega
            have HS := Lib.hid (Tryz.strings_Split (a.extract 0 k) blankB m2 W2 hxs hm2 (by decide))
            have hpl : (wordsB a).length = Lib.countB (a.extract 0 k) blankB + 1 := by
              unfold wordsB
              rw [HK9.out]
              exact Lib.splitB_all blankB (by decide) 0 _ _ rfl
            have hps : Lib.splitB blankB 0 (Lib.countB (a.extract 0 k) blankB) (a.extract 0 k) = wordsB a := by
              unfold wordsB
              rw [HK9.out]
            have HWS := Lib.hid (words_size a)
            rw [hps] at HS
            clear hm2 hps hxs
            obtain ⟨cn, hcn⟩ : ∃ cn, Lib.countB (a.extract 0 k) blankB = cn := ⟨_, rfl⟩
            rw [hcn] at HS hpl
            clear hcn
            obtain ⟨ws, hws⟩ : ∃ ws, wordsB a = ws := ⟨_, rfl⟩
            rw [hws] at HS hpl HWS
            have HPL := Lib.hid hpl
            have HTB : Hid (R = if 40 < ws.length then ([], ⟨#[]⟩, 2) else if ws.all (fun x => (unqV x).isSome) = false then ([], ⟨#[]⟩, 2) else if SumW.hex8 (adlOf (a.data.toList.take (k + 1))) = a.extract (k + 1) a.size then (ws.map uq, r, 0) else ([], ⟨#[]⟩, 13)) := by
              rw [Hid, HX.out]
              unfold takeB
              rw [if_neg (by rw [HF.out]; decide), hws, HK8.out]
              rfl
            clear hws
            obtain ⟨W3, hW3⟩ : ∃ W3, W2.alloc (.cells (ws.map Value.string).toArray 9) = W3 := ⟨_, rfl⟩
            rw [hW3] at HS
            have hpc : Hid (∀ j (h : j < ws.length), W3.cell? ⟨W2.heap.size, j, none⟩ = some (.string ws[j])) := by
              intro j h
              have hb := World.alloc_heap_new W2 (.cells (ws.map Value.string).toArray 9)
              rw [hW3] at hb
              rw [Lib.cell_of_heap hb]
              simp [h]
            have HB3 : Hid (Below w.heap.size w W3) := by
              rw [Hid, ← hW3]
              exact HB2.out.alloc HB2.out.size _
            have hs3 : W3.heap.size = W2.heap.size + 1 := by rw [← hW3]; simp
            have HG3 := Lib.hid (HG.out.below HB3.out)
            clear hW3 hpl
            go_wp2_with (go_at_call 67; refine HS.out.mono ?_)
            rintro e w1 ⟨rfl, rfl⟩
            by_cases h40 : 40 < cn + 1
            · have HY : Hid (R = ([], ⟨#[]⟩, 2)) := by rw [Hid, HTB.out, if_pos (by rw [HPL.out]; exact h40)]
              go_wp2
              exact bodyPost_ret (v := .tuple #[.slice none 0 0, .string ⟨#[]⟩, .int .i64 2]) (by simp [results, Tryz.results111, go_sem]) rfl (TakeEnd.err HY.out HB3.out)
            · have h40' : cn ≤ 39 := by omega
              have HTB2 : Hid (R = if ws.all (fun x => (unqV x).isSome) = false then ([], ⟨#[]⟩, 2) else if SumW.hex8 (adlOf (a.data.toList.take (k + 1))) = a.extract (k + 1) a.size then (ws.map uq, r, 0) else ([], ⟨#[]⟩, 13)) := by
                rw [Hid, HTB.out, if_neg (by rw [HPL.out]; exact h40)]
              clear h40
              go_wp2
              go_loopw [10, 57] (fun v i wr => ∃ j : Nat, j ≤ cn + 1 ∧ i = .int .i64 j ∧ Hid (Below w1.heap.size w1 wr) ∧ Hid (Kd.R Kd.string 9 wr w1.heap.size (fun _ => True) v ((ws.take j).map uq)) ∧ Hid ((ws.take j).all (fun x => (unqV x).isSome) = true))
                (fun _ i _ => cn + 1 - (intOf i).toNat)
              case atStart => exact ⟨0, Nat.zero_le _, rfl, Below.refl _ _, Kd.R_nil _ _ _ _ _, rfl⟩
              case round =>
                obtain ⟨j, hj, rfl, hbw, hrow, hall⟩ := hrel
                have HT := Lib.hid (HB3.out.trans (hbw.out.mono HB3.out.size))
                have HGr := Lib.hid (HG.out.below HT.out)
                by_cases hjn : j < cn + 1
                · have hjl : j < ws.length := by rw [HPL.out]; exact hjn
                  have hc : wr.cell? ⟨W2.heap.size, j, none⟩ = some (.string ws[j]) := (hbw.out.cell (p := ⟨W2.heap.size, j, none⟩) (by show W2.heap.size < _; omega)).trans (hpc.out j hjl)
                  have hst : Hid ((ws.take (j + 1)).map uq = (ws.take j).map uq ++ [uq ws[j]]) := by
                    rw [Hid, List.take_succ_eq_append_getElem hjl, List.map_append]
                    rfl
                  have hst2 : Hid ((ws.take (j + 1)).all (fun x => (unqV x).isSome) = (unqV ws[j]).isSome) := by
                    rw [Hid, List.take_succ_eq_append_getElem hjl, List.all_append, hall.out]
                    simp
                  have hmem : Hid (ws[j] ∈ ws) := List.getElem_mem hjl
                  have hxs : Hid (ws[j].size ≤ 100000) := by
                    have := HWS.out _ (List.getElem_mem hjl)
                    rw [Hid]
                    omega
                  generalize ws[j] = x at hc hst hst2 hmem hxs
                  have hf : Hand2.text_Unquote.f x = some ((unqP (unqV x)).1, (unqP (unqV x)).2) := by
                    unfold Hand2.text_Unquote.f
                    rw [if_pos hxs.out]
                  have HQ := Lib.hid (Hand2.text_Unquote.calls x _ _ wr HGr.out hf)
                  clear hf
                  cases hu : unqV x with
                  | none =>
                    rw [hu] at HQ
                    have HQ : Hid (Calls Tryz.prog 136 #[.string x] wr fun e w' => e = .returned (.tuple #[.string ⟨#[]⟩, .int .i64 2]) ∧ Below wr.heap.size wr w') := HQ
                    have HY : Hid (R = ([], ⟨#[]⟩, 2)) := by
                      rw [Hid, HTB2.out, if_pos]
                      rw [List.all_eq_false]
                      exact ⟨x, hmem.out, by rw [hu]; decide⟩
                    clear hu
                    go_wp2_with (go_at_call 136; refine HQ.out.mono ?_; rintro e W4 ⟨rfl, hb4⟩; have HB4 := Lib.hid (HT.out.trans (hb4.mono HT.out.size)); clear hb4)
                    exact bodyPost_ret (v := .tuple #[.slice none 0 0, .string ⟨#[]⟩, .int .i64 2]) (by simp [results, Tryz.results111, go_sem]) rfl (TakeEnd.err HY.out HB4.out)
                  | some t =>
                    rw [hu] at HQ hst2
                    have HQ : Hid (Calls Tryz.prog 136 #[.string x] wr fun e w' => e = .returned (.tuple #[.string t, .int .i64 0]) ∧ Below wr.heap.size wr w') := HQ
                    have hst : Hid ((ws.take (j + 1)).map uq = (ws.take j).map uq ++ [t]) := by
                      rw [Hid, hst.out]
                      unfold uq
                      rw [hu]
                      rfl
                    have hlen : Hid ((((ws.take j).map uq).length + 1) * 16 ≤ 140737488355328) := by
                      have : (ws.take j).length ≤ j := List.length_take_le _ _
                      rw [Hid, List.length_map]
                      omega
                    clear hu
                    go_wp2_with (go_at_call 136; refine HQ.out.mono ?_)
                    rintro e W4 ⟨rfl, hb4⟩
                    have hb5 := Lib.hid (hbw.out.trans (hb4.mono hbw.out.size))
                    have hr5 := Lib.hid (Kd.R_below hrow.out hb4)
                    clear hb4
                    go_wp2_with (at_builtin; refine Kd.R_append Kd.string (w0 := w1) (W := W4) w1.heap.size rfl (.tmp 68) (.tmp 70) 22 9 (.string ⟨#[]⟩) 16 rfl Tryz.underlying22 infoStr2 rfl (by decide) (by decide) u10 ((ws.take j).map uq) t [.string t] (fun _ => True) (fun _ => False) rfl rfl rfl (fun _ h => h.elim) (fun _ _ => trivial) hr5.out hb5.out hb5.out.size hlen.out ?_; intro v3 w3 hR3 hB3 hg3 hat3)
                    have hR3 := Lib.hid hR3
                    have hB3' := Lib.hid hB3
                    clear hB3 hg3 hat3
                    go_wp2
                    go_roundw
                    case rel => exact ⟨j + 1, by omega, by go_num, hB3', by rw [hst.out]; exact hR3, hst2⟩
                    case measure => simp [intOf]; omega
                · have hjn' : j = cn + 1 := by omega
                  subst hjn'
                  have htk : ws.take (cn + 1) = ws := List.take_of_length_le (by rw [HPL.out]; exact Nat.le_refl _)
                  rw [htk] at hrow hall
                  have HTB3 : Hid (R = if SumW.hex8 (adlOf (a.data.toList.take (k + 1))) = a.extract (k + 1) a.size then (ws.map uq, r, 0) else ([], ⟨#[]⟩, 13)) := by
                    rw [Hid, HTB2.out, if_neg (by rw [hall.out]; decide)]
                  have hbd : (a.extract 0 (k + 1)).data.toList = a.data.toList.take (k + 1) := by rw [← ext_take]
                  have hbs : (a.extract 0 (k + 1)).size ≤ 140737488351232 := by rw [ByteArray.size_extract]; omega
                  have hof : ∀ W, Below wr.heap.size wr W → Calls Tryz.prog 71 #[.string (a.extract 0 (k + 1))] W fun e w' => e = .returned (.int .u32 (adlOf (a.data.toList.take (k + 1)) : Nat)) ∧ Below wr.heap.size wr w' := by
                    intro W hW
                    rw [← hbd]
                    exact (of_walk _ hbs W).mono fun e w' h => ⟨h.1, hW.trans (h.2.mono hW.size)⟩
                  have hadl := adlOf_lt (a.data.toList.take (k + 1))
                  have hx8 : ∀ W, Below wr.heap.size wr W → Calls Tryz.prog 70 #[.int .u32 (adlOf (a.data.toList.take (k + 1)) : Nat)] W fun e w' => e = .returned (.string (SumW.hex8 (adlOf (a.data.toList.take (k + 1))))) ∧ Below wr.heap.size wr w' := by
                    intro W hW
                    have hg := HGr.out.below hW
                    exact (SumW.hex_walk _ W hadl hg.bru hg.big).mono fun e w' h => ⟨h.1, hW.trans (h.2.mono hW.size)⟩
                  have HOF := Lib.hid hof
                  have HX8 := Lib.hid hx8
                  clear htk hbd hbs hof hx8 hadl
                  generalize adlOf (a.data.toList.take (k + 1)) = ad at HOF HX8 HTB3
                  generalize SumW.hex8 ad = H8 at HX8 HTB3
                  have hrowE := Lib.hid fun W (hW : Below wr.heap.size wr W) => Kd.R_lower (Kd.R_below hrow.out hW) HB3.out.size
                  by_cases heq : H8 = a.extract (k + 1) a.size
                  · have HY : Hid (R = (ws.map uq, r, 0)) := by rw [Hid, HTB3.out, if_pos heq]
                    have hq : (H8.toList == (a.extract (k + 1) a.size).toList) = true := by rw [heq]; simp
                    have hq2 : (H8.toList != (a.extract (k + 1) a.size).toList) = false := by rw [heq]; simp
                    clear heq
                    go_wp2
                    go_region_with (first | (go_at_call 71; refine (HOF.out _ (by first | exact (Below.refl _ _).drew | assumption)).mono ?_; rintro e w5 ⟨rfl, hb5⟩) | (go_at_call 70; refine (HX8.out _ (by first | exact (Below.refl _ _).drew | assumption)).mono ?_; rintro e w6 ⟨rfl, hb6⟩))
                    all_goals go_wp2
                    all_goals exact bodyPost_ret (v := .tuple #[u10, .string r, .int .i64 0]) (by simp [results, Tryz.results111, go_sem]) rfl ⟨_, by rw [HY.out], by rw [HY.out]; exact hrowE.out _ hb6, HT.out.trans (hb6.mono HT.out.size)⟩
                  · have HY : Hid (R = ([], ⟨#[]⟩, 13)) := by rw [Hid, HTB3.out, if_neg heq]
                    have hq : (H8.toList == (a.extract (k + 1) a.size).toList) = false := by
                      rw [ByteArray.toList_eq, ByteArray.toList_eq, beq_eq_false_iff_ne]
                      exact fun h => heq (ba_ext h)
                    have hq2 : (H8.toList != (a.extract (k + 1) a.size).toList) = true := by
                      rw [bne, hq]
                      rfl
                    clear heq
                    go_wp2
                    go_region_with (first | (go_at_call 71; refine (HOF.out _ (by first | exact (Below.refl _ _).drew | assumption)).mono ?_; rintro e w5 ⟨rfl, hb5⟩) | (go_at_call 70; refine (HX8.out _ (by first | exact (Below.refl _ _).drew | assumption)).mono ?_; rintro e w6 ⟨rfl, hb6⟩))
                    all_goals go_wp2
                    all_goals exact bodyPost_ret (v := .tuple #[.slice none 0 0, .string ⟨#[]⟩, .int .i64 13]) (by simp [results, Tryz.results111, go_sem]) rfl (TakeEnd.err HY.out (HT.out.trans (hb6.mono HT.out.size)))
        · have hbn : ¬ (a[k].toNat : Int) = 32 := by
            intro e
            apply hb
            apply UInt8.toNat_inj.1
            show _ = 32
            omega
          have hbb : ((a[k].toNat : Int) == 32) = false := by simpa using hbn
          have HY : Hid (R = ([], ⟨#[]⟩, 2)) := by
            rw [Hid, HX.out, takeB, if_pos]
            unfold formB
            rw [show a.size - 9 = k by omega, show decide (a.data.toList[k]? = some 32) = false from ?_]
            · simp
            · rw [decide_eq_false_iff_not]
              intro e
              apply hb
              have h2 : a.data.toList[k]? = some a[k] := by
                rw [List.getElem?_eq_getElem (by omega)]
                rfl
              rw [h2] at e
              exact Option.some.inj e
          have HK := Lib.hid hk
          have hbm : ((a[k].toNat : Int) != 32) = true := by simpa using hbn
          have e9 : (k : Int) + 1 - 1 = (k : Int) := by omega
          clear hb hne h9 h13 hal hcut2 hk
          go_enter Tryz.func111, Tryz.ntmps111
          go_wp2_with (go_at_call 134; refine hcut.out.mono ?_; rintro e W1 ⟨rfl, nd, rfl⟩)
          exact bodyPost_ret (v := .tuple #[.slice none 0 0, .string ⟨#[]⟩, .int .i64 2]) (by simp [results, Tryz.results111, go_sem]) rfl (TakeEnd.err HY.out (belowD _ _))
end Go.Proofs.YtghbaehbgefpaaaGreatDoor.Hand
/- A range over an iterator whose values lie in memory that it makes itself, and a body that never leaves; an append in a round. -/
namespace Go.Proofs.YtghbaehbgefpaaaGreatDoor.Range2
open Go Go.RowKit
variable {α : Type}
theorem wpListIn_append_own_at {F : Fence} {n : Nat} {P : Program} (w : World) {ops : Array Oper} {rest : List Oper} {o : Oper} {a : Act} {Q : Exit → Act → World → Prop}
    (hg : o.guard = none) (s x : Operand) (t : TypeId) (hop : o.op = Op.call { callee := Callee.builtin Builtin.append, args := #[s, x], argTypes := #[t, t] })
    (base : Nat) (e : TypeId) (i : TypeInfo) (z : Value) (size bytes : Nat) (h1 : P.underlying t = some (.slice e)) (h2 : P.info? e = some i) (h3 : i.zero = some z) (h4 : i.size = size) (h5 : i.bytes = bytes) (h6 : z.cells.size = size) (h7 : 0 < size)
    (v : Value) (k : Nat) (xs : List Value) (hs : a.eval s = v) (hown : w.ownsRow base e size v k xs) (ad : Addr) (m c : Nat) (news : List Value) (hx : a.eval x = .slice (some ad) m c) (hn : news.length = m * size)
    (hc : ∀ j u, news[j]? = some u → w.cell? (ad.add j) = some u) (h1c : ∀ u ∈ news, u.oneCell' = true) (b1 : k + m ≤ maxLen) (b2 : (k + m) * bytes ≤ 140737488355328) (b3 : base ≤ w.heap.size)
    (hK : ∀ v' w', w'.ownsRow base e size v' (k + m) (xs ++ news) → w.grownBy w' v.ownBlock → (v'.ownBlock = v.ownBlock ∨ v'.ownBlock = some w.heap.size) → wpListIn F n P ops Q rest (a.put o.dst v') w') :
    wpListIn F n P ops Q (o :: rest) a w := by
  refine wpListIn_plain hg fun K hK' => ?_
  obtain ⟨v', w', hrun, r1, r2, -, r3⟩ := run_append_own_at (P := P) w base t o.type e i z size bytes h1 h2 h3 h4 h5 h6 h7 v k xs hown ad m c news hn hc h1c b1 b2 b3
  unfold Oper.wpIn
  refine ⟨?_, ?_⟩
  · simp [Oper.about, hop, resolve, Target.leads, Sem.run_pure]
  · rw [Oper.semAt_plain F _ _ (by rw [hop]; intro c hc'; cases hc')]
    simp [execOp, hop, resolve, invoke, builtin, hs, hx, hrun, Result.andThen]
    exact hK' _ _ (hK v' w' r1 r2 r3)
theorem putObj_size (w : World) (k : Nat) (o : Obj) : (w.putObj k o).heap.size = w.heap.size := by simp [World.putObj]
theorem below_putBoth {W W1 : World} {l : Nat} (o : Obj) (hb : Below W.heap.size W W1) (hl : l < W.heap.size) : Below (W.putObj l o).heap.size (W.putObj l o) (W1.putObj l o) where
  os := hb.os
  tape := hb.tape
  output := hb.output
  size := by rw [putObj_size, putObj_size]; exact hb.size
  block := by
    intro k hk
    rw [putObj_size] at hk
    by_cases e : k = l
    · subst e
      rw [World.putObj_heap_same hl, World.putObj_heap_same (Nat.lt_of_lt_of_le hl hb.size)]
    · rw [World.putObj_heap_other e, World.putObj_heap_other e]
      exact hb.block k hk
/-- What lies below n₀, and block Bn, lie as they lay. -/
structure Kp (n₀ Bn : Nat) (W W' : World) : Prop where
  below : Below n₀ W W'
  box : Bn < W.heap.size → W'.heap[Bn]? = W.heap[Bn]?
theorem Kp.trans {n₀ Bn : Nat} {a b c : World} (h : Kp n₀ Bn a b) (k : Kp n₀ Bn b c) : Kp n₀ Bn a c := ⟨h.below.trans k.below, fun hb => (k.box (Nat.lt_of_lt_of_le hb h.below.size)).trans (h.box hb)⟩
theorem Kp.put {n₀ Bn : Nat} (W : World) (l : Nat) (o : Obj) (h1 : n₀ ≤ l) (h2 : Bn ≠ l) (h3 : l < W.heap.size) : Kp n₀ Bn W (W.putObj l o) :=
  ⟨(Below.refl _ W).grown (grownBy_putObj' W _ _) (by omega) (fun k e => by cases e; omega), fun _ => World.putObj_heap_other h2⟩
/-- How the body ends. -/
def goesOn (B n₀ Bn : Nat) (I : List α → World → Prop) (xs : List α) (W : World) : Exit → Act → World → Prop
  | .normal, _, W' => KeepsFrom B W W' ∧ Kp n₀ Bn W W' ∧ I xs W'
  | _, _, _ => False
/-- The iterator gives xs, one by one, each in memory that is new (Arg: of blocks from the bound on), to a yield that always goes on. -/
def Gives (F : Fence) (n : Nat) (P : Program) (gf : Nat) (lb : Array Value) (Arg : Nat → α → Array Value → World → Prop) (n₀ Bn : Nat) (xs : List α) (w : World) : Prop :=
  ∀ (l : Nat) (J : List α → World → Prop) (W : World), Below w.heap.size w W →
    (∀ pre x vs W0 W1, J pre W0 → n₀ ≤ W0.heap.size → Bn < W0.heap.size → Below W0.heap.size W0 W1 → Arg W0.heap.size x vs W1 → (∃ t, pre ++ x :: t = xs) → YieldAt F (n - 1) P l vs W1 fun e W' => e = .returned (.bool true) ∧ J (pre ++ [x]) W' ∧ Kp n₀ Bn W1 W') →
    J [] W → CallsIn F n P gf (#[.func (.yield l) #[] #[]] ++ lb) W fun e W' => (∃ v, e = .returned v) ∧ ∃ W0, J xs W0 ∧ Below W0.heap.size W0 W'
theorem loop_all {F : Fence} {n : Nat} {P : Program} {g : Operand} {ps : Array Tmp} {assign body : Code} {Q : Exit → Act → World → Prop} {a : Act} {w : World} (hro : F.round = none) (h1 : 1 ≤ n) {gf : Nat} {lb : Array Value}
    (hg : a.eval g = .func (.func gf) #[] lb) (hFg : F.fn gf) (eg : ∀ args w, (callFunc gf args).run P w = .ok (.enter gf args) w) {Arg : Nat → α → Array Value → World → Prop} {n₀ Bn : Nat} {xs : List α} {w0 : World}
    (hseq : Gives F (n - 1) P gf lb Arg n₀ Bn xs w0) (hb0 : Below w0.heap.size w0 w) (hn : n₀ ≤ w.heap.size) (hBn : Bn < w.heap.size) (hps : ∀ b x vs W, Arg b x vs W → vs.size = ps.size)
    (hArg : ∀ b x vs W l o', Arg b x vs W → l < b → Arg b x vs (W.putObj l o')) (I : List α → World → Prop) (hI : ∀ s W W', I s W → Below W.heap.size W W' → I s W')
    (hput : ∀ s W l o o', I s W → w.heap.size ≤ l → W.heap[l]? = some o → Obj.isCells o = false → I s (W.putObj l o')) (h0 : I [] w) (a₁ : Array Value → Act)
    (hassign : ∀ (l b : Nat) (x : α) (vs : Array Value) (W : World) (K : Act → World → Prop), Arg b x vs W → K (a₁ vs) W → assign.wpIn (F.inRound l) (n - 1 - 1) P (Exit.then K (fun _ _ _ => False)) { tmps := (ps.zip vs).foldl (fun t (p, v) => t.setIfInBounds p v) a.tmps, defers := [] } W)
    (hbody : ∀ (l : Nat) (pre : List α) (x : α) (vs : Array Value) (W0 W : World), I pre W0 → n₀ ≤ W0.heap.size → Bn < W0.heap.size → Below W0.heap.size W0 W → Arg W0.heap.size x vs W → (∃ t, pre ++ x :: t = xs) → body.wpIn (F.inRound l) (n - 1 - 1) P (goesOn w.heap.size n₀ Bn I (pre ++ [x]) W) (a₁ vs) W)
    (hdone : ∀ (D : Nat) (W : World), w.heap.size ≤ D → I xs W → W.heap[D]? = some (.deferred (some [])) → Q .normal { a with defers := { target := .collected D, args := #[] } :: a.defers } W) :
    (Code.rangeFunc g ps assign body).wpIn F n P Q a w := by
  apply wpIn_rangeFunc
  intro fn hfn
  rw [hro]
  let rec_ : LoopState → Loop := fun st => { state := st, pending := none, fn := fn, tmps := a.tmps, params := ps, assign := assign, body := body, defers := w.heap.size }
  let V := w.alloc (.deferred (some []))
  have hVs : V.heap.size = w.heap.size + 1 := World.size_alloc _ _
  let U := V.alloc (.loop (rec_ .ready))
  have hUl : U.heap[w.heap.size + 1]? = some (.loop (rec_ .ready)) := by rw [← hVs]; exact World.alloc_heap_new V _
  have hVd : V.heap[w.heap.size]? = some (.deferred (some [])) := World.alloc_heap_new w _
  have hUd : U.heap[w.heap.size]? = some (.deferred (some [])) := (Below.heap_alloc V _ _ (by rw [hVs]; omega)).trans hVd
  have hwV : Below w.heap.size w V := (Below.refl _ w).alloc (Nat.le_refl _) _
  have hVU : Below V.heap.size V U := (Below.refl _ V).alloc (Nat.le_refl _) _
  have hIU : I [] U := hI _ _ _ (hI _ _ _ h0 hwV) hVU
  have hwU : Below w.heap.size w U := hwV.trans (hVU.mono (by rw [hVs]; omega))
  refine ⟨_, _, _, { target := .fn (.func gf) lb, args := #[.func (.yield (w.heap.size + 1)) #[] #[]] }, U, gf, #[.func (.yield (w.heap.size + 1)) #[] #[]] ++ lb, U, run_enterLoop_outer fn a.tmps ps assign body, ?_, ?_, ?_, fun _ => h1, ?_⟩
  · simp only [resolve, hg]
    simp [go_sem]
    rfl
  · intro f' hf'
    simp [Target.leads] at hf'
    subst hf'
    exact hFg
  · simp [invoke, go_sem, eg]
  refine (hseq (w.heap.size + 1) (fun pre W => I pre W ∧ W.heap[w.heap.size + 1]? = some (.loop (rec_ .ready)) ∧ W.heap[w.heap.size]? = some (.deferred (some []))) U (hb0.trans (hwU.mono hb0.size)) ?_ ⟨hIU, hUl, hUd⟩).mono ?_
  · rintro pre x vs W0 W1 ⟨h, hl0, hd0⟩ hn0 hBn0 hb01 hA hx
    have hlt0 := (Array.getElem?_eq_some_iff.1 hl0).1
    have hl := (hb01.block _ hlt0).trans hl0
    have hd := (hb01.block _ (Array.getElem?_eq_some_iff.1 hd0).1).trans hd0
    have hlt := (Array.getElem?_eq_some_iff.1 hl).1
    refine ⟨_, _, _, _, run_yield (P := P) (args := vs) hl (hps _ _ _ _ hA), roundIn_of_wpIn hfn ?_⟩
    refine hassign _ _ x vs W1 _ hA ?_
    refine ⟨_, run_beginRound hl rfl, ?_⟩
    let X := W1.putObj (w.heap.size + 1) (.loop (rec_ .busy))
    have hXl : X.heap[w.heap.size + 1]? = some (.loop (rec_ .busy)) := World.putObj_heap_same hlt
    have hXd : X.heap[w.heap.size]? = some (.deferred (some [])) := (World.putObj_heap_other (by omega)).trans hd
    have hXb : Kp n₀ Bn W1 X := Kp.put W1 _ _ (by omega) (by omega) hlt
    refine wpIn_mono (hbody (w.heap.size + 1) pre x vs (W0.putObj (w.heap.size + 1) (.loop (rec_ .busy))) X (hput _ _ _ _ _ h (by omega) hl0 rfl) (by rw [putObj_size]; exact hn0) (by rw [putObj_size]; exact hBn0) (below_putBoth _ hb01 hlt0)
      (by rw [putObj_size]; exact hArg _ _ _ _ _ _ hA hlt0) hx) ?_
    intro e a3 Y hY
    cases e with
    | normal =>
      obtain ⟨hk, hbY, hIY⟩ := hY
      have hYl := hk.same _ _ (by omega) hXl rfl
      have hYd := hk.same _ _ (Nat.le_refl _) hXd rfl
      have hlt2 := (Array.getElem?_eq_some_iff.1 hYl).1
      refine ⟨_, _, run_endRound none hYl, rfl, ⟨hput _ _ _ _ _ hIY (by omega) hYl rfl, World.putObj_heap_same hlt2, (World.putObj_heap_other (by omega)).trans hYd⟩, ?_⟩
      exact (hXb.trans hbY).trans (Kp.put Y _ _ (by omega) (by omega) hlt2)
    | _ => exact hY.elim
  · rintro e Y ⟨⟨v, rfl⟩, W0, ⟨hI0, hl0, hd0⟩, hb⟩
    have hIY := hI _ _ _ hI0 hb
    have hYl := (hb.block _ (Array.getElem?_eq_some_iff.1 hl0).1).trans hl0
    have hYd := (hb.block _ (Array.getElem?_eq_some_iff.1 hd0).1).trans hd0
    exact ⟨none, _, run_endLoop hYl (by simp [rec_]), hdone _ _ (Nat.le_refl _) (hput _ _ _ _ _ hIY (by omega) hYl rfl) ((World.putObj_heap_other (by omega)).trans hYd)⟩
end Go.Proofs.YtghbaehbgefpaaaGreatDoor.Range2
/- line.Scan: the iterator. -/
namespace Go.Proofs.YtghbaehbgefpaaaGreatDoor.Hand
open Go.RowKit Go.Shelf Go.Proofs.YtghbaehbgefpaaaGreatDoorW.PrintWords Go.Proofs.YtghbaehbgefpaaaGreatDoor.Range2
attribute [local go_sem] Oper.semAt_some
set_option linter.unusedVariables false
set_option linter.unusedSimpArgs false
/-- The lists of lines that a text begins with, each with where its line ends. -/
def scanG (tot : Nat) : Nat → ByteArray → List (List ByteArray × Int)
  | 0, _ => []
  | f + 1, u => if (takeV u).2.2 = 0 then ((takeV u).1, (tot : Int) - ((takeV u).2.1.size : Int)) :: scanG tot f (takeV u).2.1 else []
def scanP (s : ByteArray) : List (List ByteArray × Int) := scanG s.size (s.size + 1) s
def lastE (l : List (List ByteArray × Int)) : Int := (l.getLast?.map (·.2)).getD 0
theorem take_rest {u : ByteArray} (h : (takeV u).2.2 = 0) : (takeV u).2.1.size < u.size := by
  have hspec := (cut_one 10 u.data.toList).2
  have hul : u.data.toList.length = u.size := by rw [Array.length_toList]; rfl
  unfold takeV at h ⊢
  rcases hspec with ⟨hf, hu⟩ | ⟨hf, hu⟩
  · rw [hf, if_neg (by decide)] at h ⊢
    have hr : ∀ a r : ByteArray, (takeB a r).2.2 = 0 → (takeB a r).2.1 = r := by
      intro a r
      unfold takeB
      split
      · intro h; exact absurd h (by decide)
      · split
        · intro h; exact absurd h (by decide)
        · split
          · intro h; exact absurd h (by decide)
          · split
            · intro _; rfl
            · intro h; exact absurd h (by decide)
    rw [hr _ _ h]
    show (Lib.cut u.data.toList [10]).2.1.toArray.size < u.size
    have := congrArg List.length hu
    rw [hul, List.length_append, List.length_cons] at this
    rw [List.size_toArray]
    omega
  · rw [hf, if_pos rfl] at h
    exact absurd h (by decide)
theorem take_code (u : ByteArray) : 0 ≤ (takeV u).2.2 ∧ (takeV u).2.2 ≤ 14 := by
  unfold takeV
  split
  · decide
  · unfold takeB
    split
    · decide
    · split
      · decide
      · split
        · decide
        · split
          · exact ⟨Int.le_refl _, by show (0 : Int) ≤ 14; decide⟩
          · decide
/-- What the iterator hands to the body: a list in blocks from b on, and where its line ends. -/
def LArg (b : Nat) (x : List ByteArray × Int) (vs : Array Value) (W : World) : Prop := ∃ v, vs = #[v, .int .i64 x.2] ∧ Kd.R Kd.string 9 W b (fun _ => True) v x.1
set_option maxHeartbeats 4000000 in
set_option maxRecDepth 100000 in
theorem scan1_in (l Bn n₀ : Nat) (xs : List (List ByteArray × Int)) (J : List (List ByteArray × Int) → World → Prop) (s : ByteArray) (hs : s.size ≤ 2000000) (W wb : World) (hxs : scanP s = xs) (hGb : Hand2.Glob wb) (hwb : wb.heap.size ≤ n₀)
    (hY : ∀ pre x vs W0 W1, J pre W0 → n₀ ≤ W0.heap.size → Bn < W0.heap.size → Below W0.heap.size W0 W1 → LArg W0.heap.size x vs W1 → (∃ t, pre ++ x :: t = xs) → YieldAt Fence.wide (3 - 1) Tryz.prog l vs W1 fun e W' => e = .returned (.bool true) ∧ J (pre ++ [x]) W' ∧ Kp n₀ Bn W1 W')
    (hn0 : n₀ ≤ W.heap.size) (hbw : Below wb.heap.size wb W) (hBn : W.heap[Bn]? = some (.cells #[.string s] 9 (0, 0))) (h0 : J [] W) :
    CallsIn Fence.wide 3 Tryz.prog 110 #[.func (.yield l) #[] #[], .pointer (some ⟨Bn, 0, none⟩)] W fun e W' => (∃ v, e = .returned v) ∧ ∃ W0, J xs W0 ∧ Below W0.heap.size W0 W' := by
  have HY := Lib.hid hY
  have H0 := Lib.hid h0
  have HX := Lib.hid hxs
  have HGB := Lib.hid hGb
  have HBW := Lib.hid hbw
  have HB := Lib.hid hBn
  have hcB : W.cell? ⟨Bn, 0, none⟩ = some (.string s) := Boxed.cell hBn
  clear hY h0 hxs hGb hbw hBn
  refine callsIn_of_wp Tryz.func110 rfl trivial ?_ rfl
  simp only [Tryz.ntmps110, List.size_toArray, List.length_cons, List.length_nil, Nat.reduceAdd, Nat.reduceSub, Array.replicate_succ, Array.replicate_zero, List.push_toArray, List.append_toArray, List.nil_append, List.cons_append]
  gi_wp2
  clear hcB
  gi_loopw [3] (fun left wr => ∃ (pre : List (List ByteArray × Int)) (u : ByteArray) (W0 : World), left = .string u ∧ u.size ≤ s.size ∧ Hid (J pre W0) ∧ Hid (Below W0.heap.size W0 wr) ∧ n₀ ≤ W0.heap.size ∧ Bn < W0.heap.size ∧ Hid (∃ f, u.size < f ∧ pre ++ scanG s.size f u = xs) ∧ Hid (wr.heap[Bn]? = some (.cells #[.string s] 9 (0, 0))) ∧ Hid (Below wb.heap.size wb wr))
    (fun left wr => sizeOf' left)
  case atStart => exact ⟨[], s, W, rfl, Nat.le_refl _, H0, Below.refl _ _, hn0, Boxed.lt HB.out, ⟨s.size + 1, by omega, by simpa [scanP] using HX.out⟩, HB, HBW⟩
  case round =>
    obtain ⟨pre, u, W0, rfl, hus, hJ, hbw0, hn00, hBn0, hf, hbx, hbb⟩ := hrel
    have hGr := HGB.out.below hbb.out
    have HT := Lib.hid (take_walk u (by omega) wr hGr)
    clear hGr
    have hcode := take_code u
    have hrest : Hid ((takeV u).2.2 = 0 → (takeV u).2.1.size < u.size) := take_rest
    have hsc : Hid (∀ f, scanG s.size (f + 1) u = if (takeV u).2.2 = 0 then ((takeV u).1, (s.size : Int) - ((takeV u).2.1.size : Int)) :: scanG s.size f (takeV u).2.1 else []) := fun f => rfl
    generalize takeV u = p at HT hcode hrest hsc
    obtain ⟨ls, rest, c⟩ := p
    simp only at hcode
    by_cases hc : c = 0
    · subst hc
      have hlt := hrest.out rfl
      have hlt : Hid (rest.size < u.size) := hlt
      have hfx : Hid (∃ f, rest.size < f ∧ (pre ++ [(ls, (s.size : Int) - (rest.size : Int))]) ++ scanG s.size f rest = xs) := by
        obtain ⟨f, h1, h2⟩ := hf.out
        cases f with
        | zero => omega
        | succ f =>
          refine ⟨f, by have := hlt.out; omega, ?_⟩
          rw [hsc.out] at h2
          rw [← h2]
          simp
      have hrs : rest.size ≤ s.size := by have := hlt.out; omega
      clear hcode hrest hsc
      gi_wp2_with (refine ⟨trivial, ?_⟩; gi_at_call 111; refine (callsIn_wide.2 HT.out).mono ?_)
      rintro e w1 ⟨v, rfl, hR, hb⟩
      have hbx1 : w1.heap[Bn]? = some (.cells #[.string s] 9 (0, 0)) := (hb.block _ (Boxed.lt hbx.out)).trans hbx.out
      have hc1 : w1.cell? ⟨Bn, 0, none⟩ = some (.string s) := Boxed.cell hbx1
      have hb01 := hbw0.out.trans (hb.mono hbw0.out.size)
      have hbb1 := Lib.hid (hbb.out.trans (hb.mono hbb.out.size))
      have hA : LArg W0.heap.size (ls, (s.size : Int) - (rest.size : Int)) #[v, .int .i64 ((s.size : Int) - (rest.size : Int))] w1 := ⟨v, rfl, Kd.R_lower hR hbw0.out.size⟩
      have hyy := HY.out pre (ls, (s.size : Int) - (rest.size : Int)) _ W0 w1 hJ.out hn00 hBn0 hb01 hA (by
        obtain ⟨f, -, h2⟩ := hfx.out
        exact ⟨scanG s.size f rest, by rw [← h2]; simp⟩)
      obtain ⟨fn, tmps, assign, body, hy, hRd⟩ := hyy
      have HBX1 := Lib.hid hbx1
      have hb01s := hb01.size
      clear hbx1 hb01 hA hb hR
      gi_wp2
      refine hRd.mono ?_
      rintro e W3 ⟨rfl, hJ3, hk3⟩
      have hJ4 := Lib.hid hJ3
      have hbx3 := Lib.hid ((hk3.box (Boxed.lt HBX1.out)).trans HBX1.out)
      have hn3 : n₀ ≤ W3.heap.size := Nat.le_trans (Nat.le_trans hn00 hb01s) hk3.below.size
      have hbb3 := Lib.hid (hbb1.out.trans (hk3.below.mono hwb))
      clear hJ3 hk3 hy hRd
      gi_wp2
      go_roundw
      case rel => exact ⟨pre ++ [(ls, (s.size : Int) - (rest.size : Int))], rest, W3, rfl, hrs, hJ4, Below.refl _ _, hn3, Boxed.lt hbx3.out, hfx, hbx3, hbb3⟩
      case measure => exact hlt.out
    · have hcn : (c == 0) = false := by simpa using hc
      have hcm : (c != 0) = true := by simpa using hc
      have hfin : Hid (xs = pre) := by
        obtain ⟨f, h1, h2⟩ := hf.out
        cases f with
        | zero => omega
        | succ f =>
          rw [hsc.out, if_neg hc, List.append_nil] at h2
          exact h2.symm
      clear hrest hsc
      gi_wp2_with (refine ⟨trivial, ?_⟩; gi_at_call 111; refine (callsIn_wide.2 HT.out).mono ?_)
      rintro e w1 ⟨v, rfl, hR, hb⟩
      have hb01 := Lib.hid (hbw0.out.trans (hb.mono hbw0.out.size))
      clear hR hb
      gi_wp2
      refine ⟨(fun f h => by cases h), ?_⟩
      gi_wp2
      exact bodyPost_ret (v := .tuple #[]) (by simp [results, Tryz.results110, go_sem]) rfl ⟨⟨_, rfl⟩, W0, by rw [hfin.out]; exact hJ.out, hb01.out⟩
/-- lines$1 gives the lists. -/
theorem scan_gives (Bn n₀ : Nat) (s : ByteArray) (hs : s.size ≤ 2000000) (w wb : World) (hGb : Hand2.Glob wb) (hwb : wb.heap.size ≤ n₀) (hn0 : n₀ ≤ w.heap.size) (hbw : Below wb.heap.size wb w) (hBn : w.heap[Bn]? = some (.cells #[.string s] 9 (0, 0))) :
    Gives Fence.wide 3 Tryz.prog 110 #[.pointer (some ⟨Bn, 0, none⟩)] LArg n₀ Bn (scanP s) w := by
  intro l J W hb hY h0
  exact scan1_in l Bn n₀ _ J s hs W wb rfl hGb hwb hY (Nat.le_trans hn0 hb.size) (hbw.trans (hb.mono hbw.size)) ((hb.block _ (Boxed.lt hBn)).trans hBn) h0
theorem linesP_mk (s : ByteArray) (w : World) : Calls Tryz.prog 98 #[.string s] w fun e w' => e = .returned (.func (.func 110) #[] #[.pointer (some ⟨w.heap.size, 0, none⟩)]) ∧ w' = w.alloc (.cells #[.string s] 9) := by
  go_enter Tryz.func98, Tryz.ntmps98
  go_wp2
  go_ret
  exact ⟨rfl, rfl⟩
theorem enters110 (args : Array Value) (w : World) : (callFunc 110 args).run Tryz.prog w = .ok (.enter 110 args) w := enters_of Tryz.func110 (by kernel_rfl) rfl args w
end Go.Proofs.YtghbaehbgefpaaaGreatDoor.Hand
/- line.Scan. -/
namespace Go.Proofs.YtghbaehbgefpaaaGreatDoor.Hand
open Go.RowKit Go.Shelf Go.Proofs.YtghbaehbgefpaaaGreatDoorW.PrintWords Go.Proofs.YtghbaehbgefpaaaGreatDoor.Range2
attribute [local go_sem] Oper.semAt_some
set_option linter.unusedVariables false
set_option linter.unusedSimpArgs false
abbrev kLL : Kd (List ByteArray) := Kd.slice 9 Kd.string
theorem info23 : (Tryz.prog.info? 22).map (fun i => (i.zero, i.size, i.bytes)) = some (some (.slice none 0 0), 1, 24) := by kernel_rfl
theorem S_other {W W' : World} {b : Nat} {ok : Nat → Prop} {v : Value} {xs : List (List ByteArray)} (h : Kd.S kLL 22 W b ok v xs) {B : Nat} (hB : ∀ cells q, W.heap[B]? = some (.cells cells q (0, 0)) → q ≠ 22 ∧ q ≠ 9)
    (hblk : ∀ k, k ≠ B → k < W.heap.size → W'.heap[k]? = W.heap[k]?) : Kd.S kLL 22 W' b ok v xs := by
  refine Kd.S_mono (Kd.S_step (Kd.S_bound h) ?_) (fun k hk => hk.1)
  rintro k ⟨-, -, hlt, q, hq, cells, hc⟩ -
  refine hblk k ?_ hlt
  rintro rfl
  have h2 := hB cells q hc
  have hq' : q = 22 ∨ q = 9 := by
    have : q ∈ [22, 9] := hq
    simpa using this
  rcases hq' with e | e
  · exact h2.1 e
  · exact h2.2 e
theorem S_boxed {W : World} {b : Nat} {ok : Nat → Prop} {v : Value} {xs : List (List ByteArray)} (h : Kd.S kLL 22 W b ok v xs) {B t : Nat} {x u : Value} (hB : Boxed W B t x) (h1 : t ≠ 22) (h2 : t ≠ 9) : Kd.S kLL 22 (W.setCell ⟨B, 0, none⟩ u) b ok v xs := by
  refine S_other h (B := B) (fun cells q hc => ?_) (fun k hk _ => Below.heap_setCell _ _ _ _ (fun e => hk (by first | exact e | exact e.symm)))
  have hB' : W.heap[B]? = some (.cells #[x] t (0, 0)) := hB
  rw [hB'] at hc
  injection hc with hc
  injection hc with _ hc _
  subst hc
  exact ⟨h1, h2⟩
theorem S_put {W : World} {b : Nat} {ok : Nat → Prop} {v : Value} {xs : List (List ByteArray)} (h : Kd.S kLL 22 W b ok v xs) {l : Nat} {o : Obj} (o' : Obj) (hl : W.heap[l]? = some o) (ho : Obj.isCells o = false) : Kd.S kLL 22 (W.putObj l o') b ok v xs := by
  refine S_other h (B := l) (fun cells q hc => ?_) (fun k hk _ => World.putObj_heap_other hk)
  rw [hl] at hc
  injection hc with hc
  subst hc
  cases ho
theorem boxed_put {W : World} {B t l : Nat} {x : Value} {o : Obj} (o' : Obj) (h : Boxed W B t x) (hl : W.heap[l]? = some o) (ho : Obj.isCells o = false) : Boxed (W.putObj l o') B t x := by
  have hne : B ≠ l := by
    rintro rfl
    have hB' : W.heap[B]? = some (.cells #[x] t (0, 0)) := h
    rw [hB'] at hl
    injection hl with hl
    subst hl
    cases ho
  exact (World.putObj_heap_other hne).trans h
theorem boxed_below {W W' : World} {B t : Nat} {x : Value} (h : Boxed W B t x) (hb : Below W.heap.size W W') : Boxed W' B t x := (hb.block _ h.lt).trans h
/-- What the loop over the lines keeps: the lists (box b), the last end (box b + 1). -/
def SInv (b : Nat) (s : ByteArray) (wb : World) (pre : List (List ByteArray × Int)) (W : World) : Prop :=
  (∃ v, Boxed W b 63 v ∧ Kd.S kLL 22 W b (fun _ => True) v (pre.map (·.1))) ∧ Boxed W (b + 1) 3 (.int .i64 (lastE pre)) ∧ Boxed W (b + 1 + 1) 9 (.string s) ∧ Below b wb W
theorem SInv.below {b : Nat} {s : ByteArray} {wb : World} {pre : List (List ByteArray × Int)} {W W' : World} (h : SInv b s wb pre W) (hb : Below W.heap.size W W') : SInv b s wb pre W' := by
  obtain ⟨⟨v, h1, h2⟩, h3, h5, h4⟩ := h
  exact ⟨⟨v, boxed_below h1 hb, Kd.S_below h2 hb⟩, boxed_below h3 hb, boxed_below h5 hb, h4.trans (hb.mono (by have := h1.lt; omega))⟩
theorem SInv.put {b : Nat} {s : ByteArray} {wb : World} {pre : List (List ByteArray × Int)} {W : World} (h : SInv b s wb pre W) (l : Nat) (o o' : Obj) (hl0 : b ≤ l) (hl : W.heap[l]? = some o) (ho : Obj.isCells o = false) : SInv b s wb pre (W.putObj l o') := by
  obtain ⟨⟨v, h1, h2⟩, h3, h5, h4⟩ := h
  refine ⟨⟨v, boxed_put o' h1 hl ho, S_put h2 o' hl ho⟩, boxed_put o' h3 hl ho, boxed_put o' h5 hl ho, h4.trans ?_⟩
  exact (Below.refl _ W).grown (grownBy_putObj' W _ _) (by have := h1.lt; omega) (fun k e => by cases e; omega)
theorem LArg_put {b : Nat} {x : List ByteArray × Int} {vs : Array Value} {W : World} {l : Nat} {o' : Obj} (h : LArg b x vs W) (hl : l < b) : LArg b x vs (W.putObj l o') := by
  obtain ⟨v, rfl, h⟩ := h
  refine ⟨v, rfl, Kd.R_mono (Kd.R_step (Kd.R_bound h) ?_) (fun _ hk => hk.1)⟩
  rintro k ⟨-, hb, -, -⟩ -
  exact World.putObj_heap_other (by omega)
theorem lastE_snoc (pre : List (List ByteArray × Int)) (x : List ByteArray × Int) : lastE (pre ++ [x]) = x.2 := by simp [lastE]
def scanV (s : ByteArray) : List (List ByteArray) × Int := ((scanP s).map (·.1), lastE (scanP s))
theorem scanG_len (tot : Nat) : ∀ (f : Nat) (u : ByteArray), (scanG tot f u).length ≤ f := by
  intro f
  induction f with
  | zero => intro u; exact Nat.le_refl _
  | succ f ih =>
    intro u
    rw [scanG]
    split
    · rw [List.length_cons]
      have := ih (takeV u).2.1
      omega
    · exact Nat.zero_le _
set_option maxHeartbeats 4000000 in
set_option maxRecDepth 100000 in
theorem scan_walk (s : ByteArray) (hs : s.size ≤ 2000000) (w : World) (hG : Hand2.Glob w) :
    Calls Tryz.prog 82 #[.string s] w fun e w' => ∃ v, e = .returned (.tuple #[v, .int .i64 (scanV s).2]) ∧ Kd.S kLL 22 w' w.heap.size (fun _ => True) v (scanV s).1 ∧ Below w.heap.size w w' := by
  have HG := Lib.hid hG
  have hlen : (scanP s).length ≤ 2000001 := Nat.le_trans (scanG_len _ _ _) (by omega)
  clear hG
  refine (callsIn_wide (n := 4)).1 ?_
  refine callsIn_of_wp_marks Tryz.func82 rfl trivial ?_ rfl
  simp only [Tryz.ntmps82, List.size_toArray, List.length_cons, List.length_nil, Nat.reduceAdd, Nat.reduceSub, Array.replicate_succ, Array.replicate_zero, List.push_toArray, List.append_toArray, List.nil_append, List.cons_append]
  gi_wp2_with (refine ⟨trivial, ?_⟩; gi_at_call 98; refine (callsIn_wide.2 (linesP_mk s _)).mono ?_; rintro e w' ⟨rfl, rfl⟩)
  have hsz : (((w.alloc (.cells #[.slice none 0 0] 63)).alloc (.cells #[.int .i64 0] 3)).alloc (.cells #[.string s] 9)).heap.size = w.heap.size + 3 := by simp
  have hbel : Below w.heap.size w (((w.alloc (.cells #[.slice none 0 0] 63)).alloc (.cells #[.int .i64 0] 3)).alloc (.cells #[.string s] 9)) :=
    (((Below.refl _ _).alloc (Nat.le_refl _) _).alloc (by simp) _).alloc (by simp; omega) _
  have hx0 : Boxed (((w.alloc (.cells #[.slice none 0 0] 63)).alloc (.cells #[.int .i64 0] 3)).alloc (.cells #[.string s] 9)) w.heap.size 63 (.slice none 0 0) := ((Boxed.new w 63 _).alloc _).alloc _
  have hx1 : Boxed (((w.alloc (.cells #[.slice none 0 0] 63)).alloc (.cells #[.int .i64 0] 3)).alloc (.cells #[.string s] 9)) (w.heap.size + 1) 3 (.int .i64 0) := by
    have := (Boxed.new (w.alloc (.cells #[.slice none 0 0] 63)) 3 (.int .i64 0)).alloc (.cells #[.string s] 9)
    simpa using this
  have hx2 : Boxed (((w.alloc (.cells #[.slice none 0 0] 63)).alloc (.cells #[.int .i64 0] 3)).alloc (.cells #[.string s] 9)) (w.heap.size + 1 + 1) 9 (.string s) := by
    have := Boxed.new ((w.alloc (.cells #[.slice none 0 0] 63)).alloc (.cells #[.int .i64 0] 3)) 9 (.string s)
    simpa using this
  generalize ((w.alloc (.cells #[.slice none 0 0] 63)).alloc (.cells #[.int .i64 0] 3)).alloc (.cells #[.string s] 9) = W1 at hsz hbel hx0 hx1 hx2 ⊢
  have HX0 := Lib.hid hx0
  have HX1 := Lib.hid hx1
  have HX2 := Lib.hid hx2
  have HBEL := Lib.hid hbel
  clear hx0 hx1 hx2 hbel
  refine loop_all (xs := scanP s) rfl (by omega) (gf := 110) (lb := #[.pointer (some ⟨w.heap.size + 1 + 1, 0, none⟩)]) rfl trivial enters110 (scan_gives (w.heap.size + 1 + 1) w.heap.size s hs W1 w HG.out (Nat.le_refl _) (by omega) HBEL.out HX2.out) (Below.refl _ _) (by omega) (by omega)
    (fun b x vs W h => by obtain ⟨v, rfl, -⟩ := h; rfl) (fun b x vs W l o' h hl => LArg_put h hl) (SInv w.heap.size s w) (fun _ _ _ h hb => h.below hb) (fun _ _ l o o' h hl ho hc => h.put l o o' (by omega) ho hc)
    ⟨⟨_, HX0.out, Kd.S_nil _ _ _ _ _⟩, HX1.out, HX2.out, HBEL.out⟩
    (fun vs => { tmps := #[.string s, undef, .slice none 0 0, .int .i64 0, .pointer (some ⟨w.heap.size, 0, none⟩), .pointer (some ⟨w.heap.size + 1, 0, none⟩), vs.getD 0 undef, vs.getD 1 undef, .string s,
      .func (.func 110) #[] #[.pointer (some ⟨w.heap.size + 1 + 1, 0, none⟩)], vs.getD 0 undef, vs.getD 1 undef, undef, undef, undef, undef, undef, undef, undef], defers := [] }) ?assign ?body ?done
  case assign =>
    rintro l b x vs W K ⟨v, rfl, hR⟩ hK
    gi_wp2
    exact hK
  case body =>
    rintro l pre x vs W0 W ⟨⟨va, hva0, hS0⟩, hat0, hbs0, hbw0⟩ hn0 hBn0 hb01 ⟨v, rfl, hR⟩ ⟨t, ht⟩
    obtain ⟨Ao, co, ev⟩ := Kd.R_slice hR
    obtain ⟨xn, hxn⟩ : ∃ xn, xn = x.1.length := ⟨_, rfl⟩
    rw [← hxn] at ev
    clear hxn
    subst ev
    have hpl : pre.length + 1 ≤ 2000001 := by
      have := congrArg List.length ht
      simp only [List.length_append, List.length_cons] at this
      omega
    have hva := boxed_below hva0 hb01
    have hat := boxed_below hat0 hb01
    have hS : Kd.S kLL 22 W w.heap.size (fun k => True ∧ ¬ W0.heap.size ≤ k) va (pre.map (·.1)) := Kd.S_below (Kd.S_mono (Kd.S_bound hS0) (fun k hk => ⟨trivial, Nat.not_le.2 hk.2.2.1⟩)) hb01
    have hvo : ∀ k, va.ownBlock = some k → k < W0.heap.size := by
      obtain ⟨f, h0, -⟩ := hS
      exact fun k hk => Nat.not_le.1 (h0 k hk).2
    obtain ⟨f, hf, hTR⟩ := Kd.S_tag hS (pre.map (·.1)).length (fun k => W0.heap.size ≤ k) (fun k hk h2 => h2.2 hk)
    obtain ⟨h0, inner, hown, hr⟩ := Kd.R_mono hTR (fun _ h => h.1)
    have hp : kLL.M W w.heap.size (fun k => W0.heap.size ≤ k) x.1 [.slice Ao xn co] := ⟨_, rfl, Kd.R_lower (Kd.R_mono (Kd.R_bound hR) (fun k hk => hk.2.1)) hn0⟩
    have hn : (pre.map (·.1)).zipIdx.length = pre.length := by rw [List.length_zipIdx, List.length_map]
    rw [hn] at hown
    have hnr1 := hva.not_row (by decide) hown
    have hnr2 := hat.not_row (by decide) hown
    have hbs := boxed_below hbs0 hb01
    have HN3 := Lib.hid (hbs.not_row (by decide) hown)
    have HBS := Lib.hid hbs
    have HVA := Lib.hid hva
    have HAT := Lib.hid hat
    have hcv := hva.cell
    have hsz01 := hb01.size
    have HS := Lib.hid hS
    have HVO := Lib.hid hvo
    have HF := Lib.hid hf
    have HH0 := Lib.hid h0
    have HRR := Lib.hid hr
    have HOWN := Lib.hid hown
    have HP := Lib.hid hp
    have HN1 := Lib.hid hnr1
    have HN2 := Lib.hid hnr2
    have HHN := Lib.hid hn
    have HB01 := Lib.hid hb01
    have HBW := Lib.hid (hbw0.trans (hb01.mono hn0))
    clear hbs0 hbs hva0 hS0 hat0 hbw0 hR ht hva hat hS hvo hTR h0 hr hown hp hn hnr1 hnr2 hf hb01
    obtain ⟨i0, hi, hz0, hz1, hz2⟩ := info_parts info23
    gi_wp2_with (gi_at_builtin; refine wpListIn_append_own_at _ rfl _ _ 63 rfl w.heap.size 22 i0 (.slice none 0 0) 1 24 Tryz.underlying63 hi hz0 hz1 hz2 rfl (by decide) va pre.length inner rfl (HOWN.out.alloc _) ⟨W.heap.size, 0, none⟩ 1 1 [.slice Ao xn co] rfl rfl (cell_one_new _ _ _) (by simp [Value.oneCell']) (by unfold maxLen; omega) (by omega) (by simp; omega) ?_)
    intro v' w2 hown' hgrow hat'
    obtain ⟨g', cap', ev'⟩ := ownsRow_succ hown'
    subst ev'
    have hg : W.grownBy w2 va.ownBlock := World.grownBy.trans (World.grownBy_alloc W _ _) hgrow
    have hat'' : (Value.slice (some ⟨g', 0, none⟩) (pre.length + 1) cap').ownBlock = va.ownBlock ∨ ∃ b, (Value.slice (some ⟨g', 0, none⟩) (pre.length + 1) cap').ownBlock = some b ∧ W.heap.size ≤ b := by
      rcases hat' with h | h
      · exact .inl h
      · exact .inr ⟨_, h, by simp⟩
    have hR2 := Kd.R_appended (d := Kd.tag f kLL) (p := (x.1, (pre.map (·.1)).length)) HH0.out HRR.out (kLL.M_mono (fun k hk => ⟨hk, HF.out k hk⟩) HP.out) (fun k hk => ⟨trivial, fun e => Nat.lt_irrefl _ (Nat.lt_of_lt_of_le (HVO.out k e.symm) hk)⟩) (fun _ _ => trivial) (by rw [HHN.out]; exact hown') hg hat''
    rw [← Kd.zip_snoc] at hR2
    have hS2 : Kd.S kLL 22 w2 w.heap.size (fun _ => True) (.slice (some ⟨g', 0, none⟩) (pre.length + 1) cap') ((pre ++ [x]).map (·.1)) := ⟨f, by rw [List.map_append]; exact hR2⟩
    have hva2 := HVA.out.kept hg HN1.out
    have hat2 := HAT.out.kept hg HN2.out
    have hat3 : Boxed (w2.setCell ⟨w.heap.size, 0, none⟩ (.slice (some ⟨g', 0, none⟩) (pre.length + 1) cap')) (w.heap.size + 1) 3 (.int .i64 (lastE pre)) := hat2.kept (grownBy_setCell' w2 w.heap.size (.slice (some ⟨g', 0, none⟩) (pre.length + 1) cap')) (by simp)
    have hva3 := hva2.set (.slice (some ⟨g', 0, none⟩) (pre.length + 1) cap')
    have hS3 := S_boxed (u := (.slice (some ⟨g', 0, none⟩) (pre.length + 1) cap')) hS2 hva2 (by decide) (by decide)
    have hS4 := Lib.hid (S_boxed (u := .int .i64 x.2) hS3 hat3 (by decide) (by decide))
    have hva4 := Lib.hid (hva3.kept (grownBy_setCell' _ (w.heap.size + 1) (.int .i64 x.2)) (by simp))
    have hat4 := Lib.hid (hat3.set (.int .i64 x.2))
    have hrowc : ∀ (j : Nat) (o : Obj), va.ownBlock = some j → W.heap[j]? = some o → o.isCells = true := by
      intro j o ej hj
      rcases HOWN.out.2 with ⟨rfl, _⟩ | ⟨g, cap, cur, rfl, _, hgb, _⟩
      · simp [Value.ownBlock] at ej
      · obtain rfl : g = j := by simpa [Value.ownBlock] using ej
        rw [hgb] at hj; cases hj; rfl
    have hrowb : ∀ j, va.ownBlock = some j → w.heap.size ≤ j := by
      intro j ej
      rcases HOWN.out.2 with ⟨rfl, _⟩ | ⟨g, cap, cur, rfl, hgb, _⟩
      · simp [Value.ownBlock] at ej
      · obtain rfl : g = j := by simpa [Value.ownBlock] using ej
        exact hgb
    have hKO := Lib.hid (((KeepsOthers.of_grownBy hg hrowc).trans (KeepsOthers.setCell w2 ⟨w.heap.size, 0, none⟩ (.slice (some ⟨g', 0, none⟩) (pre.length + 1) cap'))).trans (KeepsOthers.setCell _ ⟨w.heap.size + 1, 0, none⟩ (.int .i64 x.2)))
    have hlow := Lib.hid ((((Below.refl w.heap.size W).grown hg (by omega) hrowb).setCell (p := ⟨w.heap.size, 0, none⟩) (Nat.le_refl _) (.slice (some ⟨g', 0, none⟩) (pre.length + 1) cap')).setCell (p := ⟨w.heap.size + 1, 0, none⟩) (Nat.le_succ _) (.int .i64 x.2))
    have hc1 := hva2.cell
    have hf1 := hva2.frozen
    have hc2 := hat3.cell
    have hf2 := hat3.frozen
    have hbs2 := Lib.hid (((HBS.out.kept hg HN3.out).kept (grownBy_setCell' w2 w.heap.size (.slice (some ⟨g', 0, none⟩) (pre.length + 1) cap')) (by intro e; injection e with e; omega)).kept (grownBy_setCell' _ (w.heap.size + 1) (.int .i64 x.2)) (by intro e; injection e with e; omega))
    have hgs := Lib.hid hg
    clear hown' hgrow hat' hg hat'' hR2 hS2 hva2 hat2 hat3 hva3 hS3 hrowc hrowb hcv
    gi_wp2
    refine ⟨hKO.out.from _, ⟨hlow.out, fun hlt => ?_⟩, ⟨⟨_, hva4.out, hS4.out⟩, by rw [lastE_snoc]; exact hat4.out, hbs2.out, HBW.out.trans hlow.out⟩⟩
    have h1 : W.heap[w.heap.size + 1 + 1]? = some (.cells #[.string s] 9 (0, 0)) := HBS.out
    rw [h1]
    exact hbs2.out
  case done =>
    rintro D W hD ⟨⟨v, hv, hS⟩, hat, hbs, hb⟩ hK
    obtain ⟨Ao, co, ev⟩ := Kd.R_slice (Kd.S_R hS)
    obtain ⟨xn, hxn⟩ : ∃ xn, xn = ((scanP s).map (·.1)).length := ⟨_, rfl⟩
    rw [← hxn] at ev
    clear hxn
    subst ev
    have hc := hv.cell
    have hc2 := hat.cell
    have hlt := hv.lt
    have HS := Lib.hid hS
    have HBb := Lib.hid hb
    have HK := Lib.hid hK
    obtain ⟨le, hle⟩ : ∃ le, Hid (lastE (scanP s) = le) := ⟨_, Lib.hid rfl⟩
    rw [hle.out] at hc2
    clear hv hat hbs hS hb hK
    gi_wp2
    gi_region
    all_goals gi_wp2
    have hK2 : W.drew.heap[D]? = some (.deferred (some [])) := HK.out
    have hS2 := Kd.S_below HS.out (show Below W.heap.size W W.drew from (Below.refl _ _).drew)
    have hB2 : Below w.heap.size w W.drew := HBb.out.drew
    refine ⟨by simp, .inl ⟨_, _, rfl, run_takeDeferred hK2, ?_⟩⟩
    rw [show (scanV s).2 = le from hle.out]
    refine ⟨_, results_tmp2 (fn := Tryz.f82) rfl _ _ _, _, rfl, S_put hS2 _ hK2 rfl, ?_⟩
    exact hB2.trans ((Below.refl _ _).grown (grownBy_putObj' _ _ _) (by simp; omega) (fun k e => by cases e; omega))
end Go.Proofs.YtghbaehbgefpaaaGreatDoor.Hand
/- Journals, plain. -/
namespace Go.Proofs.YtghbaehbgefpaaaGreatDoor.Fr
open Go.RowKit Go.Proofs.YtghbaehbgefpaaaGreatDoor.F Go.Proofs.YtghbaehbgefpaaaGreatDoorW.PrintWords
open Go.Proofs.YtghbaehbgefpaaaGreatDoor.Hand (putV takeV scanV)
set_option linter.unusedVariables false
set_option linter.unusedSimpArgs false
def besN (n : ByteArray) : ByteArray := n ++ (⟨#[46, 110, 101, 119]⟩ : ByteArray)
theorem besN_size (n : ByteArray) : (besN n).size = n.size + 4 := by unfold besN; rw [ByteArray.size_append]; rfl
def putAllA (acc : ByteArray) : List (List ByteArray) → ByteArray × Int
  | [] => (acc, 0)
  | x :: r => if (putV x).2 = 0 then putAllA (acc ++ (putV x).1) r else (⟨#[]⟩, (putV x).2)
def putAll (l : List (List ByteArray)) : ByteArray × Int := putAllA ⟨#[]⟩ l
/-- Add. -/
def addE (T : TS) (n : ByteArray) (l : List ByteArray) : Int := if pathV (besN n) = false then 1 else if (putV l).2 = 0 then writeE T true n (putV l).1 else (putV l).2
def addT (T : TS) (n : ByteArray) (l : List ByteArray) : TS := if pathV (besN n) = false then T else if (putV l).2 = 0 then writeT T true n (putV l).1 else T
/-- Anew, behind put. -/
def anew1E (T : TS) (n s : ByteArray) : Int := if writeE T false (besN n) s = 0 then renameE (writeT T false (besN n) s) (besN n) n else writeE T false (besN n) s
def anew1T (T : TS) (n s : ByteArray) : TS :=
  if writeE T false (besN n) s = 0 then
    if renameE (writeT T false (besN n) s) (besN n) n = 0 then syncT (renameT (writeT T false (besN n) s) (besN n) n) else removeT (renameT (writeT T false (besN n) s) (besN n) n) (besN n)
  else removeT (writeT T false (besN n) s) (besN n)
def anewE (T : TS) (n : ByteArray) (l : List (List ByteArray)) : Int := if pathV (besN n) = false then 1 else if (putAll l).2 = 0 then anew1E T n (putAll l).1 else (putAll l).2
def anewT (T : TS) (n : ByteArray) (l : List (List ByteArray)) : TS := if pathV (besN n) = false then T else if (putAll l).2 = 0 then anew1T T n (putAll l).1 else T
/-- Read. -/
def readL (T : TS) (n : ByteArray) : List (List ByteArray) := (scanV (readT T n).1).1
def readW (T : TS) (n : ByteArray) : Bool := (scanV (readT T n).1).2 == (((readT T n).1.size : Nat) : Int)
/-- Open. -/
def openE (T : TS) (n : ByteArray) : Int := if pathV (besN n) = false then 1 else if readW (removeT T (besN n)) n = true then 0 else anewE (removeT T (besN n)) n (readL (removeT T (besN n)) n)
def openT (T : TS) (n : ByteArray) : TS := if pathV (besN n) = false then T else if readW (removeT T (besN n)) n = true then syncT (removeT T (besN n)) else anewT (removeT T (besN n)) n (readL (removeT T (besN n)) n)
def openL (T : TS) (n : ByteArray) : List (List ByteArray) := if openE T n = 0 then readL (removeT T (besN n)) n else []
/-! ### what stays -/
theorem write_room (T : TS) (st : Bool) (q s : ByteArray) : (writeT T st q s).room = T.room := by unfold writeT; split <;> rfl
theorem remove_room (T : TS) (q : ByteArray) : (removeT T q).room = T.room := by unfold removeT; split <;> rfl
theorem rename_room (T : TS) (a b : ByteArray) : (renameT T a b).room = T.room := by unfold renameT; split <;> rfl
theorem sync_room (T : TS) : (syncT T).room = T.room := rfl
theorem anew1_room (T : TS) (n s : ByteArray) : (anew1T T n s).room = T.room := by
  unfold anew1T
  split
  · split
    · rw [sync_room, rename_room, write_room]
    · rw [remove_room, rename_room, write_room]
  · rw [remove_room, write_room]
theorem inv_syncT {n : Nat} {T : TS} (h : Inv n T) : Inv n (syncT T) := inv_sync h.room h.clock h.good
theorem lineL_le {l : List ByteArray} (h : (putV l).2 = 0) : (putV l).1.size ≤ 13000 := by
  unfold putV at h ⊢
  split
  · exact Nat.zero_le _
  next h1 =>
    split
    · exact Nat.zero_le _
    next h2 =>
      split
      · exact Nat.zero_le _
      next h3 =>
        show (Hand.lineL l).toArray.size ≤ 13000
        rw [List.size_toArray]
        omega
theorem inv_anew1 {n : Nat} {T : TS} (h : Inv n T) (q s : ByteArray) (hs : s.size ≤ 1000000000) : Inv (n + 3) (anew1T T q s) := by
  have h1 := inv_write h false (q := besN q) hs
  unfold anew1T
  split
  · have h2 := inv_rename h1 (besN q) q
    split
    · exact (inv_syncT h2).mono (by omega)
    · exact inv_remove h2 _
  · exact (inv_remove h1 _).mono (by omega)
theorem scan_many (s : ByteArray) : (scanV s).1.length ≤ s.size + 1 := by
  unfold scanV
  rw [List.length_map]
  exact Hand.scanG_len _ _ _
theorem read_used (T : TS) (q : ByteArray) : (readT T q).1.size ≤ usedF T.l := by
  unfold readT
  cases e : findF T.l q with
  | none => exact Nat.zero_le _
  | some f => exact text_le (mem_of_find e)
theorem readL_many {n : Nat} {T : TS} (h : Inv n T) (q : ByteArray) : ((readL T q).length : Int) ≤ T.room + 1 := by
  have h1 := scan_many (readT T q).1
  have h2 := read_used T q
  have h3 := h.good.used
  unfold readL
  omega
end Go.Proofs.YtghbaehbgefpaaaGreatDoor.Fr
/- Plain facts of quoted words. -/
namespace Go.Proofs.YtghbaehbgefpaaaGreatDoor.PureR
open Go.RowKit Go.Proofs.YtghbaehbgefpaaaGreatDoorW.PrintWords
open Go.Proofs.YtghbaehbgefpaaaGreatDoor.Hand
open Go.Proofs.YtghbaehbgefpaaaGreatDoor.Fr (plainI)
set_option linter.unusedVariables false
set_option linter.unusedSimpArgs false
theorem len_data (s : ByteArray) : s.data.toList.length = s.size := by rw [Array.length_toList]; rfl
def sign (c : UInt8) : Prop := plainI c.toNat = true ∨ c = 37
theorem hexD_sign (m : Nat) (h : m < 16) : plainI (hexD m).toNat = true := by
  have : ∀ m : Fin 16, plainI (hexD m.1).toNat = true := by decide
  exact this ⟨m, h⟩
theorem quoteB_sign (c : UInt8) : ∀ d ∈ quoteB c, sign d := by
  intro d hd
  unfold quoteB at hd
  have hl := UInt8.toNat_lt c
  split at hd
  · next h =>
    rw [List.mem_singleton.1 hd]
    exact .inl h
  · simp only [List.mem_cons, List.not_mem_nil, or_false] at hd
    rcases hd with rfl | rfl | rfl
    · exact .inr rfl
    · exact .inl (hexD_sign _ (by omega))
    · exact .inl (hexD_sign _ (by omega))
theorem quoteB_pos (c : UInt8) : 1 ≤ (quoteB c).length := by
  unfold quoteB
  split <;> simp
theorem data_app2 (s t : ByteArray) : (s ++ t).data.toList = s.data.toList ++ t.data.toList := by
  simp [ByteArray.data_append, Array.toList_append]
theorem ofNat_to (n : Nat) (h : n < 256) : (UInt8.ofNat n).toNat = n := by simp [UInt8.toNat_ofNat']; omega
theorem hexv_hexD : ∀ r : Fin 16, hexv (hexD r.val) = some r.val := by decide +kernel
theorem plain_no37 {c : UInt8} (h : plainI c.toNat = true) : c ≠ 37 := by
  intro e
  subst e
  exact absurd h (by decide)
theorem ofNat_back (c : UInt8) : UInt8.ofNat (16 * (c.toNat / 16) + c.toNat % 16) = c := by
  apply UInt8.toNat_inj.1
  rw [ofNat_to _ (by have := UInt8.toNat_lt c; omega)]
  omega
theorem decG_quote : ∀ t : List UInt8, decG (t.flatMap quoteB) = some t := by
  intro t
  induction t with
  | nil => exact decG_nil
  | cons c t ih =>
    rw [List.flatMap_cons, quoteB]
    have hc := UInt8.toNat_lt c
    by_cases hp : plainI c.toNat = true
    · rw [if_pos hp, List.singleton_append, decG_plain c _ (plain_no37 hp), ih]
      rfl
    · have h1 := hexv_hexD ⟨c.toNat / 16, by omega⟩
      have h2 := hexv_hexD ⟨c.toNat % 16, by omega⟩
      simp only at h1 h2
      have h3 : hexG 0 [hexD (c.toNat / 16), hexD (c.toNat % 16)] = some (16 * (c.toNat / 16) + c.toNat % 16) := by
        simp only [hexG, h1, h2]
        congr 1
        omega
      rw [if_neg hp]
      simp only [List.cons_append, List.nil_append]
      rw [decG_pct, h3, ih]
      show some (UInt8.ofNat _ :: t) = _
      rw [ofNat_back]
theorem quoteV_data {t : List UInt8} (h : t ≠ []) : (quoteV ⟨t.toArray⟩).data.toList = t.flatMap quoteB := by
  unfold quoteV
  rw [if_neg]
  show ¬ t.toArray.size = 0
  rw [List.size_toArray]
  intro e
  exact h (List.eq_nil_of_length_eq_zero e)
end Go.Proofs.YtghbaehbgefpaaaGreatDoor.PureR
