import Derived.Test.YtajiidkmijeidaaDoorMC
import Derived.Laws.ResultCell
/- Several texts of this session in one (merge.py): the walks of the functions that the laws reach. -/
/- What a tree always is, plain. -/
namespace Go.Proofs.YtajiidkmijeidaaDoor.Fr
open Go.RowKit Go.Proofs.YtajiidkmijeidaaDoor.F Go.Proofs.YtajiidkmijeidaaDoorW.PrintWords
set_option linter.unusedVariables false
set_option linter.unusedSimpArgs false
/-- A good row of files. -/
structure Good (room : Int) (l : List Fl) : Prop where
  srt : Srt l
  pth : Pth l
  used : (usedF l : Int) ≤ room
  many : l.length ≤ 200
  texts : ∀ f ∈ l, f.f1.size ≤ 16777216
/-- A change that may stand in a tree. -/
structure CgIn (c : Cg) : Prop where
  kind : KindOK c
  path : pathV c.f1 = true
  text : c.f2.size ≤ 1000000000
  dest : c.f0 = 4 → pathV c.f2 = true
theorem path_size {q : ByteArray} (h : pathV q = true) : q.size ≤ 100 := by
  unfold pathV at h
  simp only [Bool.and_eq_true, decide_eq_true_eq] at h
  have := h.1.2
  omega
theorem CgIn.ok {c : Cg} (h : CgIn c) : CgOK c := ⟨h.kind, Nat.le_trans (path_size h.path) (by decide), h.text, fun e => Nat.le_trans (path_size (h.dest e)) (by decide)⟩
theorem pth_put {l : List Fl} (h : Pth l) {f : Fl} (hf : pathV f.f0 = true) : Pth (putF l f) := fun g hg => by
  rcases mem_put.1 hg with rfl | hg
  · exact hf
  · exact h g hg.1
theorem pth_drop {l : List Fl} (h : Pth l) (q : ByteArray) : Pth (dropF l q) := fun g hg => h g (mem_drop.1 hg).1
theorem pth_after {l : List Fl} (h : Pth l) {c : Cg} (hc : CgIn c) : Pth (afterF l c) := by
  rcases hc.kind with e | e | e | e
  · unfold afterF
    rw [if_pos e]
    exact pth_put h hc.path
  · unfold afterF
    rw [if_neg (by omega), if_pos e]
    exact pth_put h hc.path
  · unfold afterF
    rw [if_neg (by omega), if_neg (by omega), if_pos e]
    exact pth_drop h _
  · unfold afterF
    rw [if_neg (by omega), if_neg (by omega), if_neg (by omega)]
    split
    · exact h
    · exact pth_put (pth_drop h _) (hc.dest e)
theorem text_le {l : List Fl} {f : Fl} (h : f ∈ l) : f.f1.size ≤ usedF l := by
  induction l with
  | nil => cases h
  | cons g r ih =>
    rw [used_cons]
    rcases List.mem_cons.1 h with rfl | h
    · omega
    · have := ih h
      omega
theorem had_le (l : List Fl) (q : ByteArray) : (textF l q).size ≤ usedF l := by
  unfold textF
  cases e : findF l q with
  | none => exact Nat.zero_le _
  | some f => exact text_le (mem_of_find e)
/-- A change of which a part is written leaves a good row where the whole one does. -/
theorem good_cut {room : Int} {l : List Fl} (h : Good room l) {c : Cg} (hc : CgIn c) (hk : c.f0 ≤ 2) {part : Int} (hg : Good room (afterF l c)) : Good room (afterF l (cutC c part)) := by
  obtain ⟨k, q, s, t⟩ := c
  have hcs : (cutS s part).size ≤ s.size := by
    unfold cutS
    split
    · exact Nat.le_refl _
    · rw [ByteArray.size_extract]; omega
  have hk' : k = 1 ∨ k = 2 := by
    have h0 : k ≤ 2 := hk
    rcases hc.kind with e | e | e | e <;> (simp only at e; omega)
  rcases hk' with rfl | rfl
  · have e1 : afterF l ⟨1, q, s, t⟩ = putF l ⟨q, s, t⟩ := rfl
    have e2 : afterF l (cutC ⟨1, q, s, t⟩ part) = putF l ⟨q, cutS s part, t⟩ := rfl
    rw [e1] at hg
    rw [e2]
    obtain ⟨a1, a2⟩ := put_used h.srt ⟨q, s, t⟩
    obtain ⟨b1, b2⟩ := put_used h.srt ⟨q, cutS s part, t⟩
    have hu := hg.used
    have hm := hg.many
    simp only at a1 a2 b1 b2
    have ht := hg.texts _ (mem_put.2 (.inl rfl))
    simp only at ht
    exact ⟨srt_put h.srt _, pth_put h.pth hc.path, by omega, by rw [b2, ← a2]; exact hm, fun g hg' => by
      rcases mem_put.1 hg' with rfl | hg'
      · show (cutS s part).size ≤ _
        omega
      · exact h.texts g hg'.1⟩
  · have e1 : afterF l ⟨2, q, s, t⟩ = putF l ⟨q, textF l q ++ s, t⟩ := rfl
    have e2 : afterF l (cutC ⟨2, q, s, t⟩ part) = putF l ⟨q, textF l q ++ cutS s part, t⟩ := rfl
    rw [e1] at hg
    rw [e2]
    obtain ⟨a1, a2⟩ := put_used h.srt ⟨q, textF l q ++ s, t⟩
    obtain ⟨b1, b2⟩ := put_used h.srt ⟨q, textF l q ++ cutS s part, t⟩
    have hu := hg.used
    have hm := hg.many
    simp only [ByteArray.size_append] at a1 a2 b1 b2
    have ht := hg.texts _ (mem_put.2 (.inl rfl))
    simp only [ByteArray.size_append] at ht
    exact ⟨srt_put h.srt _, pth_put h.pth hc.path, by omega, by rw [b2, ← a2]; exact hm, fun g hg' => by
      rcases mem_put.1 hg' with rfl | hg'
      · show (textF l q ++ cutS s part).size ≤ _
        rw [ByteArray.size_append]
        omega
      · exact h.texts g hg'.1⟩
structure Inv (n : Nat) (T : TS) : Prop where
  room : 1 ≤ T.room ∧ T.room ≤ 1073741824
  clock : 0 ≤ T.clock ∧ T.clock ≤ n
  chs : T.ch.length ≤ n
  cin : ∀ c ∈ T.ch, CgIn c
  runs : ∀ k, k ≤ T.ch.length → Good T.room (foldF T.last (T.ch.take k))
  fold : foldF T.last T.ch = T.l
theorem Inv.good {n : Nat} {T : TS} (h : Inv n T) : Good T.room T.l := by
  have := h.runs T.ch.length (Nat.le_refl _)
  rw [List.take_length, h.fold] at this
  exact this
theorem Inv.tok {n : Nat} {T : TS} (h : Inv n T) (hn : n ≤ 1000000) : TOK T where
  room := by have := h.room; omega
  clock := by have := h.clock; omega
  many := Nat.le_trans h.good.many (by decide)
  texts := fun f hf => Nat.le_trans (h.good.texts f hf) (by decide)
  paths := fun f hf => Nat.le_trans (path_size (h.good.pth f hf)) (by decide)
  used := by have := h.good.used; have := h.room; omega
  chs := Nat.le_trans h.chs hn
theorem Inv.mono {n n' : Nat} {T : TS} (h : Inv n T) (hn : n ≤ n') : Inv n' T := ⟨h.room, by have := h.clock; omega, Nat.le_trans h.chs hn, h.cin, h.runs, h.fold⟩
theorem inv_new {room : Int} (h1 : 1 ≤ room) (h2 : room ≤ 1073741824) : Inv 0 (newT room) where
  room := ⟨h1, h2⟩
  clock := ⟨Int.le_refl _, Int.le_refl _⟩
  chs := Nat.le_refl _
  cin := fun c hc => by cases hc
  runs := fun k hk => by
    have : foldF (newT room).last ((newT room).ch.take k) = [] := by show foldF [] (List.take k []) = []; rw [List.take_nil]; rfl
    rw [this]
    exact ⟨List.Pairwise.nil, fun f hf => (by cases hf), (by show (0 : Int) ≤ room; omega), Nat.zero_le _, fun f hf => (by cases hf)⟩
  fold := rfl
theorem foldF_snoc (l : List Fl) (cs : List Cg) (c : Cg) : foldF l (cs ++ [c]) = afterF (foldF l cs) c := by
  unfold foldF
  rw [List.foldl_append]
  rfl
theorem inv_done {n : Nat} {T : TS} (h : Inv n T) {c : Cg} (hc : CgIn c) (hg : Good T.room (afterF T.l c)) : Inv (n + 1) (doneT T c) where
  room := h.room
  clock := by have := h.clock; show 0 ≤ T.clock + 1 ∧ T.clock + 1 ≤ ((n + 1 : Nat) : Int); omega
  chs := by
    show (T.ch ++ [c]).length ≤ n + 1
    rw [List.length_append]
    exact Nat.add_le_add_right h.chs 1
  cin := fun d hd => by
    rcases List.mem_append.1 hd with hd | hd
    · exact h.cin d hd
    · rw [List.mem_singleton.1 hd]
      exact hc
  runs := fun k hk => by
    have hk' : k ≤ T.ch.length + 1 := by
      have : (T.ch ++ [c]).length = T.ch.length + 1 := by rw [List.length_append]; rfl
      rw [← this]
      exact hk
    show Good T.room (foldF T.last ((T.ch ++ [c]).take k))
    by_cases e : k ≤ T.ch.length
    · rw [List.take_append_of_le_length e]
      exact h.runs k e
    · rw [List.take_of_length_le (by rw [List.length_append, List.length_singleton]; omega), foldF_snoc, h.fold]
      exact hg
  fold := by
    show foldF T.last (T.ch ++ [c]) = afterF T.l c
    rw [foldF_snoc, h.fold]
theorem inv_sync {n : Nat} {T : TS} (h1 : 1 ≤ T.room ∧ T.room ≤ 1073741824) (h2 : 0 ≤ T.clock ∧ T.clock ≤ n) (h3 : Good T.room T.l) : Inv n (syncT T) where
  room := h1
  clock := h2
  chs := Nat.zero_le _
  cin := fun c hc => by cases hc
  runs := fun k hk => by
    show Good T.room (foldF T.l (List.take k []))
    rw [List.take_nil]
    exact h3
  fold := rfl
theorem inv_crash {n : Nat} {T : TS} (h : Inv n T) (many part : Int) : Inv n (crashT T many part) := by
  refine inv_sync h.room h.clock ?_
  show Good T.room (crashL T many part)
  have hK : keptN many T.ch.length ≤ T.ch.length := by unfold keptN; omega
  unfold crashL
  simp only
  cases e : T.ch[keptN many T.ch.length]? with
  | none => exact h.runs _ hK
  | some c =>
    simp only
    obtain ⟨hlt, hget⟩ := List.getElem?_eq_some_iff.1 e
    split
    next hh =>
      refine good_cut (h.runs _ hK) (h.cin c (by rw [← hget]; exact List.getElem_mem hlt)) hh.1 ?_
      have := h.runs (keptN many T.ch.length + 1) hlt
      rw [foldF_succ _ _ _ hlt, hget] at this
      exact this
    next => exact h.runs _ hK
end Go.Proofs.YtajiidkmijeidaaDoor.Fr
/- What a tree always is: behind each act. -/
namespace Go.Proofs.YtajiidkmijeidaaDoor.Fr
open Go.RowKit Go.Proofs.YtajiidkmijeidaaDoor.F Go.Proofs.YtajiidkmijeidaaDoorW.PrintWords
set_option linter.unusedVariables false
set_option linter.unusedSimpArgs false
theorem writeE_zero {T : TS} {stays : Bool} {q s : ByteArray} (h : writeE T stays q s = 0) : pathV q = true ∧ sizeT T stays q s ≤ 16777216 ∧ blockT T.l q ⟨#[]⟩ = false ∧ fullT T stays q s = false := by
  unfold writeE at h
  cases h1 : pathV q with
  | false => rw [h1] at h; simp at h
  | true =>
    rw [h1] at h
    by_cases h2 : 16777216 < sizeT T stays q s
    · simp [h2] at h
    · cases h3 : blockT T.l q ⟨#[]⟩ with
      | true => rw [h3] at h; simp [h2] at h
      | false =>
        cases h4 : fullT T stays q s with
        | true => rw [h3, h4] at h; simp [h2] at h
        | false => exact ⟨rfl, by omega, rfl, rfl⟩
theorem writeC_in {T : TS} {stays : Bool} {q s : ByteArray} (h : pathV q = true) (hs : s.size ≤ 1000000000) : CgIn (writeC T stays q s) := by
  cases stays
  · exact ⟨.inl rfl, h, hs, fun e => absurd e (show ¬ ((1 : Int) = 4) by decide)⟩
  · exact ⟨.inr (.inl rfl), h, hs, fun e => absurd e (show ¬ ((2 : Int) = 4) by decide)⟩
theorem inv_write {n : Nat} {T : TS} (h : Inv n T) (stays : Bool) {q s : ByteArray} (hs : s.size ≤ 1000000000) : Inv (n + 1) (writeT T stays q s) := by
  unfold writeT
  split
  next he =>
    obtain ⟨h1, h2, h3, h4⟩ := writeE_zero he
    have hc := writeC_in (T := T) (stays := stays) h1 hs
    refine inv_done h hc ?_
    obtain ⟨t, e1, e2⟩ := write_after T stays q s
    have hf := full_eq h.good.srt stays q s
    rw [h4] at hf
    have hf' := hf.symm
    rw [Bool.or_eq_false_iff, decide_eq_false_iff_not, decide_eq_false_iff_not] at hf'
    refine ⟨srt_after h.good.srt _, pth_after h.good.pth hc, by omega, by omega, fun f hm => ?_⟩
    rw [e1] at hm
    rcases mem_put.1 hm with rfl | hm
    · show t.size ≤ _
      omega
    · exact h.good.texts f hm.1
  next => exact h.mono (Nat.le_succ n)
theorem inv_remove {n : Nat} {T : TS} (h : Inv n T) (q : ByteArray) : Inv (n + 1) (removeT T q) := by
  unfold removeT
  split
  next he =>
    unfold removeE at he
    cases hf : findF T.l q with
    | none => rw [hf] at he; simp at he
    | some f =>
      obtain ⟨a1, a2⟩ := (find_some_iff h.good.srt).1 hf
      have hq : pathV q = true := by rw [← a2]; exact h.good.pth f a1
      refine inv_done h ⟨.inr (.inr (.inl rfl)), hq, Nat.zero_le _, fun e => absurd e (show ¬ ((3 : Int) = 4) by decide)⟩ ?_
      show Good T.room (dropF T.l q)
      obtain ⟨b1, b2⟩ := drop_some h.good.srt hf
      have := h.good.used
      have := h.good.many
      exact ⟨srt_drop h.good.srt q, pth_drop h.good.pth q, by omega, by omega, fun g hg => h.good.texts g (mem_drop.1 hg).1⟩
  next => exact h.mono (Nat.le_succ n)
theorem inv_rename {n : Nat} {T : TS} (h : Inv n T) (a b : ByteArray) : Inv (n + 1) (renameT T a b) := by
  unfold renameT
  split
  next he =>
    obtain ⟨h1, h2, h3, h4⟩ := he
    cases hf : findF T.l a with
    | none => rw [hf] at h1; cases h1
    | some f =>
      obtain ⟨a1, a2⟩ := (find_some_iff h.good.srt).1 hf
      have hq : pathV a = true := by rw [← a2]; exact h.good.pth f a1
      have hbs := path_size h2
      refine inv_done h ⟨.inr (.inr (.inr rfl)), hq, (by show b.size ≤ _; omega), fun _ => h2⟩ ?_
      have e1 : afterF T.l ⟨4, a, b, 0⟩ = putF (dropF T.l a) ⟨b, f.f1, f.f2⟩ := by
        show (match findF T.l a with | none => T.l | some f => putF (dropF T.l a) ⟨b, f.f1, f.f2⟩) = _
        rw [hf]
      rw [e1]
      have hsd := srt_drop h.good.srt a
      obtain ⟨b1, b2⟩ := drop_some h.good.srt hf
      obtain ⟨c1, c2⟩ := put_used hsd ⟨b, f.f1, f.f2⟩
      have := h.good.used
      have := h.good.many
      simp only at c1 c2
      refine ⟨srt_put hsd _, pth_put (pth_drop h.good.pth a) h2, by omega, by split at c2 <;> omega, fun g hg => ?_⟩
      rcases mem_put.1 hg with rfl | hg
      · exact h.good.texts f a1
      · exact h.good.texts g (mem_drop.1 hg.1).1
  next => exact h.mono (Nat.le_succ n)
end Go.Proofs.YtajiidkmijeidaaDoor.Fr
/- A tree and the reference's, of one plain tree. -/
namespace Go.Proofs.YtajiidkmijeidaaDoor.Fr
open Go.RowKit Go.Proofs.YtajiidkmijeidaaDoor.F Go.Proofs.YtajiidkmijeidaaDoorW.PrintWords
set_option linter.unusedVariables false
set_option linter.unusedSimpArgs false
/-- Both trees, and that they share nothing. -/
structure Pr (w : World) (φ : Phi) (p : Nat) (A : Nat → Prop) (m : Nat) (B : Nat → Prop) (T : TS) : Prop where
  tr : Tr w φ p T A
  rf : Rf w m T B
  am : ∀ k, A k → k ≠ m ∧ ¬ B k
  fm : ∀ k, φ k ≠ none → k ≠ m
theorem Rf.free {w : World} {m : Nat} {T : TS} {B : Nat → Prop} (h : Rf w m T B) {k : Nat} (hk : B k) : k < w.heap.size ∧ k ≠ m := by
  obtain ⟨vl, vs, vc, h⟩ := h
  exact h.free k hk
theorem Tr.files {w : World} {φ : Phi} {p : Nat} {T : TS} {A : Nat → Prop} (h : Tr w φ p T A) : FilesOK w φ := by
  obtain ⟨bn, bl, v, h⟩ := h
  exact h.files
theorem Tr.free {w : World} {φ : Phi} {p : Nat} {T : TS} {A : Nat → Prop} (h : Tr w φ p T A) {k : Nat} (hk : A k) : k < w.heap.size ∧ φ k = none := by
  obtain ⟨bn, bl, v, h⟩ := h
  exact h.free k hk
theorem Pr.below {w w' : World} {φ : Phi} {p m : Nat} {A B : Nat → Prop} {T : TS} (h : Pr w φ p A m B T) (hb : Below w.heap.size w w') : Pr w' φ p A m B T := ⟨h.tr.below hb, h.rf.below hb, h.am, h.fm⟩
/-- Behind a call on the tree: the reference's stands. -/
theorem Pr.left {w w1 : World} {φ : Phi} {p m : Nat} {A B : Nat → Prop} {T T' : TS} (h : Pr w φ p A m B T) (he : TrEnd w φ p A T' w1) :
    ∃ φ' A', Tr w1 φ' p T' A' ∧ Rf w1 m T B ∧ (∀ k, A' k → k ≠ m ∧ ¬ B k) ∧ (∀ k, φ' k ≠ none → k ≠ m) ∧ Chg A w w1 ∧ Ext w φ φ' ∧ ∀ k, A' k → A k ∨ w.heap.size ≤ k := by
  obtain ⟨φ', A', h1, h2, h3, h4⟩ := he
  have hm := h.rf.lt
  refine ⟨φ', A', h1, h.rf.chg h3 (fun e => (h.am m e).1 rfl) fun k hk e => (h.am k e).2 hk, fun k hk => ?_, fun k hk => ?_, h3, h2, h4⟩
  · rcases h4 k hk with e | e
    · exact h.am k e
    · exact ⟨by omega, fun e2 => by have := (h.rf.free e2).1; omega⟩
  · rcases h2.new k hk with e | e
    · exact h.fm k e
    · omega
/-- Behind the same call on both. -/
theorem Pr.both {w w1 w2 : World} {φ φ' : Phi} {p m : Nat} {A A' B : Nat → Prop} {T' : TS} (h1 : Tr w1 φ' p T' A') (ham : ∀ k, A' k → k ≠ m ∧ ¬ B k) (hfm : ∀ k, φ' k ≠ none → k ≠ m) (he : RfEnd w1 m B T' w2) :
    ∃ B', Pr w2 φ' p A' m B' T' ∧ Chg (fun k => k = m) w1 w2 ∧ ∀ k, B' k → B k ∨ w1.heap.size ≤ k := by
  obtain ⟨B', h2, h3, h4⟩ := he
  refine ⟨B', ⟨h1.chg h3 (fun k hk e => (ham k hk).1 e) (Ext.refl _ _) (h1.files.chg h3 fun q hq e => hfm q hq e), h2, fun k hk => ⟨(ham k hk).1, fun e => ?_⟩, hfm⟩, h3, h4⟩
  rcases h4 k e with e | e
  · exact (ham k hk).2 e
  · have := (h1.free hk).1
    omega
end Go.Proofs.YtajiidkmijeidaaDoor.Fr
/- begun. -/
namespace Go.Proofs.YtajiidkmijeidaaDoor.Fr
open Go.RowKit Go.Proofs.YtajiidkmijeidaaDoor.F Go.Proofs.YtajiidkmijeidaaDoorW.PrintWords
set_option linter.unusedVariables false
set_option linter.unusedSimpArgs false
/-- How begun ends where there is room. -/
def BegunEnd (w : World) (φ : Phi) (room : Int) (e : Ending) (w' : World) : Prop :=
  ∃ p A m B, e = .returned (.tuple #[.agg #[.pointer (some ⟨p, 0, none⟩), .pointer (some ⟨m, 0, none⟩)], .bool true]) ∧ Pr w' φ p A m B (newT room) ∧ Below w.heap.size w w' ∧ (∀ k, A k → w.heap.size ≤ k) ∧ (∀ k, B k → w.heap.size ≤ k) ∧ w.heap.size ≤ m
set_option maxHeartbeats 2000000 in
set_option maxRecDepth 100000 in
theorem begun_call (w : World) (φ : Phi) (hF : FilesOK w φ) (room : Int) (h1 : 1 ≤ room) (h2 : room ≤ 1073741824) : Calls Tryd.prog 14 #[.int .i64 room] w (BegunEnd w φ room) := by
  have HF := Lib.hid hF
  clear hF
  go_enter Tryd.func14, Tryd.ntmps14
  go_wp2_with (first
    | (go_at_call 32; refine (new_call _ φ (HF.out.below (newBelow w _)) room h1 h2).mono ?_; rintro e w1 ⟨p, A, rfl, ht, hb, ha⟩; have HT := Lib.hid ht; have HB := Lib.hid ((newBelow w _).trans (hb.mono (by rw [World.size_alloc]; omega))); have HA := Lib.hid ha; have HAT1 := Lib.hid ((hb.block w.heap.size (by rw [World.size_alloc]; omega)).trans (World.alloc_heap_new w _)); clear ht hb ha)
    | (go_at_call 33; refine (rNew_call _ room h1 h2).mono ?_; rintro e w2 ⟨m, B, rfl, hr, hb2, hm, hB2⟩; have HR := Lib.hid hr; have HB2 := Lib.hid hb2; have HM := Lib.hid hm; have HBB := Lib.hid hB2; have hat2 := (hb2.block w.heap.size (Array.getElem?_eq_some_iff.1 HAT1.out).1).trans HAT1.out; have HAT2 := Lib.hid hat2; have d0 : w2.cell? ⟨w.heap.size, 0, none⟩ = some (.pointer none) := (by simp [World.cell?, hat2]); have d1 : w2.cell? ⟨w.heap.size, 1, none⟩ = some (.pointer none) := (by simp [World.cell?, hat2]); have g0 : w2.frozen? ⟨w.heap.size, 0, none⟩ = false := (by simp [World.frozen?, hat2]); have g1 : w2.frozen? ⟨w.heap.size, 1, none⟩ = false := (by simp [World.frozen?, hat2]); clear hat2 hr hb2 hm hB2))
  have hlt2 : w.heap.size < w2.heap.size := (Array.getElem?_eq_some_iff.1 HAT2.out).1
  have HEND : Hid (BegunEnd w φ room (.returned (.tuple #[.agg #[.pointer (some ⟨p, 0, none⟩), .pointer (some ⟨m, 0, none⟩)], .bool true])) ((w2.setCell ⟨w.heap.size, 0, none⟩ (.pointer (some ⟨p, 0, none⟩))).setCell ⟨w.heap.size, 1, none⟩ (.pointer (some ⟨m, 0, none⟩)))) := by
    have hC : Chg (fun k => k = w.heap.size) w2 ((w2.setCell ⟨w.heap.size, 0, none⟩ (.pointer (some ⟨p, 0, none⟩))).setCell ⟨w.heap.size, 1, none⟩ (.pointer (some ⟨m, 0, none⟩))) := ((Chg.refl (fun k => k = w.heap.size) w2).setCell (p := ⟨w.heap.size, 0, none⟩) (fun _ => rfl) _).setCell (p := ⟨w.heap.size, 1, none⟩) (fun _ => rfl) _
    have hA := HA.out
    have hM := HM.out
    have hBB := HBB.out
    have hs1 : w.heap.size + 1 ≤ w1.heap.size := (Array.getElem?_eq_some_iff.1 HAT1.out).1
    have hT2 := HT.out.below HB2.out
    have hsz : (w.alloc (.cells #[.pointer none, .pointer none] 29)).heap.size = w.heap.size + 1 := World.size_alloc _ _
    have hA' : ∀ k, A k → w.heap.size + 1 ≤ k := fun k hk => by have := hA k hk; omega
    refine ⟨p, A, m, B, rfl, ⟨hT2.chg hC (fun k hk e => by have := hA' k hk; omega) (Ext.refl _ _) (hT2.files.chg hC fun q hq e => ?_), HR.out.chg hC (fun e => by omega) (fun k hk e => by have := hBB k hk; omega), fun k hk => ⟨fun e => ?_, fun e => ?_⟩, fun k hk e => ?_⟩, ?_, fun k hk => (by have := hA' k hk; omega), fun k hk => (by have := hBB k hk; omega), by omega⟩
    · have := HF.out.lt hq
      omega
    · have := (HT.out.free hk).1
      omega
    · have h1 := (HT.out.free hk).1
      have h2 := hBB k e
      omega
    · have := HF.out.lt hk
      omega
    · exact ((Chg.of_below (HB.out.trans (HB2.out.mono HB.out.size)) (fun _ => False)).trans hC fun k hk e => by omega).to_below (Nat.le_refl _) fun k hk => hk.elim
  refine bodyPost_ret (v := .tuple #[.agg #[.pointer (some ⟨p, 0, none⟩), .pointer (some ⟨m, 0, none⟩)], .bool true]) ?_ rfl HEND.out
  rw [results_cell_tmp rfl]
  go_simp
end Go.Proofs.YtajiidkmijeidaaDoor.Fr
/- An act, plain; how an act on both trees ends. -/
namespace Go.Proofs.YtajiidkmijeidaaDoor.Fr
open Go.RowKit Go.Proofs.YtajiidkmijeidaaDoor.F Go.Proofs.YtajiidkmijeidaaDoorW.PrintWords
set_option linter.unusedVariables false
set_option linter.unusedSimpArgs false
/-- An act: its numbers, its path and text. -/
abbrev Ac := S34
def pickI (c n : Int) : Int := if c < 0 then Int.tmod (-(c + 1)) n else Int.tmod c n
/-- What an act makes of a tree. -/
def actT (T : TS) (a : Ac) : TS :=
  let j := pickI a.f0 8
  if j = 0 ∨ j = 1 then writeT T false a.f3 a.f4
  else if j = 2 ∨ j = 3 then writeT T true a.f3 a.f4
  else if j = 4 then removeT T a.f3
  else if j = 5 then renameT T a.f3 a.f4
  else if j = 6 then syncT T
  else crashT T a.f1 a.f2
theorem inv_act {n : Nat} {T : TS} (h : Inv n T) (a : Ac) (hs : a.f4.size ≤ 1000000000) : Inv (n + 1) (actT T a) := by
  unfold actT
  simp only
  split
  · exact inv_write h _ hs
  · split
    · exact inv_write h _ hs
    · split
      · exact inv_remove h _
      · split
        · exact inv_rename h _ _
        · split
          · exact inv_sync h.room (by have := h.clock; omega) h.good
          · exact (inv_crash h _ _).mono (Nat.le_succ n)
/-- How a call on both ends. -/
def PrEnd (w : World) (φ : Phi) (p : Nat) (A : Nat → Prop) (m : Nat) (B : Nat → Prop) (T' : TS) (w' : World) : Prop :=
  ∃ φ' A' B', Pr w' φ' p A' m B' T' ∧ Chg (fun k => A k ∨ k = m) w w' ∧ Ext w φ φ' ∧ (∀ k, A' k → A k ∨ w.heap.size ≤ k) ∧ ∀ k, B' k → B k ∨ w.heap.size ≤ k
theorem Pr.act {w w1 w2 : World} {φ : Phi} {p m : Nat} {A B : Nat → Prop} {T T' : TS} (h : Pr w φ p A m B T) (he : TrEnd w φ p A T' w1) (hr : Rf w1 m T B → RfEnd w1 m B T' w2) : PrEnd w φ p A m B T' w2 := by
  obtain ⟨φ', A', h1, h2, h3, h4, h5, h6, h7⟩ := h.left he
  obtain ⟨B', k1, k2, k3⟩ := Pr.both (w := w) (φ := φ) (A := A) h1 h3 h4 (hr h2)
  refine ⟨φ', A', B', k1, (h5.mono fun k _ e => .inl e).trans k2 fun k _ e => .inr e, h6, h7, fun k hk => (k3 k hk).imp id fun e => Nat.le_trans h5.size e⟩
end Go.Proofs.YtajiidkmijeidaaDoor.Fr
/- does. -/
namespace Go.Proofs.YtajiidkmijeidaaDoor.Fr
open Go.RowKit Go.Proofs.YtajiidkmijeidaaDoor.F Go.Proofs.YtajiidkmijeidaaDoorW.PrintWords
set_option linter.unusedVariables false
set_option linter.unusedSimpArgs false
theorem pick_f (c : Int) (h0 : -9223372036854775808 ≤ c) (h1 : c ≤ 9223372036854775807) : cooperagelaw5_pick.f c 8 = some (pickI c 8) := by
  unfold cooperagelaw5_pick.f pickI
  by_cases h : c < 0
  · rw [if_pos h, if_neg (by decide), if_pos h]
    have e : wrap64 (-(wrap64 (c + 1))) = -(c + 1) := by unfold wrap64; omega
    rw [e]
  · rw [if_neg h, if_neg (by decide), if_neg h]
theorem pickI_lt (c : Int) : 0 ≤ pickI c 8 ∧ pickI c 8 < 8 := by
  unfold pickI
  split
  · rw [Int.tmod_eq_emod_of_nonneg (by omega)]
    omega
  · rw [Int.tmod_eq_emod_of_nonneg (by omega)]
    omega
/-- Between the call on the tree and the one on the reference's. -/
def Mid (w : World) (φ : Phi) (p : Nat) (A : Nat → Prop) (m : Nat) (B : Nat → Prop) (T T' : TS) (w1 : World) : Prop :=
  ∃ φ' A', Tr w1 φ' p T' A' ∧ Rf w1 m T B ∧ (∀ k, A' k → k ≠ m ∧ ¬ B k) ∧ (∀ k, φ' k ≠ none → k ≠ m) ∧ Chg A w w1 ∧ Ext w φ φ' ∧ ∀ k, A' k → A k ∨ w.heap.size ≤ k
theorem Mid.rf {w w1 : World} {φ : Phi} {p m : Nat} {A B : Nat → Prop} {T T' : TS} (h : Mid w φ p A m B T T' w1) : Rf w1 m T B := by
  obtain ⟨φ', A', h1, h2, h3⟩ := h
  exact h2
theorem Mid.chg {w w1 : World} {φ : Phi} {p m : Nat} {A B : Nat → Prop} {T T' : TS} (h : Mid w φ p A m B T T' w1) : Chg A w w1 := by
  obtain ⟨φ', A', h1, h2, h3, h4, h5, h6⟩ := h
  exact h5
theorem Mid.both {w w1 w2 : World} {φ : Phi} {p m : Nat} {A B : Nat → Prop} {T T' : TS} (h : Mid w φ p A m B T T' w1) (hr : RfEnd w1 m B T' w2) : PrEnd w φ p A m B T' w2 := by
  obtain ⟨φ', A', h1, h2, h3, h4, h5, h6, h7⟩ := h
  obtain ⟨B', k1, k2, k3⟩ := Pr.both (w := w) (φ := φ) (A := A) h1 h3 h4 hr
  refine ⟨φ', A', B', k1, (h5.mono fun k _ e => .inl e).trans k2 fun k _ e => .inr e, h6, h7, fun k hk => (k3 k hk).imp id fun e => Nat.le_trans h5.size e⟩
end Go.Proofs.YtajiidkmijeidaaDoor.Fr
/- does: an act on both trees. -/
namespace Go.Proofs.YtajiidkmijeidaaDoor.Fr
open Go.RowKit Go.Proofs.YtajiidkmijeidaaDoor.F Go.Proofs.YtajiidkmijeidaaDoorW.PrintWords
set_option linter.unusedVariables false
set_option linter.unusedSimpArgs false
/-- What may be asked of an act. -/
structure AcOK (a : Ac) : Prop where
  op : -9223372036854775808 ≤ a.f0 ∧ a.f0 ≤ 9223372036854775807
  part : a.f2 ≤ 9223372036854775807
  path : a.f3.size ≤ 100000
  text : a.f4.size ≤ 100000
def AcBoxes (w : World) (p m : Nat) (a : Ac) (W : World) : Prop := W.heap[w.heap.size]? = some (.cells #[.pointer (some ⟨p, 0, none⟩), .pointer (some ⟨m, 0, none⟩)] 29) ∧ W.heap[w.heap.size + 1]? = some (.cells #[.int .i64 a.f0, .int .i64 a.f1, .int .i64 a.f2, .string a.f3, .string a.f4] 34)
theorem AcBoxes.cells {w W : World} {p m : Nat} {a : Ac} (h : AcBoxes w p m a W) : W.cell? ⟨w.heap.size, 0, none⟩ = some (.pointer (some ⟨p, 0, none⟩)) ∧ W.cell? ⟨w.heap.size, 1, none⟩ = some (.pointer (some ⟨m, 0, none⟩)) ∧ W.cell? ⟨w.heap.size + 1, 0, none⟩ = some (.int .i64 a.f0) ∧ W.cell? ⟨w.heap.size + 1, 1, none⟩ = some (.int .i64 a.f1) ∧ W.cell? ⟨w.heap.size + 1, 2, none⟩ = some (.int .i64 a.f2) ∧ W.cell? ⟨w.heap.size + 1, 3, none⟩ = some (.string a.f3) ∧ W.cell? ⟨w.heap.size + 1, 4, none⟩ = some (.string a.f4) := by
  obtain ⟨h1, h2⟩ := h
  refine ⟨?_, ?_, ?_, ?_, ?_, ?_, ?_⟩ <;> simp [World.cell?, h1, h2]
theorem AcBoxes.S {w W : World} {p m : Nat} {a : Ac} (h : AcBoxes w p m a W) : (W.cell? ⟨w.heap.size, 0, none⟩ = some (.pointer (some ⟨p, 0, none⟩)) ∧ W.cell? ⟨w.heap.size, 1, none⟩ = some (.pointer (some ⟨m, 0, none⟩)) ∧ W.cell? ⟨w.heap.size + 1, 0, none⟩ = some (.int .i64 a.f0) ∧ W.cell? ⟨w.heap.size + 1, 1, none⟩ = some (.int .i64 a.f1) ∧ W.cell? ⟨w.heap.size + 1, 2, none⟩ = some (.int .i64 a.f2) ∧ W.cell? ⟨w.heap.size + 1, 3, none⟩ = some (.string a.f3) ∧ W.cell? ⟨w.heap.size + 1, 4, none⟩ = some (.string a.f4)) ∧ Hid (AcBoxes w p m a W) := ⟨h.cells, h⟩
theorem AcBoxes.chg {w W W' : World} {p m : Nat} {a : Ac} {S : Nat → Prop} (h : AcBoxes w p m a W) (hc : Chg S W W') (hs : ∀ k, S k → k < w.heap.size) : AcBoxes w p m a W' :=
  ⟨(hc.block _ (Array.getElem?_eq_some_iff.1 h.1).1 fun e => by have := hs _ e; omega).trans h.1, (hc.block _ (Array.getElem?_eq_some_iff.1 h.2).1 fun e => by have := hs _ e; omega).trans h.2⟩
theorem AcBoxes.drew {w W : World} {p m : Nat} {a : Ac} (h : AcBoxes w p m a W) : AcBoxes w p m a W.drew := h
theorem AcBoxes.new (w : World) (p m : Nat) (a : Ac) : AcBoxes w p m a ((w.alloc (.cells #[.pointer (some ⟨p, 0, none⟩), .pointer (some ⟨m, 0, none⟩)] 29)).alloc (.cells #[.int .i64 a.f0, .int .i64 a.f1, .int .i64 a.f2, .string a.f3, .string a.f4] 34)) := by
  refine ⟨?_, new2 _ _ _⟩
  rw [Below.heap_alloc _ _ _ (by rw [World.size_alloc]; omega)]
  exact World.alloc_heap_new w _
theorem pick_call (c j : Int) (h : -9223372036854775808 ≤ c ∧ c ≤ 9223372036854775807) (hj : pickI c 8 = j) (w : World) : Calls Tryd.prog 13 #[.int .i64 c, .int .i64 8] w fun e w' => e = .returned (.int .i64 j) ∧ Below w.heap.size w w' := by
  subst hj
  exact (cooperagelaw5_pick.calls c 8 _ w (pick_f c h.1 h.2)).mono fun e w' ⟨h1, h2⟩ => ⟨h1, drawn_below h2⟩
theorem TrEnd.c {w w' : World} {φ : Phi} {p : Nat} {A : Nat → Prop} {T' : TS} (h : TrEnd w φ p A T' w') : Chg A w w' := by
  obtain ⟨_, _, _, _, hc, _⟩ := h
  exact hc
theorem RfEnd.c {w w' : World} {m : Nat} {B : Nat → Prop} {T' : TS} (h : RfEnd w m B T' w') : Chg (fun k => k = m) w w' := by
  obtain ⟨_, _, hc, _⟩ := h
  exact hc
/-- Both trees, each of a plain tree of its own. -/
structure Pr2 (w : World) (φ : Phi) (p : Nat) (A : Nat → Prop) (m : Nat) (B : Nat → Prop) (T Tm : TS) : Prop where
  tr : Tr w φ p T A
  rf : Rf w m Tm B
  am : ∀ k, A k → k ≠ m ∧ ¬ B k
  fm : ∀ k, φ k ≠ none → k ≠ m
theorem Pr.two {w : World} {φ : Phi} {p m : Nat} {A B : Nat → Prop} {T : TS} (h : Pr w φ p A m B T) : Pr2 w φ p A m B T T := ⟨h.tr, h.rf, h.am, h.fm⟩
theorem Pr2.below {w w' : World} {φ : Phi} {p m : Nat} {A B : Nat → Prop} {T Tm : TS} (h : Pr2 w φ p A m B T Tm) (hb : Below w.heap.size w w') : Pr2 w' φ p A m B T Tm := ⟨h.tr.below hb, h.rf.below hb, h.am, h.fm⟩
def PrEnd2 (w : World) (φ : Phi) (p : Nat) (A : Nat → Prop) (m : Nat) (B : Nat → Prop) (T' Tm' : TS) (w' : World) : Prop :=
  ∃ φ' A' B', Pr2 w' φ' p A' m B' T' Tm' ∧ Chg (fun k => A k ∨ k = m) w w' ∧ Ext w φ φ' ∧ (∀ k, A' k → A k ∨ w.heap.size ≤ k) ∧ ∀ k, B' k → B k ∨ w.heap.size ≤ k
/-- Between the two calls. -/
def Mid2 (w : World) (φ : Phi) (p : Nat) (A : Nat → Prop) (m : Nat) (B : Nat → Prop) (T' Tm : TS) (w1 : World) : Prop :=
  ∃ φ' A', Tr w1 φ' p T' A' ∧ Rf w1 m Tm B ∧ (∀ k, A' k → k ≠ m ∧ ¬ B k) ∧ (∀ k, φ' k ≠ none → k ≠ m) ∧ Chg A w w1 ∧ Ext w φ φ' ∧ ∀ k, A' k → A k ∨ w.heap.size ≤ k
/-- Behind the call on the tree. -/
theorem Pr2.mid {w W w1 : World} {φ : Phi} {p m : Nat} {A B : Nat → Prop} {T T' Tm : TS} (h : Pr2 w φ p A m B T Tm) (hb : Below w.heap.size w W) (he : TrEnd W φ p A T' w1) : Mid2 w φ p A m B T' Tm w1 := by
  obtain ⟨φ', A', h1, h2, h3, h4⟩ := he
  have hw := h.below hb
  have hm := h.rf.lt
  have hs := hb.size
  refine ⟨φ', A', h1, hw.rf.chg h3 (fun e => (h.am m e).1 rfl) fun k hk e => (h.am k e).2 hk, fun k hk => ?_, fun k hk => ?_, (Chg.of_below hb _).trans h3 (fun _ _ e => e), ⟨h2.keeps, fun k e => (h2.new k e).imp id fun e => by omega⟩, fun k hk => (h4 k hk).imp id fun e => by omega⟩
  · rcases h4 k hk with e | e
    · exact h.am k e
    · exact ⟨by omega, fun e2 => by have := (h.rf.free e2).1; omega⟩
  · rcases h2.new k hk with e | e
    · exact h.fm k e
    · omega
theorem Mid2.rf {w w1 : World} {φ : Phi} {p m : Nat} {A B : Nat → Prop} {T' Tm : TS} (h : Mid2 w φ p A m B T' Tm w1) : Rf w1 m Tm B := by
  obtain ⟨φ', A', h1, h2, h3⟩ := h
  exact h2
theorem Mid2.both {w w1 w2 : World} {φ : Phi} {p m : Nat} {A B : Nat → Prop} {T' Tm Tm' : TS} (h : Mid2 w φ p A m B T' Tm w1) (he : RfEnd w1 m B Tm' w2) : PrEnd2 w φ p A m B T' Tm' w2 := by
  obtain ⟨φ', A', h1, h2, h3, h4, h5, h6, h7⟩ := h
  obtain ⟨B', k1, k2, k3⟩ := he
  have hs := h5.size
  refine ⟨φ', A', B', ⟨h1.chg k2 (fun k hk e => (h3 k hk).1 e) (Ext.refl _ _) (h1.files.chg k2 fun q hq e => h4 q hq e), k1, fun k hk => ⟨(h3 k hk).1, fun e => ?_⟩, h4⟩, (h5.mono fun k _ e => .inl e).trans k2 fun k _ e => .inr e, h6, h7, fun k hk => (k3 k hk).imp id fun e => by omega⟩
  rcases k3 k e with e | e
  · exact (h3 k hk).2 e
  · have := (h1.free hk).1
    omega
theorem Pr2.lt {w : World} {φ : Phi} {p m : Nat} {A B : Nat → Prop} {T Tm : TS} (h : Pr2 w φ p A m B T Tm) : (∀ k, A k → k < w.heap.size) ∧ m < w.heap.size := ⟨fun k hk => (h.tr.free hk).1, h.rf.lt⟩
/-- How does ends. -/
def DoesEnd (w : World) (φ : Phi) (p : Nat) (A : Nat → Prop) (m : Nat) (B : Nat → Prop) (T Tm T' Tm' : TS) (e : Ending) (w' : World) : Prop := ∃ r, e = .returned (.bool r) ∧ (T = Tm → r = true) ∧ PrEnd2 w φ p A m B T' Tm' w'
section
variable {w : World} {φ : Phi} {p m : Nat} {A B : Nat → Prop} {T Tm : TS} {n : Nat}
set_option maxHeartbeats 4000000 in
set_option maxRecDepth 100000 in
theorem does_0 (hP : Pr2 w φ p A m B T Tm) (hG : Glob w) (hI : Inv n T) (hIm : Inv n Tm) (hn : n ≤ 1000000) (a : Ac) (ha : AcOK a) (hj : pickI a.f0 8 = 0) :
    Calls Tryd.prog 15 #[.agg #[.pointer (some ⟨p, 0, none⟩), .pointer (some ⟨m, 0, none⟩)], .agg #[.int .i64 a.f0, .int .i64 a.f1, .int .i64 a.f2, .string a.f3, .string a.f4]] w (DoesEnd w φ p A m B T Tm (actT T a) (actT Tm a)) := by
  have HP := Lib.hid hP
  have HG := Lib.hid hG
  have HI := Lib.hid hI
  have HIm := Lib.hid hIm
  have HOm := Lib.hid (hIm.tok hn)
  have HO := Lib.hid (hI.tok hn)
  have HA := Lib.hid ha
  have HJ := Lib.hid hj
  have HT : Hid (actT T a = writeT T false a.f3 a.f4) := by unfold Hid actT; simp only; rw [hj]; rfl
  have HTm : Hid (actT Tm a = writeT Tm false a.f3 a.f4) := by unfold Hid actT; simp only; rw [hj]; rfl
  have HL := Lib.hid hP.lt
  clear hP hG hI hIm ha hj
  rw [HT.out, HTm.out]
  go_enter Tryd.func15, Tryd.ntmps15
  go_upto_region 2 with (first | (go_at_call 13; refine (pick_call a.f0 0 HA.out.op HJ.out _).mono ?_; rintro e w1 ⟨rfl, hb⟩; have HB1 := Lib.hid ((newBelow2 w _ _).trans (hb.mono (by rw [World.size_alloc, World.size_alloc]; omega))); have HX1 := Lib.hid ((AcBoxes.new w p m a).chg (Chg.of_below hb fun _ => False) fun k e => e.elim); clear hb))
  obtain ⟨c0, c1, c2, c3, c4, c5, c6⟩ := HX1.out.cells
  go_upto_region 4 with fail
  first | (go_region_held3 (fun W => (W.cell? ⟨w.heap.size, 0, none⟩ = some (.pointer (some ⟨p, 0, none⟩)) ∧ W.cell? ⟨w.heap.size, 1, none⟩ = some (.pointer (some ⟨m, 0, none⟩)) ∧ W.cell? ⟨w.heap.size + 1, 0, none⟩ = some (.int .i64 a.f0) ∧ W.cell? ⟨w.heap.size + 1, 1, none⟩ = some (.int .i64 a.f1) ∧ W.cell? ⟨w.heap.size + 1, 2, none⟩ = some (.int .i64 a.f2) ∧ W.cell? ⟨w.heap.size + 1, 3, none⟩ = some (.string a.f3) ∧ W.cell? ⟨w.heap.size + 1, 4, none⟩ = some (.string a.f4)) ∧ Hid (AcBoxes w p m a W)) (first | exact HX3.out.S | exact HX2.out.S | exact HX1.out.S) (first
    | (go_at_call 28; refine (Write_call _ (HP.out.below HB1.out.drew).tr (HG.out.below HB1.out.drew) HO.out a.f3 a.f4 HA.out.path (Nat.le_trans HA.out.text (by decide))).mono ?_; rintro e w2 ⟨rfl, he⟩; have HM := Lib.hid (HP.out.mid HB1.out.drew he); have HX2 := Lib.hid (HX1.out.drew.chg (S := A) he.c HL.out.1); obtain ⟨d0, d1, d2, d3, d4, d5, d6⟩ := HX2.out.cells; clear he)
    | (go_at_call 34; refine (rWrite_call _ HM.out.rf HOm.out HIm.out.good.srt HIm.out.good.pth a.f3 a.f4 HA.out.path (Nat.le_trans HA.out.text (by decide))).mono ?_; rintro e w3 ⟨rfl, he⟩; have HE := Lib.hid (HM.out.both he); have HX3 := Lib.hid (HX2.out.chg (S := fun k => k = m) he.c fun k e => e ▸ HL.out.2); clear he))) | fail
  all_goals
    go_wp2_with fail
    go_ret
    exact ⟨_, rfl, fun e => by subst e; simp, HE.out⟩
set_option maxHeartbeats 4000000 in
set_option maxRecDepth 100000 in
theorem does_1 (hP : Pr2 w φ p A m B T Tm) (hG : Glob w) (hI : Inv n T) (hIm : Inv n Tm) (hn : n ≤ 1000000) (a : Ac) (ha : AcOK a) (hj : pickI a.f0 8 = 1) :
    Calls Tryd.prog 15 #[.agg #[.pointer (some ⟨p, 0, none⟩), .pointer (some ⟨m, 0, none⟩)], .agg #[.int .i64 a.f0, .int .i64 a.f1, .int .i64 a.f2, .string a.f3, .string a.f4]] w (DoesEnd w φ p A m B T Tm (actT T a) (actT Tm a)) := by
  have HP := Lib.hid hP
  have HG := Lib.hid hG
  have HI := Lib.hid hI
  have HIm := Lib.hid hIm
  have HOm := Lib.hid (hIm.tok hn)
  have HO := Lib.hid (hI.tok hn)
  have HA := Lib.hid ha
  have HJ := Lib.hid hj
  have HT : Hid (actT T a = writeT T false a.f3 a.f4) := by unfold Hid actT; simp only; rw [hj]; rfl
  have HTm : Hid (actT Tm a = writeT Tm false a.f3 a.f4) := by unfold Hid actT; simp only; rw [hj]; rfl
  have HL := Lib.hid hP.lt
  clear hP hG hI hIm ha hj
  rw [HT.out, HTm.out]
  go_enter Tryd.func15, Tryd.ntmps15
  go_upto_region 2 with (first | (go_at_call 13; refine (pick_call a.f0 1 HA.out.op HJ.out _).mono ?_; rintro e w1 ⟨rfl, hb⟩; have HB1 := Lib.hid ((newBelow2 w _ _).trans (hb.mono (by rw [World.size_alloc, World.size_alloc]; omega))); have HX1 := Lib.hid ((AcBoxes.new w p m a).chg (Chg.of_below hb fun _ => False) fun k e => e.elim); clear hb))
  obtain ⟨c0, c1, c2, c3, c4, c5, c6⟩ := HX1.out.cells
  go_upto_region 4 with fail
  first | (go_region_held3 (fun W => (W.cell? ⟨w.heap.size, 0, none⟩ = some (.pointer (some ⟨p, 0, none⟩)) ∧ W.cell? ⟨w.heap.size, 1, none⟩ = some (.pointer (some ⟨m, 0, none⟩)) ∧ W.cell? ⟨w.heap.size + 1, 0, none⟩ = some (.int .i64 a.f0) ∧ W.cell? ⟨w.heap.size + 1, 1, none⟩ = some (.int .i64 a.f1) ∧ W.cell? ⟨w.heap.size + 1, 2, none⟩ = some (.int .i64 a.f2) ∧ W.cell? ⟨w.heap.size + 1, 3, none⟩ = some (.string a.f3) ∧ W.cell? ⟨w.heap.size + 1, 4, none⟩ = some (.string a.f4)) ∧ Hid (AcBoxes w p m a W)) (first | exact HX3.out.S | exact HX2.out.S | exact HX1.out.S) (first
    | (go_at_call 28; refine (Write_call _ (HP.out.below HB1.out.drew).tr (HG.out.below HB1.out.drew) HO.out a.f3 a.f4 HA.out.path (Nat.le_trans HA.out.text (by decide))).mono ?_; rintro e w2 ⟨rfl, he⟩; have HM := Lib.hid (HP.out.mid HB1.out.drew he); have HX2 := Lib.hid (HX1.out.drew.chg (S := A) he.c HL.out.1); obtain ⟨d0, d1, d2, d3, d4, d5, d6⟩ := HX2.out.cells; clear he)
    | (go_at_call 34; refine (rWrite_call _ HM.out.rf HOm.out HIm.out.good.srt HIm.out.good.pth a.f3 a.f4 HA.out.path (Nat.le_trans HA.out.text (by decide))).mono ?_; rintro e w3 ⟨rfl, he⟩; have HE := Lib.hid (HM.out.both he); have HX3 := Lib.hid (HX2.out.chg (S := fun k => k = m) he.c fun k e => e ▸ HL.out.2); clear he))) | fail
  all_goals
    go_wp2_with fail
    go_ret
    exact ⟨_, rfl, fun e => by subst e; simp, HE.out⟩
set_option maxHeartbeats 4000000 in
set_option maxRecDepth 100000 in
theorem does_2 (hP : Pr2 w φ p A m B T Tm) (hG : Glob w) (hI : Inv n T) (hIm : Inv n Tm) (hn : n ≤ 1000000) (a : Ac) (ha : AcOK a) (hj : pickI a.f0 8 = 2) :
    Calls Tryd.prog 15 #[.agg #[.pointer (some ⟨p, 0, none⟩), .pointer (some ⟨m, 0, none⟩)], .agg #[.int .i64 a.f0, .int .i64 a.f1, .int .i64 a.f2, .string a.f3, .string a.f4]] w (DoesEnd w φ p A m B T Tm (actT T a) (actT Tm a)) := by
  have HP := Lib.hid hP
  have HG := Lib.hid hG
  have HI := Lib.hid hI
  have HIm := Lib.hid hIm
  have HOm := Lib.hid (hIm.tok hn)
  have HO := Lib.hid (hI.tok hn)
  have HA := Lib.hid ha
  have HJ := Lib.hid hj
  have HT : Hid (actT T a = writeT T true a.f3 a.f4) := by unfold Hid actT; simp only; rw [hj]; rfl
  have HTm : Hid (actT Tm a = writeT Tm true a.f3 a.f4) := by unfold Hid actT; simp only; rw [hj]; rfl
  have HL := Lib.hid hP.lt
  clear hP hG hI hIm ha hj
  rw [HT.out, HTm.out]
  go_enter Tryd.func15, Tryd.ntmps15
  go_upto_region 2 with (first | (go_at_call 13; refine (pick_call a.f0 2 HA.out.op HJ.out _).mono ?_; rintro e w1 ⟨rfl, hb⟩; have HB1 := Lib.hid ((newBelow2 w _ _).trans (hb.mono (by rw [World.size_alloc, World.size_alloc]; omega))); have HX1 := Lib.hid ((AcBoxes.new w p m a).chg (Chg.of_below hb fun _ => False) fun k e => e.elim); clear hb))
  obtain ⟨c0, c1, c2, c3, c4, c5, c6⟩ := HX1.out.cells
  go_upto_region 7 with fail
  first | (go_region_held3 (fun W => (W.cell? ⟨w.heap.size, 0, none⟩ = some (.pointer (some ⟨p, 0, none⟩)) ∧ W.cell? ⟨w.heap.size, 1, none⟩ = some (.pointer (some ⟨m, 0, none⟩)) ∧ W.cell? ⟨w.heap.size + 1, 0, none⟩ = some (.int .i64 a.f0) ∧ W.cell? ⟨w.heap.size + 1, 1, none⟩ = some (.int .i64 a.f1) ∧ W.cell? ⟨w.heap.size + 1, 2, none⟩ = some (.int .i64 a.f2) ∧ W.cell? ⟨w.heap.size + 1, 3, none⟩ = some (.string a.f3) ∧ W.cell? ⟨w.heap.size + 1, 4, none⟩ = some (.string a.f4)) ∧ Hid (AcBoxes w p m a W)) (first | exact HX3.out.S | exact HX2.out.S | exact HX1.out.S) (first
    | (go_at_call 25; refine (Append_call _ (HP.out.below HB1.out.drew).tr (HG.out.below HB1.out.drew) HO.out a.f3 a.f4 HA.out.path (Nat.le_trans HA.out.text (by decide))).mono ?_; rintro e w2 ⟨rfl, he⟩; have HM := Lib.hid (HP.out.mid HB1.out.drew he); have HX2 := Lib.hid (HX1.out.drew.chg (S := A) he.c HL.out.1); obtain ⟨d0, d1, d2, d3, d4, d5, d6⟩ := HX2.out.cells; clear he)
    | (go_at_call 35; refine (rAppend_call _ HM.out.rf HOm.out HIm.out.good.srt HIm.out.good.pth a.f3 a.f4 HA.out.path (Nat.le_trans HA.out.text (by decide))).mono ?_; rintro e w3 ⟨rfl, he⟩; have HE := Lib.hid (HM.out.both he); have HX3 := Lib.hid (HX2.out.chg (S := fun k => k = m) he.c fun k e => e ▸ HL.out.2); clear he))) | fail
  all_goals
    go_wp2_with fail
    go_ret
    exact ⟨_, rfl, fun e => by subst e; simp, HE.out⟩
set_option maxHeartbeats 4000000 in
set_option maxRecDepth 100000 in
theorem does_3 (hP : Pr2 w φ p A m B T Tm) (hG : Glob w) (hI : Inv n T) (hIm : Inv n Tm) (hn : n ≤ 1000000) (a : Ac) (ha : AcOK a) (hj : pickI a.f0 8 = 3) :
    Calls Tryd.prog 15 #[.agg #[.pointer (some ⟨p, 0, none⟩), .pointer (some ⟨m, 0, none⟩)], .agg #[.int .i64 a.f0, .int .i64 a.f1, .int .i64 a.f2, .string a.f3, .string a.f4]] w (DoesEnd w φ p A m B T Tm (actT T a) (actT Tm a)) := by
  have HP := Lib.hid hP
  have HG := Lib.hid hG
  have HI := Lib.hid hI
  have HIm := Lib.hid hIm
  have HOm := Lib.hid (hIm.tok hn)
  have HO := Lib.hid (hI.tok hn)
  have HA := Lib.hid ha
  have HJ := Lib.hid hj
  have HT : Hid (actT T a = writeT T true a.f3 a.f4) := by unfold Hid actT; simp only; rw [hj]; rfl
  have HTm : Hid (actT Tm a = writeT Tm true a.f3 a.f4) := by unfold Hid actT; simp only; rw [hj]; rfl
  have HL := Lib.hid hP.lt
  clear hP hG hI hIm ha hj
  rw [HT.out, HTm.out]
  go_enter Tryd.func15, Tryd.ntmps15
  go_upto_region 2 with (first | (go_at_call 13; refine (pick_call a.f0 3 HA.out.op HJ.out _).mono ?_; rintro e w1 ⟨rfl, hb⟩; have HB1 := Lib.hid ((newBelow2 w _ _).trans (hb.mono (by rw [World.size_alloc, World.size_alloc]; omega))); have HX1 := Lib.hid ((AcBoxes.new w p m a).chg (Chg.of_below hb fun _ => False) fun k e => e.elim); clear hb))
  obtain ⟨c0, c1, c2, c3, c4, c5, c6⟩ := HX1.out.cells
  go_upto_region 7 with fail
  first | (go_region_held3 (fun W => (W.cell? ⟨w.heap.size, 0, none⟩ = some (.pointer (some ⟨p, 0, none⟩)) ∧ W.cell? ⟨w.heap.size, 1, none⟩ = some (.pointer (some ⟨m, 0, none⟩)) ∧ W.cell? ⟨w.heap.size + 1, 0, none⟩ = some (.int .i64 a.f0) ∧ W.cell? ⟨w.heap.size + 1, 1, none⟩ = some (.int .i64 a.f1) ∧ W.cell? ⟨w.heap.size + 1, 2, none⟩ = some (.int .i64 a.f2) ∧ W.cell? ⟨w.heap.size + 1, 3, none⟩ = some (.string a.f3) ∧ W.cell? ⟨w.heap.size + 1, 4, none⟩ = some (.string a.f4)) ∧ Hid (AcBoxes w p m a W)) (first | exact HX3.out.S | exact HX2.out.S | exact HX1.out.S) (first
    | (go_at_call 25; refine (Append_call _ (HP.out.below HB1.out.drew).tr (HG.out.below HB1.out.drew) HO.out a.f3 a.f4 HA.out.path (Nat.le_trans HA.out.text (by decide))).mono ?_; rintro e w2 ⟨rfl, he⟩; have HM := Lib.hid (HP.out.mid HB1.out.drew he); have HX2 := Lib.hid (HX1.out.drew.chg (S := A) he.c HL.out.1); obtain ⟨d0, d1, d2, d3, d4, d5, d6⟩ := HX2.out.cells; clear he)
    | (go_at_call 35; refine (rAppend_call _ HM.out.rf HOm.out HIm.out.good.srt HIm.out.good.pth a.f3 a.f4 HA.out.path (Nat.le_trans HA.out.text (by decide))).mono ?_; rintro e w3 ⟨rfl, he⟩; have HE := Lib.hid (HM.out.both he); have HX3 := Lib.hid (HX2.out.chg (S := fun k => k = m) he.c fun k e => e ▸ HL.out.2); clear he))) | fail
  all_goals
    go_wp2_with fail
    go_ret
    exact ⟨_, rfl, fun e => by subst e; simp, HE.out⟩
set_option maxHeartbeats 4000000 in
set_option maxRecDepth 100000 in
theorem does_4 (hP : Pr2 w φ p A m B T Tm) (hG : Glob w) (hI : Inv n T) (hIm : Inv n Tm) (hn : n ≤ 1000000) (a : Ac) (ha : AcOK a) (hj : pickI a.f0 8 = 4) :
    Calls Tryd.prog 15 #[.agg #[.pointer (some ⟨p, 0, none⟩), .pointer (some ⟨m, 0, none⟩)], .agg #[.int .i64 a.f0, .int .i64 a.f1, .int .i64 a.f2, .string a.f3, .string a.f4]] w (DoesEnd w φ p A m B T Tm (actT T a) (actT Tm a)) := by
  have HP := Lib.hid hP
  have HG := Lib.hid hG
  have HI := Lib.hid hI
  have HIm := Lib.hid hIm
  have HOm := Lib.hid (hIm.tok hn)
  have HO := Lib.hid (hI.tok hn)
  have HA := Lib.hid ha
  have HJ := Lib.hid hj
  have HT : Hid (actT T a = removeT T a.f3) := by unfold Hid actT; simp only; rw [hj]; rfl
  have HTm : Hid (actT Tm a = removeT Tm a.f3) := by unfold Hid actT; simp only; rw [hj]; rfl
  have HL := Lib.hid hP.lt
  clear hP hG hI hIm ha hj
  rw [HT.out, HTm.out]
  go_enter Tryd.func15, Tryd.ntmps15
  go_upto_region 2 with (first | (go_at_call 13; refine (pick_call a.f0 4 HA.out.op HJ.out _).mono ?_; rintro e w1 ⟨rfl, hb⟩; have HB1 := Lib.hid ((newBelow2 w _ _).trans (hb.mono (by rw [World.size_alloc, World.size_alloc]; omega))); have HX1 := Lib.hid ((AcBoxes.new w p m a).chg (Chg.of_below hb fun _ => False) fun k e => e.elim); clear hb))
  obtain ⟨c0, c1, c2, c3, c4, c5, c6⟩ := HX1.out.cells
  go_upto_region 9 with fail
  first | (go_region_held3 (fun W => (W.cell? ⟨w.heap.size, 0, none⟩ = some (.pointer (some ⟨p, 0, none⟩)) ∧ W.cell? ⟨w.heap.size, 1, none⟩ = some (.pointer (some ⟨m, 0, none⟩)) ∧ W.cell? ⟨w.heap.size + 1, 0, none⟩ = some (.int .i64 a.f0) ∧ W.cell? ⟨w.heap.size + 1, 1, none⟩ = some (.int .i64 a.f1) ∧ W.cell? ⟨w.heap.size + 1, 2, none⟩ = some (.int .i64 a.f2) ∧ W.cell? ⟨w.heap.size + 1, 3, none⟩ = some (.string a.f3) ∧ W.cell? ⟨w.heap.size + 1, 4, none⟩ = some (.string a.f4)) ∧ Hid (AcBoxes w p m a W)) (first | exact HX3.out.S | exact HX2.out.S | exact HX1.out.S) (first
    | (go_at_call 27; refine (Remove_call _ (HP.out.below HB1.out.drew).tr HO.out a.f3 HA.out.path).mono ?_; rintro e w2 ⟨rfl, he⟩; have HM := Lib.hid (HP.out.mid HB1.out.drew he); have HX2 := Lib.hid (HX1.out.drew.chg (S := A) he.c HL.out.1); obtain ⟨d0, d1, d2, d3, d4, d5, d6⟩ := HX2.out.cells; clear he)
    | (go_at_call 36; refine (rRemove_call _ HM.out.rf HOm.out a.f3 HA.out.path).mono ?_; rintro e w3 ⟨rfl, he⟩; have HE := Lib.hid (HM.out.both he); have HX3 := Lib.hid (HX2.out.chg (S := fun k => k = m) he.c fun k e => e ▸ HL.out.2); clear he))) | fail
  all_goals
    go_wp2_with fail
    go_ret
    exact ⟨_, rfl, fun e => by subst e; simp, HE.out⟩
set_option maxHeartbeats 4000000 in
set_option maxRecDepth 100000 in
theorem does_5 (hP : Pr2 w φ p A m B T Tm) (hG : Glob w) (hI : Inv n T) (hIm : Inv n Tm) (hn : n ≤ 1000000) (a : Ac) (ha : AcOK a) (hj : pickI a.f0 8 = 5) :
    Calls Tryd.prog 15 #[.agg #[.pointer (some ⟨p, 0, none⟩), .pointer (some ⟨m, 0, none⟩)], .agg #[.int .i64 a.f0, .int .i64 a.f1, .int .i64 a.f2, .string a.f3, .string a.f4]] w (DoesEnd w φ p A m B T Tm (actT T a) (actT Tm a)) := by
  have HP := Lib.hid hP
  have HG := Lib.hid hG
  have HI := Lib.hid hI
  have HIm := Lib.hid hIm
  have HOm := Lib.hid (hIm.tok hn)
  have HO := Lib.hid (hI.tok hn)
  have HA := Lib.hid ha
  have HJ := Lib.hid hj
  have HT : Hid (actT T a = renameT T a.f3 a.f4) := by unfold Hid actT; simp only; rw [hj]; rfl
  have HTm : Hid (actT Tm a = renameT Tm a.f3 a.f4) := by unfold Hid actT; simp only; rw [hj]; rfl
  have HL := Lib.hid hP.lt
  clear hP hG hI hIm ha hj
  rw [HT.out, HTm.out]
  go_enter Tryd.func15, Tryd.ntmps15
  go_upto_region 2 with (first | (go_at_call 13; refine (pick_call a.f0 5 HA.out.op HJ.out _).mono ?_; rintro e w1 ⟨rfl, hb⟩; have HB1 := Lib.hid ((newBelow2 w _ _).trans (hb.mono (by rw [World.size_alloc, World.size_alloc]; omega))); have HX1 := Lib.hid ((AcBoxes.new w p m a).chg (Chg.of_below hb fun _ => False) fun k e => e.elim); clear hb))
  obtain ⟨c0, c1, c2, c3, c4, c5, c6⟩ := HX1.out.cells
  go_upto_region 11 with fail
  first | (go_region_held3 (fun W => (W.cell? ⟨w.heap.size, 0, none⟩ = some (.pointer (some ⟨p, 0, none⟩)) ∧ W.cell? ⟨w.heap.size, 1, none⟩ = some (.pointer (some ⟨m, 0, none⟩)) ∧ W.cell? ⟨w.heap.size + 1, 0, none⟩ = some (.int .i64 a.f0) ∧ W.cell? ⟨w.heap.size + 1, 1, none⟩ = some (.int .i64 a.f1) ∧ W.cell? ⟨w.heap.size + 1, 2, none⟩ = some (.int .i64 a.f2) ∧ W.cell? ⟨w.heap.size + 1, 3, none⟩ = some (.string a.f3) ∧ W.cell? ⟨w.heap.size + 1, 4, none⟩ = some (.string a.f4)) ∧ Hid (AcBoxes w p m a W)) (first | exact HX3.out.S | exact HX2.out.S | exact HX1.out.S) (first
    | (go_at_call 24; refine (Rename_call _ (HP.out.below HB1.out.drew).tr (HG.out.below HB1.out.drew) HO.out a.f3 a.f4 HA.out.path HA.out.text).mono ?_; rintro e w2 ⟨rfl, he⟩; have HM := Lib.hid (HP.out.mid HB1.out.drew he); have HX2 := Lib.hid (HX1.out.drew.chg (S := A) he.c HL.out.1); obtain ⟨d0, d1, d2, d3, d4, d5, d6⟩ := HX2.out.cells; clear he)
    | (go_at_call 37; refine (rRename_call _ HM.out.rf HOm.out a.f3 a.f4 HA.out.path HA.out.text).mono ?_; rintro e w3 ⟨rfl, he⟩; have HE := Lib.hid (HM.out.both he); have HX3 := Lib.hid (HX2.out.chg (S := fun k => k = m) he.c fun k e => e ▸ HL.out.2); clear he))) | fail
  all_goals
    go_wp2_with fail
    go_ret
    exact ⟨_, rfl, fun e => by subst e; simp, HE.out⟩
set_option maxHeartbeats 4000000 in
set_option maxRecDepth 100000 in
theorem does_6 (hP : Pr2 w φ p A m B T Tm) (hG : Glob w) (hI : Inv n T) (hIm : Inv n Tm) (hn : n ≤ 1000000) (a : Ac) (ha : AcOK a) (hj : pickI a.f0 8 = 6) :
    Calls Tryd.prog 15 #[.agg #[.pointer (some ⟨p, 0, none⟩), .pointer (some ⟨m, 0, none⟩)], .agg #[.int .i64 a.f0, .int .i64 a.f1, .int .i64 a.f2, .string a.f3, .string a.f4]] w (DoesEnd w φ p A m B T Tm (actT T a) (actT Tm a)) := by
  have HP := Lib.hid hP
  have HG := Lib.hid hG
  have HI := Lib.hid hI
  have HIm := Lib.hid hIm
  have HOm := Lib.hid (hIm.tok hn)
  have HO := Lib.hid (hI.tok hn)
  have HA := Lib.hid ha
  have HJ := Lib.hid hj
  have HT : Hid (actT T a = syncT T) := by unfold Hid actT; simp only; rw [hj]; rfl
  have HTm : Hid (actT Tm a = syncT Tm) := by unfold Hid actT; simp only; rw [hj]; rfl
  have HL := Lib.hid hP.lt
  clear hP hG hI hIm ha hj
  rw [HT.out, HTm.out]
  go_enter Tryd.func15, Tryd.ntmps15
  go_upto_region 2 with (first | (go_at_call 13; refine (pick_call a.f0 6 HA.out.op HJ.out _).mono ?_; rintro e w1 ⟨rfl, hb⟩; have HB1 := Lib.hid ((newBelow2 w _ _).trans (hb.mono (by rw [World.size_alloc, World.size_alloc]; omega))); have HX1 := Lib.hid ((AcBoxes.new w p m a).chg (Chg.of_below hb fun _ => False) fun k e => e.elim); clear hb))
  obtain ⟨c0, c1, c2, c3, c4, c5, c6⟩ := HX1.out.cells
  go_wp2_with (first
    | (go_at_call 18; refine (sync_call _ (HP.out.below HB1.out).tr).mono ?_; rintro e w2 ⟨rfl, he⟩; have HM := Lib.hid (HP.out.mid HB1.out he); have HX2 := Lib.hid (HX1.out.chg (S := A) he.c HL.out.1); obtain ⟨d0, d1, d2, d3, d4, d5, d6⟩ := HX2.out.cells; clear he)
    | (go_at_call 38; refine (rSync_call _ HM.out.rf).mono ?_; rintro e w3 ⟨rfl, he⟩; have HE := Lib.hid (HM.out.both he); have HX3 := Lib.hid (HX2.out.chg (S := fun k => k = m) he.c fun k e => e ▸ HL.out.2); clear he))
  go_ret
  exact ⟨_, rfl, fun _ => rfl, HE.out⟩
set_option maxHeartbeats 4000000 in
set_option maxRecDepth 100000 in
theorem does_7 (hP : Pr2 w φ p A m B T Tm) (hG : Glob w) (hI : Inv n T) (hIm : Inv n Tm) (hn : n ≤ 1000000) (a : Ac) (ha : AcOK a) (hj : pickI a.f0 8 = 7) :
    Calls Tryd.prog 15 #[.agg #[.pointer (some ⟨p, 0, none⟩), .pointer (some ⟨m, 0, none⟩)], .agg #[.int .i64 a.f0, .int .i64 a.f1, .int .i64 a.f2, .string a.f3, .string a.f4]] w (DoesEnd w φ p A m B T Tm (actT T a) (actT Tm a)) := by
  have HP := Lib.hid hP
  have HG := Lib.hid hG
  have HI := Lib.hid hI
  have HIm := Lib.hid hIm
  have HOm := Lib.hid (hIm.tok hn)
  have HO := Lib.hid (hI.tok hn)
  have HA := Lib.hid ha
  have HJ := Lib.hid hj
  have HT : Hid (actT T a = crashT T a.f1 a.f2) := by unfold Hid actT; simp only; rw [hj]; rfl
  have HTm : Hid (actT Tm a = crashT Tm a.f1 a.f2) := by unfold Hid actT; simp only; rw [hj]; rfl
  have HL := Lib.hid hP.lt
  have HCH := Lib.hid (hI.tok hn).chs
  have HCG : Hid (∀ c ∈ T.ch, CgOK c) := fun c hc => (hI.cin c hc).ok
  have HRU : Hid (∀ k, k ≤ T.ch.length → (foldF T.last (T.ch.take k)).length ≤ 100000 ∧ ∀ f ∈ foldF T.last (T.ch.take k), f.f1.size ≤ 1000000000000) := fun k hk => ⟨Nat.le_trans (hI.runs k hk).many (by decide), fun f hf => Nat.le_trans ((hI.runs k hk).texts f hf) (by decide)⟩
  have HCHm := Lib.hid (hIm.tok hn).chs
  have HCGm : Hid (∀ c ∈ Tm.ch, CgOK c) := fun c hc => (hIm.cin c hc).ok
  have HRUm : Hid (∀ k, k ≤ Tm.ch.length → (foldF Tm.last (Tm.ch.take k)).length ≤ 100000 ∧ ∀ f ∈ foldF Tm.last (Tm.ch.take k), f.f1.size ≤ 1000000000000) := fun k hk => ⟨Nat.le_trans (hIm.runs k hk).many (by decide), fun f hf => Nat.le_trans ((hIm.runs k hk).texts f hf) (by decide)⟩
  clear hP hG hI hIm ha hj
  rw [HT.out, HTm.out]
  go_enter Tryd.func15, Tryd.ntmps15
  go_upto_region 2 with (first | (go_at_call 13; refine (pick_call a.f0 7 HA.out.op HJ.out _).mono ?_; rintro e w1 ⟨rfl, hb⟩; have HB1 := Lib.hid ((newBelow2 w _ _).trans (hb.mono (by rw [World.size_alloc, World.size_alloc]; omega))); have HX1 := Lib.hid ((AcBoxes.new w p m a).chg (Chg.of_below hb fun _ => False) fun k e => e.elim); clear hb))
  obtain ⟨c0, c1, c2, c3, c4, c5, c6⟩ := HX1.out.cells
  go_wp2_with (first
    | (go_at_call 20; refine (crash_call _ (HP.out.below HB1.out).tr a.f1 a.f2 HCH.out HA.out.part HCG.out HRU.out).mono ?_; rintro e w2 ⟨rfl, he⟩; have HM := Lib.hid (HP.out.mid HB1.out he); have HX2 := Lib.hid (HX1.out.chg (S := A) he.c HL.out.1); obtain ⟨d0, d1, d2, d3, d4, d5, d6⟩ := HX2.out.cells; clear he)
    | (go_at_call 39; refine (rCrash_call _ HM.out.rf a.f1 a.f2 HCHm.out HCGm.out HRUm.out).mono ?_; rintro e w3 ⟨rfl, he⟩; have HE := Lib.hid (HM.out.both he); have HX3 := Lib.hid (HX2.out.chg (S := fun k => k = m) he.c fun k e => e ▸ HL.out.2); clear he))
  go_ret
  exact ⟨_, rfl, fun _ => rfl, HE.out⟩
theorem does_call (hP : Pr2 w φ p A m B T Tm) (hG : Glob w) (hI : Inv n T) (hIm : Inv n Tm) (hn : n ≤ 1000000) (a : Ac) (ha : AcOK a) :
    Calls Tryd.prog 15 #[.agg #[.pointer (some ⟨p, 0, none⟩), .pointer (some ⟨m, 0, none⟩)], .agg #[.int .i64 a.f0, .int .i64 a.f1, .int .i64 a.f2, .string a.f3, .string a.f4]] w (DoesEnd w φ p A m B T Tm (actT T a) (actT Tm a)) := by
  obtain ⟨h0, h1⟩ := pickI_lt a.f0
  rcases (by omega : pickI a.f0 8 = 0 ∨ pickI a.f0 8 = 1 ∨ pickI a.f0 8 = 2 ∨ pickI a.f0 8 = 3 ∨ pickI a.f0 8 = 4 ∨ pickI a.f0 8 = 5 ∨ pickI a.f0 8 = 6 ∨ pickI a.f0 8 = 7) with h | h | h | h | h | h | h | h
  · exact does_0 hP hG hI hIm hn a ha h
  · exact does_1 hP hG hI hIm hn a ha h
  · exact does_2 hP hG hI hIm hn a ha h
  · exact does_3 hP hG hI hIm hn a ha h
  · exact does_4 hP hG hI hIm hn a ha h
  · exact does_5 hP hG hI hIm hn a ha h
  · exact does_6 hP hG hI hIm hn a ha h
  · exact does_7 hP hG hI hIm hn a ha h
end
end Go.Proofs.YtajiidkmijeidaaDoor.Fr
/- What All tells, as a row that is read; same; small. -/
namespace Go.Proofs.YtajiidkmijeidaaDoor.Fr
open Go.RowKit Go.Proofs.YtajiidkmijeidaaDoor.F Go.Proofs.YtajiidkmijeidaaDoorW.PrintWords
set_option linter.unusedVariables false
set_option linter.unusedSimpArgs false
abbrev Af := S38
def af (f : Fl) : Af := ⟨f.f0, f.f1⟩
abbrev VA (w : World) (ok : Nat → Prop) (v : Value) (l : List Af) : Prop := Kd.V k38 38 w 0 ok v l
theorem reps_af (w : World) (base : Nat) (ok : Nat → Prop) (l : List Fl) : Reps (k38.M w base ok) 2 (l.map af) (l.flatMap flCells) := by
  induction l with
  | nil => exact Reps.none _ _
  | cons f r ih => exact Reps.c2 (k38_mkM w base ok (af f)) ih
theorem va_of_own {w : World} {base : Nat} {v : Value} {l : List Fl} (h : w.ownsRow base 38 2 v l.length (l.flatMap flCells)) : VA w (fun k => base ≤ k ∧ k < w.heap.size) v (l.map af) := by
  have hR : Kd.R k38 38 w base (fun k => base ≤ k ∧ k < w.heap.size) v (l.map af) :=
    ⟨fun k hk => ⟨own_base h k hk, own_lt h k hk⟩, ⟨l.flatMap flCells, by rw [List.length_map]; exact h, reps_af _ _ _ l⟩⟩
  exact Kd.R_V hR
/-- All. -/
def AllEnd (w : World) (T : TS) (e : Ending) (w' : World) : Prop := ∃ v, e = .returned v ∧ VA w' (fun k => w.heap.size ≤ k ∧ k < w'.heap.size) v (T.l.map af) ∧ Below w.heap.size w w'
theorem all_view {w : World} {φ : Phi} {p n : Nat} {T : TS} {A : Nat → Prop} (hT : Tr w φ p T A) (hI : Inv n T) : Calls Tryd.prog 16 #[.pointer (some ⟨p, 0, none⟩)] w (AllEnd w T) := by
  refine (all_call w hT hI.good.srt (Nat.le_trans hI.good.many (by decide)) fun f hf => Nat.le_trans (path_size (hI.good.pth f hf)) (by decide)).mono ?_
  rintro e w' ⟨v, rfl, hr, hb⟩
  exact ⟨v, rfl, va_of_own hr, hb⟩
theorem VA.below {w w' : World} {ok : Nat → Prop} {v : Value} {l : List Af} (h : VA w ok v l) (hb : Below w.heap.size w w') : VA w' ok v l := Kd.V_below h hb
theorem VA.chg {S : Nat → Prop} {w w' : World} {ok : Nat → Prop} {v : Value} {l : List Af} (h : VA w ok v l) (hc : Chg S w w') (hs : ∀ k, ok k → ¬ S k) : VA w' ok v l := Kd.V_step h fun k hk hl => hc.block k hl (hs k hk)
/-! ### same -/
theorem same_l0 (l : List Af) (hl : l.length ≤ 1000000) : ∀ d i : Nat, i + d = l.length → cooperagelaw5_same.l0 (d + 1) l l (i : Int) = some true := by
  intro d
  induction d with
  | zero =>
    intro i hi
    unfold cooperagelaw5_same.l0
    rw [if_neg (by omega)]
  | succ d ih =>
    intro i hi
    unfold cooperagelaw5_same.l0
    rw [if_pos (by omega), if_pos (by omega), if_pos (by omega), if_neg (by simp)]
    have := ih (i + 1) (by omega)
    rw [show wrap64 ((i : Int) + 1) = ((i + 1 : Nat) : Int) by unfold wrap64; omega]
    exact this
theorem same_f (l : List Af) (hl : l.length ≤ 1000000) : cooperagelaw5_same.f (l.length + 1) l l = some true := by
  unfold cooperagelaw5_same.f
  rw [if_pos rfl]
  exact same_l0 l hl l.length 0 (by omega)
theorem same_call {w : World} {o1 o2 : Nat → Prop} {v1 v2 : Value} {l1 l2 : List Af} (h1 : VA w o1 v1 l1) (h2 : VA w o2 v2 l2) (he : l1 = l2) (hl : l1.length ≤ 1000000) : Calls Tryd.prog 22 #[v1, v2] w fun e w' => e = .returned (.bool true) ∧ Below w.heap.size w w' := by
  subst he
  obtain ⟨A1, c1, rfl⟩ := Kd.V_slice h1
  obtain ⟨A2, c2, rfl⟩ := Kd.V_slice h2
  obtain ⟨_, b1, d1⟩ := Kd.V_reads' h1
  obtain ⟨_, b2, d2⟩ := Kd.V_reads' h2
  exact (cooperagelaw5_same.calls _ A1 c1 l1 A2 c2 l1 true w d1 b1 d2 b2 (same_f l1 hl)).mono fun e w' ⟨h, hd⟩ => ⟨h, drawn_below hd⟩
end Go.Proofs.YtajiidkmijeidaaDoor.Fr
/- alike. -/
namespace Go.Proofs.YtajiidkmijeidaaDoor.Fr
open Go.RowKit Go.Proofs.YtajiidkmijeidaaDoor.F Go.Proofs.YtajiidkmijeidaaDoorW.PrintWords
set_option linter.unusedVariables false
set_option linter.unusedSimpArgs false
theorem VA_at {w : World} {ok : Nat → Prop} {v : Value} {l : List Fl} (h : VA w ok v (l.map af)) {i : Nat} (hi : i < l.length) : ∃ ad c, v = .slice (some ad) l.length c ∧ l.length ≤ c ∧ w.cell? (ad.add (i * 2)) = some (.string l[i].f0) ∧ w.cell? ⟨(ad.add (i * 2)).block, (ad.add (i * 2)).off + 1, none⟩ = some (.string l[i].f1) := by
  obtain ⟨A, c, rfl⟩ := Kd.V_slice h
  obtain ⟨_, hc, hC⟩ := Kd.V_reads' h
  have hlen : (l.map af).length = l.length := List.length_map _
  have := at_T38 hC (i : Int) (by omega) (by omega)
  have e : rd_T38 (l.map af) (i : Int) = af l[i] := by
    unfold rd_T38
    rw [Int.toNat_natCast, List.getD_eq_getElem?_getD, List.getElem?_eq_getElem (by omega), Option.getD_some, List.getElem_map]
  rw [e, Int.toNat_natCast] at this
  obtain ⟨ad, rfl, h1, h2⟩ := this
  rw [hlen] at hc ⊢
  exact ⟨ad, c, rfl, hc, h1, h2⟩
theorem VA.slice {w : World} {ok : Nat → Prop} {v : Value} {l : List Fl} (h : VA w ok v (l.map af)) : ∃ A c, v = .slice A l.length c := by
  obtain ⟨A, c, rfl⟩ := Kd.V_slice h
  exact ⟨A, c, by rw [List.length_map]⟩
def PBox (p m b : Nat) (W : World) : Prop := W.heap[b]? = some (.cells #[.pointer (some ⟨p, 0, none⟩), .pointer (some ⟨m, 0, none⟩)] 29)
theorem PBox.cells {W : World} {p m b : Nat} (h : PBox p m b W) : W.cell? ⟨b, 0, none⟩ = some (.pointer (some ⟨p, 0, none⟩)) ∧ W.cell? ⟨b, 1, none⟩ = some (.pointer (some ⟨m, 0, none⟩)) := by
  have h : W.heap[b]? = _ := h
  constructor <;> simp [World.cell?, h]
theorem PBox.chg {W W' : World} {p m b : Nat} {S : Nat → Prop} (h : PBox p m b W) (hc : Chg S W W') (hs : ¬ S b) : PBox p m b W' := (hc.block _ (Array.getElem?_eq_some_iff.1 h).1 hs).trans h
theorem PBox.below {W W' : World} {p m b : Nat} (h : PBox p m b W) (hb : Below W.heap.size W W') : PBox p m b W' := h.chg (Chg.of_below hb fun _ => False) fun e => e
theorem PBox.lt {W : World} {p m b : Nat} (h : PBox p m b W) : b < W.heap.size := (Array.getElem?_eq_some_iff.1 h).1
theorem Rf.slices {w : World} {m : Nat} {T : TS} {B : Nat → Prop} (h : Rf w m T B) : ∃ Al cl As cs Ac cc, RfAt w m T B (.slice Al T.l.length cl) (.slice As T.last.length cs) (.slice Ac T.ch.length cc) := by
  obtain ⟨vl, vs, vc, h⟩ := h
  obtain ⟨Al, cl, e1⟩ := Kd.V_slice h.now
  obtain ⟨As, cs, e2⟩ := Kd.V_slice h.last
  obtain ⟨Ac, cc, e3⟩ := Kd.V_slice h.row
  subst e1
  subst e2
  subst e3
  exact ⟨Al, cl, As, cs, Ac, cc, h⟩
section
variable {w : World} {φ : Phi} {p m : Nat} {A B : Nat → Prop} {T : TS} {n : Nat}
set_option maxHeartbeats 4000000 in
set_option maxRecDepth 100000 in
theorem alike_call (hP : Pr w φ p A m B T) (hI : Inv n T) (hn : n ≤ 1000000) :
    Calls Tryd.prog 30 #[.agg #[.pointer (some ⟨p, 0, none⟩), .pointer (some ⟨m, 0, none⟩)]] w fun e w' => e = .returned (.bool true) ∧ Below w.heap.size w w' := by
  have HP := Lib.hid hP
  have HI := Lib.hid hI
  have HO := Lib.hid (hI.tok hn)
  have HU : Hid (usedF T.l ≤ 1000000000000000 ∧ usedF T.l ≤ 10000000000000000 ∧ T.l.length ≤ 100000 ∧ T.ch.length ≤ 1000000) := by
    have h1 := hI.good.used
    have h2 := hI.room
    have h3 := hI.good.many
    have h4 := hI.chs
    exact ⟨by omega, by omega, by omega, by omega⟩
  clear hP hI
  go_enter Tryd.func30, Tryd.ntmps30
  go_upto_region 2 with (first | (go_at_call 16; refine (all_view (HP.out.tr.below (newBelow w _)) HI.out).mono ?_; rintro e w1 ⟨v, rfl, hv, hb⟩; have HB1 := Lib.hid ((newBelow w _).trans (hb.mono (by rw [World.size_alloc]; omega))); have HX1 : Hid (PBox p m w.heap.size w1) := PBox.below (World.alloc_heap_new w _) hb; have HV := Lib.hid hv; clear hv hb))
  obtain ⟨A1, k1, rfl⟩ := HV.out.slice
  obtain ⟨Al, cl, As, cs, Ac, cc, hrf⟩ := (HP.out.rf.below HB1.out).slices
  have HRF := Lib.hid hrf
  have HS : Hid (∀ W, Below w1.heap.size w1 W → (W.cell? ⟨w.heap.size, 0, none⟩ = some (.pointer (some ⟨p, 0, none⟩)) ∧ W.cell? ⟨w.heap.size, 1, none⟩ = some (.pointer (some ⟨m, 0, none⟩)) ∧ W.cell? ⟨m, 2, none⟩ = some (.slice Al T.l.length cl) ∧ W.cell? ⟨m, 4, none⟩ = some (.slice Ac T.ch.length cc)) ∧ Hid (Below w1.heap.size w1 W)) := fun W hW => by
    have h1 := (HX1.out.below hW).cells
    have h2 := HRF.out.below hW
    exact ⟨⟨h1.1, h1.2, h2.c2, h2.c4⟩, hW⟩
  have HB0 : Hid (Below w1.heap.size w1 w1.drew) := (Below.refl _ w1).drew
  obtain ⟨c0, c1⟩ := HX1.out.cells
  have c2 := hrf.c2
  have c4 := hrf.c4
  clear hrf
  have HPW : Hid (∀ W, Below w1.heap.size w1 W → Pr W φ p A m B T) := fun W hW => (HP.out.below HB1.out).below hW
  (go_region_held3 (fun W => (W.cell? ⟨w.heap.size, 0, none⟩ = some (.pointer (some ⟨p, 0, none⟩)) ∧ W.cell? ⟨w.heap.size, 1, none⟩ = some (.pointer (some ⟨m, 0, none⟩)) ∧ W.cell? ⟨m, 2, none⟩ = some (.slice Al T.l.length cl) ∧ W.cell? ⟨m, 4, none⟩ = some (.slice Ac T.ch.length cc)) ∧ Hid (Below w1.heap.size w1 W)) (first | exact HS.out _ HB3.out | exact HS.out _ HB2.out | exact HS.out _ HB0.out) (first
    | (go_at_call 17; refine (used_call _ (HPW.out _ HB0.out).tr HU.out.1).mono ?_; rintro e w2 ⟨rfl, hb⟩; have HB2 := Lib.hid (HB0.out.trans hb); clear hb)
    | (go_at_call 49; refine (rUsed_call _ (HPW.out _ HB2.out).rf HU.out.2.2.1 HU.out.2.1).mono ?_; rintro e w3 ⟨rfl, hb⟩; have HB3 := Lib.hid (HB2.out.trans (hb.mono HB2.out.size)); clear hb)
    | (go_at_call 21; refine (pending_call _ (HPW.out _ HB3.out).tr).mono ?_; rintro e w4 ⟨rfl, rfl⟩)))
  go_wp2_with fail
  clear c0 c1 c2 c4 HB2 HB0
  have hn1 := HU.out.2.2.1
  go_loopw [4] (fun i wr => ∃ (k : Nat), k ≤ T.l.length ∧ i = .int .i64 k ∧ Hid (Below w1.heap.size w1 wr))
    (fun i _ => T.l.length - (intOf i).toNat)
  case atStart => exact ⟨0, Nat.zero_le _, rfl, HB3.out⟩
  case round =>
    obtain ⟨k, hk, rfl, HB⟩ := hrel
    by_cases hlk : k < T.l.length
    · obtain ⟨⟨c0, c1, c2, c4⟩, _⟩ := HS.out _ HB.out
      obtain ⟨ad, cx, e, hcx, q0, q1, q2⟩ := VF_at (HRF.out.below HB.out).now hlk
      cases e
      obtain ⟨ad1, cx1, e, hcx1, r0, r1⟩ := VA_at (HV.out.below HB.out) hlk
      cases e
      have hfind := Lib.hid (find_of_srt HI.out.good.srt (List.getElem_mem hlk))
      have hpth := Lib.hid (HI.out.good.pth _ (List.getElem_mem hlk))
      generalize T.l[k] = f at q0 q1 q2 r0 r1 hfind hpth
      have HST : Hid (statT T f.f0 = ((f.f1.size : Int), f.f2, 0)) := by unfold Hid statT; rw [hfind.out]
      have HPS : Hid (f.f0.size ≤ 100000) := Nat.le_trans (path_size hpth.out) (by decide)
      have hl0 := cell_lt c0
      have hl2 := cell_lt q0
      have hl3 := cell_lt r0
      go_upto_region 9 with (first
        | (go_at_call 23; refine (stat_call _ ((HPW.out _ HB.out).below (newBelow _ _)).tr f.f0 HPS.out).mono ?_; rintro e w4 ⟨rfl, hb⟩; rw [HST.out]; have HB4 := Lib.hid hb; clear hb))
      have hB5 : Hid (Below wr.heap.size wr (w4.alloc (.cells #[.int .i64 f.f1.size, .int .i64 f.f2] 46))) := ((newBelow wr _).trans (HB4.out.mono (by rw [World.size_alloc]; omega))).alloc (Nat.le_trans (by rw [World.size_alloc]; omega) HB4.out.size) _
      have hfb : (w4.alloc (.cells #[.int .i64 f.f1.size, .int .i64 f.f2] 46)).heap[wr.heap.size]? = some (.cells #[.string f.f0, .string f.f1, .int .i64 f.f2] 90 (0, 0)) := by
        have hlt4 : wr.heap.size < w4.heap.size := Nat.lt_of_lt_of_le (by rw [World.size_alloc]; omega) HB4.out.size
        rw [Below.heap_alloc _ _ _ hlt4]
        exact (HB4.out.block wr.heap.size (by rw [World.size_alloc]; omega)).trans (World.alloc_heap_new wr _)
      have hib : (w4.alloc (.cells #[.int .i64 f.f1.size, .int .i64 f.f2] 46)).heap[w4.heap.size]? = some (.cells #[.int .i64 f.f1.size, .int .i64 f.f2] 46 (0, 0)) := World.alloc_heap_new w4 _
      have s0 := (hB5.out.cell (p := ad1.add (k * 2)) hl3).trans r0
      have s1 := (hB5.out.cell (p := ⟨(ad1.add (k * 2)).block, (ad1.add (k * 2)).off + 1, none⟩) hl3).trans r1
      generalize w4.alloc (.cells #[.int .i64 f.f1.size, .int .i64 f.f2] 46) = w5 at hB5 hfb hib s0 s1
      have t0 : w5.cell? ⟨wr.heap.size, 0, none⟩ = some (.string f.f0) := by simp [World.cell?, hfb]
      have t1 : w5.cell? ⟨wr.heap.size, 1, none⟩ = some (.string f.f1) := by simp [World.cell?, hfb]
      have t2 : w5.cell? ⟨wr.heap.size, 2, none⟩ = some (.int .i64 f.f2) := by simp [World.cell?, hfb]
      have u0 : w5.cell? ⟨w4.heap.size, 0, none⟩ = some (.int .i64 f.f1.size) := by simp [World.cell?, hib]
      have u1 : w5.cell? ⟨w4.heap.size, 1, none⟩ = some (.int .i64 f.f2) := by simp [World.cell?, hib]
      clear hfb hib q0 q1 q2 r0 r1 c0 c1 c2 c4
      go_quiet (fail)
      go_wp2_with fail
      go_roundw
      case rel => exact ⟨k + 1, by omega, by go_num, pw_below_drewN (HB.out.trans (hB5.out.mono HB.out.size)) _⟩
      case measure => simp [intOf]; omega
    · go_wp2_with fail
      go_ret
      exact ⟨rfl, HB1.out.trans (HB.out.mono HB1.out.size)⟩
end
end Go.Proofs.YtajiidkmijeidaaDoor.Fr
/- Trees side by side, and one reference: what a law holds. -/
namespace Go.Proofs.YtajiidkmijeidaaDoor.Fr
open Go.RowKit Go.Proofs.YtajiidkmijeidaaDoor.F Go.Proofs.YtajiidkmijeidaaDoorW.PrintWords
set_option linter.unusedVariables false
set_option linter.unusedSimpArgs false
/-- The blocks of K are kept; the trees of L and the reference m lie elsewhere, apart from one another. -/
structure StsAt (K : Nat → Prop) (L : List (Nat × TS)) (m : Nat) (Tm : TS) (W : World) (φ : Phi) (F : Nat → Nat → Prop) (B : Nat → Prop) : Prop where
  kb : ∀ k, K k → k < W.heap.size
  rf : Rf W m Tm B
  bk : ∀ k, B k → ¬ K k
  nm : ¬ K m
  fl : FilesOK W φ
  fm : ∀ k, φ k ≠ none → k ≠ m
  tr : ∀ i p T, L[i]? = some (p, T) → Tr W φ p T (F i)
  fk : ∀ i, i < L.length → ∀ k, F i k → ¬ K k ∧ k ≠ m ∧ ¬ B k
  dis : ∀ i j, i < L.length → j < L.length → i ≠ j → ∀ k, F i k → ¬ F j k
def Sts (K : Nat → Prop) (L : List (Nat × TS)) (m : Nat) (Tm : TS) (W : World) : Prop := ∃ φ F B, StsAt K L m Tm W φ F B
/-- What a call on one of them may change. -/
abbrev Kp (K : Nat → Prop) (W W' : World) : Prop := Chg (fun k => ¬ K k) W W'
section
variable {K : Nat → Prop} {L : List (Nat × TS)} {m p : Nat} {T Tm : TS} {W W' : World} {φ : Phi} {F : Nat → Nat → Prop} {B : Nat → Prop}
theorem Kp.block (h : Kp K W W') {k : Nat} (hk : K k) (hl : k < W.heap.size) : W'.heap[k]? = W.heap[k]? := Chg.block h k hl fun e => e hk
theorem Kp.trans {W2 : World} (h : Kp K W W') (k : Kp K W' W2) : Kp K W W2 := Chg.trans h k fun _ _ e => e
theorem Kp.below {B : Nat} (h : Kp K W W') (hB : B ≤ W.heap.size) (hK : ∀ k, k < B → K k) : Below B W W' := Chg.to_below h hB fun k hk => by
  by_cases e : B ≤ k
  · exact e
  · exact absurd (hK k (by omega)) hk
theorem Kp.of (hb : Below W.heap.size W W') : Kp K W W' := Chg.of_below hb _
theorem Kp.mono {K' : Nat → Prop} (h : Kp K W W') (hK : ∀ k, K' k → K k) : Kp K' W W' := Chg.mono h fun k _ e h' => e (hK k h')
theorem StsAt.lt {i : Nat} (h : StsAt K L m Tm W φ F B) (hi : L[i]? = some (p, T)) : ∀ k, F i k → k < W.heap.size := fun k hk => ((h.tr i p T hi).free hk).1
theorem idx_lt {i : Nat} {x : Nat × TS} (hi : L[i]? = some x) : i < L.length := (List.getElem?_eq_some_iff.1 hi).1
theorem StsAt.op {i : Nat} {T' : TS} (h : StsAt K L m Tm W φ F B) (hi : L[i]? = some (p, T)) (he : TrEnd W φ p (F i) T' W') : Sts K (L.set i (p, T')) m Tm W' ∧ Kp K W W' := by
  obtain ⟨φ', A', h1, h2, h3, h4⟩ := he
  have hil := idx_lt hi
  have hml := h.rf.lt
  have hlen : (L.set i (p, T')).length = L.length := List.length_set
  refine ⟨⟨φ', fun j => if j = i then A' else F j, B, ?_⟩, h3.mono fun k _ hk => (h.fk i hil k hk).1⟩
  exact {
    kb := fun k hk => Nat.lt_of_lt_of_le (h.kb k hk) h3.size
    rf := h.rf.chg h3 (fun e => (h.fk i hil m e).2.1 rfl) fun k hk e => (h.fk i hil k e).2.2 hk
    bk := h.bk
    nm := h.nm
    fl := h1.files
    fm := fun k hk => (h2.new k hk).elim (h.fm k) fun e => by omega
    tr := fun j q U hj => by
      by_cases e : j = i
      · subst e
        rw [List.getElem?_set_self hil] at hj
        cases hj
        simpa using h1
      · rw [List.getElem?_set_ne (Ne.symm e)] at hj
        simp only [if_neg e]
        exact (h.tr j q U hj).chg h3 (fun k hk hk' => h.dis j i (idx_lt hj) hil e k hk hk') h2 h1.files
    fk := fun j hj k hk => by
      rw [hlen] at hj
      by_cases e : j = i
      · subst e
        simp only [if_pos rfl] at hk
        rcases h4 k hk with h5 | h5
        · exact h.fk j hj k h5
        · exact ⟨fun e => by have := h.kb k e; omega, by omega, fun e => by have := (h.rf.free e).1; omega⟩
      · simp only [if_neg e] at hk
        exact h.fk j hj k hk
    dis := fun a b ha hb hab k hka hkb => by
      rw [hlen] at ha hb
      have lt : ∀ j, j < L.length → ∀ k, F j k → k < W.heap.size := fun j hj k hk => by
        have e : L[j]? = some (L[j].1, L[j].2) := List.getElem?_eq_getElem hj
        exact h.lt e k hk
      by_cases ea : a = i
      · subst ea
        have eb : b ≠ a := Ne.symm hab
        simp only [if_pos rfl] at hka
        simp only [if_neg eb] at hkb
        rcases h4 k hka with h5 | h5
        · exact h.dis a b ha hb hab k h5 hkb
        · have := lt b hb k hkb
          omega
      · simp only [if_neg ea] at hka
        by_cases eb : b = i
        · subst eb
          simp only [if_pos rfl] at hkb
          rcases h4 k hkb with h5 | h5
          · exact h.dis a b ha hb hab k hka h5
          · have := lt a ha k hka
            omega
        · simp only [if_neg eb] at hkb
          exact h.dis a b ha hb hab k hka hkb }
theorem StsAt.below (h : StsAt K L m Tm W φ F B) (hb : Below W.heap.size W W') : StsAt K L m Tm W' φ F B where
  kb := fun k hk => Nat.lt_of_lt_of_le (h.kb k hk) hb.size
  rf := h.rf.below hb
  bk := h.bk
  nm := h.nm
  fl := h.fl.below hb
  fm := h.fm
  tr := fun i p T hi => (h.tr i p T hi).below hb
  fk := h.fk
  dis := h.dis
theorem Sts.below (h : Sts K L m Tm W) (hb : Below W.heap.size W W') : Sts K L m Tm W' := by
  obtain ⟨φ, F, B, h⟩ := h
  exact ⟨φ, F, B, h.below hb⟩
/-- What is new is kept, too. -/
theorem Sts.kept {K' : Nat → Prop} (h : Sts K L m Tm W) (hb : Below W.heap.size W W') (hK : ∀ k, K' k → K k ∨ (W.heap.size ≤ k ∧ k < W'.heap.size)) : Sts K' L m Tm W' := by
  obtain ⟨φ, F, B, h⟩ := h
  have hml := h.rf.lt
  refine ⟨φ, F, B, { h.below hb with
    kb := fun k hk => (hK k hk).elim (fun e => Nat.lt_of_lt_of_le (h.kb k e) hb.size) fun e => e.2
    bk := fun k hk e => (hK k e).elim (h.bk k hk) fun e => by have := (h.rf.free hk).1; omega
    nm := fun e => (hK m e).elim h.nm fun e => by omega
    fk := fun i hi k hk => ⟨fun e => (hK k e).elim (h.fk i hi k hk).1 fun e => by
      have e2 : L[i]? = some (L[i].1, L[i].2) := List.getElem?_eq_getElem hi
      have := h.lt e2 k hk
      omega, (h.fk i hi k hk).2⟩ }⟩
theorem Sts.drop {K' : Nat → Prop} (h : Sts K L m Tm W) (hK : ∀ k, K' k → K k) : Sts K' L m Tm W := h.kept (Below.refl _ _) fun k hk => .inl (hK k hk)
theorem Sts.kb (h : Sts K L m Tm W) : ∀ k, K k → k < W.heap.size := by
  obtain ⟨φ, F, B, h⟩ := h
  exact h.kb
/-- A tree more. -/
theorem StsAt.more {c : Nat} {U : TS} {C : Nat → Prop} (h : StsAt K L m Tm W φ F B) (hb : Below W.heap.size W W') (hc : Tr W' φ c U C) (hC : ∀ k, C k → W.heap.size ≤ k) : Sts K (L ++ [(c, U)]) m Tm W' := by
  have hml := h.rf.lt
  have hlen : (L ++ [(c, U)]).length = L.length + 1 := by rw [List.length_append]; rfl
  refine ⟨φ, fun j => if j = L.length then C else F j, B, { h.below hb with
    tr := fun j q V hj => ?_
    fk := fun j hj k hk => ?_
    dis := fun a b ha hb hab k hka hkb => ?_ }⟩
  · by_cases e : j = L.length
    · subst e
      rw [List.getElem?_append_right (Nat.le_refl _), Nat.sub_self] at hj
      cases hj
      simpa using hc
    · have hj' := idx_lt hj
      rw [List.getElem?_append_left (by omega)] at hj
      simp only [if_neg e]
      exact (h.below hb).tr j q V hj
  · rw [hlen] at hj
    by_cases e : j = L.length
    · simp only [if_pos e] at hk
      have := hC k hk
      exact ⟨fun e => by have := h.kb k e; omega, by omega, fun e => by have := (h.rf.free e).1; omega⟩
    · simp only [if_neg e] at hk
      exact h.fk j (by omega) k hk
  · rw [hlen] at ha hb
    have lt : ∀ j, j < L.length → ∀ k, F j k → k < W.heap.size := fun j hj k hk => by
      have e : L[j]? = some (L[j].1, L[j].2) := List.getElem?_eq_getElem hj
      exact h.lt e k hk
    by_cases ea : a = L.length
    · have eb : b ≠ L.length := fun e => hab (ea.trans e.symm)
      simp only [if_pos ea] at hka
      simp only [if_neg eb] at hkb
      have := hC k hka
      have := lt b (by omega) k hkb
      omega
    · simp only [if_neg ea] at hka
      by_cases eb : b = L.length
      · simp only [if_pos eb] at hkb
        have := hC k hkb
        have := lt a (by omega) k hka
        omega
      · simp only [if_neg eb] at hkb
        exact h.dis a b (by omega) (by omega) hab k hka hkb
theorem StsAt.pr (h : StsAt K ((p, T) :: L) m T W φ F B) : Pr W φ p (F 0) m B T :=
  ⟨h.tr 0 p T rfl, h.rf, fun k hk => (h.fk 0 (Nat.zero_lt_succ _) k hk).2, h.fm⟩
theorem StsAt.pr2 (h : StsAt K ((p, T) :: L) m Tm W φ F B) : Pr2 W φ p (F 0) m B T Tm :=
  ⟨h.tr 0 p T rfl, h.rf, fun k hk => (h.fk 0 (Nat.zero_lt_succ _) k hk).2, h.fm⟩
theorem StsAt.does {T' Tm' : TS} (h : StsAt K ((p, T) :: L) m Tm W φ F B) (he : PrEnd2 W φ p (F 0) m B T' Tm' W') : Sts K ((p, T') :: L) m Tm' W' ∧ Kp K W W' := by
  obtain ⟨φ', A', B', h1, h2, h3, h4, h5⟩ := he
  have hml := h.rf.lt
  have lt : ∀ j, j < ((p, T) :: L).length → ∀ k, F j k → k < W.heap.size := fun j hj k hk => by
    have e : ((p, T) :: L)[j]? = some (((p, T) :: L)[j].1, ((p, T) :: L)[j].2) := List.getElem?_eq_getElem hj
    exact h.lt e k hk
  have hkF : ∀ k, (F 0 k ∨ k = m) → ¬ K k := fun k hk => hk.elim (fun e => (h.fk 0 (Nat.zero_lt_succ _) k e).1) fun e => e ▸ h.nm
  refine ⟨⟨φ', fun j => if j = 0 then A' else F j, B', ?_⟩, h2.mono fun k _ hk => hkF k hk⟩
  exact {
    kb := fun k hk => Nat.lt_of_lt_of_le (h.kb k hk) h2.size
    rf := h1.rf
    bk := fun k hk => (h5 k hk).elim (h.bk k) fun e e2 => by have := h.kb k e2; omega
    nm := h.nm
    fl := h1.tr.files
    fm := h1.fm
    tr := fun j q U hj => by
      cases j with
      | zero =>
        cases hj
        exact h1.tr
      | succ j =>
        show Tr W' φ' q U (F (j + 1))
        have hj0 : ((p, T) :: L)[j + 1]? = some (q, U) := hj
        refine (h.tr (j + 1) q U hj0).chg h2 (fun k hk hk' => ?_) h3 h1.tr.files
        rcases hk' with e | e
        · exact h.dis (j + 1) 0 (idx_lt hj0) (Nat.zero_lt_succ _) (by omega) k hk e
        · exact (h.fk (j + 1) (idx_lt hj0) k hk).2.1 e
    fk := fun j hj k hk => by
      cases j with
      | zero =>
        rcases h4 k hk with e | e
        · exact ⟨(h.fk 0 (Nat.zero_lt_succ _) k e).1, h1.am k hk⟩
        · exact ⟨fun e2 => by have := h.kb k e2; omega, h1.am k hk⟩
      | succ j =>
        have hj0 : j + 1 < ((p, T) :: L).length := hj
        have := lt (j + 1) hj0 k hk
        refine ⟨(h.fk (j + 1) hj0 k hk).1, (h.fk (j + 1) hj0 k hk).2.1, fun e => ?_⟩
        rcases h5 k e with e | e
        · exact (h.fk (j + 1) hj0 k hk).2.2 e
        · omega
    dis := fun a b ha hb hab k hka hkb => by
      have ha0 : a < ((p, T) :: L).length := ha
      have hb0 : b < ((p, T) :: L).length := hb
      cases a with
      | zero =>
        cases b with
        | zero => exact hab rfl
        | succ b =>
          rcases h4 k hka with e | e
          · exact h.dis 0 (b + 1) ha0 hb0 hab k e hkb
          · have := lt (b + 1) hb0 k hkb
            omega
      | succ a =>
        cases b with
        | zero =>
          rcases h4 k hkb with e | e
          · exact h.dis (a + 1) 0 ha0 hb0 hab k hka e
          · have := lt (a + 1) ha0 k hka
            omega
        | succ b => exact h.dis (a + 1) (b + 1) ha0 hb0 hab k hka hkb }
theorem Pr.sts {A : Nat → Prop} (h : Pr W φ p A m B T) (hK : ∀ k, K k → k < W.heap.size) (hA : ∀ k, A k → ¬ K k) (hB : ∀ k, B k → ¬ K k) (hm : ¬ K m) : Sts K [(p, T)] m T W := by
  refine ⟨φ, fun _ => A, B, hK, h.rf, hB, hm, h.tr.files, h.fm, fun i q U hi => ?_, fun i hi k hk => ⟨hA k hk, h.am k hk⟩, fun i j hi hj hij => ?_⟩
  · cases i with
    | zero =>
      cases hi
      exact h.tr
    | succ i => cases hi
  · have h1 : i < 1 := hi
    have h2 : j < 1 := hj
    omega
end
end Go.Proofs.YtajiidkmijeidaaDoor.Fr
/- Each call, over the trees that a law holds. -/
namespace Go.Proofs.YtajiidkmijeidaaDoor.Fr
open Go.RowKit Go.Proofs.YtajiidkmijeidaaDoor.F Go.Proofs.YtajiidkmijeidaaDoorW.PrintWords
set_option linter.unusedVariables false
set_option linter.unusedSimpArgs false
def StEnd (K : Nat → Prop) (L : List (Nat × TS)) (m : Nat) (Tm : TS) (W : World) (v : Value) (e : Ending) (w' : World) : Prop := e = .returned v ∧ Sts K L m Tm w' ∧ Kp K W w'
section
variable {K : Nat → Prop} {L : List (Nat × TS)} {m p i n : Nat} {T Tm : TS} {W : World}
theorem Sts.tr (h : Sts K L m Tm W) (hi : L[i]? = some (p, T)) : ∃ φ A, Tr W φ p T A := by
  obtain ⟨φ, F, B, h⟩ := h
  exact ⟨φ, F i, h.tr i p T hi⟩
theorem Sts.rf (h : Sts K L m Tm W) : ∃ B, Rf W m Tm B := by
  obtain ⟨φ, F, B, h⟩ := h
  exact ⟨B, h.rf⟩
theorem Sts.files (h : Sts K L m Tm W) : ∃ φ, FilesOK W φ := by
  obtain ⟨φ, F, B, h⟩ := h
  exact ⟨φ, h.fl⟩
theorem Inv.runs2 (h : Inv n T) : ∀ k, k ≤ T.ch.length → (foldF T.last (T.ch.take k)).length ≤ 100000 ∧ ∀ f ∈ foldF T.last (T.ch.take k), f.f1.size ≤ 1000000000000 :=
  fun k hk => ⟨Nat.le_trans (h.runs k hk).many (by decide), fun f hf => Nat.le_trans ((h.runs k hk).texts f hf) (by decide)⟩
theorem Sts.Write (h : Sts K L m Tm W) (hi : L[i]? = some (p, T)) (hG : Glob W) (hI : Inv n T) (hn : n ≤ 1000000) (q s : ByteArray) (hq : q.size ≤ 100000) (hs : s.size ≤ 1000000000) :
    Calls Tryd.prog 28 #[.pointer (some ⟨p, 0, none⟩), .string q, .string s] W (StEnd K (L.set i (p, writeT T false q s)) m Tm W (.int .i64 (writeE T false q s))) := by
  obtain ⟨φ, F, B, h⟩ := h
  refine (Write_call W (h.tr i p T hi) hG (hI.tok hn) q s hq hs).mono ?_
  rintro e w' ⟨rfl, he⟩
  exact ⟨rfl, h.op hi he⟩
theorem Sts.Append (h : Sts K L m Tm W) (hi : L[i]? = some (p, T)) (hG : Glob W) (hI : Inv n T) (hn : n ≤ 1000000) (q s : ByteArray) (hq : q.size ≤ 100000) (hs : s.size ≤ 1000000000) :
    Calls Tryd.prog 25 #[.pointer (some ⟨p, 0, none⟩), .string q, .string s] W (StEnd K (L.set i (p, writeT T true q s)) m Tm W (.int .i64 (writeE T true q s))) := by
  obtain ⟨φ, F, B, h⟩ := h
  refine (Append_call W (h.tr i p T hi) hG (hI.tok hn) q s hq hs).mono ?_
  rintro e w' ⟨rfl, he⟩
  exact ⟨rfl, h.op hi he⟩
theorem Sts.Remove (h : Sts K L m Tm W) (hi : L[i]? = some (p, T)) (hG : Glob W) (hI : Inv n T) (hn : n ≤ 1000000) (q : ByteArray) (hq : q.size ≤ 100000) :
    Calls Tryd.prog 27 #[.pointer (some ⟨p, 0, none⟩), .string q] W (StEnd K (L.set i (p, removeT T q)) m Tm W (.int .i64 (removeE T q))) := by
  obtain ⟨φ, F, B, h⟩ := h
  refine (Remove_call W (h.tr i p T hi) (hI.tok hn) q hq).mono ?_
  rintro e w' ⟨rfl, he⟩
  exact ⟨rfl, h.op hi he⟩
theorem Sts.Rename (h : Sts K L m Tm W) (hi : L[i]? = some (p, T)) (hG : Glob W) (hI : Inv n T) (hn : n ≤ 1000000) (q r : ByteArray) (hq : q.size ≤ 100000) (hr : r.size ≤ 100000) :
    Calls Tryd.prog 24 #[.pointer (some ⟨p, 0, none⟩), .string q, .string r] W (StEnd K (L.set i (p, renameT T q r)) m Tm W (.int .i64 (renameE T q r))) := by
  obtain ⟨φ, F, B, h⟩ := h
  refine (Rename_call W (h.tr i p T hi) hG (hI.tok hn) q r hq hr).mono ?_
  rintro e w' ⟨rfl, he⟩
  exact ⟨rfl, h.op hi he⟩
theorem Sts.Sync (h : Sts K L m Tm W) (hi : L[i]? = some (p, T)) (hG : Glob W) (hI : Inv n T) (hn : n ≤ 1000000)  :
    Calls Tryd.prog 18 #[.pointer (some ⟨p, 0, none⟩)] W (StEnd K (L.set i (p, syncT T)) m Tm W (.tuple #[])) := by
  obtain ⟨φ, F, B, h⟩ := h
  refine (sync_call W (h.tr i p T hi)).mono ?_
  rintro e w' ⟨rfl, he⟩
  exact ⟨rfl, h.op hi he⟩
theorem Sts.Crash (h : Sts K L m Tm W) (hi : L[i]? = some (p, T)) (hG : Glob W) (hI : Inv n T) (hn : n ≤ 1000000) (many part : Int) (hp : part ≤ 9223372036854775807) :
    Calls Tryd.prog 20 #[.pointer (some ⟨p, 0, none⟩), .int .i64 many, .int .i64 part] W (StEnd K (L.set i (p, crashT T many part)) m Tm W (.tuple #[])) := by
  obtain ⟨φ, F, B, h⟩ := h
  refine (crash_call W (h.tr i p T hi) many part (hI.tok hn).chs hp (fun c hc => (hI.cin c hc).ok) hI.runs2).mono ?_
  rintro e w' ⟨rfl, he⟩
  exact ⟨rfl, h.op hi he⟩
def CloEnd (K : Nat → Prop) (L : List (Nat × TS)) (m : Nat) (Tm T : TS) (W : World) (e : Ending) (w' : World) : Prop := ∃ c, e = .returned (.pointer (some ⟨c, 0, none⟩)) ∧ Sts K (L ++ [(c, T)]) m Tm w' ∧ Below W.heap.size W w'
theorem Sts.Clone (h : Sts K L m Tm W) (hi : L[i]? = some (p, T)) (hI : Inv n T) (hn : n ≤ 1000000) : Calls Tryd.prog 19 #[.pointer (some ⟨p, 0, none⟩)] W (CloEnd K L m Tm T W) := by
  obtain ⟨φ, F, B, h⟩ := h
  refine (clone_tree W (h.tr i p T hi) (hI.tok hn).chs).mono ?_
  rintro e w' ⟨c, C, rfl, h1, h2, h3⟩
  have hs : Sts K (L ++ [(c, T)]) m Tm w' := h.more h2 h1 h3
  exact ⟨c, rfl, hs, h2⟩
theorem Sts.All (h : Sts K L m Tm W) (hi : L[i]? = some (p, T)) (hI : Inv n T) : Calls Tryd.prog 16 #[.pointer (some ⟨p, 0, none⟩)] W (AllEnd W T) := by
  obtain ⟨φ, A, ht⟩ := h.tr hi
  exact all_view ht hI
theorem Sts.Stat (h : Sts K L m Tm W) (hi : L[i]? = some (p, T)) (q : ByteArray) (hq : q.size ≤ 100000) : Calls Tryd.prog 23 #[.pointer (some ⟨p, 0, none⟩), .string q] W fun e w' => e = .returned (.tuple #[.agg #[.int .i64 (statT T q).1, .int .i64 (statT T q).2.1], .int .i64 (statT T q).2.2]) ∧ Below W.heap.size W w' := by
  obtain ⟨φ, A, ht⟩ := h.tr hi
  exact stat_call W ht q hq
theorem Sts.Read (h : Sts K L m Tm W) (hi : L[i]? = some (p, T)) (q : ByteArray) (hq : q.size ≤ 100000) : Calls Tryd.prog 29 #[.pointer (some ⟨p, 0, none⟩), .string q] W fun e w' => e = .returned (.tuple #[.string (readT T q).1, .int .i64 (readT T q).2]) ∧ W = w' := by
  obtain ⟨φ, A, ht⟩ := h.tr hi
  exact read_call W ht q hq
theorem Sts.rRead (h : Sts K L m Tm W) (hI : Inv n Tm) (q : ByteArray) : Calls Tryd.prog 31 #[.pointer (some ⟨m, 0, none⟩), .string q] W fun e w' => e = .returned (.tuple #[.string (readT Tm q).1, .int .i64 (readT Tm q).2]) ∧ Below W.heap.size W w' := by
  obtain ⟨B, ht⟩ := h.rf
  exact rRead_call W ht (Nat.le_trans hI.good.many (by decide)) q
theorem Sts.Pending (h : Sts K L m Tm W) (hi : L[i]? = some (p, T)) : Calls Tryd.prog 21 #[.pointer (some ⟨p, 0, none⟩)] W fun e w' => e = .returned (.int .i64 T.ch.length) ∧ W = w' := by
  obtain ⟨φ, A, ht⟩ := h.tr hi
  exact pending_call W ht
theorem Sts.Used (h : Sts K L m Tm W) (hi : L[i]? = some (p, T)) (hI : Inv n T) : Calls Tryd.prog 17 #[.pointer (some ⟨p, 0, none⟩)] W fun e w' => e = .returned (.int .i64 (usedF T.l : Nat)) ∧ Below W.heap.size W w' := by
  obtain ⟨φ, A, ht⟩ := h.tr hi
  exact used_call W ht (by have h1 := hI.good.used; have h2 := hI.room; omega)
theorem Sts.Does2 (h : Sts K ((p, T) :: L) m Tm W) (hG : Glob W) (hI : Inv n T) (hIm : Inv n Tm) (hn : n ≤ 1000000) (a : Ac) (ha : AcOK a) :
    Calls Tryd.prog 15 #[.agg #[.pointer (some ⟨p, 0, none⟩), .pointer (some ⟨m, 0, none⟩)], .agg #[.int .i64 a.f0, .int .i64 a.f1, .int .i64 a.f2, .string a.f3, .string a.f4]] W fun e w' => ∃ r, e = .returned (.bool r) ∧ (T = Tm → r = true) ∧ Sts K ((p, actT T a) :: L) m (actT Tm a) w' ∧ Kp K W w' := by
  obtain ⟨φ, F, B, h⟩ := h
  refine (does_call h.pr2 hG hI hIm hn a ha).mono ?_
  rintro e w' ⟨r, rfl, hr, he⟩
  exact ⟨r, rfl, hr, h.does he⟩
theorem Sts.Does (h : Sts K ((p, T) :: L) m T W) (hG : Glob W) (hI : Inv n T) (hn : n ≤ 1000000) (a : Ac) (ha : AcOK a) :
    Calls Tryd.prog 15 #[.agg #[.pointer (some ⟨p, 0, none⟩), .pointer (some ⟨m, 0, none⟩)], .agg #[.int .i64 a.f0, .int .i64 a.f1, .int .i64 a.f2, .string a.f3, .string a.f4]] W (StEnd K ((p, actT T a) :: L) m (actT T a) W (.bool true)) := by
  refine (h.Does2 hG hI hI hn a ha).mono ?_
  rintro e w' ⟨r, rfl, hr, hs⟩
  obtain rfl := hr rfl
  exact ⟨rfl, hs⟩
theorem Sts.Alike (h : Sts K ((p, T) :: L) m T W) (hI : Inv n T) (hn : n ≤ 1000000) :
    Calls Tryd.prog 30 #[.agg #[.pointer (some ⟨p, 0, none⟩), .pointer (some ⟨m, 0, none⟩)]] W fun e w' => e = .returned (.bool true) ∧ Below W.heap.size W w' := by
  obtain ⟨φ, F, B, h⟩ := h
  exact alike_call h.pr hI hn
/-- begun, where there is room. -/
def BegEnd (W : World) (room : Int) (e : Ending) (w' : World) : Prop := ∃ p m, e = .returned (.tuple #[.agg #[.pointer (some ⟨p, 0, none⟩), .pointer (some ⟨m, 0, none⟩)], .bool true]) ∧ Sts (fun k => k < W.heap.size) [(p, newT room)] m (newT room) w' ∧ Below W.heap.size W w'
theorem begun_sts (W : World) (room : Int) (h1 : 1 ≤ room) (h2 : room ≤ 1073741824) : Calls Tryd.prog 14 #[.int .i64 room] W (BegEnd W room) := by
  refine (begun_call W (fun _ => none) (fun q f e => by cases e) room h1 h2).mono ?_
  rintro e w' ⟨p, A, m, B, rfl, hP, hb, hA, hB, hm⟩
  exact ⟨p, m, rfl, hP.sts (fun k hk => Nat.lt_of_lt_of_le hk hb.size) (fun k hk e => by have := hA k hk; omega) (fun k hk e => by have := hB k hk; omega) (by omega), hb⟩
end
end Go.Proofs.YtajiidkmijeidaaDoor.Fr
/- What a law holds; shown. -/
namespace Go.Proofs.YtajiidkmijeidaaDoor.Fr
open Go.RowKit Go.Proofs.YtajiidkmijeidaaDoor.F Go.Proofs.YtajiidkmijeidaaDoorW.PrintWords
set_option linter.unusedVariables false
set_option linter.unusedSimpArgs false
/-- What a law knows of a world, and goes on to know. -/
abbrev Vw := World → Prop
/-- w: where the law began; K: what is kept; b: the box of the pair; V: what else is known. -/
structure Law (w : World) (K : Nat → Prop) (b p m : Nat) (L : List (Nat × TS)) (Tm : TS) (V : List Vw) (W : World) : Prop where
  g0 : Glob w
  sts : Sts K L m Tm W
  bel : Below w.heap.size w W
  kw : ∀ k, k < w.heap.size → K k
  kx : K b
  box : PBox p m b W
  vs : ∀ P ∈ V, P W ∧ ∀ W1 W2, Kp K W1 W2 → P W1 → P W2
theorem Sts.boxed {W : World} {K : Nat → Prop} {m : Nat} {L : List (Nat × TS)} {Tm : TS} (h : Sts K L m Tm W) (o : Obj) : Sts (fun k => K k ∨ k = W.heap.size) L m Tm (W.alloc o) :=
  h.kept (newBelow W o) fun k hk => hk.imp id fun e => ⟨by omega, by rw [World.size_alloc]; omega⟩
section
variable {w W W' : World} {K : Nat → Prop} {b p m : Nat} {L L' : List (Nat × TS)} {Tm Tm' : TS} {V V' : List Vw}
theorem Law.glob (h : Law w K b p m L Tm V W) : Glob W := h.g0.below h.bel
theorem Law.step (h : Law w K b p m L Tm V W) (hs : Sts K L' m Tm' W') (hk : Kp K W W') : Law w K b p m L' Tm' V W' where
  g0 := h.g0
  sts := hs
  bel := h.bel.trans (hk.below h.bel.size h.kw)
  kw := h.kw
  kx := h.kx
  box := (hk.block h.kx h.box.lt).trans h.box
  vs := fun x hx => ⟨(h.vs x hx).2 _ _ hk (h.vs x hx).1, (h.vs x hx).2⟩
theorem Law.below (h : Law w K b p m L Tm V W) (hb : Below W.heap.size W W') : Law w K b p m L Tm V W' := h.step (h.sts.below hb) (Kp.of hb)
theorem Law.more (h : Law w K b p m L Tm V W) (hs : Sts K L' m Tm' W') (hb : Below W.heap.size W W') : Law w K b p m L' Tm' V W' := h.step hs (Kp.of hb)
theorem Law.keepB (h : Law w K b p m L Tm V W) (hb : Below W.heap.size W W') : Law w (fun k => K k ∨ (W.heap.size ≤ k ∧ k < W'.heap.size)) b p m L Tm V W' :=
  { h.below hb with
    sts := h.sts.kept hb fun k hk => hk
    kw := fun k hk => .inl (h.kw k hk)
    kx := .inl h.kx
    vs := fun x hx => ⟨((h.below hb).vs x hx).1, fun W1 W2 hk => (h.vs x hx).2 W1 W2 (hk.mono fun k e => .inl e)⟩ }
theorem Law.keep (h : Law w K b p m L Tm V W) (o : Obj) : Law w (fun k => K k ∨ k = W.heap.size) b p m L Tm V (W.alloc o) :=
  { h.below (newBelow W o) with
    sts := h.sts.boxed o
    kw := fun k hk => .inl (h.kw k hk)
    kx := .inl h.kx
    vs := fun x hx => ⟨((h.below (newBelow W o)).vs x hx).1, fun W1 W2 hk => (h.vs x hx).2 W1 W2 (hk.mono fun k e => .inl e)⟩ }
/-- A box of the law's own is kept. -/
theorem Law.box1 (h : Law w K b p m L Tm V W) (o : Obj) : Law w (fun k => K k ∨ k = W.heap.size) b p m L Tm ((fun W' => W'.heap[W.heap.size]? = some o) :: V) (W.alloc o) :=
  { h.keep o with
    vs := fun x hx => by
      rcases List.mem_cons.1 hx with rfl | hx
      · exact ⟨World.alloc_heap_new W o, fun W1 W2 hk h1 => (hk.block (.inr rfl) (Array.getElem?_eq_some_iff.1 h1).1).trans h1⟩
      · exact (h.keep o).vs x hx }
/-- What All told is kept. -/
theorem Law.view (h : Law w K b p m L Tm V W) {v : Value} {l : List Af} (hv : VA W' (fun k => W.heap.size ≤ k ∧ k < W'.heap.size) v l) (hb : Below W.heap.size W W') :
    Law w (fun k => K k ∨ (W.heap.size ≤ k ∧ k < W'.heap.size)) b p m L Tm ((fun W2 => VA W2 (fun k => W.heap.size ≤ k ∧ k < W'.heap.size) v l) :: V) W' :=
  { h.keepB hb with
    vs := fun x hx => by
      rcases List.mem_cons.1 hx with rfl | hx
      · exact ⟨hv, fun W1 W2 hk h1 => h1.chg hk fun k hk hn => hn (.inr hk)⟩
      · exact (h.keepB hb).vs x hx }
/-- All that lay there at h0, but for the trees, is kept still. -/
theorem Law.drop {K0 : Nat → Prop} {V0 : List Vw} {L0 : List (Nat × TS)} {T0 : TS} {W0 : World} (h : Law w K b p m L Tm V W) (h0 : Law w K0 b p m L0 T0 V0 W0) (hK : ∀ k, K0 k → K k) (hV : ∀ x ∈ V0, x ∈ V) : Law w K0 b p m L Tm V0 W where
  g0 := h.g0
  sts := h.sts.drop hK
  bel := h.bel
  kw := h0.kw
  kx := h0.kx
  box := h.box
  vs := fun x hx => ⟨(h.vs x (hV x hx)).1, (h0.vs x hx).2⟩
theorem Law.va (h : Law w K b p m L Tm V W) (i : Nat) {P : Vw} (hi : V[i]? = some P) : P W := (h.vs _ (List.mem_of_getElem? hi)).1
theorem Law.c (h : Law w K b p m L Tm V W) : W.cell? ⟨b, 0, none⟩ = some (.pointer (some ⟨p, 0, none⟩)) ∧ W.cell? ⟨b, 1, none⟩ = some (.pointer (some ⟨m, 0, none⟩)) := h.box.cells
/-- Behind begun, and the making of the pair's box. -/
theorem law_begun {W1 : World} {room : Int} (hG : Glob w) (hb0 : Below w.heap.size w W) (hs : Sts (fun k => k < W.heap.size) [(p, newT room)] m (newT room) W1) (hb : Below W.heap.size W W1) :
    Law w (fun k => k < W.heap.size ∨ k = W1.heap.size) W1.heap.size p m [(p, newT room)] (newT room) [] (W1.alloc (.cells #[.pointer (some ⟨p, 0, none⟩), .pointer (some ⟨m, 0, none⟩)] 29)) where
  g0 := hG
  sts := hs.boxed _
  bel := (hb0.trans (hb.mono hb0.size)).alloc (Nat.le_trans hb0.size hb.size) _
  kw := fun k hk => .inl (Nat.lt_of_lt_of_le hk hb0.size)
  kx := .inr rfl
  box := World.alloc_heap_new W1 _
  vs := fun x hx => by cases hx
end

def Y1 : TS := writeT (newT 100) false (⟨#[97]⟩ : ByteArray) (⟨#[120]⟩ : ByteArray)
def Y2 : TS := syncT Y1
def Y3 : TS := writeT Y2 false (⟨#[116]⟩ : ByteArray) (⟨#[121, 122]⟩ : ByteArray)
def Y4 : TS := renameT Y3 (⟨#[116]⟩ : ByteArray) (⟨#[97]⟩ : ByteArray)
def YA : TS := crashT Y4 1 0
def YB : TS := crashT Y4 0 1
def YC : TS := crashT Y4 9 0
theorem ya : YA.l = [⟨(⟨#[97]⟩ : ByteArray), (⟨#[120]⟩ : ByteArray), 1⟩, ⟨(⟨#[116]⟩ : ByteArray), (⟨#[121, 122]⟩ : ByteArray), 2⟩] := by kernel_rfl
theorem yb : YB.l = [⟨(⟨#[97]⟩ : ByteArray), (⟨#[120]⟩ : ByteArray), 1⟩, ⟨(⟨#[116]⟩ : ByteArray), (⟨#[121]⟩ : ByteArray), 2⟩] := by kernel_rfl
theorem yc : YC.l = [⟨(⟨#[97]⟩ : ByteArray), (⟨#[121, 122]⟩ : ByteArray), 2⟩] := by kernel_rfl
theorem iy1 : Inv 1 Y1 := inv_write (inv_new (by decide) (by decide)) false (by decide)
theorem iy2 : Inv 1 Y2 := inv_sync iy1.room iy1.clock iy1.good
theorem iy3 : Inv 2 Y3 := inv_write iy2 false (by decide)
theorem iy4 : Inv 3 Y4 := inv_rename iy3 _ _
theorem iya : Inv 3 YA := inv_crash iy4 1 0
theorem iyb : Inv 3 YB := inv_crash iy4 0 1
theorem iyc : Inv 3 YC := inv_crash iy4 9 0
section
variable {w : World}
set_option maxHeartbeats 4000000 in
set_option maxRecDepth 100000 in
theorem shown_call (hG : Glob w) : Calls Tryd.prog 11 #[] w fun e w' => e = .returned (.bool true) ∧ Below w.heap.size w w' := by
  have HG := Lib.hid hG
  clear hG
  go_enter Tryd.func11, Tryd.ntmps11
  go_upto_region 4 with (first | (go_at_call 14; refine (begun_sts w 100 (by decide) (by decide)).mono ?_; rintro e w1 ⟨p, m, rfl, hs, hb⟩; have HL0 := Lib.hid (law_begun HG.out (Below.refl _ w) hs hb); clear hs hb))
  generalize w1.alloc (.cells #[.pointer (some ⟨p, 0, none⟩), .pointer (some ⟨m, 0, none⟩)] 29) = W0 at HL0
  generalize w1.heap.size = b at HL0
  obtain ⟨K, hK⟩ : ∃ K : Nat → Prop, K = fun k => k < w.heap.size ∨ k = b := ⟨_, rfl⟩
  rw [← hK] at HL0
  clear hK
  obtain ⟨c0, c1⟩ := HL0.out.c
  go_upto_region 5 with (first | (go_at_call 28; refine (HL0.out.sts.Write (i := 0) rfl HL0.out.glob (inv_new (room := 100) (by decide) (by decide)) (by decide) (⟨#[97]⟩ : ByteArray) (⟨#[120]⟩ : ByteArray) (by decide) (by decide)).mono ?_; rintro e w2 ⟨rfl, hs, hk⟩; have HL1 : Hid (Law w K b p m [(p, Y1)] (newT 100) [] w2) := HL0.out.step hs hk; clear hs hk))
  clear c0 c1 HL0
  obtain ⟨c0, c1⟩ := HL1.out.c
  go_upto_region 6 with (first | (go_at_call 18; refine (HL1.out.sts.Sync (i := 0) rfl HL1.out.glob iy1 (by decide)).mono ?_; rintro e w2 ⟨rfl, hs, hk⟩; have HL2 : Hid (Law w K b p m [(p, Y2)] (newT 100) [] w2) := HL1.out.step hs hk; clear hs hk))
  clear c0 c1 HL1
  obtain ⟨c0, c1⟩ := HL2.out.c
  go_upto_region 7 with (first | (go_at_call 28; refine (HL2.out.sts.Write (i := 0) rfl HL2.out.glob iy2 (by decide) (⟨#[116]⟩ : ByteArray) (⟨#[121, 122]⟩ : ByteArray) (by decide) (by decide)).mono ?_; rintro e w2 ⟨rfl, hs, hk⟩; have HL3 : Hid (Law w K b p m [(p, Y3)] (newT 100) [] w2) := HL2.out.step hs hk; clear hs hk))
  clear c0 c1 HL2
  obtain ⟨c0, c1⟩ := HL3.out.c
  go_upto_region 8 with (first | (go_at_call 24; refine (HL3.out.sts.Rename (i := 0) rfl HL3.out.glob iy3 (by decide) (⟨#[116]⟩ : ByteArray) (⟨#[97]⟩ : ByteArray) (by decide) (by decide)).mono ?_; rintro e w2 ⟨rfl, hs, hk⟩; have HL4 : Hid (Law w K b p m [(p, Y4)] (newT 100) [] w2) := HL3.out.step hs hk; clear hs hk))
  clear c0 c1 HL3
  obtain ⟨c0, c1⟩ := HL4.out.c
  go_upto_region 9 with (first | (go_at_call 19; refine (HL4.out.sts.Clone (i := 0) rfl iy4 (by decide)).mono ?_; rintro e w2 ⟨q, rfl, hs, hk⟩; have HL5 : Hid (Law w K b p m [(p, Y4), (q, Y4)] (newT 100) [] w2) := HL4.out.more hs hk; clear hs hk))
  clear c0 c1 HL4
  obtain ⟨c0, c1⟩ := HL5.out.c
  go_upto_region 10 with (first | (go_at_call 19; refine (HL5.out.sts.Clone (i := 0) rfl iy4 (by decide)).mono ?_; rintro e w2 ⟨r, rfl, hs, hk⟩; have HL6 : Hid (Law w K b p m [(p, Y4), (q, Y4), (r, Y4)] (newT 100) [] w2) := HL5.out.more hs hk; clear hs hk))
  clear c0 c1 HL5
  obtain ⟨c0, c1⟩ := HL6.out.c
  go_upto_region 13 with (first | (go_at_call 20; refine (HL6.out.sts.Crash (i := 0) rfl HL6.out.glob iy4 (by decide) 1 0 (by decide)).mono ?_; rintro e w2 ⟨rfl, hs, hk⟩; have HL7 : Hid (Law w K b p m [(p, YA), (q, Y4), (r, Y4)] (newT 100) [] w2) := HL6.out.step hs hk; clear hs hk))
  clear c0 c1 HL6
  obtain ⟨c0, c1⟩ := HL7.out.c
  go_upto_region 14 with (first | (go_at_call 20; refine (HL7.out.sts.Crash (i := 1) rfl HL7.out.glob iy4 (by decide) 0 1 (by decide)).mono ?_; rintro e w2 ⟨rfl, hs, hk⟩; have HL8 : Hid (Law w K b p m [(p, YA), (q, YB), (r, Y4)] (newT 100) [] w2) := HL7.out.step hs hk; clear hs hk))
  clear c0 c1 HL7
  obtain ⟨c0, c1⟩ := HL8.out.c
  go_upto_region 15 with (first | (go_at_call 20; refine (HL8.out.sts.Crash (i := 2) rfl HL8.out.glob iy4 (by decide) 9 0 (by decide)).mono ?_; rintro e w2 ⟨rfl, hs, hk⟩; have HL9 : Hid (Law w K b p m [(p, YA), (q, YB), (r, YC)] (newT 100) [] w2) := HL8.out.step hs hk; clear hs hk))
  clear c0 c1 HL8
  obtain ⟨c0, c1⟩ := HL9.out.c
  go_upto_region 16 with (first | (go_at_call 16; refine (HL9.out.sts.All (i := 0) rfl iya).mono ?_; rintro e w2 ⟨v, rfl, hv, hk⟩; rw [ya] at hv; have HL10 : Hid (Law w K b p m [(p, YA), (q, YB), (r, YC)] (newT 100) [] w2) := HL9.out.below hk; have HV0 := Lib.hid hv; clear hv hk))
  clear c0 c1 HL9
  obtain ⟨c0, c1⟩ := HL10.out.c
  skip
  go_upto_region 17 with (first | (go_at_call 16; refine (HL10.out.sts.All (i := 1) rfl iyb).mono ?_; rintro e w2 ⟨v, rfl, hv, hk⟩; rw [yb] at hv; have HL11 : Hid (Law w K b p m [(p, YA), (q, YB), (r, YC)] (newT 100) [] w2) := HL10.out.below hk; have HV1 := Lib.hid hv; have HV0' := Lib.hid (HV0.out.below hk); clear HV0; have HV0 := Lib.hid HV0'.out; clear HV0'; clear hv hk))
  clear c0 c1 HL10
  obtain ⟨c0, c1⟩ := HL11.out.c
  skip
  go_upto_region 18 with (first | (go_at_call 16; refine (HL11.out.sts.All (i := 2) rfl iyc).mono ?_; rintro e w2 ⟨v, rfl, hv, hk⟩; rw [yc] at hv; have HL12 : Hid (Law w K b p m [(p, YA), (q, YB), (r, YC)] (newT 100) [] w2) := HL11.out.below hk; have HV2 := Lib.hid hv; have HV0' := Lib.hid (HV0.out.below hk); clear HV0; have HV0 := Lib.hid HV0'.out; clear HV0'; have HV1' := Lib.hid (HV1.out.below hk); clear HV1; have HV1 := Lib.hid HV1'.out; clear HV1'; clear hv hk))
  clear c0 c1 HL11
  obtain ⟨c0, c1⟩ := HL12.out.c
  skip
  obtain ⟨ad0, k0, e, h0, a0, a1⟩ := VA_at (i := 0) HV0.out (by decide)
  obtain ⟨ad0', k0', e', _, a2, a3⟩ := VA_at (i := 1) HV0.out (by decide)
  rw [e] at e'
  cases e'
  subst e
  obtain ⟨ad1, k1, e, h1, a4, a5⟩ := VA_at (i := 1) HV1.out (by decide)
  subst e
  obtain ⟨ad2, k2, e, h2, a6, a7⟩ := VA_at (i := 0) HV2.out (by decide)
  subst e
  clear HV0 HV1 HV2 a0 a2 a4 a6
  have b1 : w2.cell? ⟨ad0.block, ad0.off + 1, none⟩ = some (.string ⟨#[120]⟩) := a1
  have b3 : w2.cell? ⟨ad0.block, ad0.off + 2 + 1, none⟩ = some (.string ⟨#[121, 122]⟩) := a3
  have b5 : w2.cell? ⟨ad1.block, ad1.off + 2 + 1, none⟩ = some (.string ⟨#[121]⟩) := a5
  have b7 : w2.cell? ⟨ad2.block, ad2.off + 1, none⟩ = some (.string ⟨#[121, 122]⟩) := a7
  simp only [List.length_cons, List.length_nil] at h0 h1 h2 ⊢
  go_wp2_with fail
  go_ret
  exact ⟨by simp, HL12.out.bel⟩
end
end Go.Proofs.YtajiidkmijeidaaDoor.Fr
/- small; a row of acts; begun where there is no room. -/
namespace Go.Proofs.YtajiidkmijeidaaDoor.Fr
open Go.RowKit Go.Proofs.YtajiidkmijeidaaDoor.F Go.Proofs.YtajiidkmijeidaaDoorW.PrintWords
set_option linter.unusedVariables false
set_option linter.unusedSimpArgs false
def SmallOK (l : List Ac) : Prop := l.length ≤ 60 ∧ ∀ a ∈ l, a.f3.size ≤ 150 ∧ a.f4.size ≤ 300
theorem rd_ac (l : List Ac) (i : Nat) (h : i < l.length) : rd_T34 l (i : Int) = l[i] := by
  unfold rd_T34
  rw [Int.toNat_natCast, List.getD_eq_getElem?_getD, List.getElem?_eq_getElem h]
  rfl
theorem small_l0 (l : List Ac) (hl : l.length ≤ 60) : ∀ d i : Nat, i + d = l.length → ∃ r, cooperagelaw5_small.l0 (d + 1) l (i : Int) = some r ∧ (r = true → ∀ j (h : j < l.length), i ≤ j → l[j].f3.size ≤ 150 ∧ l[j].f4.size ≤ 300) := by
  intro d
  induction d with
  | zero =>
    intro i hi
    refine ⟨true, ?_, fun _ j h1 h2 => absurd h1 (by omega)⟩
    unfold cooperagelaw5_small.l0
    rw [if_neg (by omega)]
  | succ d ih =>
    intro i hi
    have hil : i < l.length := by omega
    unfold cooperagelaw5_small.l0
    rw [if_pos (by omega), if_pos (by omega), rd_ac l i hil]
    by_cases h1 : (l[i].f3.size : Int) > 150
    · exact ⟨false, if_pos h1, fun e => by cases e⟩
    · rw [if_neg h1]
      by_cases h2 : (l[i].f4.size : Int) > 300
      · exact ⟨false, if_pos h2, fun e => by cases e⟩
      · rw [if_neg h2, show wrap64 ((i : Int) + 1) = ((i + 1 : Nat) : Int) by unfold wrap64; omega]
        obtain ⟨r, hr, hr2⟩ := ih (i + 1) (by omega)
        refine ⟨r, hr, fun e j hj hij => ?_⟩
        by_cases e2 : j = i
        · subst e2
          exact ⟨by omega, by omega⟩
        · exact hr2 e j hj (by omega)
theorem small_f (l : List Ac) : ∃ r, cooperagelaw5_small.f (l.length + 1) l = some r ∧ (r = true → SmallOK l) := by
  unfold cooperagelaw5_small.f
  by_cases h : (l.length : Int) > 60
  · exact ⟨false, if_pos h, fun e => by cases e⟩
  · rw [if_neg h]
    obtain ⟨r, hr, hr2⟩ := small_l0 l (by omega) l.length 0 (by omega)
    refine ⟨r, hr, fun e => ⟨by omega, fun a ha => ?_⟩⟩
    obtain ⟨j, hj, rfl⟩ := List.getElem_of_mem ha
    exact hr2 e j hj (Nat.zero_le _)
def SmallEnd (w : World) (l : List Ac) (e : Ending) (w' : World) : Prop := ∃ r, e = .returned (.bool r) ∧ (r = true → SmallOK l) ∧ Below w.heap.size w w'
/-- The numbers of an act are Go's. -/
structure Rng (a : Ac) : Prop where
  f0 : -9223372036854775808 ≤ a.f0 ∧ a.f0 ≤ 9223372036854775807
  f1 : -9223372036854775808 ≤ a.f1 ∧ a.f1 ≤ 9223372036854775807
  f2 : -9223372036854775808 ≤ a.f2 ∧ a.f2 ≤ 9223372036854775807
/-- A row of acts that came in. -/
structure Acs (w : World) (A : Option Addr) (c : Nat) (l : List Ac) : Prop where
  rd : Kd.C k34 w A l.length l
  cap : l.length ≤ c
  rng : ∀ a ∈ l, Rng a
theorem Acs.below {w w' : World} {A : Option Addr} {c : Nat} {l : List Ac} (h : Acs w A c l) (hb : Below w.heap.size w w') : Acs w' A c l := ⟨Kd.C_below h.rd hb, h.cap, h.rng⟩
theorem small_call {w : World} {A : Option Addr} {c : Nat} {l : List Ac} (h : Acs w A c l) : Calls Tryd.prog 12 #[.slice A l.length c] w (SmallEnd w l) := by
  obtain ⟨r, hr, hr2⟩ := small_f l
  exact (cooperagelaw5_small.calls _ A c l r w h.rd h.cap hr).mono fun e w' ⟨h1, h2⟩ => ⟨r, h1, hr2, drawn_below h2⟩
def AcCells (W : World) (ad : Addr) (a : Ac) : Prop := W.cell? ad = some (.int .i64 a.f0) ∧ W.cell? ⟨ad.block, ad.off + 1, none⟩ = some (.int .i64 a.f1) ∧ W.cell? ⟨ad.block, ad.off + 2, none⟩ = some (.int .i64 a.f2) ∧ W.cell? ⟨ad.block, ad.off + 3, none⟩ = some (.string a.f3) ∧ W.cell? ⟨ad.block, ad.off + 4, none⟩ = some (.string a.f4)
theorem Acs.at {w : World} {A : Option Addr} {c : Nat} {l : List Ac} (h : Acs w A c l) {i : Nat} (hi : i < l.length) : ∃ ad, A = some ad ∧ AcCells w (ad.add (i * 5)) l[i] := by
  have := at_T34 h.rd (i : Int) (by omega) (by omega)
  rw [rd_ac l i hi, Int.toNat_natCast] at this
  obtain ⟨ad, rfl, h1, h2, h3, h4, h5⟩ := this
  exact ⟨ad, rfl, h1, h2, h3, h4, h5⟩
theorem SmallOK.ac {w : World} {A : Option Addr} {c : Nat} {l : List Ac} (h : SmallOK l) (ha : Acs w A c l) {i : Nat} (hi : i < l.length) : AcOK l[i] := by
  have h1 := ha.rng _ (List.getElem_mem hi)
  have h2 := h.2 _ (List.getElem_mem hi)
  exact ⟨h1.f0, h1.f2.2, by omega, by omega⟩
theorem Sts.fst {K : Nat → Prop} {L : List (Nat × TS)} {x : Nat × TS} {m : Nat} {Tm : TS} {W : World} (h : Sts K (x :: L) m Tm W) : Sts K [x] m Tm W := by
  obtain ⟨φ, F, B, h⟩ := h
  refine ⟨φ, F, B, { h with
    tr := fun i p T hi => ?_
    fk := fun i hi k hk => h.fk i (by have h1 : i < 1 := hi; show i < L.length + 1; omega) k hk
    dis := fun i j hi hj => by
      have h1 : i < 1 := hi
      have h2 : j < 1 := hj
      intro e
      omega }⟩
  cases i with
  | zero => exact h.tr 0 p T hi
  | succ i => cases hi
theorem Law.fst {w W : World} {K : Nat → Prop} {b p m : Nat} {L : List (Nat × TS)} {x : Nat × TS} {Tm : TS} {V : List Vw} (h : Law w K b p m (x :: L) Tm V W) : Law w K b p m [x] Tm V W := { h with sts := h.sts.fst }
/-- What a region that reads an act and the pair's box finds. -/
def LawS (w : World) (b p m : Nat) (ad : Addr) (a : Ac) (W : World) : Prop :=
  (W.cell? ⟨b, 0, none⟩ = some (.pointer (some ⟨p, 0, none⟩)) ∧ W.cell? ⟨b, 1, none⟩ = some (.pointer (some ⟨m, 0, none⟩)) ∧ W.cell? ad = some (.int .i64 a.f0) ∧ W.cell? ⟨ad.block, ad.off + 1, none⟩ = some (.int .i64 a.f1) ∧ W.cell? ⟨ad.block, ad.off + 2, none⟩ = some (.int .i64 a.f2) ∧ W.cell? ⟨ad.block, ad.off + 3, none⟩ = some (.string a.f3) ∧ W.cell? ⟨ad.block, ad.off + 4, none⟩ = some (.string a.f4)) ∧ Hid (Below w.heap.size w W)
theorem AcCells.below {w W : World} {ad : Addr} {a : Ac} (h : AcCells w ad a) (hb : Below w.heap.size w W) : AcCells W ad a := by
  obtain ⟨h0, h1, h2, h3, h4⟩ := h
  have hl := cell_lt h0
  exact ⟨(hb.cell (p := ad) hl).trans h0, (hb.cell (p := ⟨ad.block, ad.off + 1, none⟩) hl).trans h1, (hb.cell (p := ⟨ad.block, ad.off + 2, none⟩) hl).trans h2, (hb.cell (p := ⟨ad.block, ad.off + 3, none⟩) hl).trans h3, (hb.cell (p := ⟨ad.block, ad.off + 4, none⟩) hl).trans h4⟩
theorem Law.S2 {w W : World} {K : Nat → Prop} {b p m : Nat} {L : List (Nat × TS)} {Tm : TS} {V : List Vw} (h : Law w K b p m L Tm V W) : (W.cell? ⟨b, 0, none⟩ = some (.pointer (some ⟨p, 0, none⟩)) ∧ W.cell? ⟨b, 1, none⟩ = some (.pointer (some ⟨m, 0, none⟩))) ∧ Hid (Below w.heap.size w W) := ⟨h.c, h.bel⟩
theorem Law.S {w W : World} {K : Nat → Prop} {b p m : Nat} {L : List (Nat × TS)} {Tm : TS} {V : List Vw} (h : Law w K b p m L Tm V W) {ad : Addr} {a : Ac} (ha : AcCells w ad a) : LawS w b p m ad a W := by
  obtain ⟨h0, h1, h2, h3, h4⟩ := ha.below h.bel
  exact ⟨⟨h.c.1, h.c.2, h0, h1, h2, h3, h4⟩, h.bel⟩
/-! ### pick, of n things -/
theorem pickn_f (c n : Int) (h0 : -9223372036854775808 ≤ c ∧ c ≤ 9223372036854775807) (h1 : 1 ≤ n) : cooperagelaw5_pick.f c n = some (pickI c n) := by
  unfold cooperagelaw5_pick.f pickI
  by_cases h : c < 0
  · rw [if_pos h, if_neg (by omega), if_pos h]
    have e : wrap64 (-(wrap64 (c + 1))) = -(c + 1) := by unfold wrap64; omega
    rw [e]
  · rw [if_neg h, if_neg (by omega), if_neg h]
theorem pickn_lt (c n : Int) (h1 : 1 ≤ n) : 0 ≤ pickI c n ∧ pickI c n < n := by
  unfold pickI
  split
  · rw [Int.tmod_eq_emod_of_nonneg (by omega)]
    exact ⟨Int.emod_nonneg _ (by omega), Int.emod_lt_of_pos _ (by omega)⟩
  · rw [Int.tmod_eq_emod_of_nonneg (by omega)]
    exact ⟨Int.emod_nonneg _ (by omega), Int.emod_lt_of_pos _ (by omega)⟩
theorem pickn_call (c n : Int) (h0 : -9223372036854775808 ≤ c ∧ c ≤ 9223372036854775807) (h1 : 1 ≤ n) (w : World) : Calls Tryd.prog 13 #[.int .i64 c, .int .i64 n] w fun e w' => e = .returned (.int .i64 (pickI c n)) ∧ Below w.heap.size w w' :=
  (cooperagelaw5_pick.calls c n _ w (pickn_f c n h0 h1)).mono fun e w' ⟨h1, h2⟩ => ⟨h1, drawn_below h2⟩
/-! ### begun where there is no room -/
set_option maxHeartbeats 2000000 in
set_option maxRecDepth 100000 in
theorem begun_none (w : World) (room : Int) (h : room < 1 ∨ 1073741824 < room) : Calls Tryd.prog 14 #[.int .i64 room] w fun e w' => e = .returned (.tuple #[.agg #[.pointer none, .pointer none], .bool false]) ∧ Below w.heap.size w w' := by
  have H1 := Lib.hid (fun w => new_none w room h)
  have H2 := Lib.hid (fun w => rNew_none w room h)
  clear h
  go_enter Tryd.func14, Tryd.ntmps14
  go_wp2_with (first
    | (go_at_call 32; refine (H1.out _).mono ?_; rintro e w1 ⟨rfl, rfl⟩)
    | (go_at_call 33; refine (H2.out _).mono ?_; rintro e w2 ⟨rfl, rfl⟩))
  refine bodyPost_ret (v := .tuple #[.agg #[.pointer none, .pointer none], .bool false]) ?_ rfl ⟨rfl, newBelow _ _⟩
  rw [results_cell_tmp rfl]
  go_simp
end Go.Proofs.YtajiidkmijeidaaDoor.Fr
