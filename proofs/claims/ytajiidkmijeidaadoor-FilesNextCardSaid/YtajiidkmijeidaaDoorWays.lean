import Derived.Test.YtajiidkmijeidaaDoorGlob
/- No file's path is another one's directory: plain. A file that is renamed, and renamed back. -/
namespace Go.Proofs.YtajiidkmijeidaaDoor.Fr
open Go.RowKit Go.Proofs.YtajiidkmijeidaaDoor.F Go.Proofs.YtajiidkmijeidaaDoorW.PrintWords
set_option linter.unusedVariables false
set_option linter.unusedSimpArgs false
def Wy (l : List Fl) : Prop := ∀ f ∈ l, ∀ g ∈ l, wayF f.f0 g.f0 = false
theorem way_self (q : ByteArray) : wayF q q = false := by
  unfold wayF
  cases e : (q.data.toList ++ [47]).isPrefixOf q.data.toList with
  | false => rfl
  | true =>
    have := (List.isPrefixOf_iff_prefix.1 e).length_le
    rw [List.length_append, List.length_singleton] at this
    omega
theorem wy_paths {l l' : List Fl} (h : Wy l) (hp : ∀ x ∈ l', ∃ y ∈ l, y.f0 = x.f0) : Wy l' := fun f hf g hg => by
  obtain ⟨y, hy, e⟩ := hp f hf
  obtain ⟨z, hz, e2⟩ := hp g hg
  rw [← e, ← e2]
  exact h y hy z hz
theorem block_all {l : List Fl} {q but : ByteArray} (h : blockT l q but = false) {f : Fl} (hf : f ∈ l) (hn : f.f0 ≠ but) : wayF f.f0 q = false ∧ wayF q f.f0 = false := by
  unfold blockT at h
  rw [List.any_eq_false] at h
  have h1 := h f hf
  have h2 : sameB f.f0 but = false := by
    unfold sameB
    cases e : f.f0.data.toList == but.data.toList with
    | false => rfl
    | true => exact absurd (ba_eq (eq_of_beq e)) hn
  unfold testB at h1
  rw [h2] at h1
  simp only [Bool.not_false, Bool.true_and, Bool.or_eq_true, not_or, Bool.not_eq_true] at h1
  exact h1
theorem path_ne {q : ByteArray} (h : pathV q = true) : q ≠ ⟨#[]⟩ := by
  rintro rfl
  have : pathV ⟨#[]⟩ = false := by kernel_rfl
  rw [this] at h
  cases h
/-- A file put where no path is in the way. -/
theorem wy_put {l : List Fl} (h : Wy l) (f : Fl) (hb : ∀ g ∈ l, g.f0 ≠ f.f0 → wayF g.f0 f.f0 = false ∧ wayF f.f0 g.f0 = false) : Wy (putF l f) := fun x hx y hy => by
  rcases mem_put.1 hx with e | ⟨hx', hx2⟩
  · rcases mem_put.1 hy with e2 | ⟨hy', hy2⟩
    · rw [e, e2]
      exact way_self _
    · rw [e]
      exact (hb y hy' hy2).2
  · rcases mem_put.1 hy with e2 | ⟨hy', hy2⟩
    · rw [e2]
      exact (hb x hx' hx2).1
    · exact h x hx' y hy'
theorem wy_drop {l : List Fl} (h : Wy l) (q : ByteArray) : Wy (dropF l q) := fun x hx y hy => h x (mem_drop.1 hx).1 y (mem_drop.1 hy).1
/-- At every prefix of the changes. -/
def IW (T : TS) : Prop := ∀ k, k ≤ T.ch.length → Wy (foldF T.last (T.ch.take k))
theorem IW.now {n : Nat} {T : TS} (h : IW T) (hI : Inv n T) : Wy T.l := by
  have := h T.ch.length (Nat.le_refl _)
  rw [List.take_length, hI.fold] at this
  exact this
theorem iw_new (room : Int) : IW (newT room) := fun k hk f hf => by
  have : foldF (newT room).last ((newT room).ch.take k) = [] := by show foldF [] (List.take k []) = []; rw [List.take_nil]; rfl
  rw [this] at hf
  cases hf
theorem iw_done {n : Nat} {T : TS} {c : Cg} (h : IW T) (hI : Inv n T) (hw : Wy (afterF T.l c)) : IW (doneT T c) := fun k hk => by
  have hk' : k ≤ T.ch.length + 1 := by
    have : (T.ch ++ [c]).length = T.ch.length + 1 := by rw [List.length_append]; rfl
    rw [← this]
    exact hk
  show Wy (foldF T.last ((T.ch ++ [c]).take k))
  by_cases e : k ≤ T.ch.length
  · rw [List.take_append_of_le_length e]
    exact h k e
  · rw [List.take_of_length_le (by rw [List.length_append, List.length_singleton]; omega), foldF_snoc, hI.fold]
    exact hw
theorem iw_sync {n : Nat} {T : TS} (h : Wy T.l) : IW (syncT T) := fun k hk => by
  show Wy (foldF T.l (List.take k []))
  rw [List.take_nil]
  exact h
theorem iw_write {n : Nat} {T : TS} (h : IW T) (hI : Inv n T) (stays : Bool) (q s : ByteArray) : IW (writeT T stays q s) := by
  unfold writeT
  split
  next he =>
    obtain ⟨h1, h2, h3, h4⟩ := writeE_zero he
    obtain ⟨t, e1, _⟩ := write_after T stays q s
    refine iw_done h hI ?_
    rw [e1]
    exact wy_put (h.now hI) _ fun g hg hne => block_all h3 hg (path_ne (hI.good.pth g hg))
  next => exact h
theorem iw_remove {n : Nat} {T : TS} (h : IW T) (hI : Inv n T) (q : ByteArray) : IW (removeT T q) := by
  unfold removeT
  split
  next he =>
    refine iw_done h hI ?_
    show Wy (dropF T.l q)
    exact wy_drop (h.now hI) q
  next => exact h
theorem rename_after {T : TS} {a b : ByteArray} {f : Fl} (hf : findF T.l a = some f) : afterF T.l ⟨4, a, b, 0⟩ = putF (dropF T.l a) ⟨b, f.f1, f.f2⟩ := by
  show (match findF T.l a with | none => T.l | some f => putF (dropF T.l a) ⟨b, f.f1, f.f2⟩) = _
  rw [hf]
theorem iw_rename {n : Nat} {T : TS} (h : IW T) (hI : Inv n T) (a b : ByteArray) : IW (renameT T a b) := by
  unfold renameT
  split
  next he =>
    obtain ⟨h1, h2, h3, h4⟩ := he
    cases hf : findF T.l a with
    | none => rw [hf] at h1; cases h1
    | some f =>
      refine iw_done h hI ?_
      rw [rename_after hf]
      exact wy_put (wy_drop (h.now hI) a) _ fun g hg _ => block_all h4 (mem_drop.1 hg).1 (mem_drop.1 hg).2
  next => exact h
theorem iw_crash {n : Nat} {T : TS} (h : IW T) (hI : Inv n T) (many part : Int) : IW (crashT T many part) := by
  refine iw_sync (n := n) (T := { T with l := crashL T many part }) ?_
  show Wy (crashL T many part)
  have hK : keptN many T.ch.length ≤ T.ch.length := by unfold keptN; omega
  unfold crashL
  simp only
  cases e : T.ch[keptN many T.ch.length]? with
  | none => exact h _ hK
  | some c =>
    simp only
    obtain ⟨hlt, hget⟩ := List.getElem?_eq_some_iff.1 e
    split
    next hh =>
      have hw := h (keptN many T.ch.length + 1) hlt
      rw [foldF_succ _ _ _ hlt, hget] at hw
      refine wy_paths hw fun x hx => ?_
      have hc := hI.cin c (by rw [← hget]; exact List.getElem_mem hlt)
      have put_same : ∀ (l : List Fl) (f g : Fl), f.f0 = g.f0 → ∀ x ∈ putF l f, ∃ y ∈ putF l g, y.f0 = x.f0 := fun l f g e x hx => by
        rcases mem_put.1 hx with rfl | ⟨hx, hx2⟩
        · exact ⟨g, mem_put.2 (.inl rfl), e.symm⟩
        · exact ⟨x, mem_put.2 (.inr ⟨hx, by rw [← e]; exact hx2⟩), rfl⟩
      obtain ⟨k, q, s, t⟩ := c
      rcases hc.kind with e1 | e1 | e1 | e1
      · obtain rfl : k = 1 := e1
        exact put_same _ ⟨q, cutS s part, t⟩ ⟨q, s, t⟩ rfl x hx
      · obtain rfl : k = 2 := e1
        exact put_same _ ⟨q, textF _ q ++ cutS s part, t⟩ ⟨q, textF _ q ++ s, t⟩ rfl x hx
      · have h0 : k ≤ 2 := hh.1
        have h1 : k = 3 := e1
        omega
      · have h0 : k ≤ 2 := hh.1
        have h1 : k = 4 := e1
        omega
    next => exact h _ hK
theorem iw_act {n : Nat} {T : TS} (h : IW T) (hI : Inv n T) (a : Ac) : IW (actT T a) := by
  unfold actT
  simp only
  split
  · exact iw_write h hI _ _ _
  · split
    · exact iw_write h hI _ _ _
    · split
      · exact iw_remove h hI _
      · split
        · exact iw_rename h hI _ _
        · split
          · exact iw_sync (n := n) (h.now hI)
          · exact iw_crash h hI _ _
/-! ### rows in their order are what they hold -/
theorem srt_ext {l k : List Fl} (hl : Srt l) (hk : Srt k) (h : ∀ x, x ∈ l ↔ x ∈ k) : l = k := by
  induction l generalizing k with
  | nil =>
    cases k with
    | nil => rfl
    | cons y r => exact absurd ((h y).2 List.mem_cons_self) (by simp)
  | cons x r ih =>
    cases k with
    | nil => exact absurd ((h x).1 List.mem_cons_self) (by simp)
    | cons y s =>
      obtain ⟨h1, h2⟩ := srt_cons.1 hl
      obtain ⟨h3, h4⟩ := srt_cons.1 hk
      have e : x = y := by
        rcases List.mem_cons.1 ((h x).1 List.mem_cons_self) with e | e
        · exact e
        · rcases List.mem_cons.1 ((h y).2 List.mem_cons_self) with e2 | e2
          · exact e2.symm
          · have a1 := h3 x e
            have a2 := h1 y e2
            exact absurd (ltB_trans a2 a1) (ltB_irrefl _)
      subst e
      congr 1
      refine ih h2 h4 fun z => ?_
      constructor
      · intro hz
        rcases List.mem_cons.1 ((h z).1 (List.mem_cons_of_mem _ hz)) with e | e
        · subst e
          exact absurd (h1 z hz) (ltB_irrefl _)
        · exact e
      · intro hz
        rcases List.mem_cons.1 ((h z).2 (List.mem_cons_of_mem _ hz)) with e | e
        · subst e
          exact absurd (h3 z hz) (ltB_irrefl _)
        · exact e
/-! ### a file that is renamed, and renamed back -/
theorem same_false {a b : ByteArray} (h : a ≠ b) : sameB a b = false := by
  unfold sameB
  cases e : a.data.toList == b.data.toList with
  | false => rfl
  | true => exact absurd (ba_eq (eq_of_beq e)) h
theorem same_ne {a b : ByteArray} (h : sameB a b = false) : a ≠ b := by
  rintro rfl
  unfold sameB at h
  simp at h
theorem rename_zero {T : TS} {a b : ByteArray} (hb : findF T.l b = none) (hr : renameE T a b = 0) : (findF T.l a).isSome = true ∧ pathV b = true ∧ sameB a b = false ∧ blockT T.l b a = false := by
  unfold renameE at hr
  cases h1 : findF T.l a with
  | none => rw [h1] at hr; simp at hr
  | some f =>
    rw [h1] at hr
    cases h2 : pathV b with
    | false => rw [h2] at hr; simp at hr
    | true =>
      cases h3 : sameB a b with
      | true =>
        have e : a = b := ba_eq (eq_of_beq h3)
        rw [e, hb] at h1
        cases h1
      | false =>
        cases h4 : blockT T.l b a with
        | true => rw [h2, h3, h4] at hr; simp at hr
        | false => exact ⟨rfl, rfl, rfl, rfl⟩
theorem rename_err {T : TS} {a b : ByteArray} (hr : renameE T a b ≠ 0) : renameT T a b = T := by
  unfold renameT
  split
  next h =>
    obtain ⟨h1, h2, h3, h4⟩ := h
    exfalso
    apply hr
    unfold renameE
    rw [if_neg (by rw [h1]; decide), if_neg (by rw [h2]; decide), h3, if_neg (by decide), if_neg (by rw [h4]; decide)]
  next => rfl
theorem rename_four {T : TS} {a b : ByteArray} : (renameE T a b = 4) ↔ (statT T a).2.2 = 4 := by
  unfold renameE statT
  cases findF T.l a with
  | none => simp
  | some f =>
    simp only [Option.isSome_some, Bool.true_eq_false, if_false]
    constructor
    · intro h
      split at h
      · omega
      · split at h
        · omega
        · split at h <;> omega
    · intro h
      omega
theorem rename_if {T : TS} {a b : ByteArray} (h : (findF T.l a).isSome = true ∧ pathV b = true ∧ sameB a b = false ∧ blockT T.l b a = false) : renameT T a b = doneT T ⟨4, a, b, 0⟩ := by
  unfold renameT
  rw [if_pos h]
theorem turn_back {n : Nat} {T : TS} (hI : Inv n T) (hW : Wy T.l) {a b : ByteArray} (hb : findF T.l b = none) (hr : renameE T a b = 0) :
    renameE (renameT T a b) b a = 0 ∧ (renameT (renameT T a b) b a).l = T.l := by
  obtain ⟨h1, h2, h3, h4⟩ := rename_zero hb hr
  cases hf : findF T.l a with
  | none => rw [hf] at h1; cases h1
  | some f =>
    obtain ⟨fm, fa⟩ := (find_some_iff hI.good.srt).1 hf
    have hab := same_ne h3
    have hs := hI.good.srt
    have e1 : renameT T a b = doneT T ⟨4, a, b, 0⟩ := by unfold renameT; rw [if_pos ⟨h1, h2, h3, h4⟩]
    have el : (renameT T a b).l = putF (dropF T.l a) ⟨b, f.f1, f.f2⟩ := by rw [e1]; exact rename_after hf
    have hsd := srt_drop hs a
    have hfb : findF (renameT T a b).l b = some ⟨b, f.f1, f.f2⟩ := by rw [el]; exact find_put hsd ⟨b, f.f1, f.f2⟩
    have hpa : pathV a = true := by rw [← fa]; exact hI.good.pth f fm
    have hba : sameB b a = false := same_false (Ne.symm hab)
    have hbl : blockT (renameT T a b).l a b = false := by
      refine block_false fun g hg => ?_
      rw [el] at hg
      unfold testB
      rcases mem_put.1 hg with rfl | ⟨hg, hg2⟩
      · have : sameB b b = true := by unfold sameB; simp
        simp only [this, Bool.not_true, Bool.false_and]
      · have hg1 := (mem_drop.1 hg).1
        have w1 := hW g hg1 f fm
        have w2 := hW f fm g hg1
        rw [fa] at w1 w2
        rw [w1, w2]
        simp
    have hc : (findF (renameT T a b).l b).isSome = true ∧ pathV a = true ∧ sameB b a = false ∧ blockT (renameT T a b).l a b = false := ⟨by rw [hfb]; rfl, hpa, hba, hbl⟩
    refine ⟨?_, ?_⟩
    · unfold renameE
      rw [if_neg (by rw [hc.1]; decide), if_neg (by rw [hpa]; decide), hba, if_neg (by decide), if_neg (by rw [hbl]; decide)]
    · have e2 : renameT (renameT T a b) b a = doneT (renameT T a b) ⟨4, b, a, 0⟩ := rename_if hc
      have e3 : (renameT (renameT T a b) b a).l = putF (dropF (renameT T a b).l b) ⟨a, f.f1, f.f2⟩ := by
        rw [e2]
        exact rename_after (f := ⟨b, f.f1, f.f2⟩) hfb
      rw [e3, el]
      refine srt_ext (srt_put (srt_drop (srt_put hsd _) b) _) hs fun x => ?_
      rw [mem_put, mem_drop, mem_put, mem_drop]
      simp only
      constructor
      · rintro (rfl | ⟨⟨h5 | ⟨⟨h5, h6⟩, h7⟩, h8⟩, h9⟩)
        · rw [← fa]
          exact fm
        · exact absurd (by rw [h5]) h8
        · exact h5
      · intro hx
        by_cases ex : x.f0 = a
        · left
          have := (find_some_iff hs).2 ⟨hx, ex⟩
          rw [hf] at this
          cases this
          rw [← ex]
        · right
          have hxb : x.f0 ≠ b := fun e => by
            have := (find_some_iff hs).2 ⟨hx, e⟩
            rw [hb] at this
            cases this
          exact ⟨⟨.inr ⟨⟨hx, ex⟩, hxb⟩, hxb⟩, ex⟩
theorem remove_none {T : TS} (q : ByteArray) : findF (removeT T q).l q = none := by
  unfold removeT
  split
  next h => exact find_drop T.l q
  next h =>
    unfold removeE at h
    cases e : findF T.l q with
    | none => rfl
    | some f => rw [e] at h; simp at h
theorem rename_cases (T : TS) (a b : ByteArray) : (renameE T a b = 0 ∧ (statT T a).2.2 = 0) ∨ (renameE T a b = 1 ∧ (statT T a).2.2 = 0) ∨ (renameE T a b = 4 ∧ (statT T a).2.2 = 4) ∨ (renameE T a b = 5 ∧ (statT T a).2.2 = 0) := by
  unfold renameE statT
  cases findF T.l a with
  | none => simp
  | some f =>
    simp only [Option.isSome_some, Bool.true_eq_false, if_false]
    split
    · simp
    · split
      · simp
      · split <;> simp
theorem stat_l {T U : TS} (h : T.l = U.l) (q : ByteArray) : statT T q = statT U q := by unfold statT; rw [h]
end Go.Proofs.YtajiidkmijeidaaDoor.Fr
