import Derived.Test.YtghbaehbgefpaaaGreatDoorQ32
import Derived.Test.YtghbaehbgefpaaaGreatDoorQ33
import Derived.Test.YtghbaehbgefpaaaGreatDoorQ34
import Derived.Test.YtghbaehbgefpaaaGreatDoorQ31
/- Several texts of this session in one: the walks of the functions that the laws reach, and what they tell. -/
set_option linter.unusedVariables false
set_option linter.unusedSimpArgs false
namespace Go.Proofs.YtghbaehbgefpaaaGreatDoor.Fr
open Go.RowKit Go.Proofs.YtghbaehbgefpaaaGreatDoor.F Go.Proofs.YtghbaehbgefpaaaGreatDoorW.PrintWords
open Go.Proofs.YtghbaehbgefpaaaGreatDoor.Hand (putV takeV scanV)
open Go.Proofs.YtghbaehbgefpaaaGreatDoor.PureL (cat cat_app cat_behind cat_size)
theorem read_text (T : TS) (q : ByteArray) : (readT T q).1 = textF T.l q := by
  unfold readT textF
  cases findF T.l q <;> rfl
theorem same_false' {a b : ByteArray} (h : a ≠ b) : sameB a b = false := by
  unfold sameB
  cases e : a.data.toList == b.data.toList with
  | false => rfl
  | true => exact absurd (ba_eq (eq_of_beq e)) h
theorem same_self (a : ByteArray) : sameB a a = true := by unfold sameB; exact beq_self_eq_true _
theorem srt_eq {l k : List Fl} (hl : Srt l) (hk : Srt k) (h : ∀ x, x ∈ l ↔ x ∈ k) : l = k := by
  induction l generalizing k with
  | nil =>
    cases k with
    | nil => rfl
    | cons y r => exact absurd ((h y).2 List.mem_cons_self) (by simp)
  | cons x r ih =>
    cases k with
    | nil => exact absurd ((h x).1 List.mem_cons_self) (by simp)
    | cons y s =>
      obtain ⟨h1, h2⟩ := srt_cons.1 hl
      obtain ⟨h3, h4⟩ := srt_cons.1 hk
      have e : x = y := by
        rcases List.mem_cons.1 ((h x).1 List.mem_cons_self) with e | e
        · exact e
        · rcases List.mem_cons.1 ((h y).2 List.mem_cons_self) with e2 | e2
          · exact e2.symm
          · have a1 := h3 x e
            have a2 := h1 y e2
            exact absurd (ltB_trans a2 a1) (ltB_irrefl _)
      subst e
      congr 1
      refine ih h2 h4 fun z => ?_
      constructor
      · intro hz
        rcases List.mem_cons.1 ((h z).1 (List.mem_cons_of_mem _ hz)) with e | e
        · subst e
          exact absurd (h1 z hz) (ltB_irrefl _)
        · exact e
      · intro hz
        rcases List.mem_cons.1 ((h z).2 (List.mem_cons_of_mem _ hz)) with e | e
        · subst e
          exact absurd (h3 z hz) (ltB_irrefl _)
        · exact e
structure NS (N : List ByteArray) : Prop where
  way : ∀ a ∈ N, ∀ b ∈ N, wayF a b = false
  path : ∀ a ∈ N, pathV a = true
  many : N.length ≤ 100
theorem filter_lt {N : List ByteArray} {a : ByteArray} (h : a ∈ N) : (N.filter fun x => !sameB x a).length < N.length := by
  induction N with
  | nil => cases h
  | cons x t ih =>
    have hle : (t.filter fun x => !sameB x a).length ≤ t.length := List.length_filter_le _ _
    rcases List.mem_cons.1 h with rfl | h
    · rw [List.filter_cons, if_neg (by rw [same_self]; decide), List.length_cons]
      omega
    · have := ih h
      rw [List.filter_cons]
      split
      · rw [List.length_cons, List.length_cons]; omega
      · rw [List.length_cons]; omega
theorem len_names : ∀ (l : List Fl) (N : List ByteArray), Srt l → (∀ f ∈ l, f.f0 ∈ N) → l.length ≤ N.length := by
  intro l
  induction l with
  | nil => intro N _ _; exact Nat.zero_le _
  | cons f r ih =>
    intro N hs hn
    obtain ⟨h1, h2⟩ := srt_cons.1 hs
    have hf := hn f (List.mem_cons_self ..)
    have := ih (N.filter fun x => !sameB x f.f0) h2 fun g hg => by
      rw [List.mem_filter]
      refine ⟨hn g (List.mem_cons_of_mem _ hg), ?_⟩
      have hne : g.f0 ≠ f.f0 := fun e => ltB_irrefl f.f0 (by have := h1 g hg; rw [e] at this; exact this)
      rw [same_false' hne]
      rfl
    have := filter_lt hf
    rw [List.length_cons]
    omega
structure Jn (R : Nat) (N : List ByteArray) (n u : Nat) (T : TS) : Prop where
  inv : Inv n T
  room : T.room = (R : Int)
  rle : R ≤ 2000000
  names : ∀ f ∈ T.l, f.f0 ∈ N
  used : usedF T.l ≤ u
theorem Jn.mono {R : Nat} {N : List ByteArray} {n u n' u' : Nat} {T : TS} (h : Jn R N n u T) (h1 : n ≤ n') (h2 : u ≤ u') : Jn R N n' u' T := ⟨h.inv.mono h1, h.room, h.rle, h.names, Nat.le_trans h.used h2⟩
theorem jn_new {R : Nat} (h1 : 1 ≤ R) (h2 : R ≤ 2000000) (N : List ByteArray) : Jn R N 0 0 (newT R) := ⟨inv_new (by omega) (by omega), rfl, h2, fun f hf => (by cases hf), Nat.le_refl _⟩
section
variable {R : Nat} {N : List ByteArray} {n u : Nat} {T : TS}
theorem Jn.many (h : Jn R N n u T) : T.l.length ≤ N.length := len_names _ _ h.inv.good.srt h.names
theorem Jn.free (hN : NS N) (h : Jn R N n u T) {q : ByteArray} (hq : q ∈ N) (but : ByteArray) : blockT T.l q but = false := by
  unfold blockT
  rw [List.any_eq_false]
  intro f hf
  have h1 := hN.way _ (h.names f hf) _ hq
  have h2 := hN.way _ hq _ (h.names f hf)
  unfold testB
  simp [h1, h2]
theorem Jn.write0 (hN : NS N) (hN2 : N.length ≤ 100) (h : Jn R N n u T) {q : ByteArray} (hq : q ∈ N) (st : Bool) (s : ByteArray) (hu : u + s.size ≤ R) : writeE T st q s = 0 := by
  have h1 := had_le T.l q
  have h2 := h.used
  have hrl := h.rle
  have h3 : sizeT T st q s ≤ hadT T q + s.size ∧ (usedF T.l : Int) - hadT T q + sizeT T st q s ≤ usedF T.l + s.size := by
    unfold sizeT hadT
    split <;> omega
  have h4 := h.many
  have h5 : manyT T q ≤ 101 := by
    unfold manyT
    split <;> omega
  have hh : hadT T q = (textF T.l q).size := rfl
  unfold writeE
  rw [hN.path q hq, if_neg (by decide), if_neg (by omega), h.free hN hq, if_neg (by decide), if_neg]
  unfold fullT
  rw [Bool.or_eq_true, decide_eq_true_eq, decide_eq_true_eq, h.room]
  omega
theorem write_done {st : Bool} {q s : ByteArray} (h : writeE T st q s = 0) : writeT T st q s = doneT T (writeC T st q s) := by
  unfold writeT
  rw [if_pos h]
theorem write_text0 (hI : Inv n T) {q s : ByteArray} (h : writeE T false q s = 0) : (writeT T false q s).l = putF T.l ⟨q, s, T.clock + 1⟩ := by rw [write_done h]; rfl
theorem write_text1 (hI : Inv n T) {q s : ByteArray} (h : writeE T true q s = 0) : (writeT T true q s).l = putF T.l ⟨q, textF T.l q ++ s, T.clock + 1⟩ := by rw [write_done h]; rfl
theorem text_put {l : List Fl} (h : Srt l) (f : Fl) : textF (putF l f) f.f0 = f.f1 := by unfold textF; rw [find_put h]
theorem text_put_ne {l : List Fl} (h : Srt l) (f : Fl) {q : ByteArray} (hq : q ≠ f.f0) : textF (putF l f) q = textF l q := by unfold textF; rw [find_put_ne h f hq]
theorem Jn.append (hN : NS N) (h : Jn R N n u T) {q s : ByteArray} (hq : q ∈ N) (hu : u + s.size ≤ R) :
    writeE T true q s = 0 ∧ Jn R N (n + 1) (u + s.size) (writeT T true q s) ∧ textF (writeT T true q s).l q = textF T.l q ++ s ∧ (∀ p, p ≠ q → textF (writeT T true q s).l p = textF T.l p ∧ findF (writeT T true q s).l p = findF T.l p) ∧ writeT T true q s = doneT T ⟨2, q, s, T.clock + 1⟩ := by
  have he := h.write0 hN hN.many hq true s hu
  have hl := write_text1 h.inv he
  have hrl := h.rle
  have hsz : s.size ≤ 1000000000 := by omega
  obtain ⟨p1, p2⟩ := put_used h.inv.good.srt ⟨q, textF T.l q ++ s, T.clock + 1⟩
  rw [ByteArray.size_append] at p1
  have hu2 := h.used
  refine ⟨he, ⟨inv_write h.inv true hsz, by rw [write_room, h.room], h.rle, fun f hf => ?_, ?_⟩, ?_, fun p hp => ⟨?_, ?_⟩, ?_⟩
  · rw [hl] at hf
    rcases mem_put.1 hf with rfl | hf
    · exact hq
    · exact h.names f hf.1
  · rw [hl]
    have e : textF T.l ({ f0 := q, f1 := textF T.l q ++ s, f2 := T.clock + 1 } : Fl).f0 = textF T.l q := rfl
    rw [e] at p1
    omega
  · rw [hl]
    exact text_put h.inv.good.srt _
  · rw [hl]
    exact text_put_ne h.inv.good.srt _ hp
  · rw [hl]
    exact find_put_ne h.inv.good.srt _ hp
  · rw [write_done he]
    rfl
theorem remove_if {q : ByteArray} (h : findF T.l q = none) : removeT T q = T := by
  unfold removeT removeE
  rw [h]
  rfl
theorem remove_some {q : ByteArray} (h : (findF T.l q).isSome = true) : removeT T q = doneT T ⟨3, q, ⟨#[]⟩, 0⟩ := by
  unfold removeT removeE
  rw [h]
  rfl
theorem used_drop {l : List Fl} (h : Srt l) (q : ByteArray) : usedF (dropF l q) ≤ usedF l := by
  cases e : findF l q with
  | none => rw [drop_none e]; exact Nat.le_refl _
  | some f => have := (drop_some h e).1; omega
theorem Jn.remove (h : Jn R N n u T) (q : ByteArray) :
    Jn R N (n + 1) u (removeT T q) ∧ (∀ p, p ≠ q → findF (removeT T q).l p = findF T.l p) ∧ findF (removeT T q).l q = none := by
  cases e : findF T.l q with
  | none =>
    rw [remove_if e]
    exact ⟨h.mono (Nat.le_succ n) (Nat.le_refl u), fun p hp => rfl, e⟩
  | some f =>
    have hI := inv_remove h.inv q
    rw [remove_some (by rw [e]; rfl)] at hI ⊢
    have hl : (doneT T ⟨3, q, ⟨#[]⟩, 0⟩).l = dropF T.l q := rfl
    refine ⟨⟨hI, h.room, h.rle, fun g hg => ?_, ?_⟩, fun p hp => ?_, ?_⟩
    · rw [hl] at hg
      exact h.names g (mem_drop.1 hg).1
    · rw [hl]
      exact Nat.le_trans (used_drop h.inv.good.srt q) h.used
    · rw [hl]
      exact find_drop_ne h.inv.good.srt hp
    · rw [hl]
      exact find_drop _ _
theorem Jn.sync (h : Jn R N n u T) : Jn R N n u (syncT T) := ⟨inv_syncT h.inv, h.room, h.rle, h.names, h.used⟩
theorem text_find {l k : List Fl} {q : ByteArray} (h : findF l q = findF k q) : textF l q = textF k q := by unfold textF; rw [h]
theorem Jn.anew1 (hN : NS N) (h : Jn R N n u T) {q s : ByteArray} (hq : q ∈ N) (hb : besN q ∈ N) (hne : besN q ≠ q) (hu : u + s.size ≤ R) :
    anew1E T q s = 0 ∧ Jn R N (n + 3) (u + s.size) (anew1T T q s) ∧ textF (anew1T T q s).l q = s ∧ findF (anew1T T q s).l (besN q) = none ∧ (∀ p, p ≠ q → p ≠ besN q → findF (anew1T T q s).l p = findF T.l p) ∧
      (anew1T T q s).ch = [] ∧ (anew1T T q s).last = (anew1T T q s).l ∧ writeE T false (besN q) s = 0 ∧ renameE (writeT T false (besN q) s) (besN q) q = 0 ∧ anew1T T q s = syncT (doneT (doneT T ⟨1, besN q, s, T.clock + 1⟩) ⟨4, besN q, q, 0⟩) := by
  have he := h.write0 hN hN.many hb false s hu
  have hrl := h.rle
  have hI := inv_write h.inv false (q := besN q) (s := s) (by omega)
  have hl := write_text0 h.inv he
  have hsrt := h.inv.good.srt
  have hJ1 : Jn R N (n + 1) (u + s.size) (writeT T false (besN q) s) := by
    refine ⟨hI, by rw [write_room, h.room], h.rle, fun f hf => ?_, ?_⟩
    · rw [hl] at hf
      rcases mem_put.1 hf with rfl | hf
      · exact hb
      · exact h.names f hf.1
    · rw [hl]
      have p1 := (put_used hsrt ⟨besN q, s, T.clock + 1⟩).1
      have := h.used
      simp only at p1
      omega
  have hf1 : findF (writeT T false (besN q) s).l (besN q) = some ⟨besN q, s, T.clock + 1⟩ := by
    rw [hl]
    exact find_put hsrt ⟨besN q, s, T.clock + 1⟩
  have hblk := hJ1.free hN hq (besN q)
  have hre : renameE (writeT T false (besN q) s) (besN q) q = 0 := by
    unfold renameE
    rw [hf1, hN.path q hq, same_false' hne, hblk]
    rfl
  have hrt : renameT (writeT T false (besN q) s) (besN q) q = doneT (writeT T false (besN q) s) ⟨4, besN q, q, 0⟩ := by
    unfold renameT
    rw [if_pos ⟨by rw [hf1]; rfl, hN.path q hq, same_false' hne, hblk⟩]
  have hrl : (renameT (writeT T false (besN q) s) (besN q) q).l = putF (dropF (writeT T false (besN q) s).l (besN q)) ⟨q, s, T.clock + 1⟩ := by
    rw [hrt]
    show afterF _ ⟨4, besN q, q, 0⟩ = _
    show (match findF (writeT T false (besN q) s).l (besN q) with | none => _ | some f => _) = _
    rw [hf1]
  have hI2 := inv_rename hI (besN q) q
  have hsd := srt_drop hI.good.srt (besN q)
  have hds : dropF (writeT T false (besN q) s).l (besN q) = dropF T.l (besN q) := by
    rw [hl]
    have key : ∀ x, x ∈ dropF (putF T.l ⟨besN q, s, T.clock + 1⟩) (besN q) ↔ x ∈ dropF T.l (besN q) := fun x => by
      rw [mem_drop, mem_drop, mem_put]
      constructor
      · rintro ⟨rfl | h1, h2⟩
        · exact absurd rfl h2
        · exact ⟨h1.1, h2⟩
      · rintro ⟨h1, h2⟩
        exact ⟨.inr ⟨h1, h2⟩, h2⟩
    exact srt_eq (srt_drop (srt_put hsrt _) _) (srt_drop hsrt _) key
  have ha : anew1T T q s = syncT (renameT (writeT T false (besN q) s) (besN q) q) := by
    unfold anew1T
    rw [if_pos he, if_pos hre]
  have hal : (anew1T T q s).l = putF (dropF T.l (besN q)) ⟨q, s, T.clock + 1⟩ := by
    rw [ha, ← hds]
    exact hrl
  have hsd0 := srt_drop hsrt (besN q)
  refine ⟨by unfold anew1E; rw [if_pos he]; exact hre, ⟨inv_anew1 h.inv q s (by omega), by rw [anew1_room, h.room], h.rle, fun f hf => ?_, ?_⟩, ?_, ?_, fun p hp hp2 => ?_, by rw [ha]; rfl, by rw [ha]; rfl, he, hre, by rw [ha, hrt, write_done he]; rfl⟩
  · rw [hal] at hf
    rcases mem_put.1 hf with rfl | hf
    · exact hq
    · exact h.names f (mem_drop.1 hf.1).1
  · rw [hal]
    have p1 := (put_used hsd0 ⟨q, s, T.clock + 1⟩).1
    have p2 := used_drop hsrt (besN q)
    have := h.used
    simp only at p1
    omega
  · rw [hal]
    exact text_put hsd0 ⟨q, s, T.clock + 1⟩
  · rw [hal, find_put_ne hsd0 ⟨q, s, T.clock + 1⟩ hne]
    exact find_drop _ _
  · rw [hal, find_put_ne hsd0 ⟨q, s, T.clock + 1⟩ hp]
    exact find_drop_ne hsrt hp2
end
def sel (q : ByteArray) : List (ByteArray × List ByteArray) → List (List ByteArray)
  | [] => []
  | y :: r => if y.1 = q then y.2 :: sel q r else sel q r
theorem sel_lines {q : ByteArray} {ys : List (ByteArray × List ByteArray)} (h : ∀ y ∈ ys, (putV y.2).2 = 0) : Lines (sel q ys) := by
  induction ys with
  | nil => intro l hl; cases hl
  | cons y r ih =>
    have i := ih fun z hz => h z (List.mem_cons_of_mem _ hz)
    intro l hl
    rw [sel] at hl
    split at hl
    · rcases List.mem_cons.1 hl with rfl | hl
      · exact h y (List.mem_cons_self ..)
      · exact i l hl
    · exact i l hl
def ChOf (ys : List (ByteArray × List ByteArray)) (cs : List Cg) : Prop := cs.map (fun c => (c.f0, c.f1, c.f2)) = ys.map (fun y => ((2 : Int), y.1, (putV y.2).1))
theorem ChOf.snoc {ys : List (ByteArray × List ByteArray)} {cs : List Cg} (h : ChOf ys cs) (q : ByteArray) (l : List ByteArray) (t : Int) : ChOf (ys ++ [(q, l)]) (cs ++ [⟨2, q, (putV l).1, t⟩]) := by
  unfold ChOf at h ⊢
  rw [List.map_append, List.map_append, h]
  rfl
theorem ChOf.len {ys : List (ByteArray × List ByteArray)} {cs : List Cg} (h : ChOf ys cs) : cs.length = ys.length := by
  have := congrArg List.length h
  rwa [List.length_map, List.length_map] at this
theorem ChOf.cons {y : ByteArray × List ByteArray} {ys : List (ByteArray × List ByteArray)} {cs : List Cg} (h : ChOf (y :: ys) cs) : ∃ c r, cs = c :: r ∧ c.f0 = 2 ∧ c.f1 = y.1 ∧ c.f2 = (putV y.2).1 ∧ ChOf ys r := by
  cases cs with
  | nil => cases h
  | cons c r =>
    have h : (c.f0, c.f1, c.f2) :: r.map _ = _ :: ys.map _ := h
    injection h with h1 h2
    injection h1 with a1 h1
    injection h1 with a2 a3
    exact ⟨c, r, rfl, a1, a2, a3, h2⟩
theorem after_text {l : List Fl} (hs : Srt l) {c : Cg} (hc : c.f0 = 2) (q : ByteArray) : textF (afterF l c) q = textF l q ++ (if c.f1 = q then c.f2 else e0) := by
  have e : afterF l c = putF l ⟨c.f1, textF l c.f1 ++ c.f2, c.f3⟩ := by
    unfold afterF
    rw [if_neg (by omega), if_pos hc]
  rw [e]
  by_cases h : c.f1 = q
  · subst h
    rw [if_pos rfl]
    exact text_put hs ⟨c.f1, textF l c.f1 ++ c.f2, c.f3⟩
  · rw [if_neg h, app_e0]
    exact text_put_ne hs ⟨c.f1, textF l c.f1 ++ c.f2, c.f3⟩ (fun e => h e.symm)
theorem fold_text (q : ByteArray) : ∀ (ys : List (ByteArray × List ByteArray)) (cs : List Cg) (l : List Fl) (xs : List (List ByteArray)), Srt l → ChOf ys cs → textF l q = cat xs e0 → textF (foldF l cs) q = cat (xs ++ sel q ys) e0 := by
  intro ys
  induction ys with
  | nil =>
    intro cs l xs hs h hx
    have : cs = [] := List.length_eq_zero_iff.1 h.len
    subst this
    rw [sel, List.append_nil]
    exact hx
  | cons y r ih =>
    intro cs l xs hs h hx
    obtain ⟨c, cr, rfl, h0, h1, h2, h3⟩ := h.cons
    have ht := after_text hs h0 q
    show textF (foldF (afterF l c) cr) q = _
    rw [h1, h2, hx] at ht
    rw [sel]
    by_cases e : y.1 = q
    · rw [if_pos e, ← cat_snoc] at ht
      rw [if_pos e, ih cr _ (xs ++ [y.2]) (srt_after hs c) h3 ht, List.append_assoc]
      rfl
    · rw [if_neg e, app_e0] at ht
      rw [if_neg e]
      exact ih cr _ xs (srt_after hs c) h3 ht
structure Jl (R : Nat) (N : List ByteArray) (n u : Nat) (T : TS) (X : ByteArray → List (List ByteArray)) (ys : List (ByteArray × List ByteArray)) : Prop where
  jn : Jn R N n u T
  last : ∀ q, textF T.last q = cat (X q) e0
  srt : Srt T.last
  xl : ∀ q, Lines (X q)
  ch : ChOf ys T.ch
  yl : ∀ y ∈ ys, (putV y.2).2 = 0
section
variable {R : Nat} {N : List ByteArray} {n u : Nat} {T : TS} {X : ByteArray → List (List ByteArray)} {ys : List (ByteArray × List ByteArray)}
theorem jl_new {R : Nat} (h1 : 1 ≤ R) (h2 : R ≤ 2000000) (N : List ByteArray) : Jl R N 0 0 (newT R) (fun _ => []) [] := ⟨jn_new h1 h2 N, fun q => rfl, List.Pairwise.nil, fun q l hl => (by cases hl), rfl, fun y hy => (by cases hy)⟩
theorem Jl.mono {n' u' : Nat} (h : Jl R N n u T X ys) (h1 : n ≤ n') (h2 : u ≤ u') : Jl R N n' u' T X ys := { h with jn := h.jn.mono h1 h2 }
theorem Jl.lines (h : Jl R N n u T X ys) (q : ByteArray) : Lines (X q ++ sel q ys) := fun l hl => (List.mem_append.1 hl).elim (h.xl q l) (sel_lines h.yl l)
theorem Jl.now (h : Jl R N n u T X ys) (q : ByteArray) : textF T.l q = cat (X q ++ sel q ys) e0 := by
  rw [← h.jn.inv.fold]
  exact fold_text q ys _ _ (X q) h.srt h.ch (h.last q)
theorem Jl.add (hN : NS N) (h : Jl R N n u T X ys) {q : ByteArray} (hq : q ∈ N) (hb : besN q ∈ N) {l : List ByteArray} (hl : (putV l).2 = 0) {b : Nat} (hs : (putV l).1.size ≤ b) (hu : u + b ≤ R) :
    addE T q l = 0 ∧ Jl R N (n + 1) (u + b) (addT T q l) X (ys ++ [(q, l)]) ∧ (addT T q l).last = T.last := by
  obtain ⟨a1, a2, a3, a4, a5⟩ := h.jn.append hN (q := q) (s := (putV l).1) hq (by omega)
  have e1 : addE T q l = 0 := by
    unfold addE
    rw [hN.path _ hb, if_neg (by decide), if_pos hl, a1]
  have e2 : addT T q l = writeT T true q (putV l).1 := by
    unfold addT
    rw [hN.path _ hb, if_neg (by decide), if_pos hl]
  rw [e2]
  refine ⟨e1, ⟨a2.mono (Nat.le_refl _) (by omega), ?_, ?_, h.xl, ?_, ?_⟩, ?_⟩
  · rw [a5]
    exact h.last
  · rw [a5]
    exact h.srt
  · rw [a5]
    exact h.ch.snoc q l _
  · intro y hy
    rcases List.mem_append.1 hy with hy | hy
    · exact h.yl y hy
    · rw [List.mem_singleton.1 hy]
      exact hl
  · rw [a5]
    rfl
theorem open_dec (hN : NS N) (h : Jn R N n u T) {q : ByteArray} (hq : q ∈ N) (hb : besN q ∈ N) (hne : besN q ≠ q) {xs : List (List ByteArray)} {r : ByteArray} (hd : Dec (textF T.l q) xs r) (hu : r.size ≠ 0 → u + u ≤ R) :
    openE T q = 0 ∧ openL T q = xs ∧ Jn R N (n + 4) (u + u) (openT T q) ∧ (r.size = 0 → Jn R N (n + 4) u (openT T q)) ∧ textF (openT T q).l q = cat xs e0 ∧ findF (openT T q).l (besN q) = none ∧
      (∀ p, p ≠ q → p ≠ besN q → findF (openT T q).l p = findF T.l p) ∧ (openT T q).ch = [] ∧ (openT T q).last = (openT T q).l := by
  obtain ⟨r1, r2, r3⟩ := h.remove (besN q)
  have ht : textF (removeT T (besN q)).l q = textF T.l q := text_find (r2 q (fun e => hne e.symm))
  have hd2 := hd
  rw [← ht] at hd2
  have hrl : readL (removeT T (besN q)) q = xs := by
    unfold readL
    rw [read_text, hd2.scan]
  have hrw : readW (removeT T (besN q)) q = decide (r.size = 0) := by
    unfold readW
    rw [read_text]
    exact hd2.whole
  have hpb := hN.path _ hb
  have hE : openE T q = if r.size = 0 then 0 else anewE (removeT T (besN q)) q xs := by
    unfold openE
    rw [hpb, if_neg (by decide), hrl, hrw]
    by_cases hr : r.size = 0
    · rw [if_pos hr, if_pos (decide_eq_true hr)]
    · rw [if_neg hr, if_neg (by rw [decide_eq_false hr]; decide)]
  have hT : openT T q = if r.size = 0 then syncT (removeT T (besN q)) else anewT (removeT T (besN q)) q xs := by
    unfold openT
    rw [hpb, if_neg (by decide), hrl, hrw]
    by_cases hr : r.size = 0
    · rw [if_pos hr, if_pos (decide_eq_true hr)]
    · rw [if_neg hr, if_neg (by rw [decide_eq_false hr]; decide)]
  by_cases hr : r.size = 0
  · rw [if_pos hr] at hE hT
    have hL : openL T q = xs := by unfold openL; rw [if_pos hE, hrl]
    rw [hT]
    refine ⟨hE, hL, (r1.sync).mono (by omega) (by omega), fun _ => (r1.sync).mono (by omega) (Nat.le_refl u), ?_, r3, fun p hp hp2 => r2 p hp2, rfl, rfl⟩
    show textF (removeT T (besN q)).l q = _
    rw [ht, hd.eq, size_e0 hr]
  · rw [if_neg hr] at hE hT
    have hu := hu hr
    have hcs : (cat xs e0).size ≤ u := by
      have h1 := hd.size
      have h2 := had_le T.l q
      have h3 := h.used
      omega
    obtain ⟨a1, a2, a3, a4, a5, a6, a7, -⟩ := r1.anew1 hN (s := cat xs e0) hq hb hne (by omega)
    have hE2 : anewE (removeT T (besN q)) q xs = 0 := by
      unfold anewE
      rw [hpb, if_neg (by decide), putAll_ok hd.ok, if_pos rfl]
      exact a1
    have hT2 : anewT (removeT T (besN q)) q xs = anew1T (removeT T (besN q)) q (cat xs e0) := by
      unfold anewT
      rw [hpb, if_neg (by decide), putAll_ok hd.ok, if_pos rfl]
    rw [hE2] at hE
    rw [hT2] at hT
    have hL : openL T q = xs := by unfold openL; rw [if_pos hE, hrl]
    rw [hT]
    exact ⟨hE, hL, a2.mono (by omega) (by omega), fun e => absurd e hr, a3, a4, fun p hp hp2 => (a5 p hp hp2).trans (r2 p hp2), a6, a7⟩
theorem Jl.of (h : Jn R N n u T) (hc : T.ch = []) (hl : T.last = T.l) (hx : ∀ q, textF T.l q = cat (X q) e0) (hxl : ∀ q, Lines (X q)) : Jl R N n u T X [] :=
  ⟨h, fun q => by rw [hl]; exact hx q, by rw [hl]; exact h.inv.good.srt, hxl, by rw [hc]; rfl, fun y hy => (by cases hy)⟩
end
end Go.Proofs.YtghbaehbgefpaaaGreatDoor.Fr
namespace Go.Proofs.YtghbaehbgefpaaaGreatDoor.Fr
open Go.RowKit Go.Proofs.YtghbaehbgefpaaaGreatDoor.F Go.Proofs.YtghbaehbgefpaaaGreatDoorW.PrintWords
open Go.Proofs.YtghbaehbgefpaaaGreatDoor.Hand (putV takeV scanV)
open Go.Proofs.YtghbaehbgefpaaaGreatDoor.PureL (cat cat_app cat_behind cat_size put_of line_len putV_size)
theorem ns_of {N : List ByteArray} (h1 : (N.all fun a => N.all fun b => !wayF a b) = true) (h2 : N.all pathV = true) (h3 : N.length ≤ 100) : NS N where
  way := fun a ha b hb => by
    have := List.all_eq_true.1 (List.all_eq_true.1 h1 a ha) b hb
    simpa using this
  path := fun a ha => List.all_eq_true.1 h2 a ha
  many := h3
def at1 (q : ByteArray) (xs : List (List ByteArray)) : ByteArray → List (List ByteArray) := fun p => if p = q then xs else []
theorem sel_own (q : ByteArray) (ys : List (List ByteArray)) : sel q (ys.map fun y => (q, y)) = ys := by
  induction ys with
  | nil => rfl
  | cons y r ih => rw [List.map_cons, sel, if_pos rfl, ih]
theorem sel_not {q p : ByteArray} (h : q ≠ p) (ys : List (List ByteArray)) : sel p (ys.map fun y => (q, y)) = [] := by
  induction ys with
  | nil => rfl
  | cons y r ih => rw [List.map_cons, sel, if_neg h, ih]
structure J1 (R : Nat) (N : List ByteArray) (q : ByteArray) (n u : Nat) (T : TS) (xs ys : List (List ByteArray)) : Prop where
  jl : Jl R N n u T (at1 q xs) (ys.map fun y => (q, y))
section
variable {R : Nat} {N : List ByteArray} {q : ByteArray} {n u : Nat} {T : TS} {xs ys : List (List ByteArray)}
theorem j1_new {R : Nat} (h1 : 1 ≤ R) (h2 : R ≤ 2000000) (N : List ByteArray) (q : ByteArray) : J1 R N q 0 0 (newT R) [] [] := ⟨{ jl_new h1 h2 N with
  last := fun p => by
    have : at1 q [] p = [] := by unfold at1; split <;> rfl
    rw [this]
    exact (jl_new h1 h2 N).last p
  xl := fun p => by
    have : at1 q [] p = [] := by unfold at1; split <;> rfl
    rw [this]
    exact fun l hl => by cases hl }⟩
theorem J1.mono {n' u' : Nat} (h : J1 R N q n u T xs ys) (h1 : n ≤ n') (h2 : u ≤ u') : J1 R N q n' u' T xs ys := ⟨h.jl.mono h1 h2⟩
theorem J1.inv (h : J1 R N q n u T xs ys) : Inv n T := h.jl.jn.inv
theorem J1.room (h : J1 R N q n u T xs ys) : T.room ≤ 2000000 := by have := h.jl.jn.rle; rw [h.jl.jn.room]; omega
theorem J1.add (hN : NS N) (h : J1 R N q n u T xs ys) (hq : q ∈ N) (hb : besN q ∈ N) {l : List ByteArray} (hl : (putV l).2 = 0) {b : Nat} (hs : (putV l).1.size ≤ b) (hu : u + b ≤ R) :
    addE T q l = 0 ∧ J1 R N q (n + 1) (u + b) (addT T q l) xs (ys ++ [l]) := by
  obtain ⟨h1, h2, h3⟩ := h.jl.add hN hq hb hl hs hu
  refine ⟨h1, ⟨?_⟩⟩
  rw [List.map_append]
  exact h2
theorem J1.lines (h : J1 R N q n u T xs ys) : Lines (xs ++ ys) := by
  have := h.jl.lines q
  unfold at1 at this
  rw [if_pos rfl, sel_own] at this
  exact this
theorem J1.now (h : J1 R N q n u T xs ys) : textF T.l q = cat (xs ++ ys) e0 := by
  have := h.jl.now q
  unfold at1 at this
  rw [if_pos rfl, sel_own] at this
  exact this
end
theorem line_small {l : List ByteArray} {m : Nat} (h : ∀ x ∈ l, x.size ≤ m) (h1 : 1 ≤ l.length) (h2 : l.length ≤ 40) (h3 : (3 * m + 2) * l.length + 9 ≤ 13000) :
    (putV l).2 = 0 ∧ (putV l).1.size ≤ (3 * m + 2) * l.length + 9 ∧ 9 ≤ (putV l).1.size := by
  have hb := Hand.bodyL_len m l h
  have hl := line_len l
  have h0 := put_of h1 h2 (by omega)
  have hz : (putV l).2 = 0 := by rw [h0]
  have := putV_size hz
  exact ⟨hz, by omega, by omega⟩
def bB : ByteArray := ⟨#[98]⟩
def bnB : ByteArray := ⟨#[98, 46, 110, 101, 119]⟩
theorem bes_b : besN bB = bnB := by kernel_rfl
def bN : List ByteArray := [bB, bnB]
theorem ns_b : NS bN := ns_of (by kernel_rfl) (by kernel_rfl) (by decide)
theorem b_mem : bB ∈ bN := List.mem_cons_self ..
theorem bn_mem : besN bB ∈ bN := by rw [bes_b]; exact List.mem_cons_of_mem _ (List.mem_cons_self ..)
theorem bn_ne : besN bB ≠ bB := by
  rw [bes_b]
  intro e
  have := congrArg ByteArray.size e
  exact absurd this (by decide)
structure SB (R n u : Nat) (T : TS) (l : List ByteArray) (k : Nat) : Prop where
  ex : ∃ xs ys, J1 R bN bB n u T xs ys ∧ xs ++ ys = l.map (fun x => [x]) ∧ xs.length = k
  nd : l.Nodup
section
variable {R n u k : Nat} {T : TS} {l : List ByteArray} {t : ByteArray}
theorem sb_new {R : Nat} (h1 : 1 ≤ R) (h2 : R ≤ 2000000) : SB R 0 0 (newT R) [] 0 := ⟨⟨[], [], j1_new h1 h2 _ _, rfl, rfl⟩, List.Pairwise.nil⟩
theorem SB.inv (h : SB R n u T l k) : Inv n T := by obtain ⟨xs, ys, h, -⟩ := h.ex; exact h.inv
theorem SB.room (h : SB R n u T l k) : T.room ≤ 2000000 := by obtain ⟨xs, ys, h, -⟩ := h.ex; exact h.room
theorem SB.mono {n' u' : Nat} (h : SB R n u T l k) (h1 : n ≤ n') (h2 : u ≤ u') : SB R n' u' T l k := by
  obtain ⟨⟨xs, ys, h, e⟩, hd⟩ := h
  exact ⟨⟨xs, ys, h.mono h1 h2, e⟩, hd⟩
theorem SB.id (h : SB R n u T l k) (t : ByteArray) {b : Nat} (hb : 3 * t.size + 11 ≤ b) (hb2 : b ≤ 13000) (hu : u + b ≤ R) :
    idE T bB l t = 0 ∧ SB R (n + 1) (u + b) (idT T bB l t) (idL T bB l t) k ∧ idL T bB l t = (if idxB l t ≠ 0 then l else l ++ [t]) ∧ idN T bB l t = ((if idxB l t ≠ 0 then idxB l t else l.length + 1 : Nat) : Int) := by
  unfold idE idT idL idN
  by_cases h0 : idxB l t ≠ 0
  · rw [if_pos h0, if_pos h0, if_pos h0, if_pos h0, if_pos h0, if_pos h0]
    exact ⟨rfl, h.mono (Nat.le_succ _) (Nat.le_add_right _ _), rfl, rfl⟩
  · rw [if_neg h0, if_neg h0, if_neg h0, if_neg h0, if_neg h0, if_neg h0]
    obtain ⟨hl, hs, -⟩ := line_small (l := [t]) (m := t.size) (fun x hx => by rw [List.mem_singleton.1 hx]; exact Nat.le_refl _) (Nat.le_refl 1) (show (1 : Nat) ≤ 40 by decide) (by show (3 * t.size + 2) * 1 + 9 ≤ 13000; omega)
    have hs2 : (putV [t]).1.size ≤ b := by
      have : (3 * t.size + 2) * [t].length = 3 * t.size + 2 := by show (3 * t.size + 2) * 1 = _; omega
      omega
    obtain ⟨⟨xs, ys, hj, e, hk⟩, hd⟩ := h
    obtain ⟨h1, h2⟩ := hj.add ns_b b_mem bn_mem hl hs2 hu
    rw [h1, if_pos rfl, if_pos rfl]
    refine ⟨rfl, ⟨⟨xs, ys ++ [[t]], h2, by rw [← List.append_assoc, e, List.map_append]; rfl, hk⟩, ?_⟩, rfl, rfl⟩
    rw [List.nodup_append]
    refine ⟨hd, List.pairwise_singleton _ _, fun a ha b hb e2 => ?_⟩
    rw [List.mem_singleton.1 hb] at e2
    exact idx_zero.1 (Classical.not_not.1 h0) (e2 ▸ ha)
theorem SB.opens (h : SB R n u T l k) : openE T bB = 0 ∧ openL T bB = l.map (fun x => [x]) ∧ SB R (n + 4) u (openT T bB) l l.length := by
  obtain ⟨⟨xs, ys, hj, e, -⟩, hd⟩ := h
  have hn := hj.now
  rw [e] at hn
  have hln := hj.lines
  rw [e] at hln
  have hdec : Dec (textF T.l bB) (l.map fun x => [x]) e0 := by rw [hn]; exact dec_cat hln
  obtain ⟨h1, h2, -, h3, h4, h5, h6, h7, h8⟩ := open_dec ns_b hj.jl.jn b_mem bn_mem bn_ne hdec (fun h => absurd rfl h)
  refine ⟨h1, h2, ⟨⟨l.map fun x => [x], [], ⟨?_⟩, List.append_nil _, List.length_map _⟩, hd⟩⟩
  refine Jl.of (h3 rfl) h7 h8 (fun p => ?_) fun p => ?_
  · unfold at1
    by_cases hp : p = bB
    · rw [if_pos hp, hp]
      exact h4
    · rw [if_neg hp]
      by_cases hp2 : p = besN bB
      · rw [hp2]
        unfold textF
        rw [h5]
        rfl
      · rw [text_find (h6 p hp hp2), hj.jl.now p]
        unfold at1
        rw [if_neg hp, sel_not (fun e => hp e.symm)]
        rfl
  · unfold at1
    by_cases hp : p = bB
    · rw [if_pos hp]
      exact hln
    · rw [if_neg hp]
      exact fun l hl => by cases hl
end
end Go.Proofs.YtghbaehbgefpaaaGreatDoor.Fr
namespace Go.Proofs.YtghbaehbgefpaaaGreatDoor.Fr
open Go.RowKit Go.Proofs.YtghbaehbgefpaaaGreatDoor.F Go.Proofs.YtghbaehbgefpaaaGreatDoorW.PrintWords Go.Maps
open Go.Proofs.YtghbaehbgefpaaaGreatDoor.Hand (putV takeV scanV)
structure LS (w : World) (K : Nat → Prop) (m : Nat) (L : List (Nat × TS)) (Tm : TS) (V : List Vw) (s p : Nat) (nm : ByteArray) (l : List ByteArray) (W : World) : Prop where
  law : Law w K m L Tm V W
  st : StS K L m Tm s p nm l W
section
variable {w W W' : World} {K : Nat → Prop} {m s p n u k R : Nat} {L L' : List (Nat × TS)} {T Tm Tm' : TS} {V : List Vw} {nm : ByteArray} {l l' : List ByteArray} {t : ByteArray}
theorem StS.sts (h : StS K L m Tm s p nm l W) : Sts K L m Tm W := by
  obtain ⟨v, b, D, h⟩ := h
  exact h.sts.drop fun k hk => .inl hk
theorem LS.to (h : Law w K m L Tm V W) (hs : StS K L' m Tm' s p nm l W') (hk : Kp K W W') : LS w K m L' Tm' V s p nm l W' := ⟨h.step hs.sts hk, hs⟩
theorem LS.step (h : LS w K m L Tm V s p nm l W) (hs : StS K L' m Tm' s p nm l' W') (hk : Kp K W W') : LS w K m L' Tm' V s p nm l' W' := LS.to h.law hs hk
theorem LS.below (h : LS w K m L Tm V s p nm l W) (hb : Below W.heap.size W W') : LS w K m L Tm V s p nm l W' := h.step (h.st.below hb) (Kp.of hb)
theorem LS.bel (h : LS w K m L Tm V s p nm l W) : Below w.heap.size w W := h.law.bel
theorem Law.bOpen (h : Law w K m [(p, T)] Tm V W) (hJ : SB R n u T l k) (hn : n + 4 ≤ 1000000) (hs : ∀ x ∈ l, x.size ≤ 100000) (hll : l.length ≤ 900000) :
    Calls Tryz.prog 10 #[.pointer (some ⟨p, 0, none⟩), .string bB] W fun e W' => ∃ s, e = .returned (.tuple #[.pointer (some ⟨s, 0, none⟩), .int .i64 0]) ∧ LS w K m [(p, openT T bB)] Tm V s p bB l W' := by
  obtain ⟨h1, h2, h3⟩ := hJ.opens
  refine (h.sts.bOpen (i := 0) rfl h.gk hJ.inv hn hJ.room bB (by decide) h1 l h2 hJ.nd hs hll).mono ?_
  rintro e W' ⟨s, rfl, hs, hk⟩
  exact ⟨s, rfl, LS.to h hs hk⟩
def idn (l : List ByteArray) (t : ByteArray) : Nat := if idxB l t ≠ 0 then idxB l t else l.length + 1
def idl (l : List ByteArray) (t : ByteArray) : List ByteArray := if idxB l t ≠ 0 then l else l ++ [t]
theorem LS.Id (h : LS w K m [(p, T)] Tm V s p bB l W) (hJ : SB R n u T l k) (hn : n ≤ 1000000) (hl : l.length ≤ 1000000) (t : ByteArray) (ht : t.size ≤ 4000) {b : Nat} (hb : 3 * t.size + 11 ≤ b) (hb2 : b ≤ 13000) (hu : u + b ≤ R) :
    ∃ T', SB R (n + 1) (u + b) T' (idl l t) k ∧ Calls Tryz.prog 11 #[.pointer (some ⟨s, 0, none⟩), .string t] W fun e W' => e = .returned (.tuple #[.int .i64 (idn l t : Nat), .int .i64 0]) ∧ LS w K m [(p, T')] Tm V s p bB (idl l t) W' := by
  obtain ⟨h1, h2, h3, h4⟩ := hJ.id t hb hb2 hu
  rw [h3] at h2
  refine ⟨idT T bB l t, h2, ?_⟩
  have hc := h.st.Id (i := 0) rfl h.law.gk hJ.inv hn (by decide) t (by omega) hl
  rw [h1, h3, h4] at hc
  refine hc.mono ?_
  rintro e W' ⟨rfl, hs, hk⟩
  exact ⟨rfl, h.step hs hk⟩
theorem LS.Len (h : LS w K m L Tm V s p nm l W) :
    Calls Tryz.prog 14 #[.pointer (some ⟨s, 0, none⟩)] W fun e W' => e = .returned (.int .i64 (l.length : Nat)) ∧ LS w K m L Tm V s p nm l W' ∧ Below W.heap.size W W' := by
  obtain ⟨v, b, D, hb⟩ := h.st
  exact (len_call hb.at_).mono fun e W' ⟨h1, h2⟩ => ⟨h1, h.below h2, h2⟩
theorem LS.Text (h : LS w K m L Tm V s p nm l W) (hl : l.length ≤ 1000000) (i : Int) :
    Calls Tryz.prog 12 #[.pointer (some ⟨s, 0, none⟩), .int .i64 i] W fun e W' => e = .returned (.tuple #[.string (textN l i).1, .bool (textN l i).2]) ∧ LS w K m L Tm V s p nm l W' ∧ Below W.heap.size W W' := by
  obtain ⟨v, b, D, hb⟩ := h.st
  exact (text_call hb.at_ hl i).mono fun e W' ⟨h1, h2⟩ => ⟨h1, h.below h2, h2⟩
end
def shA : ByteArray := ⟨#[97]⟩
def shB : ByteArray := ⟨#[98]⟩
section
variable {w : World}
set_option maxHeartbeats 8000000 in
set_option maxRecDepth 100000 in
theorem shown7_call (hG : Hand2.Glob w) : Calls Tryz.prog 8 #[] w fun e w' => e = .returned (.bool true) ∧ Below w.heap.size w w' := by
  have HG := Lib.hid hG
  clear hG
  go_enter Tryz.func8, Tryz.ntmps8
  go_upto_region 2 with (first | (go_at_call 9; refine (begun7_sts w 1000 (by decide) (by decide)).mono ?_; rintro e w1 ⟨p, m, rfl, hs, hb⟩; have HL0' := Lib.hid (law_begun7 HG.out (Below.refl _ w) hs hb); clear hs hb))
  obtain ⟨b, hbz⟩ : ∃ b, w1.heap.size = b := ⟨_, rfl⟩
  obtain ⟨K, hK⟩ : ∃ K : Nat → Prop, K = fun k => k < w.heap.size ∨ k = b := ⟨_, rfl⟩
  have HL0 : Hid (Law w K m [(p, newT 1000)] (newT 1000) [PBox7 p m b] (w1.alloc (.cells #[.pointer (some ⟨p, 0, none⟩), .pointer (some ⟨m, 0, none⟩)] 27))) := by rw [hK, ← hbz]; exact HL0'.out
  clear HL0' hK
  rw [hbz]
  generalize w1.alloc (.cells #[.pointer (some ⟨p, 0, none⟩), .pointer (some ⟨m, 0, none⟩)] 27) = W0 at HL0 ⊢
  clear hbz
  obtain ⟨c0, c1⟩ := (HL0.out.va 0 rfl : PBox7 p m b _).cells
  have HJ0 : Hid (SB 1000 0 0 (newT 1000) [] 0) := sb_new (by decide) (by decide)
  go_upto_region 5 with (go_at_call 10; refine (HL0.out.bOpen HJ0.out (by decide) (fun x hx => by cases hx) (by decide)).mono ?_; rintro e w2 ⟨s, rfl, hl⟩; have HL1 := Lib.hid hl; clear hl)
  have HJ1 := Lib.hid HJ0.out.opens.2.2
  clear c0 c1 HL0 HJ0
  generalize openT (newT 1000) bB = T1 at HL1 HJ1
  go_upto_region 7 with fail
  obtain ⟨T2, hj2, hc2⟩ := HL1.out.Id HJ1.out (by decide) (by decide) shA (by decide) (b := 14) (by decide) (by decide) (by decide)
  rw [show idn [] shA = 1 from by decide +kernel, show idl [] shA = [shA] from by decide +kernel] at hc2
  rw [show idl [] shA = [shA] from by decide +kernel] at hj2
  have HC2 := Lib.hid hc2
  have HJ2 := Lib.hid hj2
  clear hc2 hj2
  go_upto_region 8 with (go_at_call 11; refine HC2.out.mono ?_; rintro e w2 ⟨rfl, hl⟩; have HL2 := Lib.hid hl; clear hl)
  obtain ⟨T3, hj3, hc3⟩ := HL2.out.Id HJ2.out (by decide) (by decide) shB (by decide) (b := 14) (by decide) (by decide) (by decide)
  rw [show idn [shA] shB = 2 from by decide +kernel, show idl [shA] shB = [shA, shB] from by decide +kernel] at hc3
  rw [show idl [shA] shB = [shA, shB] from by decide +kernel] at hj3
  have HC3 := Lib.hid hc3
  have HJ3 := Lib.hid hj3
  clear hc3 hj3
  go_upto_region 9 with (go_at_call 11; refine HC3.out.mono ?_; rintro e w3 ⟨rfl, hl⟩; have HL3 := Lib.hid hl; clear hl)
  obtain ⟨T4, hj4, hc4⟩ := HL3.out.Id HJ3.out (by decide) (by decide) shA (by decide) (b := 14) (by decide) (by decide) (by decide)
  rw [show idn [shA, shB] shA = 1 from by decide +kernel, show idl [shA, shB] shA = [shA, shB] from by decide +kernel] at hc4
  rw [show idl [shA, shB] shA = [shA, shB] from by decide +kernel] at hj4
  have HC4 := Lib.hid hc4
  have HJ4 := Lib.hid hj4
  clear hc4 hj4
  go_upto_region 10 with (go_at_call 11; refine HC4.out.mono ?_; rintro e w4 ⟨rfl, hl⟩; have HL4 := Lib.hid hl; clear hl)
  have ht := HL4.out.Text (by decide) 2
  rw [show textN [shA, shB] 2 = ((⟨#[98]⟩ : ByteArray), true) from by decide +kernel] at ht
  have HT := Lib.hid ht
  clear ht
  go_upto_region 11 with (go_at_call 12; refine HT.out.mono ?_; rintro e w5 ⟨rfl, hl, -⟩; have HL5 := Lib.hid hl; clear hl)
  have hln := HL5.out.Len
  rw [show (([shA, shB].length : Nat) : Int) = 2 from rfl] at hln
  have HLN := Lib.hid hln
  clear hln
  go_wp2_with (go_at_call 14; refine HLN.out.mono ?_; rintro e w6 ⟨rfl, hl, -⟩; have HL6 := Lib.hid hl; clear hl)
  go_ret
  exact ⟨rfl, HL6.out.bel⟩
end
end Go.Proofs.YtghbaehbgefpaaaGreatDoor.Fr
