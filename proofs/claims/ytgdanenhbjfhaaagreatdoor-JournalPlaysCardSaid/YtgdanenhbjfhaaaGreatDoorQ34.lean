import Derived.Test.YtgdanenhbjfhaaaGreatDoorQ33
import Derived.Test.YtgdanenhbjfhaaaGreatDoorQ16
import Derived.Test.YtgdanenhbjfhaaaGreatDoorQ17
/- Several texts of this session in one: the walks of the functions that the laws reach, and what they tell. -/
/- Journals, plain. -/
namespace Go.Proofs.YtgdanenhbjfhaaaGreatDoor.Fr
open Go.RowKit Go.Proofs.YtgdanenhbjfhaaaGreatDoor.F Go.Proofs.YtgdanenhbjfhaaaGreatDoorW.PrintWords
open Go.Proofs.YtgdanenhbjfhaaaGreatDoor.Hand (putV takeV scanV)
set_option linter.unusedVariables false
set_option linter.unusedSimpArgs false
def besN (n : ByteArray) : ByteArray := n ++ (⟨#[46, 110, 101, 119]⟩ : ByteArray)
theorem besN_size (n : ByteArray) : (besN n).size = n.size + 4 := by unfold besN; rw [ByteArray.size_append]; rfl
def putAllA (acc : ByteArray) : List (List ByteArray) → ByteArray × Int
  | [] => (acc, 0)
  | x :: r => if (putV x).2 = 0 then putAllA (acc ++ (putV x).1) r else (⟨#[]⟩, (putV x).2)
def putAll (l : List (List ByteArray)) : ByteArray × Int := putAllA ⟨#[]⟩ l
/-- Add. -/
def addE (T : TS) (n : ByteArray) (l : List ByteArray) : Int := if pathV (besN n) = false then 1 else if (putV l).2 = 0 then writeE T true n (putV l).1 else (putV l).2
def addT (T : TS) (n : ByteArray) (l : List ByteArray) : TS := if pathV (besN n) = false then T else if (putV l).2 = 0 then writeT T true n (putV l).1 else T
/-- Anew, behind put. -/
def anew1E (T : TS) (n s : ByteArray) : Int := if writeE T false (besN n) s = 0 then renameE (writeT T false (besN n) s) (besN n) n else writeE T false (besN n) s
def anew1T (T : TS) (n s : ByteArray) : TS :=
  if writeE T false (besN n) s = 0 then
    if renameE (writeT T false (besN n) s) (besN n) n = 0 then syncT (renameT (writeT T false (besN n) s) (besN n) n) else removeT (renameT (writeT T false (besN n) s) (besN n) n) (besN n)
  else removeT (writeT T false (besN n) s) (besN n)
def anewE (T : TS) (n : ByteArray) (l : List (List ByteArray)) : Int := if pathV (besN n) = false then 1 else if (putAll l).2 = 0 then anew1E T n (putAll l).1 else (putAll l).2
def anewT (T : TS) (n : ByteArray) (l : List (List ByteArray)) : TS := if pathV (besN n) = false then T else if (putAll l).2 = 0 then anew1T T n (putAll l).1 else T
/-- Read. -/
def readL (T : TS) (n : ByteArray) : List (List ByteArray) := (scanV (readT T n).1).1
def readW (T : TS) (n : ByteArray) : Bool := (scanV (readT T n).1).2 == (((readT T n).1.size : Nat) : Int)
/-- Open. -/
def openE (T : TS) (n : ByteArray) : Int := if pathV (besN n) = false then 1 else if readW (removeT T (besN n)) n = true then 0 else anewE (removeT T (besN n)) n (readL (removeT T (besN n)) n)
def openT (T : TS) (n : ByteArray) : TS := if pathV (besN n) = false then T else if readW (removeT T (besN n)) n = true then syncT (removeT T (besN n)) else anewT (removeT T (besN n)) n (readL (removeT T (besN n)) n)
def openL (T : TS) (n : ByteArray) : List (List ByteArray) := if openE T n = 0 then readL (removeT T (besN n)) n else []
/-! ### what stays -/
theorem write_room (T : TS) (st : Bool) (q s : ByteArray) : (writeT T st q s).room = T.room := by unfold writeT; split <;> rfl
theorem remove_room (T : TS) (q : ByteArray) : (removeT T q).room = T.room := by unfold removeT; split <;> rfl
theorem rename_room (T : TS) (a b : ByteArray) : (renameT T a b).room = T.room := by unfold renameT; split <;> rfl
theorem sync_room (T : TS) : (syncT T).room = T.room := rfl
theorem add_room (T : TS) (n : ByteArray) (l : List ByteArray) : (addT T n l).room = T.room := by
  unfold addT
  split
  · rfl
  · split
    · exact write_room _ _ _ _
    · rfl
theorem anew1_room (T : TS) (n s : ByteArray) : (anew1T T n s).room = T.room := by
  unfold anew1T
  split
  · split
    · rw [sync_room, rename_room, write_room]
    · rw [remove_room, rename_room, write_room]
  · rw [remove_room, write_room]
theorem anew_room (T : TS) (n : ByteArray) (l : List (List ByteArray)) : (anewT T n l).room = T.room := by
  unfold anewT
  split
  · rfl
  · split
    · exact anew1_room _ _ _
    · rfl
theorem open_room (T : TS) (n : ByteArray) : (openT T n).room = T.room := by
  unfold openT
  split
  · rfl
  · split
    · rw [sync_room, remove_room]
    · rw [anew_room, remove_room]
theorem inv_syncT {n : Nat} {T : TS} (h : Inv n T) : Inv n (syncT T) := inv_sync h.room h.clock h.good
theorem lineL_le {l : List ByteArray} (h : (putV l).2 = 0) : (putV l).1.size ≤ 13000 := by
  unfold putV at h ⊢
  split
  · exact Nat.zero_le _
  next h1 =>
    split
    · exact Nat.zero_le _
    next h2 =>
      split
      · exact Nat.zero_le _
      next h3 =>
        show (Hand.lineL l).toArray.size ≤ 13000
        rw [List.size_toArray]
        omega
theorem inv_add {n : Nat} {T : TS} (h : Inv n T) (q : ByteArray) (l : List ByteArray) : Inv (n + 1) (addT T q l) := by
  unfold addT
  split
  · exact h.mono (Nat.le_succ n)
  · split
    next h2 => exact inv_write h true (Nat.le_trans (lineL_le h2) (by decide))
    next => exact h.mono (Nat.le_succ n)
theorem inv_anew1 {n : Nat} {T : TS} (h : Inv n T) (q s : ByteArray) (hs : s.size ≤ 1000000000) : Inv (n + 3) (anew1T T q s) := by
  have h1 := inv_write h false (q := besN q) hs
  unfold anew1T
  split
  · have h2 := inv_rename h1 (besN q) q
    split
    · exact (inv_syncT h2).mono (by omega)
    · exact inv_remove h2 _
  · exact (inv_remove h1 _).mono (by omega)
theorem putAllA_size : ∀ (l : List (List ByteArray)) (acc : ByteArray), (putAllA acc l).1.size ≤ acc.size + 13000 * l.length := by
  intro l
  induction l with
  | nil => intro acc; exact Nat.le_refl _
  | cons x r ih =>
    intro acc
    rw [putAllA]
    split
    next h =>
      have h1 := ih (acc ++ (putV x).1)
      have h2 := lineL_le h
      rw [ByteArray.size_append] at h1
      rw [List.length_cons]
      omega
    next => exact Nat.zero_le _
theorem putAll_size (l : List (List ByteArray)) : (putAll l).1.size ≤ 13000 * l.length := by
  have := putAllA_size l ⟨#[]⟩
  have e : (⟨#[]⟩ : ByteArray).size = 0 := rfl
  unfold putAll
  omega
theorem inv_anew {n : Nat} {T : TS} (h : Inv n T) (q : ByteArray) (l : List (List ByteArray)) (hl : l.length ≤ 70000) : Inv (n + 3) (anewT T q l) := by
  unfold anewT
  split
  · exact h.mono (by omega)
  · split
    · exact inv_anew1 h q _ (by have := putAll_size l; omega)
    · exact h.mono (by omega)
theorem scan_many (s : ByteArray) : (scanV s).1.length ≤ s.size + 1 := by
  unfold scanV
  rw [List.length_map]
  exact Hand.scanG_len _ _ _
theorem read_used (T : TS) (q : ByteArray) : (readT T q).1.size ≤ usedF T.l := by
  unfold readT
  cases e : findF T.l q with
  | none => exact Nat.zero_le _
  | some f => exact text_le (mem_of_find e)
theorem readL_many {n : Nat} {T : TS} (h : Inv n T) (q : ByteArray) : ((readL T q).length : Int) ≤ T.room + 1 := by
  have h1 := scan_many (readT T q).1
  have h2 := read_used T q
  have h3 := h.good.used
  unfold readL
  omega
end Go.Proofs.YtgdanenhbjfhaaaGreatDoor.Fr
/- What is read of a text, plain. -/
namespace Go.Proofs.YtgdanenhbjfhaaaGreatDoor.Fr
open Go.RowKit Go.Proofs.YtgdanenhbjfhaaaGreatDoor.F Go.Proofs.YtgdanenhbjfhaaaGreatDoorW.PrintWords
open Go.Proofs.YtgdanenhbjfhaaaGreatDoor.Hand (putV takeV scanV scanG scanP lastE lineL)
open Go.Proofs.YtgdanenhbjfhaaaGreatDoor.PureL (cat cat_app cat_behind cat_size scanV_cat take_inv take_no10 putV_data line_no10 ba_assoc)
set_option linter.unusedVariables false
set_option linter.unusedSimpArgs false
def e0 : ByteArray := ⟨#[]⟩
theorem app_e0 (s : ByteArray) : s ++ e0 = s := ba_eq (by simp [e0, ByteArray.data_append, Array.toList_append])
theorem e0_app (s : ByteArray) : e0 ++ s = s := ba_eq (by simp [e0, ByteArray.data_append, Array.toList_append])
theorem size_e0 {s : ByteArray} (h : s.size = 0) : s = e0 := ba_eq (by
  have : s.data.toList.length = 0 := by rw [Array.length_toList]; exact h
  rw [List.length_eq_zero_iff.1 this]
  rfl)
def Lines (xs : List (List ByteArray)) : Prop := ∀ l ∈ xs, (putV l).2 = 0
/-- A text is the lines of xs, and what is behind: it begins with none. -/
structure Dec (s : ByteArray) (xs : List (List ByteArray)) (r : ByteArray) : Prop where
  ok : Lines xs
  tl : (takeV r).2.2 ≠ 0
  eq : s = cat xs r
theorem take_e0 : (takeV e0).2.2 ≠ 0 := take_no10 (by intro c hc; cases hc)
theorem Dec.scan {s : ByteArray} {xs : List (List ByteArray)} {r : ByteArray} (h : Dec s xs r) : scanV s = (xs, ((cat xs e0).size : Int)) := by
  rw [h.eq]
  exact scanV_cat xs r h.ok h.tl
theorem scanG_inv (tot : Nat) : ∀ (f : Nat) (u : ByteArray), u.size < f → ∃ r, Dec u ((scanG tot f u).map (·.1)) r := by
  intro f
  induction f with
  | zero => intro u h; omega
  | succ f ih =>
    intro u h
    rw [scanG]
    split
    next ht =>
      obtain ⟨h1, h2⟩ := take_inv ht
      have h3 := Hand.take_rest ht
      obtain ⟨r, hr⟩ := ih (takeV u).2.1 (by omega)
      refine ⟨r, ?_, hr.tl, ?_⟩
      · intro l hl
        rw [List.map_cons] at hl
        rcases List.mem_cons.1 hl with rfl | hl
        · exact h1
        · exact hr.ok l hl
      · rw [List.map_cons]
        show u = (putV (takeV u).1).1 ++ cat _ r
        rw [← hr.eq]
        exact h2.symm
    next ht => exact ⟨u, fun l hl => (by cases hl), ht, rfl⟩
theorem scan_dec (s : ByteArray) : ∃ r, Dec s (scanV s).1 r := scanG_inv s.size (s.size + 1) s (Nat.lt_succ_self _)
theorem Dec.size {s : ByteArray} {xs : List (List ByteArray)} {r : ByteArray} (h : Dec s xs r) : s.size = (cat xs e0).size + r.size := by
  rw [h.eq]
  exact cat_size xs r
theorem Dec.whole {s : ByteArray} {xs : List (List ByteArray)} {r : ByteArray} (h : Dec s xs r) : ((scanV s).2 == ((s.size : Nat) : Int)) = decide (r.size = 0) := by
  rw [h.scan]
  have := h.size
  rw [Bool.eq_iff_iff]
  simp only [beq_iff_eq, decide_eq_true_eq]
  omega
theorem dec_cat {xs : List (List ByteArray)} (h : Lines xs) : Dec (cat xs e0) xs e0 := ⟨h, take_e0, rfl⟩
theorem dec_part {xs : List (List ByteArray)} (h : Lines xs) {r : ByteArray} (hr : ∀ c ∈ r.data.toList, c ≠ 10) : Dec (cat xs r) xs r := ⟨h, take_no10 hr, rfl⟩
theorem cat_snoc (xs : List (List ByteArray)) (l : List ByteArray) : cat (xs ++ [l]) e0 = cat xs e0 ++ (putV l).1 := by
  rw [cat_app, cat_behind]
  show cat xs ((putV l).1 ++ e0) = cat xs (e0 ++ (putV l).1)
  rw [app_e0, e0_app]
theorem putAllA_ok : ∀ (xs : List (List ByteArray)) (acc : ByteArray), Lines xs → putAllA acc xs = (acc ++ cat xs e0, 0) := by
  intro xs
  induction xs with
  | nil => intro acc _; rw [putAllA]; show _ = (acc ++ e0, 0); rw [app_e0]
  | cons x t ih =>
    intro acc h
    rw [putAllA, if_pos (h x (List.mem_cons_self ..)), ih _ (fun l hl => h l (List.mem_cons_of_mem _ hl)), ba_assoc]
    rfl
theorem putAll_ok {xs : List (List ByteArray)} (h : Lines xs) : putAll xs = (cat xs e0, 0) := by
  unfold putAll
  have := putAllA_ok xs ⟨#[]⟩ h
  rw [this]
  show (e0 ++ _, _) = _
  rw [e0_app]
theorem scan_lines (s : ByteArray) : Lines (scanV s).1 := by
  obtain ⟨r, h⟩ := scan_dec s
  exact h.ok
theorem scan_put (s : ByteArray) : (putAll (scanV s).1).2 = 0 ∧ (putAll (scanV s).1).1.size ≤ s.size := by
  obtain ⟨r, h⟩ := scan_dec s
  rw [putAll_ok h.ok]
  have := h.size
  exact ⟨rfl, by show (cat _ e0).size ≤ _; omega⟩
theorem inv_open {n : Nat} {T : TS} (h : Inv n T) (q : ByteArray) (hr : T.room ≤ 2000000) : Inv (n + 4) (openT T q) := by
  have h1 := inv_remove h (besN q)
  unfold openT
  split
  · exact h.mono (by omega)
  · split
    · exact (inv_syncT h1).mono (by omega)
    · unfold anewT
      split
      · exact h1.mono (by omega)
      · split
        · refine inv_anew1 h1 q _ ?_
          have h2 := (scan_put (readT (removeT T (besN q)) q).1).2
          have h3 := read_used (removeT T (besN q)) q
          have h4 := h1.good.used
          have h5 := remove_room T (besN q)
          unfold readL
          omega
        · exact h1.mono (by omega)
/-- A line of which a part is there: nothing, or it has no line feed, or it is whole. -/
theorem line_cut {l : List ByteArray} (h : (putV l).2 = 0) (m : Nat) : (putV l).1.extract 0 m = (putV l).1 ∨ ∀ c ∈ ((putV l).1.extract 0 m).data.toList, c ≠ 10 := by
  by_cases hm : (putV l).1.size ≤ m
  · left
    apply ba_eq
    have e1 : ((putV l).1.extract 0 m).data.toList = ((putV l).1.data.toList).take m := by
      rw [← Hand.ext_take]
    rw [e1]
    exact List.take_of_length_le (by rw [Array.length_toList]; exact hm)
  · right
    obtain ⟨e1, e2⟩ := line_no10 l
    have e3 := putV_data h
    rw [e1] at e3
    intro c hc
    have e4 : ((putV l).1.extract 0 m).data.toList = ((putV l).1.data.toList).take m := by
      rw [← Hand.ext_take]
    rw [e4, e3] at hc
    have hs : (putV l).1.size = (putV l).1.data.toList.length := by rw [Array.length_toList]; rfl
    rw [e3, List.length_append, List.length_singleton] at hs
    rw [List.take_append_of_le_length (by omega)] at hc
    exact e2 c (List.mem_of_mem_take hc)
end Go.Proofs.YtgdanenhbjfhaaaGreatDoor.Fr
/- Journals in a tree with room, plain. -/
namespace Go.Proofs.YtgdanenhbjfhaaaGreatDoor.Fr
open Go.RowKit Go.Proofs.YtgdanenhbjfhaaaGreatDoor.F Go.Proofs.YtgdanenhbjfhaaaGreatDoorW.PrintWords
open Go.Proofs.YtgdanenhbjfhaaaGreatDoor.Hand (putV takeV scanV)
open Go.Proofs.YtgdanenhbjfhaaaGreatDoor.PureL (cat cat_app cat_behind cat_size)
set_option linter.unusedVariables false
set_option linter.unusedSimpArgs false
theorem read_text (T : TS) (q : ByteArray) : (readT T q).1 = textF T.l q := by
  unfold readT textF
  cases findF T.l q <;> rfl
theorem same_false' {a b : ByteArray} (h : a ≠ b) : sameB a b = false := by
  unfold sameB
  cases e : a.data.toList == b.data.toList with
  | false => rfl
  | true => exact absurd (ba_eq (eq_of_beq e)) h
theorem same_self (a : ByteArray) : sameB a a = true := by unfold sameB; exact beq_self_eq_true _
theorem srt_eq {l k : List Fl} (hl : Srt l) (hk : Srt k) (h : ∀ x, x ∈ l ↔ x ∈ k) : l = k := by
  induction l generalizing k with
  | nil =>
    cases k with
    | nil => rfl
    | cons y r => exact absurd ((h y).2 List.mem_cons_self) (by simp)
  | cons x r ih =>
    cases k with
    | nil => exact absurd ((h x).1 List.mem_cons_self) (by simp)
    | cons y s =>
      obtain ⟨h1, h2⟩ := srt_cons.1 hl
      obtain ⟨h3, h4⟩ := srt_cons.1 hk
      have e : x = y := by
        rcases List.mem_cons.1 ((h x).1 List.mem_cons_self) with e | e
        · exact e
        · rcases List.mem_cons.1 ((h y).2 List.mem_cons_self) with e2 | e2
          · exact e2.symm
          · have a1 := h3 x e
            have a2 := h1 y e2
            exact absurd (ltB_trans a2 a1) (ltB_irrefl _)
      subst e
      congr 1
      refine ih h2 h4 fun z => ?_
      constructor
      · intro hz
        rcases List.mem_cons.1 ((h z).1 (List.mem_cons_of_mem _ hz)) with e | e
        · subst e
          exact absurd (h1 z hz) (ltB_irrefl _)
        · exact e
      · intro hz
        rcases List.mem_cons.1 ((h z).2 (List.mem_cons_of_mem _ hz)) with e | e
        · subst e
          exact absurd (h3 z hz) (ltB_irrefl _)
        · exact e
/-- Names of which none is another one's directory, all of them paths. -/
structure NS (N : List ByteArray) : Prop where
  way : ∀ a ∈ N, ∀ b ∈ N, wayF a b = false
  path : ∀ a ∈ N, pathV a = true
  many : N.length ≤ 100
theorem filter_lt {N : List ByteArray} {a : ByteArray} (h : a ∈ N) : (N.filter fun x => !sameB x a).length < N.length := by
  induction N with
  | nil => cases h
  | cons x t ih =>
    have hle : (t.filter fun x => !sameB x a).length ≤ t.length := List.length_filter_le _ _
    rcases List.mem_cons.1 h with rfl | h
    · rw [List.filter_cons, if_neg (by rw [same_self]; decide), List.length_cons]
      omega
    · have := ih h
      rw [List.filter_cons]
      split
      · rw [List.length_cons, List.length_cons]; omega
      · rw [List.length_cons]; omega
theorem len_names : ∀ (l : List Fl) (N : List ByteArray), Srt l → (∀ f ∈ l, f.f0 ∈ N) → l.length ≤ N.length := by
  intro l
  induction l with
  | nil => intro N _ _; exact Nat.zero_le _
  | cons f r ih =>
    intro N hs hn
    obtain ⟨h1, h2⟩ := srt_cons.1 hs
    have hf := hn f (List.mem_cons_self ..)
    have := ih (N.filter fun x => !sameB x f.f0) h2 fun g hg => by
      rw [List.mem_filter]
      refine ⟨hn g (List.mem_cons_of_mem _ hg), ?_⟩
      have hne : g.f0 ≠ f.f0 := fun e => ltB_irrefl f.f0 (by have := h1 g hg; rw [e] at this; exact this)
      rw [same_false' hne]
      rfl
    have := filter_lt hf
    rw [List.length_cons]
    omega
/-- A tree whose files' names are among N; so many bytes. -/
structure Jn (R : Nat) (N : List ByteArray) (n u : Nat) (T : TS) : Prop where
  inv : Inv n T
  room : T.room = (R : Int)
  rle : R ≤ 2000000
  names : ∀ f ∈ T.l, f.f0 ∈ N
  used : usedF T.l ≤ u
theorem Jn.mono {R : Nat} {N : List ByteArray} {n u n' u' : Nat} {T : TS} (h : Jn R N n u T) (h1 : n ≤ n') (h2 : u ≤ u') : Jn R N n' u' T := ⟨h.inv.mono h1, h.room, h.rle, h.names, Nat.le_trans h.used h2⟩
theorem jn_new {R : Nat} (h1 : 1 ≤ R) (h2 : R ≤ 2000000) (N : List ByteArray) : Jn R N 0 0 (newT R) := ⟨inv_new (by omega) (by omega), rfl, h2, fun f hf => (by cases hf), Nat.le_refl _⟩
section
variable {R : Nat} {N : List ByteArray} {n u : Nat} {T : TS}
theorem Jn.many (h : Jn R N n u T) : T.l.length ≤ N.length := len_names _ _ h.inv.good.srt h.names
theorem Jn.free (hN : NS N) (h : Jn R N n u T) {q : ByteArray} (hq : q ∈ N) (but : ByteArray) : blockT T.l q but = false := by
  unfold blockT
  rw [List.any_eq_false]
  intro f hf
  have h1 := hN.way _ (h.names f hf) _ hq
  have h2 := hN.way _ hq _ (h.names f hf)
  unfold testB
  simp [h1, h2]
theorem Jn.write0 (hN : NS N) (hN2 : N.length ≤ 100) (h : Jn R N n u T) {q : ByteArray} (hq : q ∈ N) (st : Bool) (s : ByteArray) (hu : u + s.size ≤ R) : writeE T st q s = 0 := by
  have h1 := had_le T.l q
  have h2 := h.used
  have hrl := h.rle
  have h3 : sizeT T st q s ≤ hadT T q + s.size ∧ (usedF T.l : Int) - hadT T q + sizeT T st q s ≤ usedF T.l + s.size := by
    unfold sizeT hadT
    split <;> omega
  have h4 := h.many
  have h5 : manyT T q ≤ 101 := by
    unfold manyT
    split <;> omega
  have hh : hadT T q = (textF T.l q).size := rfl
  unfold writeE
  rw [hN.path q hq, if_neg (by decide), if_neg (by omega), h.free hN hq, if_neg (by decide), if_neg]
  unfold fullT
  rw [Bool.or_eq_true, decide_eq_true_eq, decide_eq_true_eq, h.room]
  omega
theorem write_done {st : Bool} {q s : ByteArray} (h : writeE T st q s = 0) : writeT T st q s = doneT T (writeC T st q s) := by
  unfold writeT
  rw [if_pos h]
/-- The text of a file, behind a write. -/
theorem write_text0 (hI : Inv n T) {q s : ByteArray} (h : writeE T false q s = 0) : (writeT T false q s).l = putF T.l ⟨q, s, T.clock + 1⟩ := by rw [write_done h]; rfl
theorem write_text1 (hI : Inv n T) {q s : ByteArray} (h : writeE T true q s = 0) : (writeT T true q s).l = putF T.l ⟨q, textF T.l q ++ s, T.clock + 1⟩ := by rw [write_done h]; rfl
theorem text_put {l : List Fl} (h : Srt l) (f : Fl) : textF (putF l f) f.f0 = f.f1 := by unfold textF; rw [find_put h]
theorem text_put_ne {l : List Fl} (h : Srt l) (f : Fl) {q : ByteArray} (hq : q ≠ f.f0) : textF (putF l f) q = textF l q := by unfold textF; rw [find_put_ne h f hq]
theorem Jn.append (hN : NS N) (h : Jn R N n u T) {q s : ByteArray} (hq : q ∈ N) (hu : u + s.size ≤ R) :
    writeE T true q s = 0 ∧ Jn R N (n + 1) (u + s.size) (writeT T true q s) ∧ textF (writeT T true q s).l q = textF T.l q ++ s ∧ (∀ p, p ≠ q → textF (writeT T true q s).l p = textF T.l p ∧ findF (writeT T true q s).l p = findF T.l p) ∧ writeT T true q s = doneT T ⟨2, q, s, T.clock + 1⟩ := by
  have he := h.write0 hN hN.many hq true s hu
  have hl := write_text1 h.inv he
  have hrl := h.rle
  have hsz : s.size ≤ 1000000000 := by omega
  obtain ⟨p1, p2⟩ := put_used h.inv.good.srt ⟨q, textF T.l q ++ s, T.clock + 1⟩
  rw [ByteArray.size_append] at p1
  have hu2 := h.used
  refine ⟨he, ⟨inv_write h.inv true hsz, by rw [write_room, h.room], h.rle, fun f hf => ?_, ?_⟩, ?_, fun p hp => ⟨?_, ?_⟩, ?_⟩
  · rw [hl] at hf
    rcases mem_put.1 hf with rfl | hf
    · exact hq
    · exact h.names f hf.1
  · rw [hl]
    have e : textF T.l ({ f0 := q, f1 := textF T.l q ++ s, f2 := T.clock + 1 } : Fl).f0 = textF T.l q := rfl
    rw [e] at p1
    omega
  · rw [hl]
    exact text_put h.inv.good.srt _
  · rw [hl]
    exact text_put_ne h.inv.good.srt _ hp
  · rw [hl]
    exact find_put_ne h.inv.good.srt _ hp
  · rw [write_done he]
    rfl
theorem remove_if {q : ByteArray} (h : findF T.l q = none) : removeT T q = T := by
  unfold removeT removeE
  rw [h]
  rfl
theorem remove_some {q : ByteArray} (h : (findF T.l q).isSome = true) : removeT T q = doneT T ⟨3, q, ⟨#[]⟩, 0⟩ := by
  unfold removeT removeE
  rw [h]
  rfl
theorem used_drop {l : List Fl} (h : Srt l) (q : ByteArray) : usedF (dropF l q) ≤ usedF l := by
  cases e : findF l q with
  | none => rw [drop_none e]; exact Nat.le_refl _
  | some f => have := (drop_some h e).1; omega
theorem Jn.remove (h : Jn R N n u T) (q : ByteArray) :
    Jn R N (n + 1) u (removeT T q) ∧ (∀ p, p ≠ q → findF (removeT T q).l p = findF T.l p) ∧ findF (removeT T q).l q = none := by
  cases e : findF T.l q with
  | none =>
    rw [remove_if e]
    exact ⟨h.mono (Nat.le_succ n) (Nat.le_refl u), fun p hp => rfl, e⟩
  | some f =>
    have hI := inv_remove h.inv q
    rw [remove_some (by rw [e]; rfl)] at hI ⊢
    have hl : (doneT T ⟨3, q, ⟨#[]⟩, 0⟩).l = dropF T.l q := rfl
    refine ⟨⟨hI, h.room, h.rle, fun g hg => ?_, ?_⟩, fun p hp => ?_, ?_⟩
    · rw [hl] at hg
      exact h.names g (mem_drop.1 hg).1
    · rw [hl]
      exact Nat.le_trans (used_drop h.inv.good.srt q) h.used
    · rw [hl]
      exact find_drop_ne h.inv.good.srt hp
    · rw [hl]
      exact find_drop _ _
theorem Jn.sync (h : Jn R N n u T) : Jn R N n u (syncT T) := ⟨inv_syncT h.inv, h.room, h.rle, h.names, h.used⟩
theorem text_find {l k : List Fl} {q : ByteArray} (h : findF l q = findF k q) : textF l q = textF k q := by unfold textF; rw [h]
/-- Written anew. -/
theorem Jn.anew1 (hN : NS N) (h : Jn R N n u T) {q s : ByteArray} (hq : q ∈ N) (hb : besN q ∈ N) (hne : besN q ≠ q) (hu : u + s.size ≤ R) :
    anew1E T q s = 0 ∧ Jn R N (n + 3) (u + s.size) (anew1T T q s) ∧ textF (anew1T T q s).l q = s ∧ findF (anew1T T q s).l (besN q) = none ∧ (∀ p, p ≠ q → p ≠ besN q → findF (anew1T T q s).l p = findF T.l p) ∧
      (anew1T T q s).ch = [] ∧ (anew1T T q s).last = (anew1T T q s).l ∧ writeE T false (besN q) s = 0 ∧ renameE (writeT T false (besN q) s) (besN q) q = 0 ∧ anew1T T q s = syncT (doneT (doneT T ⟨1, besN q, s, T.clock + 1⟩) ⟨4, besN q, q, 0⟩) := by
  have he := h.write0 hN hN.many hb false s hu
  have hrl := h.rle
  have hI := inv_write h.inv false (q := besN q) (s := s) (by omega)
  have hl := write_text0 h.inv he
  have hsrt := h.inv.good.srt
  have hJ1 : Jn R N (n + 1) (u + s.size) (writeT T false (besN q) s) := by
    refine ⟨hI, by rw [write_room, h.room], h.rle, fun f hf => ?_, ?_⟩
    · rw [hl] at hf
      rcases mem_put.1 hf with rfl | hf
      · exact hb
      · exact h.names f hf.1
    · rw [hl]
      have p1 := (put_used hsrt ⟨besN q, s, T.clock + 1⟩).1
      have := h.used
      simp only at p1
      omega
  have hf1 : findF (writeT T false (besN q) s).l (besN q) = some ⟨besN q, s, T.clock + 1⟩ := by
    rw [hl]
    exact find_put hsrt ⟨besN q, s, T.clock + 1⟩
  have hblk := hJ1.free hN hq (besN q)
  have hre : renameE (writeT T false (besN q) s) (besN q) q = 0 := by
    unfold renameE
    rw [hf1, hN.path q hq, same_false' hne, hblk]
    rfl
  have hrt : renameT (writeT T false (besN q) s) (besN q) q = doneT (writeT T false (besN q) s) ⟨4, besN q, q, 0⟩ := by
    unfold renameT
    rw [if_pos ⟨by rw [hf1]; rfl, hN.path q hq, same_false' hne, hblk⟩]
  have hrl : (renameT (writeT T false (besN q) s) (besN q) q).l = putF (dropF (writeT T false (besN q) s).l (besN q)) ⟨q, s, T.clock + 1⟩ := by
    rw [hrt]
    show afterF _ ⟨4, besN q, q, 0⟩ = _
    show (match findF (writeT T false (besN q) s).l (besN q) with | none => _ | some f => _) = _
    rw [hf1]
  have hI2 := inv_rename hI (besN q) q
  have hsd := srt_drop hI.good.srt (besN q)
  have hds : dropF (writeT T false (besN q) s).l (besN q) = dropF T.l (besN q) := by
    rw [hl]
    have key : ∀ x, x ∈ dropF (putF T.l ⟨besN q, s, T.clock + 1⟩) (besN q) ↔ x ∈ dropF T.l (besN q) := fun x => by
      rw [mem_drop, mem_drop, mem_put]
      constructor
      · rintro ⟨rfl | h1, h2⟩
        · exact absurd rfl h2
        · exact ⟨h1.1, h2⟩
      · rintro ⟨h1, h2⟩
        exact ⟨.inr ⟨h1, h2⟩, h2⟩
    exact srt_eq (srt_drop (srt_put hsrt _) _) (srt_drop hsrt _) key
  have ha : anew1T T q s = syncT (renameT (writeT T false (besN q) s) (besN q) q) := by
    unfold anew1T
    rw [if_pos he, if_pos hre]
  have hal : (anew1T T q s).l = putF (dropF T.l (besN q)) ⟨q, s, T.clock + 1⟩ := by
    rw [ha, ← hds]
    exact hrl
  have hsd0 := srt_drop hsrt (besN q)
  refine ⟨by unfold anew1E; rw [if_pos he]; exact hre, ⟨inv_anew1 h.inv q s (by omega), by rw [anew1_room, h.room], h.rle, fun f hf => ?_, ?_⟩, ?_, ?_, fun p hp hp2 => ?_, by rw [ha]; rfl, by rw [ha]; rfl, he, hre, by rw [ha, hrt, write_done he]; rfl⟩
  · rw [hal] at hf
    rcases mem_put.1 hf with rfl | hf
    · exact hq
    · exact h.names f (mem_drop.1 hf.1).1
  · rw [hal]
    have p1 := (put_used hsd0 ⟨q, s, T.clock + 1⟩).1
    have p2 := used_drop hsrt (besN q)
    have := h.used
    simp only at p1
    omega
  · rw [hal]
    exact text_put hsd0 ⟨q, s, T.clock + 1⟩
  · rw [hal, find_put_ne hsd0 ⟨q, s, T.clock + 1⟩ hne]
    exact find_drop _ _
  · rw [hal, find_put_ne hsd0 ⟨q, s, T.clock + 1⟩ hp]
    exact find_drop_ne hsrt hp2
end
end Go.Proofs.YtgdanenhbjfhaaaGreatDoor.Fr
/- Journals behind a crash, plain. -/
namespace Go.Proofs.YtgdanenhbjfhaaaGreatDoor.Fr
open Go.RowKit Go.Proofs.YtgdanenhbjfhaaaGreatDoor.F Go.Proofs.YtgdanenhbjfhaaaGreatDoorW.PrintWords
open Go.Proofs.YtgdanenhbjfhaaaGreatDoor.Hand (putV takeV scanV)
open Go.Proofs.YtgdanenhbjfhaaaGreatDoor.PureL (cat cat_app cat_behind cat_size)
set_option linter.unusedVariables false
set_option linter.unusedSimpArgs false
/-- The records of a journal among those that were added to some. -/
def sel (q : ByteArray) : List (ByteArray × List ByteArray) → List (List ByteArray)
  | [] => []
  | y :: r => if y.1 = q then y.2 :: sel q r else sel q r
theorem sel_app (q : ByteArray) (a b : List (ByteArray × List ByteArray)) : sel q (a ++ b) = sel q a ++ sel q b := by
  induction a with
  | nil => rfl
  | cons y r ih =>
    rw [List.cons_append, sel, sel, ih]
    split <;> rfl
theorem sel_lines {q : ByteArray} {ys : List (ByteArray × List ByteArray)} (h : ∀ y ∈ ys, (putV y.2).2 = 0) : Lines (sel q ys) := by
  induction ys with
  | nil => intro l hl; cases hl
  | cons y r ih =>
    have i := ih fun z hz => h z (List.mem_cons_of_mem _ hz)
    intro l hl
    rw [sel] at hl
    split at hl
    · rcases List.mem_cons.1 hl with rfl | hl
      · exact h y (List.mem_cons_self ..)
      · exact i l hl
    · exact i l hl
/-- Changes that add these records. -/
def ChOf (ys : List (ByteArray × List ByteArray)) (cs : List Cg) : Prop := cs.map (fun c => (c.f0, c.f1, c.f2)) = ys.map (fun y => ((2 : Int), y.1, (putV y.2).1))
theorem ChOf.nil : ChOf [] [] := rfl
theorem ChOf.snoc {ys : List (ByteArray × List ByteArray)} {cs : List Cg} (h : ChOf ys cs) (q : ByteArray) (l : List ByteArray) (t : Int) : ChOf (ys ++ [(q, l)]) (cs ++ [⟨2, q, (putV l).1, t⟩]) := by
  unfold ChOf at h ⊢
  rw [List.map_append, List.map_append, h]
  rfl
theorem ChOf.len {ys : List (ByteArray × List ByteArray)} {cs : List Cg} (h : ChOf ys cs) : cs.length = ys.length := by
  have := congrArg List.length h
  rwa [List.length_map, List.length_map] at this
theorem ChOf.take {ys : List (ByteArray × List ByteArray)} {cs : List Cg} (h : ChOf ys cs) (k : Nat) : ChOf (ys.take k) (cs.take k) := by
  unfold ChOf at h ⊢
  rw [List.map_take, List.map_take, h]
theorem ChOf.cons {y : ByteArray × List ByteArray} {ys : List (ByteArray × List ByteArray)} {cs : List Cg} (h : ChOf (y :: ys) cs) : ∃ c r, cs = c :: r ∧ c.f0 = 2 ∧ c.f1 = y.1 ∧ c.f2 = (putV y.2).1 ∧ ChOf ys r := by
  cases cs with
  | nil => cases h
  | cons c r =>
    have h : (c.f0, c.f1, c.f2) :: r.map _ = _ :: ys.map _ := h
    injection h with h1 h2
    injection h1 with a1 h1
    injection h1 with a2 a3
    exact ⟨c, r, rfl, a1, a2, a3, h2⟩
theorem ChOf.at {ys : List (ByteArray × List ByteArray)} {cs : List Cg} (h : ChOf ys cs) {k : Nat} (hk : k < ys.length) : ∃ c, cs[k]? = some c ∧ c.f0 = 2 ∧ c.f1 = ys[k].1 ∧ c.f2 = (putV ys[k].2).1 := by
  have hl : k < cs.length := by rw [h.len]; exact hk
  have e : (cs.map (fun c => (c.f0, c.f1, c.f2)))[k]? = (ys.map (fun y => ((2 : Int), y.1, (putV y.2).1)))[k]? := congrArg (·[k]?) h
  rw [List.getElem?_map, List.getElem?_map, List.getElem?_eq_getElem hl, List.getElem?_eq_getElem hk] at e
  injection e with e
  injection e with a1 e
  injection e with a2 a3
  exact ⟨cs[k], List.getElem?_eq_getElem hl, a1, a2, a3⟩
theorem after_text {l : List Fl} (hs : Srt l) {c : Cg} (hc : c.f0 = 2) (q : ByteArray) : textF (afterF l c) q = textF l q ++ (if c.f1 = q then c.f2 else e0) := by
  have e : afterF l c = putF l ⟨c.f1, textF l c.f1 ++ c.f2, c.f3⟩ := by
    unfold afterF
    rw [if_neg (by omega), if_pos hc]
  rw [e]
  by_cases h : c.f1 = q
  · subst h
    rw [if_pos rfl]
    exact text_put hs ⟨c.f1, textF l c.f1 ++ c.f2, c.f3⟩
  · rw [if_neg h, app_e0]
    exact text_put_ne hs ⟨c.f1, textF l c.f1 ++ c.f2, c.f3⟩ (fun e => h e.symm)
theorem fold_text (q : ByteArray) : ∀ (ys : List (ByteArray × List ByteArray)) (cs : List Cg) (l : List Fl) (xs : List (List ByteArray)), Srt l → ChOf ys cs → textF l q = cat xs e0 → textF (foldF l cs) q = cat (xs ++ sel q ys) e0 := by
  intro ys
  induction ys with
  | nil =>
    intro cs l xs hs h hx
    have : cs = [] := List.length_eq_zero_iff.1 h.len
    subst this
    rw [sel, List.append_nil]
    exact hx
  | cons y r ih =>
    intro cs l xs hs h hx
    obtain ⟨c, cr, rfl, h0, h1, h2, h3⟩ := h.cons
    have ht := after_text hs h0 q
    show textF (foldF (afterF l c) cr) q = _
    rw [h1, h2, hx] at ht
    rw [sel]
    by_cases e : y.1 = q
    · rw [if_pos e, ← cat_snoc] at ht
      rw [if_pos e, ih cr _ (xs ++ [y.2]) (srt_after hs c) h3 ht, List.append_assoc]
      rfl
    · rw [if_neg e, app_e0] at ht
      rw [if_neg e]
      exact ih cr _ xs (srt_after hs c) h3 ht
theorem fold_srt : ∀ (cs : List Cg) (l : List Fl), Srt l → Srt (foldF l cs) := by
  intro cs
  induction cs with
  | nil => intro l h; exact h
  | cons c r ih => intro l h; exact ih _ (srt_after h c)
theorem cut_cases {l : List ByteArray} (h : (putV l).2 = 0) (part : Int) (hp : 1 ≤ part) : (cutS (putV l).1 part = (putV l).1 ∧ ((putV l).1.size : Int) ≤ part) ∨ ∀ c ∈ (cutS (putV l).1 part).data.toList, c ≠ 10 := by
  unfold cutS
  rw [if_neg (by omega)]
  by_cases hs : ((putV l).1.size : Int) ≤ part
  · left
    refine ⟨?_, hs⟩
    have e : (min part (((putV l).1.size : Nat) : Int)).toNat = (putV l).1.size := by omega
    rw [e]
    exact ByteArray.extract_zero_size
  · rcases line_cut h (min part (((putV l).1.size : Nat) : Int)).toNat with e | e
    · exfalso
      have := congrArg ByteArray.size e
      rw [ByteArray.size_extract] at this
      omega
    · exact .inr e
/-- Behind a crash each journal has its first records, and perhaps a torn one. -/
theorem crash_dec {T : TS} {ys : List (ByteArray × List ByteArray)} (hs : Srt T.last) (hc : ChOf ys T.ch) (hy : ∀ y ∈ ys, (putV y.2).2 = 0) (many part : Int) :
    ∃ j, keptN many ys.length ≤ j ∧ j ≤ ys.length ∧ (j = keptN many ys.length ∨ ∃ h : keptN many ys.length < ys.length, ((putV ys[keptN many ys.length].2).1.size : Int) ≤ part) ∧ ∀ q xs, textF T.last q = cat xs e0 → Lines xs → ∃ r, Dec (textF (crashT T many part).l q) (xs ++ sel q (ys.take j)) r := by
  have hk : keptN many ys.length ≤ ys.length := by unfold keptN; omega
  have hl : (crashT T many part).l = crashL T many part := rfl
  have hfold : ∀ (k : Nat) q xs, textF T.last q = cat xs e0 → textF (foldF T.last (T.ch.take k)) q = cat (xs ++ sel q (ys.take k)) e0 := fun k q xs h => fold_text q (ys.take k) _ _ xs hs (hc.take k) h
  have hyk : ∀ (k : Nat) q, Lines (sel q (ys.take k)) := fun k q => sel_lines fun y h => hy y (List.mem_of_mem_take h)
  have happ : ∀ {xs : List (List ByteArray)} (k : Nat) (q : ByteArray), Lines xs → Lines (xs ++ sel q (ys.take k)) := fun k q h l hm => (List.mem_append.1 hm).elim (h l) (hyk k q l)
  rw [hl]
  unfold crashL
  rw [hc.len]
  generalize keptN many ys.length = k at hk
  simp only
  by_cases hlt : k < ys.length
  · obtain ⟨c, e1, c0, c1, c2⟩ := hc.at hlt
    rw [e1]
    simp only
    by_cases hp : c.f0 ≤ 2 ∧ 1 ≤ part
    · rw [if_pos hp]
      have hz := hy _ (List.getElem_mem hlt)
      have hsr := fold_srt (T.ch.take k) _ hs
      have hcut0 : (cutC c part).f0 = 2 := c0
      have hcut1 : (cutC c part).f1 = ys[k].1 := c1
      have hcut2 : (cutC c part).f2 = cutS (putV ys[k].2).1 part := by rw [← c2]; rfl
      have htk : ys.take (k + 1) = ys.take k ++ [ys[k]] := List.take_succ_eq_append_getElem hlt
      rcases cut_cases hz part hp.2 with hw | hw
      · refine ⟨k + 1, by omega, hlt, .inr ⟨hlt, hw.2⟩, fun q xs hx hxs => ⟨e0, ?_⟩⟩
        have ht := after_text hsr hcut0 q
        rw [hfold k q xs hx, hcut1, hcut2, hw.1] at ht
        rw [ht, htk, sel_app]
        have e3 : sel q [ys[k]] = if ys[k].1 = q then [ys[k].2] else [] := by
          rw [sel, sel]
        rw [e3]
        have hall := happ (k + 1) q hxs
        rw [htk, sel_app, e3] at hall
        split
        next hq =>
          rw [if_pos hq] at hall
          rw [← List.append_assoc] at hall ⊢
          rw [← cat_snoc]
          exact dec_cat hall
        next hq =>
          rw [if_neg hq] at hall
          rw [List.append_nil] at hall ⊢
          rw [app_e0]
          exact dec_cat hall
      · refine ⟨k, Nat.le_refl _, hk, .inl rfl, fun q xs hx hxs => ?_⟩
        have ht := after_text hsr hcut0 q
        rw [hfold k q xs hx, hcut1, hcut2] at ht
        rw [ht]
        by_cases hq : ys[k].1 = q
        · rw [if_pos hq, cat_behind, e0_app]
          exact ⟨_, dec_part (happ k q hxs) hw⟩
        · rw [if_neg hq, app_e0]
          exact ⟨e0, dec_cat (happ k q hxs)⟩
    · rw [if_neg hp]
      exact ⟨k, Nat.le_refl _, hk, .inl rfl, fun q xs hx hxs => ⟨e0, by rw [hfold k q xs hx]; exact dec_cat (happ k q hxs)⟩⟩
  · have e1 : T.ch[k]? = none := List.getElem?_eq_none (by rw [hc.len]; omega)
    rw [e1]
    exact ⟨k, Nat.le_refl _, hk, .inl rfl, fun q xs hx hxs => ⟨e0, by rw [hfold k q xs hx]; exact dec_cat (happ k q hxs)⟩⟩
end Go.Proofs.YtgdanenhbjfhaaaGreatDoor.Fr
