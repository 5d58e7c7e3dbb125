import Derived.Test.YtghbaehbgefpaaaGreatDoorQ31
import Derived.Test.YtghbaehbgefpaaaGreatDoorQ14
import Derived.Test.YtghbaehbgefpaaaGreatDoorQ15
/- Several texts of this session in one: the walks of the functions that the laws reach, and what they tell. -/
set_option linter.unusedVariables false
set_option linter.unusedSimpArgs false
namespace Go.Proofs.YtghbaehbgefpaaaGreatDoor.Fr
open Go.RowKit Go.Proofs.YtghbaehbgefpaaaGreatDoor.F Go.Proofs.YtghbaehbgefpaaaGreatDoorW.PrintWords
open Go.Proofs.YtghbaehbgefpaaaGreatDoor.Hand (putV takeV scanV)
def besN (n : ByteArray) : ByteArray := n ++ (⟨#[46, 110, 101, 119]⟩ : ByteArray)
theorem besN_size (n : ByteArray) : (besN n).size = n.size + 4 := by unfold besN; rw [ByteArray.size_append]; rfl
def putAllA (acc : ByteArray) : List (List ByteArray) → ByteArray × Int
  | [] => (acc, 0)
  | x :: r => if (putV x).2 = 0 then putAllA (acc ++ (putV x).1) r else (⟨#[]⟩, (putV x).2)
def putAll (l : List (List ByteArray)) : ByteArray × Int := putAllA ⟨#[]⟩ l
def addE (T : TS) (n : ByteArray) (l : List ByteArray) : Int := if pathV (besN n) = false then 1 else if (putV l).2 = 0 then writeE T true n (putV l).1 else (putV l).2
def addT (T : TS) (n : ByteArray) (l : List ByteArray) : TS := if pathV (besN n) = false then T else if (putV l).2 = 0 then writeT T true n (putV l).1 else T
def anew1E (T : TS) (n s : ByteArray) : Int := if writeE T false (besN n) s = 0 then renameE (writeT T false (besN n) s) (besN n) n else writeE T false (besN n) s
def anew1T (T : TS) (n s : ByteArray) : TS :=
  if writeE T false (besN n) s = 0 then
    if renameE (writeT T false (besN n) s) (besN n) n = 0 then syncT (renameT (writeT T false (besN n) s) (besN n) n) else removeT (renameT (writeT T false (besN n) s) (besN n) n) (besN n)
  else removeT (writeT T false (besN n) s) (besN n)
def anewE (T : TS) (n : ByteArray) (l : List (List ByteArray)) : Int := if pathV (besN n) = false then 1 else if (putAll l).2 = 0 then anew1E T n (putAll l).1 else (putAll l).2
def anewT (T : TS) (n : ByteArray) (l : List (List ByteArray)) : TS := if pathV (besN n) = false then T else if (putAll l).2 = 0 then anew1T T n (putAll l).1 else T
def readL (T : TS) (n : ByteArray) : List (List ByteArray) := (scanV (readT T n).1).1
def readW (T : TS) (n : ByteArray) : Bool := (scanV (readT T n).1).2 == (((readT T n).1.size : Nat) : Int)
def openE (T : TS) (n : ByteArray) : Int := if pathV (besN n) = false then 1 else if readW (removeT T (besN n)) n = true then 0 else anewE (removeT T (besN n)) n (readL (removeT T (besN n)) n)
def openT (T : TS) (n : ByteArray) : TS := if pathV (besN n) = false then T else if readW (removeT T (besN n)) n = true then syncT (removeT T (besN n)) else anewT (removeT T (besN n)) n (readL (removeT T (besN n)) n)
def openL (T : TS) (n : ByteArray) : List (List ByteArray) := if openE T n = 0 then readL (removeT T (besN n)) n else []
theorem write_room (T : TS) (st : Bool) (q s : ByteArray) : (writeT T st q s).room = T.room := by unfold writeT; split <;> rfl
theorem remove_room (T : TS) (q : ByteArray) : (removeT T q).room = T.room := by unfold removeT; split <;> rfl
theorem rename_room (T : TS) (a b : ByteArray) : (renameT T a b).room = T.room := by unfold renameT; split <;> rfl
theorem sync_room (T : TS) : (syncT T).room = T.room := rfl
theorem add_room (T : TS) (n : ByteArray) (l : List ByteArray) : (addT T n l).room = T.room := by
  unfold addT
  split
  · rfl
  · split
    · exact write_room _ _ _ _
    · rfl
theorem anew1_room (T : TS) (n s : ByteArray) : (anew1T T n s).room = T.room := by
  unfold anew1T
  split
  · split
    · rw [sync_room, rename_room, write_room]
    · rw [remove_room, rename_room, write_room]
  · rw [remove_room, write_room]
theorem anew_room (T : TS) (n : ByteArray) (l : List (List ByteArray)) : (anewT T n l).room = T.room := by
  unfold anewT
  split
  · rfl
  · split
    · exact anew1_room _ _ _
    · rfl
theorem open_room (T : TS) (n : ByteArray) : (openT T n).room = T.room := by
  unfold openT
  split
  · rfl
  · split
    · rw [sync_room, remove_room]
    · rw [anew_room, remove_room]
theorem inv_syncT {n : Nat} {T : TS} (h : Inv n T) : Inv n (syncT T) := inv_sync h.room h.clock h.good
theorem lineL_le {l : List ByteArray} (h : (putV l).2 = 0) : (putV l).1.size ≤ 13000 := by
  unfold putV at h ⊢
  split
  · exact Nat.zero_le _
  next h1 =>
    split
    · exact Nat.zero_le _
    next h2 =>
      split
      · exact Nat.zero_le _
      next h3 =>
        show (Hand.lineL l).toArray.size ≤ 13000
        rw [List.size_toArray]
        omega
theorem inv_add {n : Nat} {T : TS} (h : Inv n T) (q : ByteArray) (l : List ByteArray) : Inv (n + 1) (addT T q l) := by
  unfold addT
  split
  · exact h.mono (Nat.le_succ n)
  · split
    next h2 => exact inv_write h true (Nat.le_trans (lineL_le h2) (by decide))
    next => exact h.mono (Nat.le_succ n)
theorem inv_anew1 {n : Nat} {T : TS} (h : Inv n T) (q s : ByteArray) (hs : s.size ≤ 1000000000) : Inv (n + 3) (anew1T T q s) := by
  have h1 := inv_write h false (q := besN q) hs
  unfold anew1T
  split
  · have h2 := inv_rename h1 (besN q) q
    split
    · exact (inv_syncT h2).mono (by omega)
    · exact inv_remove h2 _
  · exact (inv_remove h1 _).mono (by omega)
theorem putAllA_size : ∀ (l : List (List ByteArray)) (acc : ByteArray), (putAllA acc l).1.size ≤ acc.size + 13000 * l.length := by
  intro l
  induction l with
  | nil => intro acc; exact Nat.le_refl _
  | cons x r ih =>
    intro acc
    rw [putAllA]
    split
    next h =>
      have h1 := ih (acc ++ (putV x).1)
      have h2 := lineL_le h
      rw [ByteArray.size_append] at h1
      rw [List.length_cons]
      omega
    next => exact Nat.zero_le _
theorem putAll_size (l : List (List ByteArray)) : (putAll l).1.size ≤ 13000 * l.length := by
  have := putAllA_size l ⟨#[]⟩
  have e : (⟨#[]⟩ : ByteArray).size = 0 := rfl
  unfold putAll
  omega
theorem inv_anew {n : Nat} {T : TS} (h : Inv n T) (q : ByteArray) (l : List (List ByteArray)) (hl : l.length ≤ 70000) : Inv (n + 3) (anewT T q l) := by
  unfold anewT
  split
  · exact h.mono (by omega)
  · split
    · exact inv_anew1 h q _ (by have := putAll_size l; omega)
    · exact h.mono (by omega)
theorem scan_many (s : ByteArray) : (scanV s).1.length ≤ s.size + 1 := by
  unfold scanV
  rw [List.length_map]
  exact Hand.scanG_len _ _ _
theorem read_used (T : TS) (q : ByteArray) : (readT T q).1.size ≤ usedF T.l := by
  unfold readT
  cases e : findF T.l q with
  | none => exact Nat.zero_le _
  | some f => exact text_le (mem_of_find e)
theorem readL_many {n : Nat} {T : TS} (h : Inv n T) (q : ByteArray) : ((readL T q).length : Int) ≤ T.room + 1 := by
  have h1 := scan_many (readT T q).1
  have h2 := read_used T q
  have h3 := h.good.used
  unfold readL
  omega
end Go.Proofs.YtghbaehbgefpaaaGreatDoor.Fr
namespace Go.Proofs.YtghbaehbgefpaaaGreatDoor.Fr
open Go.RowKit Go.Proofs.YtghbaehbgefpaaaGreatDoor.F Go.Proofs.YtghbaehbgefpaaaGreatDoorW.PrintWords
open Go.Proofs.YtghbaehbgefpaaaGreatDoor.Hand (putV takeV scanV scanG scanP lastE lineL)
open Go.Proofs.YtghbaehbgefpaaaGreatDoor.PureL (cat cat_app cat_behind cat_size scanV_cat take_inv take_no10 putV_data line_no10 ba_assoc)
def e0 : ByteArray := ⟨#[]⟩
theorem app_e0 (s : ByteArray) : s ++ e0 = s := ba_eq (by simp [e0, ByteArray.data_append, Array.toList_append])
theorem e0_app (s : ByteArray) : e0 ++ s = s := ba_eq (by simp [e0, ByteArray.data_append, Array.toList_append])
theorem size_e0 {s : ByteArray} (h : s.size = 0) : s = e0 := ba_eq (by
  have : s.data.toList.length = 0 := by rw [Array.length_toList]; exact h
  rw [List.length_eq_zero_iff.1 this]
  rfl)
def Lines (xs : List (List ByteArray)) : Prop := ∀ l ∈ xs, (putV l).2 = 0
structure Dec (s : ByteArray) (xs : List (List ByteArray)) (r : ByteArray) : Prop where
  ok : Lines xs
  tl : (takeV r).2.2 ≠ 0
  eq : s = cat xs r
theorem take_e0 : (takeV e0).2.2 ≠ 0 := take_no10 (by intro c hc; cases hc)
theorem Dec.scan {s : ByteArray} {xs : List (List ByteArray)} {r : ByteArray} (h : Dec s xs r) : scanV s = (xs, ((cat xs e0).size : Int)) := by
  rw [h.eq]
  exact scanV_cat xs r h.ok h.tl
theorem scanG_inv (tot : Nat) : ∀ (f : Nat) (u : ByteArray), u.size < f → ∃ r, Dec u ((scanG tot f u).map (·.1)) r := by
  intro f
  induction f with
  | zero => intro u h; omega
  | succ f ih =>
    intro u h
    rw [scanG]
    split
    next ht =>
      obtain ⟨h1, h2⟩ := take_inv ht
      have h3 := Hand.take_rest ht
      obtain ⟨r, hr⟩ := ih (takeV u).2.1 (by omega)
      refine ⟨r, ?_, hr.tl, ?_⟩
      · intro l hl
        rw [List.map_cons] at hl
        rcases List.mem_cons.1 hl with rfl | hl
        · exact h1
        · exact hr.ok l hl
      · rw [List.map_cons]
        show u = (putV (takeV u).1).1 ++ cat _ r
        rw [← hr.eq]
        exact h2.symm
    next ht => exact ⟨u, fun l hl => (by cases hl), ht, rfl⟩
theorem scan_dec (s : ByteArray) : ∃ r, Dec s (scanV s).1 r := scanG_inv s.size (s.size + 1) s (Nat.lt_succ_self _)
theorem Dec.size {s : ByteArray} {xs : List (List ByteArray)} {r : ByteArray} (h : Dec s xs r) : s.size = (cat xs e0).size + r.size := by
  rw [h.eq]
  exact cat_size xs r
theorem Dec.whole {s : ByteArray} {xs : List (List ByteArray)} {r : ByteArray} (h : Dec s xs r) : ((scanV s).2 == ((s.size : Nat) : Int)) = decide (r.size = 0) := by
  rw [h.scan]
  have := h.size
  rw [Bool.eq_iff_iff]
  simp only [beq_iff_eq, decide_eq_true_eq]
  omega
theorem dec_cat {xs : List (List ByteArray)} (h : Lines xs) : Dec (cat xs e0) xs e0 := ⟨h, take_e0, rfl⟩
theorem cat_snoc (xs : List (List ByteArray)) (l : List ByteArray) : cat (xs ++ [l]) e0 = cat xs e0 ++ (putV l).1 := by
  rw [cat_app, cat_behind]
  show cat xs ((putV l).1 ++ e0) = cat xs (e0 ++ (putV l).1)
  rw [app_e0, e0_app]
theorem putAllA_ok : ∀ (xs : List (List ByteArray)) (acc : ByteArray), Lines xs → putAllA acc xs = (acc ++ cat xs e0, 0) := by
  intro xs
  induction xs with
  | nil => intro acc _; rw [putAllA]; show _ = (acc ++ e0, 0); rw [app_e0]
  | cons x t ih =>
    intro acc h
    rw [putAllA, if_pos (h x (List.mem_cons_self ..)), ih _ (fun l hl => h l (List.mem_cons_of_mem _ hl)), ba_assoc]
    rfl
theorem putAll_ok {xs : List (List ByteArray)} (h : Lines xs) : putAll xs = (cat xs e0, 0) := by
  unfold putAll
  have := putAllA_ok xs ⟨#[]⟩ h
  rw [this]
  show (e0 ++ _, _) = _
  rw [e0_app]
theorem scan_lines (s : ByteArray) : Lines (scanV s).1 := by
  obtain ⟨r, h⟩ := scan_dec s
  exact h.ok
theorem scan_put (s : ByteArray) : (putAll (scanV s).1).2 = 0 ∧ (putAll (scanV s).1).1.size ≤ s.size := by
  obtain ⟨r, h⟩ := scan_dec s
  rw [putAll_ok h.ok]
  have := h.size
  exact ⟨rfl, by show (cat _ e0).size ≤ _; omega⟩
theorem inv_open {n : Nat} {T : TS} (h : Inv n T) (q : ByteArray) (hr : T.room ≤ 2000000) : Inv (n + 4) (openT T q) := by
  have h1 := inv_remove h (besN q)
  unfold openT
  split
  · exact h.mono (by omega)
  · split
    · exact (inv_syncT h1).mono (by omega)
    · unfold anewT
      split
      · exact h1.mono (by omega)
      · split
        · refine inv_anew1 h1 q _ ?_
          have h2 := (scan_put (readT (removeT T (besN q)) q).1).2
          have h3 := read_used (removeT T (besN q)) q
          have h4 := h1.good.used
          have h5 := remove_room T (besN q)
          unfold readL
          omega
        · exact h1.mono (by omega)
end Go.Proofs.YtghbaehbgefpaaaGreatDoor.Fr
namespace Go.Proofs.YtghbaehbgefpaaaGreatDoor.Fr
open Go.RowKit Go.Proofs.YtghbaehbgefpaaaGreatDoor.F Go.Proofs.YtghbaehbgefpaaaGreatDoorW.PrintWords
open Go.Proofs.YtghbaehbgefpaaaGreatDoor.Hand (putV takeV scanV)
open Go.Proofs.YtghbaehbgefpaaaGreatDoor.PureL (cat cat_app cat_behind cat_size)
abbrev kLL : Kd (List ByteArray) := Kd.slice 9 Kd.string
theorem at_LL {w : World} {A : Option Addr} {xs : List (List ByteArray)} (h : Kd.C kLL w A xs.length xs) {i : Nat} (hi : i < xs.length) :
    ∃ ad A' c', A = some ad ∧ w.cell? (ad.add i) = some (.slice A' (xs[i]).length c') ∧ (xs[i]).length ≤ c' ∧ Kd.C Kd.string w A' (xs[i]).length xs[i] := by
  obtain ⟨ad, c, e, _, ⟨A', c', hcs, hl, hr⟩, hc⟩ := Kd.C_get h [] (i : Int) (by omega) (by omega)
  have e1 : xs.getD (i : Int).toNat [] = xs[i] := by
    rw [Int.toNat_natCast, List.getD_eq_getElem?_getD, List.getElem?_eq_getElem hi, Option.getD_some]
  rw [e1] at hcs hl hr
  subst hcs
  have := hc 0 _ rfl
  have h0 : (i : Int).toNat * kLL.sz + 0 = i := by rw [Int.toNat_natCast]; exact Nat.mul_one i
  rw [h0] at this
  exact ⟨ad, A', c', e, this, hl, hr⟩
theorem put_code (l : List ByteArray) : (putV l).2 = 0 ∨ (putV l).2 = 1 ∨ (putV l).2 = 3 := by
  unfold putV
  split
  · exact .inr (.inl rfl)
  · split
    · exact .inr (.inr rfl)
    · split
      · exact .inr (.inr rfl)
      · exact .inl rfl
theorem beside_call (q : ByteArray) (hq : q.size ≤ 100000) (W : World) : Calls Tryz.prog 43 #[.string q] W fun e w' => e = .returned (.string (besN q)) ∧ W = w' := by
  go_enter Tryz.func43, Tryz.ntmps43
  go_wp2
  go_ret
  exact ⟨rfl, rfl⟩
theorem putAll_stop : ∀ (all : List (List ByteArray)) (k : Nat) (hk : k < all.length) (acc : ByteArray), Lines (all.take k) → (putV all[k]).2 ≠ 0 → putAllA acc all = (e0, (putV all[k]).2) := by
  intro all
  induction all with
  | nil => intro k hk; exact absurd hk (Nat.not_lt_zero _)
  | cons x r ih =>
    intro k hk acc hl hx
    cases k with
    | zero => rw [putAllA, if_neg (show ¬ (putV x).2 = 0 from hx)]; rfl
    | succ k =>
      rw [putAllA, if_pos (hl x (by simp))]
      exact ih k (by simpa using hk) _ (fun y hy => hl y (by simp [hy])) hx
theorem putAllA_code : ∀ (all : List (List ByteArray)) (acc : ByteArray), (putAllA acc all).2 = 0 ∨ (putAllA acc all).2 = 1 ∨ (putAllA acc all).2 = 3 := by
  intro all
  induction all with
  | nil => intro acc; exact .inl rfl
  | cons x r ih =>
    intro acc
    rw [putAllA]
    split
    · exact ih _
    · exact put_code x
theorem lines_take_succ {all : List (List ByteArray)} {k : Nat} (hk : k < all.length) (h : Lines (all.take k)) (hx : (putV all[k]).2 = 0) : Lines (all.take (k + 1)) := by
  rw [List.take_succ_eq_append_getElem hk]
  intro l hl
  rcases List.mem_append.1 hl with hl | hl
  · exact h l hl
  · rw [List.mem_singleton.1 hl]; exact hx
set_option maxHeartbeats 8000000 in
set_option maxRecDepth 100000 in
theorem putAll_walk (A : Option Addr) (c : Nat) (all : List (List ByteArray)) (w : World) (hG : Hand2.Glob w) (hC : Kd.C kLL w A all.length all) (hx : ∀ l ∈ all, ∀ x ∈ l, x.size ≤ 100000)
    (hB : ∀ k, k ≤ all.length → (putAll (all.take k)).1.size ≤ 90000000) (hn : all.length ≤ 10000000) :
    Calls Tryz.prog 51 #[.slice A all.length c, .func (.func 44) #[] #[]] w fun e w' => e = .returned (.tuple #[.string (putAll all).1, .int .i64 (putAll all).2]) ∧ Below w.heap.size w w' := by
  have HG := Lib.hid hG
  have HC := Lib.hid hC
  have HX := Lib.hid hx
  have HB := Lib.hid hB
  clear hG hC hx hB
  go_enter Tryz.func51, Tryz.ntmps51
  go_wp2
  obtain ⟨w0, hw0⟩ : ∃ w0, w.alloc (Obj.cells #[Value.pointer none, Value.slice none 0 0] 125) = w0 := ⟨_, rfl⟩
  have hs0 : w0.heap.size = w.heap.size + 1 := by rw [← hw0]; simp
  have hB0 : Hid (Below w.heap.size w w0) := by
    rw [Hid, ← hw0]
    exact (Below.refl _ _).alloc (Nat.le_refl _) _
  have hbl0 : Hid (Hand.Bld w.heap.size (w.heap.size + 1) [] w0) := by
    refine ⟨by omega, by rw [hs0]; omega, _, _, .inl rfl, ?_, World.ownsRowF_nil _ _ _ _⟩
    rw [← hw0]
    exact World.alloc_heap_new w _
  rw [hw0]
  clear hw0
  go_loopw [13] (fun i wr => ∃ k : Nat, k ≤ all.length ∧ i = .int .i64 k ∧ Hid (Hand.Bld w.heap.size (w.heap.size + 1) (Lib.byteCells (cat (all.take k) e0).data.toList) wr) ∧ Hid (Hand.Apart w.heap.size (w.heap.size + 1) w0 wr) ∧ Hid (Lines (all.take k)))
    (fun i _ => all.length - (intOf i).toNat)
  case atStart => exact ⟨0, Nat.zero_le _, rfl, hbl0, Hand.Apart.refl _ _ _, fun l hl => (by cases hl)⟩
  case round =>
    obtain ⟨k, hk, rfl, hbl, hA, HL⟩ := hrel
    have hlen : Hid ((cat (all.take k) e0).data.toList.length ≤ 90000000) := by
      have := HB.out k hk
      rw [putAll_ok HL.out] at this
      rw [Hid, Array.length_toList]
      exact this
    have HT := Lib.hid (hB0.out.trans (hA.out.below (by omega)))
    by_cases hlt : k < all.length
    · obtain ⟨ad, A', c', rfl, hc1, hc2, hC'⟩ := at_LL (Kd.C_below HC.out HT.out) hlt
      have HC' := Lib.hid hC'
      have HX' := Lib.hid (HX.out _ (List.getElem_mem hlt))
      have HST := Lib.hid (putAll_stop all k hlt ⟨#[]⟩ HL.out)
      have HNX := Lib.hid (lines_take_succ hlt HL.out)
      have HTK : Hid (all.take (k + 1) = all.take k ++ [all[k]]) := List.take_succ_eq_append_getElem hlt
      have hcode := put_code all[k]
      have hln := lineL_le (l := all[k])
      clear hC'
      generalize all[k] = x at hc1 hc2 HC' HX' HST HNX HTK hcode hln
      have HP := Lib.hid (Hand.put_walk A' c' x wr (HG.out.below HT.out) HC'.out hc2 HX'.out)
      obtain ⟨s, er, hp⟩ : ∃ s er, Hid (putV x = (s, er)) := ⟨_, _, Lib.hid rfl⟩
      rw [hp.out] at hcode HP HST HNX hln
      simp only [Hand.pOut] at HP
      simp only at hcode hln
      have hsx := World.block_lt_of_cell? _ _ hc1
      rcases hcode with rfl | rfl | rfl
      · have hs : s.size ≤ 13000 := hln rfl
        have hwl : Hid ((Lib.byteCells (cat (all.take k) e0).data.toList).length + s.size ≤ 100000000) := by
          have := hlen.out
          rw [Hid, Lib.byteCells_length]
          omega
        go_wp2_with (first | (go_at_call 44; refine HP.out.mono ?_; rintro e W1 ⟨rfl, hb1⟩; have HL1 := Lib.hid (Hand.bld_below hbl.out hb1); have HA1 := Lib.hid (hA.out.trans (Hand.apart_of_below hb1 hbl.out.2.1)); clear hb1) | (go_at_call 68; refine (Hand.writeString w.heap.size (w.heap.size + 1) _ _ _ HL1.out hwl.out).mono ?_; rintro e W2 ⟨rfl, hb2, hA2⟩; have HL2 := Lib.hid hb2; have HA2 := Lib.hid (HA1.out.trans hA2); clear hb2 hA2))
        go_roundw
        case rel =>
          refine ⟨k + 1, by omega, by go_num, ?_, HA2, HNX.out (by first | rfl | exact trivial)⟩
          have := HL2.out
          rw [Lib.strCells_eq, ← Lib.byteCells_append] at this
          rw [Hid, HTK.out, cat_snoc, hp.out]
          have e : (cat (all.take k) e0 ++ s).data.toList = (cat (all.take k) e0).data.toList ++ s.data.toList := by simp [ByteArray.data_append, Array.toList_append]
          rw [e]
          exact this
        case measure => simp [intOf]; omega
      all_goals
        have HE : Hid (putAll all = (e0, _)) := HST.out (by simp)
        go_wp2_with (first | (go_at_call 44; refine HP.out.mono ?_; rintro e W1 ⟨rfl, hb1⟩; have HA1 := Lib.hid (HT.out.trans (hb1.mono HT.out.size)); clear hb1))
        go_ret2
        exact ⟨by rw [HE.out]; rfl, HA1.out⟩
    · have hkn : k = all.length := by omega
      subst hkn
      have htk : all.take all.length = all := List.take_length
      rw [htk] at hbl hlen HL
      clear htk
      have HS := Lib.hid (Hand.bstring2 w.heap.size (cat all e0).data.toList wr hbl.out)
      have HE : Hid (putAll all = (cat all e0, 0)) := putAll_ok HL.out
      have e1 : (⟨(cat all e0).data.toList.toArray⟩ : ByteArray) = cat all e0 := ba_eq rfl
      rw [e1] at HS
      clear e1
      go_wp2_with (first | (go_at_call 72; refine HS.out.mono ?_; rintro e W1 ⟨rfl, hb1, hA1⟩; have HA1 := Lib.hid (hB0.out.trans ((hA.out.trans hA1).below (Nat.lt_succ_self _))); clear hb1 hA1))
      go_ret2
      exact ⟨by rw [HE.out]; rfl, HA1.out⟩
def RdEnd (w : World) (l : List (List ByteArray)) (b : Bool) (e : Ending) (w' : World) : Prop := ∃ v, e = .returned (.tuple #[v, .bool b]) ∧ Kd.S kLL 22 w' w.heap.size (fun _ => True) v l ∧ Below w.heap.size w w'
set_option maxHeartbeats 4000000 in
set_option maxRecDepth 100000 in
theorem Sts.jRead {K : Nat → Prop} {L : List (Nat × TS)} {m p i n : Nat} {T Tm : TS} {W : World} (h : Sts K L m Tm W) (hi : L[i]? = some (p, T)) (hG : Hand2.Glob W) (hI : Inv n T) (hr : T.room ≤ 2000000) (q : ByteArray) (hq : q.size ≤ 100000) :
    Calls Tryz.prog 50 #[.pointer (some ⟨p, 0, none⟩), .string q] W (RdEnd W (readL T q) (readW T q)) := by
  have HS := Lib.hid h
  have HG := Lib.hid hG
  have hsz : (readT T q).1.size ≤ 2000000 := by
    have h1 := read_used T q
    have h2 := hI.good.used
    omega
  have HR := Lib.hid (h.Read hi q hq)
  have hw : (((scanV (readT T q).1).2 == (((readT T q).1.size : Nat) : Int)) : Bool) = readW T q := rfl
  have hl : (scanV (readT T q).1).1 = readL T q := rfl
  have HSC := Lib.hid (Hand.scan_walk (readT T q).1 hsz W hG)
  rw [hl] at HSC
  generalize readT T q = r at HR hw hl hsz HSC
  obtain ⟨s, er⟩ := r
  simp only at HR hw hl hsz HSC
  generalize (scanV s).2 = z at hw HSC
  generalize readL T q = ls at HSC
  have HW := Lib.hid hw
  clear h hG hw hl
  go_enter Tryz.func50, Tryz.ntmps50
  go_wp2_with (first
    | (go_at_call 81; refine HR.out.mono ?_; rintro e w1 ⟨rfl, rfl⟩)
    | (go_at_call 82; refine HSC.out.mono ?_; rintro e w2 ⟨v, rfl, hv, hb⟩; have HV := Lib.hid hv; have HB := Lib.hid hb; clear hv hb))
  go_ret2
  exact ⟨v, by rw [HW.out]; rfl, HV.out, HB.out⟩
end Go.Proofs.YtghbaehbgefpaaaGreatDoor.Fr
