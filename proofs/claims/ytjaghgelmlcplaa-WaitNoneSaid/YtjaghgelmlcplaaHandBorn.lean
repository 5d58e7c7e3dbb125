import Derived.Test.YtjaghgelmlcplaaP0
import Derived.Test.YtjaghgelmlcplaaShelf
import Derived.Lib.Hide
import Derived.Outline
import Derived.Deep.RegionHeld3
import Derived.Deep.RegionWith
namespace Go.Proofs.Ytjaghgelmlcplaa.Hand
open Go.RowKit Go.Proofs.YtjaghgelmlcplaaW.PrintWords Go.Proofs.YtjaghgelmlcplaaW.PrintLast Go.Proofs.YtjaghgelmlcplaaW.PrintMore Go.Proofs.Ytjaghgelmlcplaa.P
set_option linter.unusedVariables false
set_option linter.unusedSimpArgs false

theorem cell_lt {w : World} {p : Addr} {v : Value} (h : w.cell? p = some v) : p.block < w.heap.size := World.block_lt_of_cell? w _ h

set_option maxHeartbeats 400000 in
theorem pred_walk (x y who : Int) (b o : Nat) (w : World) (hc : w.cell? ⟨b, o, none⟩ = some (.int .i64 who)) :
    Calls Try.prog 24 #[.agg #[.int .i64 x, .int .i64 y], .pointer (some ⟨b, o, none⟩)] w fun e w' => e = .returned (.bool (x == who)) ∧ Below w.heap.size w w' := by
  have hlt := cell_lt hc
  have hc1 : (w.alloc (.cells #[.int .i64 x, .int .i64 y] 40)).cell? ⟨b, o, none⟩ = some (.int .i64 who) := by rw [World.cell?_alloc_old _ _ _ (by simp at hlt ⊢; omega)]; exact hc
  go_enter Try.func24, Try.ntmps24
  go_wp2
  go_ret
  exact ⟨rfl, (Below.refl _ _).alloc (Nat.le_refl _) _⟩

/-- Where the first one of that number stands, counted from k on; -1: nowhere. -/
def firstAt (who : Int) : List S40 → Nat → Int
  | [], _ => -1
  | a :: l, k => if a.f0 == who then (k : Int) else firstAt who l (k + 1)
/-- What the first one of that number says; 0, if there is none. -/
def bornOf (who : Int) : List S40 → Int
  | [] => 0
  | a :: l => if a.f0 == who then a.f1 else bornOf who l
theorem firstAt_spec (who : Int) : ∀ (l : List S40) (k : Nat), (firstAt who l k = -1 ∧ bornOf who l = 0) ∨ ∃ j, ∃ h : j < l.length, firstAt who l k = ((k + j : Nat) : Int) ∧ bornOf who l = l[j].f1 := by
  intro l
  induction l with
  | nil => intro k; exact .inl ⟨rfl, rfl⟩
  | cons a l ih =>
    intro k
    by_cases e : (a.f0 == who) = true
    · refine .inr ⟨0, by simp, ?_, ?_⟩
      · simp [firstAt, e]
      · simp [bornOf, e]
    · rcases ih (k + 1) with ⟨h1, h2⟩ | ⟨j, hj, h1, h2⟩
      · exact .inl ⟨by simp [firstAt, e, h1], by simp [bornOf, e, h2]⟩
      · refine .inr ⟨j + 1, by simpa using hj, ?_, ?_⟩
        · simp only [firstAt, if_neg e, h1]; omega
        · simp only [bornOf, if_neg e, h2, List.getElem_cons_succ]

set_option maxHeartbeats 400000 in
theorem index_walk (A1 : Option Addr) (c1 : Nat) (l1 : List S40) (who : Int) (b o : Nat) (w : World) (hr1 : Kd.C k40 w A1 l1.length l1) (hc1 : l1.length ≤ c1) (hlen : l1.length ≤ 1000) (hc : w.cell? ⟨b, o, none⟩ = some (.int .i64 who)) :
    Calls Try.prog 23 #[.slice A1 l1.length c1, .func (.func 24) #[] #[.pointer (some ⟨b, o, none⟩)]] w fun e w' => ∃ i, Hid (firstAt who l1 0 = i) ∧ e = .returned (.int .i64 i) ∧ Below w.heap.size w w' := by
  have HR := Lib.hid hr1
  have HC := Lib.hid hc
  clear hr1 hc
  obtain ⟨r, hr⟩ : ∃ r, Hid (firstAt who l1 0 = r) := ⟨_, Lib.hid rfl⟩
  go_enter Try.func23, Try.ntmps23
  go_wp2
  go_loopw [8] (fun i wr => ∃ (k : Nat), i = .int .i64 (k : Int) ∧ k ≤ l1.length ∧ Hid (firstAt who (l1.drop k) k = r) ∧ Hid (Below w.heap.size w wr))
    (fun i _ => l1.length - (intOf i).toNat)
  case atStart => exact ⟨0, rfl, Nat.zero_le _, hr, Below.refl _ _⟩
  case round =>
    obtain ⟨k, rfl, hk, hi, hB⟩ := hrel
    have hl9 : (l1.length : Int) ≤ 1000 := by omega
    by_cases hlt : k < l1.length
    · obtain ⟨ad0, e0, hx0, hx1⟩ := at_T40 HR.out k (by omega) (by omega)
      have hy0 := (hB.out.cell (World.block_lt_of_cell? w _ hx0)).trans hx0
      have hy1 := (hB.out.cell (World.block_lt_of_cell? w _ hx1)).trans hx1
      have hrd : Hid (rd_T40 l1 k = l1[k]) := by simp [Hid, rd_T40, List.getD_eq_getElem?_getD, List.getElem?_eq_getElem hlt]
      subst e0
      clear hx0 hx1
      rw [hrd.out, Int.toNat_natCast] at hy0 hy1
      rw [List.drop_eq_getElem_cons hlt] at hi
      obtain ⟨x, hx⟩ : ∃ x, Hid (l1[k].f0 = x) := ⟨_, Lib.hid rfl⟩
      obtain ⟨y, hy⟩ : ∃ y, Hid (l1[k].f1 = y) := ⟨_, Lib.hid rfl⟩
      rw [hx.out] at hy0
      rw [hy.out] at hy1
      have hcw : Hid (wr.cell? ⟨b, o, none⟩ = some (.int .i64 who)) := (hB.out.cell (p := ⟨b, o, none⟩) (cell_lt HC.out)).trans HC.out
      go_wp2_with fail
      refine (pred_walk x y who b o _ hcw.out).mono ?_
      rintro e w1 ⟨rfl, hb1⟩
      have HB1 : Hid (Below w.heap.size w w1) := hB.out.trans (hb1.mono hB.out.size)
      clear hb1
      by_cases hxw : x = who
      · have hb : (x == who) = true := by simpa using hxw
        have hfin : Hid ((k : Int) = r) := by
          have := hi.out
          simp only [firstAt, hx.out, hb, if_true] at this
          exact this
        clear hxw
        go_wp2
        go_ret
        exact ⟨_, hr, by rw [← hfin.out]; rfl, HB1.out⟩
      · have hb : (x == who) = false := by simpa using hxw
        have hi2 : Hid (firstAt who (l1.drop (k + 1)) (k + 1) = r) := by
          have := hi.out
          simp only [firstAt, hx.out, hb, Bool.false_eq_true, if_false] at this
          exact this
        clear hxw
        go_wp2
        go_roundw
        case rel => exact ⟨k + 1, by go_num, by omega, hi2, HB1⟩
        case measure => simp [intOf]; omega
    · have hfin : Hid (-1 = r) := by
        have := hi.out
        rw [List.drop_eq_nil_of_le (by omega)] at this
        exact this
      go_wp2
      go_ret
      exact ⟨_, hr, by rw [← hfin.out]; rfl, hB.out⟩

set_option maxHeartbeats 400000 in
theorem born_walk (A1 : Option Addr) (c1 : Nat) (l1 : List S40) (who : Int) (b o : Nat) (w : World) (hr1 : Kd.C k40 w A1 l1.length l1) (hc1 : l1.length ≤ c1) (hlen : l1.length ≤ 1000) (hc : w.cell? ⟨b, o, none⟩ = some (.slice A1 l1.length c1)) :
    Calls Try.prog 22 #[.int .i64 who, .pointer (some ⟨b, o, none⟩)] w fun e w' => e = .returned (.int .i64 (bornOf who l1)) ∧ Below w.heap.size w w' := by
  have hB1 : Hid (Below w.heap.size w (w.alloc (.cells #[.int .i64 who] 3))) := (Below.refl _ _).alloc (Nat.le_refl _) _
  have hc2 := (hB1.out.cell (p := ⟨b, o, none⟩) (cell_lt hc)).trans hc
  have HR : Hid (Kd.C k40 (w.alloc (.cells #[.int .i64 who] 3)) A1 l1.length l1) := Kd.C_below hr1 hB1.out
  have HR0 := Lib.hid hr1
  have HC := Lib.hid hc
  clear hr1 hc
  have hcw : Hid ((w.alloc (.cells #[.int .i64 who] 3)).cell? ⟨w.heap.size, 0, none⟩ = some (.int .i64 who)) := by simp [Hid]
  go_enter Try.func22, Try.ntmps22
  go_wp2_with fail
  refine (index_walk A1 c1 l1 who w.heap.size 0 _ HR.out hc1 hlen hcw.out).mono ?_
  rintro e w1 ⟨i, hi, rfl, hb1⟩
  have HB1 : Hid (Below w.heap.size w w1) := hB1.out.trans (hb1.mono hB1.out.size)
  have hc3 : w1.cell? ⟨b, o, none⟩ = some (.slice A1 l1.length c1) := (HB1.out.cell (p := ⟨b, o, none⟩) (cell_lt HC.out)).trans HC.out
  clear hb1 hc2
  rcases firstAt_spec who l1 0 with ⟨h1, h2⟩ | ⟨j, hj, h1, h2⟩
  · have H2 := Lib.hid h2
    have h3 : i = -1 := by rw [← hi.out]; exact h1
    clear h1 h2
    subst h3
    go_wp2
    go_ret
    exact ⟨by rw [H2.out]; rfl, HB1.out⟩
  · have H2 := Lib.hid h2
    have h3 : i = (j : Int) := by rw [← hi.out, h1]; simp
    clear h1 h2
    subst h3
    obtain ⟨ad0, e0, hx0, hx1⟩ := at_T40 HR0.out j (by omega) (by omega)
    have hy1 := (HB1.out.cell (World.block_lt_of_cell? w _ hx1)).trans hx1
    have hrd : Hid (rd_T40 l1 j = l1[j]) := by simp [Hid, rd_T40, List.getD_eq_getElem?_getD, List.getElem?_eq_getElem hj]
    subst e0
    clear hx0 hx1
    rw [hrd.out, Int.toNat_natCast] at hy1
    have hl9 : (l1.length : Int) ≤ 1000 := by omega
    go_wp2
    go_ret
    exact ⟨by rw [H2.out]; rfl, HB1.out⟩
/-- Of two numbers the first one that is not 0. -/
def orV (x y : Int) : Int := if x = 0 then y else x
set_option maxHeartbeats 400000 in
theorem or_walk (b : Nat) (x y : Int) (w : World) (h0 : w.cell? ⟨b, 0, none⟩ = some (.int .i64 x)) (h1 : w.cell? ⟨b, 1, none⟩ = some (.int .i64 y)) :
    Calls Try.prog 27 #[.slice (some ⟨b, 0, none⟩) 2 2] w fun e w' => e = .returned (.int .i64 (orV x y)) ∧ w' = w := by
  go_enter Try.func27, Try.ntmps27
  go_wp2
  go_loop [8] (fun i => ∃ (k : Nat), i = .int .i64 (k : Int) ∧ k ≤ 2 ∧ Hid (1 ≤ k → x = 0) ∧ Hid (2 ≤ k → y = 0)) (fun i => 2 - (intOf i).toNat)
  case atStart => exact ⟨0, rfl, by omega, fun h => by omega, fun h => by omega⟩
  case round =>
    obtain ⟨k, rfl, hk, hx, hy⟩ := hrel
    rcases (show k = 0 ∨ k = 1 ∨ k = 2 by omega) with rfl | rfl | rfl
    · by_cases e : x = 0
      · have hb : (x != 0) = false := by simpa using e
        have he := Lib.hid e
        clear e
        go_wp2
        go_round
        case rel => exact ⟨1, rfl, by omega, fun _ => he.out, fun h => by omega⟩
        case measure => simp [intOf]
      · have hb : (x != 0) = true := by simpa using e
        have hv : Hid (x = orV x y) := by simp [Hid, orV, e]
        clear e
        go_wp2
        go_ret
        exact ⟨by rw [← hv.out]; rfl, rfl⟩
    · by_cases e : y = 0
      · have hb : (y != 0) = false := by simpa using e
        have he := Lib.hid e
        clear e
        go_wp2
        go_round
        case rel => exact ⟨2, rfl, by omega, fun _ => hx.out (by omega), fun _ => he.out⟩
        case measure => simp [intOf]
      · have hb : (y != 0) = true := by simpa using e
        have hv : Hid (y = orV x y) := by simp [Hid, orV, hx.out (by omega)]
        clear e
        go_wp2
        go_ret
        exact ⟨by rw [← hv.out]; rfl, rfl⟩
    · have hv : Hid (0 = orV x y) := by simp [Hid, orV, hx.out (by omega), hy.out (by omega)]
      go_wp2
      go_ret
      exact ⟨by rw [← hv.out]; rfl, rfl⟩

/-- How the program holds two of them against each other: by their ages, then by their numbers. -/
def cmpV (l : List S40) (x y : Int) : Int := orV (Lib.compareInt (bornOf x l) (bornOf y l)) (Lib.compareInt x y)
set_option maxHeartbeats 2000000 in
theorem cmp_walk (A1 : Option Addr) (c1 : Nat) (l1 : List S40) (x y : Int) (pa pb : Nat) (w : World) (hr1 : Kd.C k40 w A1 l1.length l1) (hc1 : l1.length ≤ c1) (hlen : l1.length ≤ 1000)
    (ha : w.cell? ⟨pa, 0, none⟩ = some (.slice A1 l1.length c1)) (hb : w.cell? ⟨pb, 0, none⟩ = some (.func (.func 22) #[] #[.pointer (some ⟨pa, 0, none⟩)])) :
    Calls Try.prog 26 #[.int .i64 x, .int .i64 y, .pointer (some ⟨pb, 0, none⟩)] w fun e w' => e = .returned (.int .i64 (cmpV l1 x y)) ∧ Below w.heap.size w w' := by
  have HR := Lib.hid hr1
  have HA := Lib.hid ha
  have HBB := Lib.hid hb
  have hborn : ∀ (who : Int) (W : World), Below w.heap.size w W → Calls Try.prog 22 #[.int .i64 who, .pointer (some ⟨pa, 0, none⟩)] W fun e w' => e = .returned (.int .i64 (bornOf who l1)) ∧ Below w.heap.size w w' ∧ w'.cell? ⟨pb, 0, none⟩ = some (.func (.func 22) #[] #[.pointer (some ⟨pa, 0, none⟩)]) := by
    intro who W hW
    refine (born_walk A1 c1 l1 who pa 0 W (Kd.C_below hr1 hW) hc1 hlen ((hW.cell (p := ⟨pa, 0, none⟩) (cell_lt ha)).trans ha)).mono ?_
    rintro e w' ⟨he, hb'⟩
    have h2 := hW.trans (hb'.mono hW.size)
    exact ⟨he, h2, (h2.cell (p := ⟨pb, 0, none⟩) (cell_lt hb)).trans hb⟩
  have HBorn := Lib.hid hborn
  clear hborn hr1 ha
  go_enter Try.func26, Try.ntmps26
  go_wp2
  go_region_with (first | (go_at_call 22; refine (HBorn.out _ _ (by first | exact (Below.refl _ _).drew | assumption)).mono ?_; rintro e w1 ⟨rfl, hb1, hc1⟩) | (go_at_call 28; refine (Try.cmp_Compare_int _ _ _).mono ?_; rintro e w1 ⟨rfl, rfl⟩) | (go_at_call 27; refine (or_walk _ (Lib.compareInt (bornOf x l1) (bornOf y l1)) (Lib.compareInt x y) _ (by simp) (by simp)).mono ?_; rintro e w1 ⟨rfl, rfl⟩))
  all_goals go_wp2
  all_goals go_ret
  all_goals exact ⟨rfl, hb1.alloc hb1.size _⟩

/-- What MaxFunc makes of the rest, m being the greatest till now. -/
def maxFrom (l : List S40) (m : Int) : List Int → Int
  | [] => m
  | x :: t => maxFrom l (if cmpV l x m > 0 then x else m) t
theorem int_at {w : World} {A : Option Addr} {xs : List Int} (h : Kd.C (Kd.int .i64) w A xs.length xs) (k : Nat) (hk : k < xs.length) : ∃ ad, A = some ad ∧ w.cell? (ad.add k) = some (.int .i64 xs[k]) := by
  obtain ⟨ad, cs, e, hl, hK, hc⟩ := Kd.C_get h 0 (k : Int) (by omega) (by omega)
  have hK' : cs = [.int .i64 (xs.getD (k : Int).toNat 0)] := hK
  subst hK'
  refine ⟨ad, e, ?_⟩
  have := hc 0 _ rfl
  rw [Int.toNat_natCast] at this
  simpa [Kd.int, Kd.scalar, List.getD_eq_getElem?_getD, List.getElem?_eq_getElem hk] using this
set_option maxHeartbeats 1000000 in
theorem max_walk (A1 : Option Addr) (c1 : Nat) (l1 : List S40) (A : Option Addr) (c : Nat) (x0 : Int) (xs : List Int) (pa pb : Nat) (w : World) (hr1 : Kd.C k40 w A1 l1.length l1) (hc1 : l1.length ≤ c1) (hlen : l1.length ≤ 1000)
    (hx : Kd.C (Kd.int .i64) w A (x0 :: xs).length (x0 :: xs)) (hxl : xs.length ≤ 1000)
    (ha : w.cell? ⟨pa, 0, none⟩ = some (.slice A1 l1.length c1)) (hb : w.cell? ⟨pb, 0, none⟩ = some (.func (.func 22) #[] #[.pointer (some ⟨pa, 0, none⟩)])) :
    Calls Try.prog 25 #[.slice A (x0 :: xs).length c, .func (.func 26) #[] #[.pointer (some ⟨pb, 0, none⟩)]] w fun e w' => e = .returned (.int .i64 (maxFrom l1 x0 xs)) ∧ Below w.heap.size w w' := by
  have hcmp : ∀ (x y : Int) (W : World), Below w.heap.size w W → Calls Try.prog 26 #[.int .i64 x, .int .i64 y, .pointer (some ⟨pb, 0, none⟩)] W fun e w' => e = .returned (.int .i64 (cmpV l1 x y)) ∧ Below w.heap.size w w' := by
    intro x y W hW
    refine (cmp_walk A1 c1 l1 x y pa pb W (Kd.C_below hr1 hW) hc1 hlen ((hW.cell (p := ⟨pa, 0, none⟩) (cell_lt ha)).trans ha) ((hW.cell (p := ⟨pb, 0, none⟩) (cell_lt hb)).trans hb)).mono ?_
    rintro e w' ⟨he, hb'⟩
    exact ⟨he, hW.trans (hb'.mono hW.size)⟩
  have HCmp := Lib.hid hcmp
  have HX := Lib.hid hx
  obtain ⟨ad, rfl, h0⟩ := int_at hx 0 (by simp)
  have h00 : w.cell? ad = some (.int .i64 x0) := by simpa [Addr.add] using h0
  clear hcmp hr1 ha hb hx h0
  simp only [List.length_cons]
  go_enter Try.func25, Try.ntmps25
  go_wp2
  go_loopw [5, 6] (fun m i wr => ∃ (k : Nat) (mm : Int), i = .int .i64 ((k + 1 : Nat) : Int) ∧ m = .int .i64 mm ∧ k ≤ xs.length ∧ Hid (maxFrom l1 mm (xs.drop k) = maxFrom l1 x0 xs) ∧ Hid (Below w.heap.size w wr))
    (fun _ i _ => xs.length + 1 - (intOf i).toNat)
  case atStart => exact ⟨0, x0, rfl, rfl, Nat.zero_le _, rfl, Below.refl _ _⟩
  case round =>
    obtain ⟨k, mm, rfl, rfl, hk, hM, hB⟩ := hrel
    have hl9 : (xs.length : Int) ≤ 1000 := by omega
    by_cases hlt : k < xs.length
    · obtain ⟨ad', he, hy⟩ := int_at HX.out (k + 1) (by simpa using hlt)
      obtain rfl : ad = ad' := by injection he
      have hy1 := (hB.out.cell (World.block_lt_of_cell? w _ hy)).trans hy
      have hlt9 := World.block_lt_of_cell? w _ hy
      simp only [List.getElem_cons_succ, Addr.add, Nat.add_eq_zero_iff, Nat.succ_ne_self, and_false, if_false, Nat.one_ne_zero] at hy1
      rw [List.drop_eq_getElem_cons hlt] at hM
      simp only [List.getElem_cons_succ, Addr.add, Nat.add_eq_zero_iff, Nat.succ_ne_self, and_false, if_false, Nat.one_ne_zero] at hy
      generalize xs[k] = y at hy1 hM hy
      have hlt8 : ad.block < w.heap.size := World.block_lt_of_cell? w ⟨ad.block, ad.off + (k + 1), none⟩ hy
      have hy := Lib.hid hy
      clear he hlt9
      go_wp2_with fail
      refine (HCmp.out y mm _ hB.out).mono ?_
      rintro e w1 ⟨rfl, hb1⟩
      have HB1 := Lib.hid hb1
      have hy2 : Hid (w.cell? ⟨ad.block, ad.off + (k + 1), none⟩ = some (.int .i64 y)) := hy
      clear hb1
      by_cases hc : 0 < cmpV l1 y mm
      · have hM2 : Hid (maxFrom l1 y (xs.drop (k + 1)) = maxFrom l1 x0 xs) := by
          rw [← hM.out]
          simp only [maxFrom]
          rw [if_pos hc]
          rfl
        have hy3 : w1.cell? ⟨ad.block, ad.off + (k + 1), none⟩ = some (.int .i64 y) := (HB1.out.cell (p := ⟨ad.block, ad.off + (k + 1), none⟩) hlt8).trans hy2.out
        clear hy1
        go_wp2
        go_roundw
        case rel => exact ⟨k + 1, y, by go_num, rfl, by omega, hM2, HB1⟩
        case measure => simp [intOf]; omega
      · have hM2 : Hid (maxFrom l1 mm (xs.drop (k + 1)) = maxFrom l1 x0 xs) := by
          rw [← hM.out]
          simp only [maxFrom]
          rw [if_neg hc]
          rfl
        go_wp2
        go_roundw
        case rel => exact ⟨k + 1, mm, by go_num, rfl, by omega, hM2, HB1⟩
        case measure => simp [intOf]; omega
    · have hv : Hid (mm = maxFrom l1 x0 xs) := by
        rw [← hM.out, List.drop_eq_nil_of_le (by omega)]
        rfl
      go_wp2
      go_ret
      exact ⟨by rw [← hv.out]; rfl, hB.out⟩
end Go.Proofs.Ytjaghgelmlcplaa.Hand
