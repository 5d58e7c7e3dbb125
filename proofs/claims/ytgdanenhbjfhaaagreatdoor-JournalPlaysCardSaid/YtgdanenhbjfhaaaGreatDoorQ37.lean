import Derived.Test.YtgdanenhbjfhaaaGreatDoorQ36
import Derived.Test.YtgdanenhbjfhaaaGreatDoorQ35
import Derived.Test.YtgdanenhbjfhaaaGreatDoorQ33
/- Several texts of this session in one: the walks of the functions that the laws reach, and what they tell. -/
/- sameAll, tiny, pick, plain. -/
namespace Go.Proofs.YtgdanenhbjfhaaaGreatDoor.Fr
open Go.RowKit Go.Proofs.YtgdanenhbjfhaaaGreatDoor.F Go.Proofs.YtgdanenhbjfhaaaGreatDoorW.PrintWords
set_option linter.unusedVariables false
set_option linter.unusedSimpArgs false
theorem w64i {x : Int} (h0 : -9223372036854775808 ≤ x) (h1 : x ≤ 9223372036854775807) : wrap64 x = x := by unfold wrap64; omega
theorem w64k (i : Nat) (h : i ≤ 100000000000) : wrap64 ((i : Int) + 1) = ((i + 1 : Nat) : Int) := by rw [w64i (by omega) (by omega)]; omega
theorem rdLL {a : List (List ByteArray)} {i : Nat} (h : i < a.length) : rd_L1 a (i : Int) = a[i] := by
  unfold rd_L1
  rw [Int.toNat_natCast, List.getD_eq_getElem?_getD, List.getElem?_eq_getElem h, Option.getD_some]
theorem rdS {l : List ByteArray} {i : Nat} (h : i < l.length) : rdOf ByteArray.empty l (i : Int) = l[i] := by
  unfold rdOf
  rw [Int.toNat_natCast, List.getD_eq_getElem?_getD, List.getElem?_eq_getElem h, Option.getD_some]
theorem tl_eq {a b : ByteArray} : a.toList = b.toList ↔ a = b := ⟨fun h => ba_eq (by rw [← ByteArray.toList_eq, ← ByteArray.toList_eq]; exact h), fun h => by rw [h]⟩
theorem same_l1 (a b : List (List ByteArray)) (hl : a.length ≤ 100000000) (i : Nat) (hi : i < a.length) (hib : i < b.length) (hs : a[i].length = b[i].length) (hsl : a[i].length ≤ 100000000)
    (K : Ev fun k => cooperagelaw6_sameAll.l0 k a b ((i + 1 : Nat) : Int) = some (decide (a.drop (i + 1) = b.drop (i + 1)))) :
    ∀ (n j : Nat), j + n = a[i].length → Ev fun k => cooperagelaw6_sameAll.l1 k a b (i : Int) (j : Int) = some (decide (a[i].drop j = b[i].drop j ∧ a.drop (i + 1) = b.drop (i + 1))) := by
  have hr := rdLL hi
  have hrb := rdLL hib
  intro n
  induction n with
  | zero =>
    intro j hj
    refine Ev.up (K.mp fun k hk => ?_)
    unfold cooperagelaw6_sameAll.l1
    rw [if_pos (by omega), if_pos (by omega), hr, if_neg (by omega), w64k i (by omega), hk]
    have e1 : a[i].drop j = [] := List.drop_eq_nil_of_le (by omega)
    have e2 : b[i].drop j = [] := List.drop_eq_nil_of_le (by omega)
    rw [e1, e2]
    simp
  | succ n ih =>
    intro j hj
    have h1 : j < a[i].length := by omega
    have h2 : j < b[i].length := by omega
    have d1 := List.drop_eq_getElem_cons h1
    have d2 := List.drop_eq_getElem_cons h2
    by_cases he : a[i][j] = b[i][j]
    · refine Ev.up ((ih (j + 1) (by omega)).mp fun k hk => ?_)
      unfold cooperagelaw6_sameAll.l1
      rw [if_pos (by omega), if_pos (by omega), hr, if_pos (by omega), if_pos (by omega), if_pos (by omega), hrb, if_pos (by omega), rdS h1, rdS h2, if_pos (tl_eq.2 he), w64k j (by omega), hk]
      have e3 : (a[i].drop j = b[i].drop j) ↔ (a[i].drop (j + 1) = b[i].drop (j + 1)) := by rw [d1, d2, he]; exact ⟨fun h => (List.cons.inj h).2, fun h => by rw [h]⟩
      simp only [e3]
    · refine Ev.up (Ev.of fun k => ?_)
      unfold cooperagelaw6_sameAll.l1
      rw [if_pos (by omega), if_pos (by omega), hr, if_pos (by omega), if_pos (by omega), if_pos (by omega), hrb, if_pos (by omega), rdS h1, rdS h2, if_neg (fun e => he (tl_eq.1 e))]
      have e3 : ¬ (a[i].drop j = b[i].drop j) := by rw [d1, d2]; exact fun h => he (List.cons.inj h).1
      simp [e3]
theorem same_l0 (a b : List (List ByteArray)) (hl : a.length ≤ 100000000) (hll : a.length = b.length) (ha : ∀ x ∈ a, x.length ≤ 100000000) :
    ∀ (n i : Nat), i + n = a.length → Ev fun k => cooperagelaw6_sameAll.l0 k a b (i : Int) = some (decide (a.drop i = b.drop i)) := by
  intro n
  induction n with
  | zero =>
    intro i hi
    refine Ev.up (Ev.of fun k => ?_)
    unfold cooperagelaw6_sameAll.l0
    rw [if_neg (by omega), List.drop_eq_nil_of_le (by omega), List.drop_eq_nil_of_le (by omega)]
    simp
  | succ n ih =>
    intro i hi
    have h1 : i < a.length := by omega
    have h2 : i < b.length := by omega
    have d1 := List.drop_eq_getElem_cons h1
    have d2 := List.drop_eq_getElem_cons h2
    by_cases hs : a[i].length = b[i].length
    · refine Ev.up ((same_l1 a b hl i h1 h2 hs (ha _ (List.getElem_mem h1)) (ih (i + 1) (by omega)) a[i].length 0 (by omega)).mp fun k hk => ?_)
      unfold cooperagelaw6_sameAll.l0
      have hk' : cooperagelaw6_sameAll.l1 k a b (i : Int) 0 = _ := hk
      rw [if_pos (by omega), if_pos (by omega), if_pos (by omega), rdLL h1, rdLL h2, if_pos (by omega), hk', List.drop_zero, List.drop_zero]
      have e3 : (a.drop i = b.drop i) ↔ (a[i] = b[i] ∧ a.drop (i + 1) = b.drop (i + 1)) := by rw [d1, d2]; exact ⟨fun h => ⟨(List.cons.inj h).1, (List.cons.inj h).2⟩, fun h => by rw [h.1, h.2]⟩
      simp only [e3]
    · refine Ev.up (Ev.of fun k => ?_)
      unfold cooperagelaw6_sameAll.l0
      rw [if_pos (by omega), if_pos (by omega), if_pos (by omega), rdLL h1, rdLL h2, if_neg (by omega)]
      have e3 : ¬ (a.drop i = b.drop i) := by
        rw [d1, d2]
        exact fun h => hs (by rw [(List.cons.inj h).1])
      simp [e3]
theorem same_all (a b : List (List ByteArray)) (hl : a.length ≤ 100000000) (ha : ∀ x ∈ a, x.length ≤ 100000000) : ∃ k, cooperagelaw6_sameAll.f k a b = some (decide (a = b)) := by
  by_cases h : a.length = b.length
  · refine ((same_l0 a b hl h ha a.length 0 (by omega)).mp fun k hk => ?_).get
    have hk' : cooperagelaw6_sameAll.l0 k a b 0 = _ := hk
    unfold cooperagelaw6_sameAll.f
    rw [if_pos (by omega), hk', List.drop_zero, List.drop_zero]
  · refine ⟨0, ?_⟩
    unfold cooperagelaw6_sameAll.f
    rw [if_neg (by omega)]
    have : ¬ a = b := fun e => h (by rw [e])
    simp [this]
theorem same_call {W : World} {A B : Option Addr} {c d : Nat} {a b : List (List ByteArray)} (ha : Kd.C kLL W A a.length a) (hc : a.length ≤ c) (hb : Kd.C kLL W B b.length b) (hd : b.length ≤ d) (h1 : a.length ≤ 100000000) (h2 : ∀ x ∈ a, x.length ≤ 100000000) :
    Calls Tryz.prog 13 #[.slice A a.length c, .slice B b.length d] W fun e w' => e = .returned (.bool (decide (a = b))) ∧ Below W.heap.size W w' := by
  obtain ⟨k, hk⟩ := same_all a b h1 h2
  exact (cooperagelaw6_sameAll.calls k A c a B d b _ W ha hc hb hd hk).mono fun e w' h => ⟨h.1, h.2.below⟩
theorem same_yes {W : World} {A B : Option Addr} {c d : Nat} {a b : List (List ByteArray)} (ha : Kd.C kLL W A a.length a) (hc : a.length ≤ c) (hb : Kd.C kLL W B b.length b) (hd : b.length ≤ d) (h1 : a.length ≤ 100000000) (h2 : ∀ x ∈ a, x.length ≤ 100000000) (e : a = b) :
    Calls Tryz.prog 13 #[.slice A a.length c, .slice B b.length d] W fun e w' => e = .returned (.bool true) ∧ Below W.heap.size W w' := by
  have := same_call ha hc hb hd h1 h2
  rwa [decide_eq_true e] at this
def TinyP (l : List ByteArray) : Prop := l.length ≤ 45 ∧ ∀ x ∈ l, x.size ≤ 60
theorem tiny_l1 (ls : List (List ByteArray)) (hls : ls.length ≤ 20) (i : Nat) (hi : i < ls.length) (hl : ls[i].length ≤ 45) (K : ∃ b, (Ev fun k => cooperagelaw6_tiny.l0 k ls ((i + 1 : Nat) : Int) = some b) ∧ (b = true → ∀ l ∈ ls.drop (i + 1), TinyP l)) :
    ∀ (n j : Nat), j + n = ls[i].length → ∃ b, (Ev fun k => cooperagelaw6_tiny.l1 k ls (i : Int) (j : Int) = some b) ∧ (b = true → (∀ x ∈ ls[i].drop j, x.size ≤ 60) ∧ ∀ l ∈ ls.drop (i + 1), TinyP l) := by
  have hr := rdLL hi
  intro n
  induction n with
  | zero =>
    intro j hj
    obtain ⟨b, hb, hp⟩ := K
    refine ⟨b, Ev.up (hb.mp fun k hk => ?_), fun h => ⟨fun x hx => ?_, hp h⟩⟩
    · unfold cooperagelaw6_tiny.l1
      rw [if_pos (by omega), if_pos (by omega), hr, if_neg (by omega), w64k i (by omega)]
      exact hk
    · rw [List.drop_eq_nil_of_le (by omega)] at hx
      exact absurd hx (by simp)
  | succ n ih =>
    intro j hj
    have hlt : j < ls[i].length := by omega
    have hr2 := rdS hlt
    by_cases h60 : ls[i][j].size ≤ 60
    · obtain ⟨b, hb, hp⟩ := ih (j + 1) (by omega)
      refine ⟨b, Ev.up (hb.mp fun k hk => ?_), fun h => ⟨fun x hx => ?_, (hp h).2⟩⟩
      · unfold cooperagelaw6_tiny.l1
        rw [if_pos (by omega), if_pos (by omega), hr, if_pos (by omega), if_pos (by omega), hr2, if_neg (by omega), w64k j (by omega)]
        exact hk
      · rw [List.drop_eq_getElem_cons hlt] at hx
        rcases List.mem_cons.1 hx with e | e
        · subst e
          exact h60
        · exact (hp h).1 x e
    · refine ⟨false, Ev.up (Ev.of fun k => ?_), fun h => by cases h⟩
      unfold cooperagelaw6_tiny.l1
      rw [if_pos (by omega), if_pos (by omega), hr, if_pos (by omega), if_pos (by omega), hr2, if_pos (by omega)]
theorem tiny_l0 (ls : List (List ByteArray)) (hls : ls.length ≤ 20) : ∀ (n i : Nat), i + n = ls.length → ∃ b, (Ev fun k => cooperagelaw6_tiny.l0 k ls (i : Int) = some b) ∧ (b = true → ∀ l ∈ ls.drop i, TinyP l) := by
  intro n
  induction n with
  | zero =>
    intro i hi
    refine ⟨true, Ev.up (Ev.of fun k => ?_), fun _ l hl => ?_⟩
    · unfold cooperagelaw6_tiny.l0
      rw [if_neg (by omega)]
    · rw [List.drop_eq_nil_of_le (by omega)] at hl
      exact absurd hl (by simp)
  | succ n ih =>
    intro i hi
    have hlt : i < ls.length := by omega
    have hr := rdLL hlt
    by_cases h50 : ls[i].length ≤ 45
    · obtain ⟨b, hb, hp⟩ := tiny_l1 ls hls i hlt h50 (ih (i + 1) (by omega)) ls[i].length 0 (by omega)
      refine ⟨b, Ev.up (hb.mp fun k hk => ?_), fun h l hl => ?_⟩
      · unfold cooperagelaw6_tiny.l0
        rw [if_pos (by omega), if_pos (by omega), hr, if_neg (by omega)]
        exact hk
      · rw [List.drop_eq_getElem_cons hlt] at hl
        rcases List.mem_cons.1 hl with e | e
        · subst e
          exact ⟨h50, (hp h).1⟩
        · exact (hp h).2 l e
    · refine ⟨false, Ev.up (Ev.of fun k => ?_), fun h => by cases h⟩
      unfold cooperagelaw6_tiny.l0
      rw [if_pos (by omega), if_pos (by omega), hr, if_pos (by omega)]
def TinyL (ls : List (List ByteArray)) : Prop := ls.length ≤ 20 ∧ ∀ l ∈ ls, TinyP l
def pickI (c n : Int) : Int := if c < 0 then Int.tmod (-(c + 1)) n else Int.tmod c n
theorem pickn_f (c n : Int) (h0 : -9223372036854775808 ≤ c ∧ c ≤ 9223372036854775807) (h1 : 1 ≤ n) : cooperagelaw6_pick.f c n = some (pickI c n) := by
  unfold cooperagelaw6_pick.f pickI
  by_cases h : c < 0
  · rw [if_pos h, if_neg (by omega), if_pos h]
    have e : wrap64 (-(wrap64 (c + 1))) = -(c + 1) := by unfold wrap64; omega
    rw [e]
  · rw [if_neg h, if_neg (by omega), if_neg h]
theorem pickn_lt (c n : Int) (h1 : 1 ≤ n) : 0 ≤ pickI c n ∧ pickI c n < n := by
  unfold pickI
  split
  · rw [Int.tmod_eq_emod_of_nonneg (by omega)]
    exact ⟨Int.emod_nonneg _ (by omega), Int.emod_lt_of_pos _ (by omega)⟩
  · rw [Int.tmod_eq_emod_of_nonneg (by omega)]
    exact ⟨Int.emod_nonneg _ (by omega), Int.emod_lt_of_pos _ (by omega)⟩
theorem pick6_call (c n : Int) (h0 : -9223372036854775808 ≤ c ∧ c ≤ 9223372036854775807) (h1 : 1 ≤ n) (W : World) : Calls Tryz.prog 7 #[.int .i64 c, .int .i64 n] W fun e w' => e = .returned (.int .i64 (pickI c n)) ∧ Below W.heap.size W w' :=
  (cooperagelaw6_pick.calls c n _ W (pickn_f c n h0 h1)).mono fun e w' h => ⟨h.1, h.2.below⟩
end Go.Proofs.YtgdanenhbjfhaaaGreatDoor.Fr
/- One journal: what a law tells of it, plain. -/
namespace Go.Proofs.YtgdanenhbjfhaaaGreatDoor.Fr
open Go.RowKit Go.Proofs.YtgdanenhbjfhaaaGreatDoor.F Go.Proofs.YtgdanenhbjfhaaaGreatDoorW.PrintWords
open Go.Proofs.YtgdanenhbjfhaaaGreatDoor.Hand (putV takeV scanV)
open Go.Proofs.YtgdanenhbjfhaaaGreatDoor.PureL (cat cat_app cat_behind cat_size)
set_option linter.unusedVariables false
set_option linter.unusedSimpArgs false
theorem ns_of {N : List ByteArray} (h1 : (N.all fun a => N.all fun b => !wayF a b) = true) (h2 : N.all pathV = true) (h3 : N.length ≤ 100) : NS N where
  way := fun a ha b hb => by
    have := List.all_eq_true.1 (List.all_eq_true.1 h1 a ha) b hb
    simpa using this
  path := fun a ha => List.all_eq_true.1 h2 a ha
  many := h3
/-- A journal alone: xs at the last sync, ys since. -/
def at1 (q : ByteArray) (xs : List (List ByteArray)) : ByteArray → List (List ByteArray) := fun p => if p = q then xs else []
theorem sel_own (q : ByteArray) (ys : List (List ByteArray)) : sel q (ys.map fun y => (q, y)) = ys := by
  induction ys with
  | nil => rfl
  | cons y r ih => rw [List.map_cons, sel, if_pos rfl, ih]
theorem sel_not {q p : ByteArray} (h : q ≠ p) (ys : List (List ByteArray)) : sel p (ys.map fun y => (q, y)) = [] := by
  induction ys with
  | nil => rfl
  | cons y r ih => rw [List.map_cons, sel, if_neg h, ih]
theorem at1_add (q : ByteArray) (xs ys : List (List ByteArray)) : (fun p => at1 q xs p ++ sel p (ys.map fun y => (q, y))) = at1 q (xs ++ ys) := by
  funext p
  unfold at1
  by_cases h : p = q
  · rw [if_pos h, if_pos h, h, sel_own]
  · rw [if_neg h, if_neg h, sel_not (fun e => h e.symm)]
    rfl
structure J1 (R : Nat) (N : List ByteArray) (q : ByteArray) (n u : Nat) (T : TS) (xs ys : List (List ByteArray)) : Prop where
  jl : Jl R N n u T (at1 q xs) (ys.map fun y => (q, y))
section
variable {R : Nat} {N : List ByteArray} {q : ByteArray} {n u : Nat} {T : TS} {xs ys : List (List ByteArray)}
theorem j1_new {R : Nat} (h1 : 1 ≤ R) (h2 : R ≤ 2000000) (N : List ByteArray) (q : ByteArray) : J1 R N q 0 0 (newT R) [] [] := ⟨{ jl_new h1 h2 N with
  last := fun p => by
    have : at1 q [] p = [] := by unfold at1; split <;> rfl
    rw [this]
    exact (jl_new h1 h2 N).last p
  xl := fun p => by
    have : at1 q [] p = [] := by unfold at1; split <;> rfl
    rw [this]
    exact fun l hl => by cases hl }⟩
theorem J1.mono {n' u' : Nat} (h : J1 R N q n u T xs ys) (h1 : n ≤ n') (h2 : u ≤ u') : J1 R N q n' u' T xs ys := ⟨h.jl.mono h1 h2⟩
theorem J1.sync (h : J1 R N q n u T xs ys) : J1 R N q n u (syncT T) (xs ++ ys) [] := ⟨by
  have := h.jl.sync
  rw [at1_add] at this
  exact this⟩
theorem J1.inv (h : J1 R N q n u T xs ys) : Inv n T := h.jl.jn.inv
theorem J1.room (h : J1 R N q n u T xs ys) : T.room ≤ 2000000 := by have := h.jl.jn.rle; rw [h.jl.jn.room]; omega
theorem J1.add (hN : NS N) (h : J1 R N q n u T xs ys) (hq : q ∈ N) (hb : besN q ∈ N) {l : List ByteArray} (hl : (putV l).2 = 0) {b : Nat} (hs : (putV l).1.size ≤ b) (hu : u + b ≤ R) :
    addE T q l = 0 ∧ J1 R N q (n + 1) (u + b) (addT T q l) xs (ys ++ [l]) := by
  obtain ⟨h1, h2, h3⟩ := h.jl.add hN hq hb hl hs hu
  refine ⟨h1, ⟨?_⟩⟩
  rw [List.map_append]
  exact h2
theorem J1.lines (h : J1 R N q n u T xs ys) : Lines (xs ++ ys) := by
  have := h.jl.lines q
  unfold at1 at this
  rw [if_pos rfl, sel_own] at this
  exact this
theorem J1.now (h : J1 R N q n u T xs ys) : textF T.l q = cat (xs ++ ys) e0 := by
  have := h.jl.now q
  unfold at1 at this
  rw [if_pos rfl, sel_own] at this
  exact this
theorem J1.crash (h : J1 R N q n u T xs ys) (many part : Int) :
    Jn R N n u (crashT T many part) ∧ ∃ j r, keptN many ys.length ≤ j ∧ j ≤ ys.length ∧ (j = keptN many ys.length ∨ ∃ h : keptN many ys.length < ys.length, ((putV ys[keptN many ys.length]).1.size : Int) ≤ part) ∧ Dec (textF (crashT T many part).l q) (xs ++ ys.take j) r := by
  obtain ⟨h1, h2, j, h3, h4, h6, h5⟩ := h.jl.crash many part
  simp only [List.length_map, List.getElem_map] at h3 h4 h6
  obtain ⟨r, hr⟩ := h5 q
  refine ⟨h1, j, r, h3, h4, h6, ?_⟩
  rw [← List.map_take, sel_own] at hr
  unfold at1 at hr
  rw [if_pos rfl] at hr
  exact hr
end
end Go.Proofs.YtgdanenhbjfhaaaGreatDoor.Fr
/- The example at the head of chapter 6's statements. -/
namespace Go.Proofs.YtgdanenhbjfhaaaGreatDoor.Fr
open Go.RowKit Go.Proofs.YtgdanenhbjfhaaaGreatDoor.F Go.Proofs.YtgdanenhbjfhaaaGreatDoorW.PrintWords
open Go.Proofs.YtgdanenhbjfhaaaGreatDoor.Hand (putV takeV scanV)
open Go.Proofs.YtgdanenhbjfhaaaGreatDoor.PureL (cat cat_app cat_behind cat_size put_of line_len putV_size)
set_option linter.unusedVariables false
set_option linter.unusedSimpArgs false
theorem line_small {l : List ByteArray} {m : Nat} (h : ∀ x ∈ l, x.size ≤ m) (h1 : 1 ≤ l.length) (h2 : l.length ≤ 40) (h3 : (3 * m + 2) * l.length + 9 ≤ 13000) :
    (putV l).2 = 0 ∧ (putV l).1.size ≤ (3 * m + 2) * l.length + 9 ∧ 9 ≤ (putV l).1.size := by
  have hb := Hand.bodyL_len m l h
  have hl := line_len l
  have h0 := put_of h1 h2 (by omega)
  have hz : (putV l).2 = 0 := by rw [h0]
  have := putV_size hz
  exact ⟨hz, by omega, by omega⟩
def jB : ByteArray := ⟨#[106]⟩
def jnB : ByteArray := ⟨#[106, 46, 110, 101, 119]⟩
theorem bes_j : besN jB = jnB := by kernel_rfl
theorem bes_j' : besN (⟨#[106]⟩ : ByteArray) = (⟨#[106, 46, 110, 101, 119]⟩ : ByteArray) := by kernel_rfl
def jN : List ByteArray := [jB, jnB]
theorem ns_j : NS jN := ns_of (by kernel_rfl) (by kernel_rfl) (by decide)
theorem j_mem : jB ∈ jN := List.mem_cons_self ..
theorem jn_mem : besN jB ∈ jN := by rw [bes_j]; exact List.mem_cons_of_mem _ (List.mem_cons_self ..)
theorem jn_ne : besN jB ≠ jB := by
  rw [bes_j]
  intro e
  exact absurd (congrArg ByteArray.size e) (by decide)
def aL : List ByteArray := [⟨#[97]⟩]
def bL : List ByteArray := [⟨#[98]⟩]
theorem a_line : (putV aL).2 = 0 ∧ (putV aL).1.size ≤ 14 ∧ 9 ≤ (putV aL).1.size := line_small (m := 1) (fun x hx => by rw [List.mem_singleton.1 hx]; decide) (by decide) (by decide) (by decide)
theorem b_line : (putV bL).2 = 0 ∧ (putV bL).1.size ≤ 14 ∧ 9 ≤ (putV bL).1.size := line_small (m := 1) (fun x hx => by rw [List.mem_singleton.1 hx]; decide) (by decide) (by decide) (by decide)
def Z0 : TS := newT 1000
def Z1 : TS := addT Z0 jB aL
def Z2 : TS := syncT Z1
def Z3 : TS := addT Z2 jB bL
def Z4 : TS := crashT Z3 0 5
theorem z0 : J1 1000 jN jB 0 0 Z0 [] [] := j1_new (by decide) (by decide) jN jB
theorem z1 : addE Z0 jB aL = 0 ∧ J1 1000 jN jB 1 14 Z1 [] [aL] := z0.add ns_j j_mem jn_mem a_line.1 a_line.2.1 (by decide)
theorem z2 : J1 1000 jN jB 1 14 Z2 [aL] [] := z1.2.sync
theorem z3 : addE Z2 jB bL = 0 ∧ J1 1000 jN jB 2 28 Z3 [aL] [bL] := z2.add ns_j j_mem jn_mem b_line.1 b_line.2.1 (by decide)
theorem z4 : Jn 1000 jN 2 28 Z4 ∧ ∃ r, Dec (textF Z4.l jB) [aL] r := by
  obtain ⟨h1, j, r, h2, h3, h4, h5⟩ := z3.2.crash 0 5
  refine ⟨h1, r, ?_⟩
  have hk : keptN 0 [bL].length = 0 := by decide
  rw [hk] at h4
  rcases h4 with h4 | ⟨hlt, h4⟩
  · rw [h4] at h5
    exact h5
  · have : ([bL][0]'hlt) = bL := rfl
    rw [this] at h4
    have := b_line.2.2
    omega
theorem z5 : openE Z4 jB = 0 ∧ openL Z4 jB = [aL] := by
  obtain ⟨h1, r, h2⟩ := z4
  obtain ⟨e1, e2, -⟩ := open_dec ns_j h1 j_mem jn_mem jn_ne h2 (fun _ => by decide)
  exact ⟨e1, e2⟩
theorem int_wf {x : Int} (h : (Lit.int .i64 x).wf = true) : -9223372036854775808 ≤ x ∧ x ≤ 9223372036854775807 := by
  have h2 : (decide (IntKind.i64.min ≤ x) && decide (x ≤ IntKind.i64.max)) = true := h
  rw [Bool.and_eq_true, decide_eq_true_eq, decide_eq_true_eq] at h2
  exact h2
/-- sameAll of two rows, whatever lay ahead of it. -/
def SameAt (W0 : World) (A : Option Addr) (c : Nat) (a : List (List ByteArray)) (B : Option Addr) (d : Nat) (b : List (List ByteArray)) (r : Bool) : Prop :=
  ∀ W, Below W0.heap.size W0 W → Calls Tryz.prog 13 #[.slice A a.length c, .slice B b.length d] W fun e w' => e = .returned (.bool r) ∧ Below W0.heap.size W0 w'
theorem SameAt.at {W0 : World} {A B : Option Addr} {c d : Nat} {a b : List (List ByteArray)} {r : Bool} (h : SameAt W0 A c a B d b r) (W : World) (hB : Below W0.heap.size W0 W) : Calls Tryz.prog 13 #[.slice A a.length c, .slice B b.length d] W fun e w' => e = .returned (.bool r) ∧ Below W0.heap.size W0 w' := h W hB
theorem same_at {W0 : World} {A B : Option Addr} {c d : Nat} {a b : List (List ByteArray)} (ha : Kd.C kLL W0 A a.length a) (hc : a.length ≤ c) (hb : Kd.C kLL W0 B b.length b) (hd : b.length ≤ d) (h1 : a.length ≤ 100000000 ∧ ∀ x ∈ a, x.length ≤ 100000000) {r : Bool} (e : decide (a = b) = r) :
    SameAt W0 A c a B d b r := fun W hB => by
  have := same_call (Kd.C_below ha hB) hc (Kd.C_below hb hB) hd h1.1 h1.2
  rw [e] at this
  exact this.mono fun e w' h => ⟨h.1, hB.trans (h.2.mono hB.size)⟩
/-- Rows that the code lays itself. -/
theorem C_lit1 (W : World) (s : ByteArray) : Kd.C Kd.string (W.alloc (.cells #[.string s] 9)) (some ⟨W.heap.size, 0, none⟩) 1 [s] := by
  refine ⟨rfl, by decide, fun _ => ⟨_, rfl, fun j p hj => ?_⟩⟩
  have hj0 : j = 0 := by
    have := (List.getElem?_eq_some_iff.1 hj).1
    simp at this
    exact this
  subst hj0
  have hp : s = p := by simpa using hj
  subst hp
  refine ⟨[.string s], rfl, rfl, fun i u hu => ?_⟩
  have hi : i = 0 := by
    have := (List.getElem?_eq_some_iff.1 hu).1
    simp at this
    exact this
  subst hi
  have hu : Value.string s = u := by simpa using hu
  subst hu
  exact cell_box (World.alloc_heap_new W _) 0 rfl
theorem C_lit2 (W : World) {A : Option Addr} {c : Nat} {l : List ByteArray} (h : Kd.C Kd.string W A l.length l) (hc : l.length ≤ c) : Kd.C kLL (W.alloc (.cells #[.slice A l.length c] 37)) (some ⟨W.heap.size, 0, none⟩) 1 [l] := by
  refine ⟨rfl, by decide, fun _ => ⟨_, rfl, fun j p hj => ?_⟩⟩
  have hj0 : j = 0 := by
    have := (List.getElem?_eq_some_iff.1 hj).1
    simp at this
    exact this
  subst hj0
  have hp : l = p := by simpa using hj
  subst hp
  refine ⟨[.slice A l.length c], rfl, ⟨A, c, rfl, hc, Kd.C_below h (newBelow W _)⟩, fun i u hu => ?_⟩
  have hi : i = 0 := by
    have := (List.getElem?_eq_some_iff.1 hu).1
    simp at this
    exact this
  subst hi
  have hu : Value.slice A l.length c = u := by simpa using hu
  subst hu
  exact cell_box (World.alloc_heap_new W _) 0 rfl
section
variable {w : World}
set_option maxHeartbeats 8000000 in
set_option maxRecDepth 100000 in
theorem shown6_call (hG : Hand2.Glob w) : Calls Tryz.prog 4 #[] w fun e w' => e = .returned (.bool true) ∧ Below w.heap.size w w' := by
  have HG := Lib.hid hG
  clear hG
  go_enter Tryz.func4, Tryz.ntmps4
  go_upto_region 2 with (first | (go_at_call 6; refine (begun6_sts w 1000 (by decide) (by decide)).mono ?_; rintro e w1 ⟨p, m, rfl, hs, hb⟩; have HL0' := Lib.hid (law_begun6 HG.out (Below.refl _ w) hs hb); clear hs hb))
  obtain ⟨b, hbz⟩ : ∃ b, w1.heap.size = b := ⟨_, rfl⟩
  obtain ⟨K, hK⟩ : ∃ K : Nat → Prop, K = fun k => k < w.heap.size ∨ k = b := ⟨_, rfl⟩
  have HL0 : Hid (Law w K m [(p, Z0)] (newT 1000) [PBox6 p m b] (w1.alloc (.cells #[.pointer (some ⟨p, 0, none⟩), .pointer (some ⟨m, 0, none⟩)] 28))) := by rw [hK, ← hbz]; exact HL0'.out
  clear HL0' hK
  rw [hbz]
  generalize w1.alloc (.cells #[.pointer (some ⟨p, 0, none⟩), .pointer (some ⟨m, 0, none⟩)] 28) = W0 at HL0 ⊢
  clear hbz
  obtain ⟨c0, c1⟩ := (HL0.out.va 0 rfl : PBox6 p m b _).cells
  go_upto_region 4 with (first | (go_at_call 8; refine ((HL0.out.below (newBelow _ _)).sts.jAdd (i := 0) rfl (HL0.out.below (newBelow _ _)).glob z0.inv (by decide) jB (by decide) _ 1 aL (C_lit1 _ _) (by decide) (fun x hx => by rw [List.mem_singleton.1 hx]; decide)).mono ?_; rintro e w2 ⟨rfl, hs, hk⟩; rw [z1.1]; have HL1 : Hid (Law w K m [(p, Z1)] (newT 1000) [PBox6 p m b] w2) := (HL0.out.below (newBelow _ _)).step hs hk; clear hs hk))
  clear c0 c1 HL0
  obtain ⟨c0, c1⟩ := (HL1.out.va 0 rfl : PBox6 p m b _).cells
  go_upto_region 5 with (first | (go_at_call 16; refine (HL1.out.sts.Sync (i := 0) rfl HL1.out.glob.g z1.2.inv (by decide)).mono ?_; rintro e w2 ⟨rfl, hs, hk⟩; have HL2 : Hid (Law w K m [(p, Z2)] (newT 1000) [PBox6 p m b] w2) := HL1.out.step hs hk; clear hs hk))
  clear c0 c1 HL1
  obtain ⟨c0, c1⟩ := (HL2.out.va 0 rfl : PBox6 p m b _).cells
  go_upto_region 6 with (first | (go_at_call 8; refine ((HL2.out.below (newBelow _ _)).sts.jAdd (i := 0) rfl (HL2.out.below (newBelow _ _)).glob z2.inv (by decide) jB (by decide) _ 1 bL (C_lit1 _ _) (by decide) (fun x hx => by rw [List.mem_singleton.1 hx]; decide)).mono ?_; rintro e w2 ⟨rfl, hs, hk⟩; rw [z3.1]; have HL3 : Hid (Law w K m [(p, Z3)] (newT 1000) [PBox6 p m b] w2) := (HL2.out.below (newBelow _ _)).step hs hk; clear hs hk))
  clear c0 c1 HL2
  obtain ⟨c0, c1⟩ := (HL3.out.va 0 rfl : PBox6 p m b _).cells
  go_upto_region 7 with (first | (go_at_call 18; refine (HL3.out.sts.Crash (i := 0) rfl HL3.out.glob.g z3.2.inv (by decide) 0 5 (by decide)).mono ?_; rintro e w2 ⟨rfl, hs, hk⟩; have HL4 : Hid (Law w K m [(p, Z4)] (newT 1000) [PBox6 p m b] w2) := HL3.out.step hs hk; clear hs hk))
  clear c0 c1 HL3
  obtain ⟨c0, c1⟩ := (HL4.out.va 0 rfl : PBox6 p m b _).cells
  go_upto_region 8 with (first | (go_at_call 11; refine (HL4.out.sts.jOpen (i := 0) rfl HL4.out.gk z4.1.inv (by decide) (by rw [z4.1.room]; decide) jB (by decide)).mono ?_; rintro e w2 ⟨v1, K1, rfl, hKK, hs, hk, hv⟩; rw [z5.1]; rw [z5.2] at hv; obtain ⟨A1, n1, rfl⟩ := Kd.S_slice hv; have HL5 := Lib.hid (HL4.out.opened hKK hs hk hv); have HV := Lib.hid hv; clear hKK hs hk hv))
  clear c0 c1 HL4
  obtain ⟨Aq, cq, e, hcq, hC⟩ := S_at HV.out
  cases e
  have HCQ := Lib.hid hcq
  have HSA : Hid (Calls Tryz.prog 13 #[.slice A1 1 n1, .slice (some ⟨w2.heap.size + 1, 0, none⟩) 1 1] ((w2.alloc (.cells #[.string (⟨#[97]⟩ : ByteArray)] 9)).alloc (.cells #[.slice (some ⟨w2.heap.size, 0, none⟩) 1 1] 37)) fun e w' => e = .returned (.bool true) ∧ Below w2.heap.size w2 w') := by
    have h1 : Kd.C Kd.string (w2.alloc (.cells #[.string (⟨#[97]⟩ : ByteArray)] 9)) (some ⟨w2.heap.size, 0, none⟩) aL.length aL := C_lit1 w2 _
    have h2 := C_lit2 (c := 1) _ h1 (by decide)
    have hz : (w2.alloc (.cells #[.string (⟨#[97]⟩ : ByteArray)] 9)).heap.size = w2.heap.size + 1 := World.size_alloc ..
    rw [hz] at h2
    have hB : Below w2.heap.size w2 ((w2.alloc (.cells #[.string (⟨#[97]⟩ : ByteArray)] 9)).alloc (.cells #[.slice (some ⟨w2.heap.size, 0, none⟩) 1 1] 37)) := (newBelow _ _).trans ((newBelow _ _).mono (by rw [hz]; omega))
    have h3 : Kd.C kLL _ A1 [aL].length [aL] := Kd.C_below hC hB
    exact (same_yes (a := [aL]) (b := [aL]) (A := A1) (c := n1) h3 hcq h2 (Nat.le_refl 1) (by decide) (fun x hx => by rw [List.mem_singleton.1 hx]; decide) rfl).mono fun e w' h => ⟨h.1, hB.trans (h.2.mono hB.size)⟩
  clear hcq hC
  go_wp2_with (first
    | (go_at_call 13; refine HSA.out.mono ?_; rintro e w6 ⟨rfl, hb⟩; have HB6 := Lib.hid hb; clear hb)
    | (go_at_call 25; refine (beside_call (⟨#[106]⟩ : ByteArray) (by decide) _).mono ?_; rintro e w7 ⟨rfl, rfl⟩; rw [bes_j']))
  go_ret
  exact ⟨rfl, HL5.out.bel.trans (HB6.out.mono HL5.out.bel.size)⟩
end
end Go.Proofs.YtgdanenhbjfhaaaGreatDoor.Fr
/- JournalAnew, plain. -/
namespace Go.Proofs.YtgdanenhbjfhaaaGreatDoor.Fr
open Go.RowKit Go.Proofs.YtgdanenhbjfhaaaGreatDoor.F Go.Proofs.YtgdanenhbjfhaaaGreatDoorW.PrintWords
open Go.Proofs.YtgdanenhbjfhaaaGreatDoor.Hand (putV takeV scanV)
open Go.Proofs.YtgdanenhbjfhaaaGreatDoor.PureL (cat cat_app cat_behind cat_size)
set_option linter.unusedVariables false
set_option linter.unusedSimpArgs false
theorem tiny_all {l : List (List ByteArray)} (h : TinyL l) : AllOK l where
  small := fun x hx y hy => Nat.le_trans ((h.2 x hx).2 y hy) (by decide)
  size := fun k hk => by
    have h1 := putAll_size (l.take k)
    have h2 : (l.take k).length ≤ l.length := List.length_take_le' ..
    have := h.1
    omega
  many := Nat.le_trans h.1 (by decide)
end Go.Proofs.YtgdanenhbjfhaaaGreatDoor.Fr
