import Derived.Test.YtghbaehbgefpaaaGreatDoorQ14
import Derived.Test.YtghbaehbgefpaaaGreatDoorQ08
import Derived.Test.YtghbaehbgefpaaaGreatDoorQ09
import Derived.Test.YtghbaehbgefpaaaGreatDoorQ18
import Derived.Test.YtghbaehbgefpaaaGreatDoorQ11
import Derived.Test.YtghbaehbgefpaaaGreatDoorProg
import Derived.Below
import Derived.Deep.Draws
import Derived.Deep.AppendLies
import Derived.Maps.AppendAt
import Derived.OwnWalk
import Derived.Laws.BytesArg
import Derived.Laws.MakeOwn
import Derived.Laws.OwnMore
import Derived.Deep.OwnRows
import Derived.Tactics
import Derived.Lib.ConvBytes
import Derived.Laws.Slices
import Derived.WalkKit
import Derived.KernelRfl
import Derived.RowKit3
import Derived.Deep.LoopGhost
import Derived.Deep.QuietTactic
import Derived.BigQuiet
import Derived.WideLaws
import Derived.Deep.DeepCutAuto
import Derived.Deep.CutBlock
import Derived.Deep.RegionHeld3
import Derived.Laws.Rows
import Derived.Lib.AppendStr
import Derived.ArgAppend
import Derived.Laws.IdiomCopy
import Derived.OrdersHeld
import Derived.Laws.BitsLemmas
import Derived.RowKit
import Derived.Test.YtghbaehbgefpaaaGreatDoorQ00
import Derived.Test.YtghbaehbgefpaaaGreatDoorQ01
/- Several texts of this session in one: the walks of the functions that the laws reach, and what they tell. -/
set_option linter.unusedVariables false
set_option linter.unusedSimpArgs false
namespace Go.Proofs.YtghbaehbgefpaaaGreatDoor.PureR
open Go.RowKit Go.Proofs.YtghbaehbgefpaaaGreatDoor.Fr Go.Proofs.YtghbaehbgefpaaaGreatDoorW.PrintWords
open Go.Proofs.YtghbaehbgefpaaaGreatDoor.Hand
theorem w64 {x : Int} (h0 : -9223372036854775808 ≤ x) (h1 : x ≤ 9223372036854775807) : wrap64 x = x := by unfold wrap64; omega
theorem w64s (i : Nat) (h : i ≤ 100000000000) : wrap64 ((i : Int) + 1) = ((i + 1 : Nat) : Int) := by rw [w64 (by omega) (by omega)]; omega
def Ev (p : Nat → Prop) : Prop := ∃ k0, ∀ k, k0 ≤ k → p k
theorem Ev.of {p : Nat → Prop} (h : ∀ k, p k) : Ev p := ⟨0, fun k _ => h k⟩
theorem Ev.and {p q : Nat → Prop} : Ev p → Ev q → Ev fun k => p k ∧ q k := fun ⟨a, ha⟩ ⟨b, hb⟩ => ⟨max a b, fun k hk => ⟨ha k (by omega), hb k (by omega)⟩⟩
theorem Ev.mp {p q : Nat → Prop} (h : Ev p) (hi : ∀ k, p k → q k) : Ev q := let ⟨a, ha⟩ := h; ⟨a, fun k hk => hi k (ha k hk)⟩
theorem Ev.up {p : Nat → Prop} (h : Ev fun k => p (k + 1)) : Ev p := by
  obtain ⟨a, ha⟩ := h
  refine ⟨a + 1, fun k hk => ?_⟩
  obtain ⟨j, rfl⟩ : ∃ j, k = j + 1 := ⟨k - 1, by omega⟩
  exact ha j (by omega)
theorem Ev.get {p : Nat → Prop} (h : Ev p) : ∃ k, p k := let ⟨a, ha⟩ := h; ⟨a, ha a (Nat.le_refl _)⟩
theorem tl (s : ByteArray) : s.toList = s.data.toList := ByteArray.toList_eq s
theorem tl_inj {a b : ByteArray} (h : a.toList = b.toList) : a = b := ba_ext (by rw [← tl, ← tl]; exact h)
theorem bt_nat (s : ByteArray) (i : Nat) (h : i < s.data.toList.length) : bt s (i : Int) = ((s.data.toList[i]).toNat : Int) := by
  have h' : i < s.data.size := by simpa using h
  unfold bt
  rw [dif_pos (by simpa using h')]
  simp [ByteArray.getElem_eq_getElem_data]
end Go.Proofs.YtghbaehbgefpaaaGreatDoor.PureR
namespace Go.Proofs.YtghbaehbgefpaaaGreatDoor.PureR
open Go.RowKit Go.Proofs.YtghbaehbgefpaaaGreatDoor.Fr
open Go.Proofs.YtghbaehbgefpaaaGreatDoor.Hand
end Go.Proofs.YtghbaehbgefpaaaGreatDoor.PureR
namespace Go.Proofs.YtghbaehbgefpaaaGreatDoor.PureR
open Go.RowKit Go.Proofs.YtghbaehbgefpaaaGreatDoor.Fr Go.Proofs.YtghbaehbgefpaaaGreatDoor.R Go.Proofs.YtghbaehbgefpaaaGreatDoorW.PrintWords
open Go.Proofs.YtghbaehbgefpaaaGreatDoor.Hand
theorem plain_f : ∀ n : Fin 256, cooperageref1_plain.f ((n.val : Nat) : Int) = some (plainI ((n.val : Nat) : Int)) := by decide +kernel
theorem plain_at (s : ByteArray) (i : Nat) (h : i < s.data.toList.length) : cooperageref1_plain.f (bt s (i : Int)) = some (plainI (s.data.toList[i]).toNat) := by
  rw [bt_nat s i h]
  exact plain_f ⟨(s.data.toList[i]).toNat, UInt8.toNat_lt _⟩
theorem drop_at {l : List UInt8} {i : Nat} (h : i < l.length) : l.drop i = l[i] :: l.drop (i + 1) := List.drop_eq_getElem_cons h
theorem ext_one (s : ByteArray) (i : Nat) (h : i < s.data.toList.length) : (s.extract i (i + 1)).data.toList = [s.data.toList[i]] := by
  rw [Lib.extract_data, List.drop_eq_getElem_cons h, show i + 1 - i = 1 by omega]
  rfl
end Go.Proofs.YtghbaehbgefpaaaGreatDoor.PureR
namespace Go.Proofs.YtghbaehbgefpaaaGreatDoor.PureR
open Go.RowKit Go.Proofs.YtghbaehbgefpaaaGreatDoor.Fr Go.Proofs.YtghbaehbgefpaaaGreatDoor.R Go.Proofs.YtghbaehbgefpaaaGreatDoorW.PrintWords
open Go.Proofs.YtghbaehbgefpaaaGreatDoor.Hand
theorem hx_ext : ∀ r : Fin 16, ((⟨#[48, 49, 50, 51, 52, 53, 54, 55, 56, 57, 65, 66, 67, 68, 69, 70]⟩ : ByteArray).extract r.val (r.val + 1)).data.toList = [hexD r.val] := by decide +kernel
theorem hx_size (r : Nat) (h : r < 16) : ((⟨#[48, 49, 50, 51, 52, 53, 54, 55, 56, 57, 65, 66, 67, 68, 69, 70]⟩ : ByteArray).extract r (r + 1)).size = 1 := by
  rw [← len_data, hx_ext ⟨r, h⟩]
  rfl
theorem w64n (i : Nat) (h : i ≤ 100000000000) : wrap64 (i : Int) = (i : Int) := w64 (by omega) (by omega)
theorem nib (m : Nat) (h : m < 256) : wrap64 (m : Int) = (m : Int) ∧ wrap64 (Int.tdiv (m : Int) 16) = ((m / 16 : Nat) : Int) ∧ Int.tmod (m : Int) 16 = ((m % 16 : Nat) : Int) ∧ wrap64 (((m / 16 : Nat) : Int) + 1) = ((m / 16 + 1 : Nat) : Int) ∧ wrap64 (((m % 16 : Nat) : Int) + 1) = ((m % 16 + 1 : Nat) : Int) ∧
    (0 : Int) ≤ ((m / 16 : Nat) : Int) ∧ ((m / 16 : Nat) : Int) ≤ ((m / 16 + 1 : Nat) : Int) ∧ ((m / 16 + 1 : Nat) : Int) ≤ 16 ∧ (0 : Int) ≤ ((m % 16 : Nat) : Int) ∧ ((m % 16 : Nat) : Int) ≤ ((m % 16 + 1 : Nat) : Int) ∧ ((m % 16 + 1 : Nat) : Int) ≤ 16 :=
  ⟨w64n m (by omega), by rw [Int.tdiv_eq_ediv_of_nonneg (by omega), w64 (by omega) (by omega)]; omega, by rw [Int.tmod_eq_emod_of_nonneg (by omega)]; omega, w64s _ (by omega), w64s _ (by omega), by omega, by omega, by omega, by omega, by omega, by omega⟩
theorem le_big1 {a : Nat} (h : a ≤ 300000) : a + 1 ≤ 9223372036854775807 := by omega
theorem le_big2 {a : Nat} (h : a ≤ 300000) : a + 1 + 1 ≤ 9223372036854775807 := by omega
theorem le_big3 {a : Nat} (h : a ≤ 300000) : a + 1 + 1 + 1 ≤ 9223372036854775807 := by omega
theorem refquote_loop (s : ByteArray) (hs : s.size ≤ 100000) : ∀ (n i : Nat) (acc : ByteArray), i + n = s.size → acc.data.toList = (s.data.toList.take i).flatMap quoteB →
    Ev fun k => cooperageref1_Quote.l0 k s acc (i : Int) = some (quoteV s) := by
  have hl := len_data s
  intro n
  induction n with
  | zero =>
    intro i acc hi ha
    refine Ev.up (Ev.of fun k => ?_)
    simp only [cooperageref1_Quote.l0]
    rw [if_neg (by omega)]
    rw [List.take_of_length_le (by omega)] at ha
    unfold quoteV
    by_cases h0 : s.size = 0
    · rw [if_pos h0, if_pos (by rw [tl]; exact List.eq_nil_of_length_eq_zero (by omega))]
    · rw [if_neg h0, if_neg (by rw [tl]; intro e; rw [e] at hl; simp at hl; omega)]
      congr 1
      exact ba_ext ha
  | succ n ih =>
    intro i acc hi ha
    have hlt : i < s.data.toList.length := by omega
    have hpl := plain_at s i hlt
    have hb := bt_nat s i hlt
    have hw := w64s i (by omega)
    have hal : acc.size ≤ 3 * i := by
      have h1 := quote_len (s.data.toList.take i)
      rw [← ha, len_data, List.length_take] at h1
      omega
    have hst : (s.data.toList.take (i + 1)).flatMap quoteB = (s.data.toList.take i).flatMap quoteB ++ quoteB s.data.toList[i] := by
      rw [List.take_succ_eq_append_getElem hlt, List.flatMap_append]
      simp
    have hc256 := UInt8.toNat_lt s.data.toList[i]
    cases hc : plainI ((s.data.toList[i]).toNat : Int) with
    | true =>
      have hz : (s.extract i (i + 1)).size = 1 := by rw [← len_data, ext_one s i hlt]; rfl
      have p1 : (i : Int) < (s.size : Int) := by omega
      have p2 : 0 ≤ (i : Int) := by omega
      have p3 : (i : Int) ≤ ((i + 1 : Nat) : Int) := by omega
      have p4 : ((i + 1 : Nat) : Int) ≤ (s.size : Int) := by omega
      have p5 : acc.size + (s.extract i (i + 1)).size ≤ 9223372036854775807 := by omega
      refine Ev.up ((ih (i + 1) (acc ++ s.extract i (i + 1)) (by omega) (by rw [data_app2, ext_one s i hlt, ha, hst, quoteB, if_pos hc])).mp fun k hk => ?_)
      rw [cooperageref1_Quote.l0, if_pos p1, if_pos p2, hpl, Option.bind_some, hc, if_pos rfl, hw, Int.toNat_natCast, Int.toNat_natCast, if_pos p3, if_pos p4, if_pos p5]
      exact hk
    | false =>
      obtain ⟨m, hn⟩ : ∃ m, (s.data.toList[i]).toNat = m := ⟨_, rfl⟩
      rw [hn] at hc hb hpl hc256
      rw [hc] at hpl
      have hm : m < 256 := hc256
      have hal2 : acc.size ≤ 300000 := by omega
      have p1 : (i : Int) < (s.size : Int) := by omega
      have p2 : 0 ≤ (i : Int) := by omega
      obtain ⟨e1, e2, e3, e4, e5, q1, q2, q3, r1, r2, r3⟩ := nib m hm
      have y1 : m / 16 < 16 := Nat.div_lt_of_lt_mul hm
      have y2 : m % 16 < 16 := Nat.mod_lt _ (by decide)
      have z1 := hx_size (m / 16) y1
      have z2 := hx_size (m % 16) y2
      have d1 := hx_ext ⟨m / 16, y1⟩
      have d2 := hx_ext ⟨m % 16, y2⟩
      simp only at d1 d2
      have z0 : ((⟨#[37]⟩ : ByteArray)).size = 1 := rfl
      have hun : ∀ k, cooperageref1_Quote.l0 (k + 1) s acc (i : Int) = _ := fun k => cooperageref1_Quote.l0.eq_2 s acc (i : Int) k
      have p6 : ¬ (false = true) := by decide
      have p7 : acc.size + 1 ≤ 9223372036854775807 := le_big1 hal2
      generalize hD : (⟨#[48, 49, 50, 51, 52, 53, 54, 55, 56, 57, 65, 66, 67, 68, 69, 70]⟩ : ByteArray) = D at hun d1 d2 z1 z2
      have t1 : (acc ++ (⟨#[37]⟩ : ByteArray)).size + (D.extract (m / 16) (m / 16 + 1)).size ≤ 9223372036854775807 := by rw [ByteArray.size_append, z0, z1]; exact le_big2 hal2
      have t2 : ((acc ++ (⟨#[37]⟩ : ByteArray)) ++ D.extract (m / 16) (m / 16 + 1)).size + (D.extract (m % 16) (m % 16 + 1)).size ≤ 9223372036854775807 := by rw [ByteArray.size_append, ByteArray.size_append, z0, z1, z2]; exact le_big3 hal2
      have hi' : i + 1 + n = s.size := (Nat.add_right_comm i 1 n).trans ((Nat.add_assoc i n 1).trans hi)
      refine Ev.up ((ih (i + 1) (((acc ++ (⟨#[37]⟩ : ByteArray)) ++ (D.extract (m / 16) (m / 16 + 1))) ++ (D.extract (m % 16) (m % 16 + 1))) hi' ?_).mp fun k hk => ?_)
      · rw [data_app2, data_app2, data_app2, d1, d2, ha, hst, quoteB, hn, hc, if_neg p6]
        simp
      · rw [hun, if_pos p1, if_pos p2, hpl, Option.bind_some, if_neg p6, if_pos p7, hb, e1, e2, e3, e4, e5, if_pos q1, if_pos q2, if_pos q3,
          Int.toNat_natCast, Int.toNat_natCast, Int.toNat_natCast, Int.toNat_natCast, if_pos t1, if_pos r1, if_pos r2, if_pos r3, if_pos t2, hw]
        exact hk
theorem refquote_f (s : ByteArray) (hs : s.size ≤ 100000) : Ev fun k => cooperageref1_Quote.f k s = some (quoteV s) :=
  (refquote_loop s hs s.size 0 (⟨#[]⟩ : ByteArray) (by omega) rfl).mp fun k hk => hk
def valI (n : Nat) : Int := if 48 ≤ n ∧ n ≤ 57 then (n : Int) - 48 else if 65 ≤ n ∧ n ≤ 70 then (n : Int) - 55 else -1
theorem value_20 : ∀ n : Fin 256, cooperageref1_value.f 20 ((n.val : Nat) : Int) = some (valI n.val) := by decide +kernel
theorem value_ev (n : Nat) (h : n < 256) : Ev fun k => cooperageref1_value.f k (n : Int) = some (valI n) := by
  refine ⟨20, fun k hk => ?_⟩
  induction k with
  | zero => omega
  | succ k ih =>
    by_cases e : k + 1 = 20
    · rw [e]
      exact value_20 ⟨n, h⟩
    · exact cooperageref1_value.mono _ k _ (ih (by omega))
def rdec : List UInt8 → Option (List UInt8)
  | [] => some []
  | c :: t => if plainI c.toNat = true then (rdec t).map (c :: ·) else if c = 37 then
      match t with
      | x :: y :: r => if 0 ≤ valI x.toNat ∧ 0 ≤ valI y.toNat then (rdec r).map (UInt8.ofNat (16 * (valI x.toNat).toNat + (valI y.toNat).toNat) :: ·) else none
      | _ => none
    else none
termination_by l => l.length
decreasing_by all_goals simp <;> omega
theorem rdec_nil : rdec [] = some [] := by rw [rdec.eq_def]
theorem rdec_plain (c : UInt8) (t : List UInt8) (h : plainI c.toNat = true) : rdec (c :: t) = (rdec t).map (c :: ·) := by rw [rdec.eq_def]; exact if_pos h
theorem rdec_pct (x y : UInt8) (r : List UInt8) : rdec (37 :: x :: y :: r) = if 0 ≤ valI x.toNat ∧ 0 ≤ valI y.toNat then (rdec r).map (UInt8.ofNat (16 * (valI x.toNat).toNat + (valI y.toNat).toNat) :: ·) else none := by
  rw [rdec.eq_def]
  exact (if_neg (by decide)).trans (if_pos rfl)
theorem rdec_short (t : List UInt8) (h : t.length < 2) : rdec (37 :: t) = none := by
  rw [rdec.eq_def]
  refine (if_neg (by decide)).trans ((if_pos rfl).trans ?_)
  match t, h with
  | [], _ => rfl
  | [_], _ => rfl
  | _ :: _ :: _, h => simp at h; omega
theorem rdec_other (c : UInt8) (t : List UInt8) (h : plainI c.toNat = false) (h2 : c ≠ 37) : rdec (c :: t) = none := by
  rw [rdec.eq_def]
  exact (if_neg (by rw [h]; decide)).trans (if_neg h2)
theorem val_hexD : ∀ r : Fin 16, valI (hexD r.val).toNat = (r.val : Int) := by decide +kernel
theorem rdec_quote : ∀ t : List UInt8, rdec (t.flatMap quoteB) = some t := by
  intro t
  induction t with
  | nil => exact rdec_nil
  | cons c t ih =>
    rw [List.flatMap_cons, quoteB]
    have hc := UInt8.toNat_lt c
    by_cases hp : plainI c.toNat = true
    · rw [if_pos hp, List.singleton_append, rdec_plain c _ hp, ih]
      rfl
    · have h1 := val_hexD ⟨c.toNat / 16, by omega⟩
      have h2 := val_hexD ⟨c.toNat % 16, by omega⟩
      simp only at h1 h2
      rw [if_neg hp]
      simp only [List.cons_append, List.nil_append]
      rw [rdec_pct, h1, h2, if_pos ⟨by omega, by omega⟩, ih, Int.toNat_natCast, Int.toNat_natCast, ofNat_back]
      rfl
theorem unqO_eq (s : ByteArray) (o o' : Option (List UInt8)) (h : ∀ t, s.data.toList = t.flatMap quoteB → o = some t) (h' : ∀ t, s.data.toList = t.flatMap quoteB → o' = some t) : unqO s o = unqO s o' := by
  by_cases e : ∃ t : List UInt8, t ≠ [] ∧ quoteV ⟨t.toArray⟩ = s
  · obtain ⟨t, ht, hq⟩ := e
    have hd := quoteV_data ht
    rw [hq] at hd
    rw [h t hd, h' t hd]
  · have none_of : ∀ o, unqO s o = none := by
      intro o
      cases o with
      | none => rfl
      | some t => exact if_neg fun hh => e ⟨t, hh⟩
    rw [none_of, none_of]
theorem unq_rdec (s : ByteArray) : unqO s (decG s.data.toList) = unqO s (rdec s.data.toList) :=
  unqO_eq s _ _ (fun t ht => by rw [ht]; exact decG_quote t) (fun t ht => by rw [ht]; exact rdec_quote t)
def numsOf (l : List UInt8) : List Int := l.map fun c => (c.toNat : Int)
theorem strOf_nums (l : List UInt8) : strOfNums (numsOf l) = (⟨l.toArray⟩ : ByteArray) := by
  unfold strOfNums numsOf
  have : (l.map fun c => (c.toNat : Int)).map (fun n => UInt8.ofNat n.toNat) = l := by
    rw [List.map_map]
    have e : ((fun n : Int => UInt8.ofNat n.toNat) ∘ fun c : UInt8 => (c.toNat : Int)) = id := by
      funext c
      apply UInt8.toNat_inj.1
      rw [Function.comp_apply, Int.toNat_natCast, ofNat_to _ (UInt8.toNat_lt c)]
      rfl
    rw [e, List.map_id]
  rw [← this]
  simp
theorem push_eq {A B : Int} (a : A ≤ 15) (b : B ≤ 15) (a0 : 0 ≤ A) (b0 : 0 ≤ B) : (wrap64 (wrap64 (16 * A) + B)) % 256 = ((UInt8.ofNat (16 * A.toNat + B.toNat)).toNat : Int) := by
  rw [ofNat_to _ (by omega), w64 (x := 16 * A) (by omega) (by omega), w64 (by omega) (by omega)]
  omega
theorem refunq_loop (s : ByteArray) (hs : s.size ≤ 100000) : ∀ (n i : Nat) (acc : List UInt8), i + n = s.size → acc.length ≤ i →
    Ev fun k => cooperageref1_Unquote.l0 k s (numsOf acc) (i : Int) = some (unqP (unqO s ((rdec (s.data.toList.drop i)).map (acc ++ ·)))) := by
  have hl := len_data s
  intro n
  induction n using Nat.strongRecOn with
  | ind n ih =>
  intro i acc hi ha
  have hnl : (numsOf acc).length = acc.length := by simp [numsOf]
  by_cases hend : n = 0
  · have hd : s.data.toList.drop i = [] := List.drop_eq_nil_of_le (by omega)
    rw [hd, rdec_nil]
    simp only [Option.map_some, List.append_nil]
    by_cases hacc : acc = []
    · subst hacc
      refine Ev.up (Ev.of fun k => ?_)
      simp only [cooperageref1_Unquote.l0]
      rw [if_neg (by omega), if_pos (by simp [numsOf])]
      rfl
    · have hal : 0 < acc.length := List.length_pos_iff.2 hacc
      have hsz : (⟨acc.toArray⟩ : ByteArray).size ≤ 100000 := by
        show acc.toArray.size ≤ _
        rw [List.size_toArray]
        omega
      refine Ev.up ((refquote_f ⟨acc.toArray⟩ hsz).mp fun k hk => ?_)
      simp only [cooperageref1_Unquote.l0]
      rw [if_neg (by omega), if_neg (by omega), strOf_nums, hk, Option.bind_some]
      by_cases hq : quoteV ⟨acc.toArray⟩ = s
      · rw [if_pos (by rw [hq]), unqO, if_pos ⟨hacc, hq⟩]
        rfl
      · rw [if_neg (fun e => hq (tl_inj e)), unqO, if_neg (fun e => hq e.2)]
        rfl
  · have hlt : i < s.data.toList.length := by omega
    have hpl := plain_at s i hlt
    have hb := bt_nat s i hlt
    have hw := w64s i (by omega)
    rw [drop_at hlt]
    cases hc : plainI ((s.data.toList[i]).toNat : Int) with
    | true =>
      have hih := ih (n - 1) (by omega) (i + 1) (acc ++ [s.data.toList[i]]) (by omega) (by rw [List.length_append]; simp; omega)
      rw [rdec_plain _ _ hc, Option.map_map]
      have hm : (fun x => acc ++ x) ∘ (fun x => s.data.toList[i] :: x) = (fun x => (acc ++ [s.data.toList[i]]) ++ x) := by
        funext x
        simp
      rw [hm]
      refine Ev.up (hih.mp fun k hk => ?_)
      simp only [cooperageref1_Unquote.l0]
      rw [if_pos (by omega), if_pos (by omega), hpl, Option.bind_some, hc, if_pos rfl, if_pos (by omega), hw, hb]
      rw [← hk]
      simp [numsOf]
    | false =>
      by_cases h37 : s.data.toList[i] = 37
      · have hb37 : bt s (i : Int) = 37 := by rw [hb, h37]; rfl
        have hw2 : wrap64 ((i : Int) + 2) = ((i + 2 : Nat) : Int) := by rw [w64 (by omega) (by omega)]; omega
        by_cases h2 : i + 2 < s.size
        · have hlt1 : i + 1 < s.data.toList.length := by omega
          have hlt2 : i + 2 < s.data.toList.length := by omega
          have pi1 : (i : Int) < (s.size : Int) := by omega
          have pi2 : 0 ≤ (i : Int) := by omega
          have pa1 : 0 ≤ ((i + 1 : Nat) : Int) := by omega
          have pa2 : ((i + 1 : Nat) : Int) < (s.size : Int) := by omega
          have pb1 : 0 ≤ ((i + 2 : Nat) : Int) := by omega
          have pb2 : ((i + 2 : Nat) : Int) < (s.size : Int) := by omega
          have pd : decide (((i + 2 : Nat) : Int) ≥ (s.size : Int)) = false := decide_eq_false (by omega)
          have pl : (numsOf acc).length < 140737488355328 := by omega
          have pf : ¬ (false = true) := by decide
          have pih : i + 3 + (n - 3) = s.size ∧ n - 3 < n ∧ acc.length + 1 ≤ i + 3 := by omega
          have hx := UInt8.toNat_lt s.data.toList[i + 1]
          have hy := UInt8.toNat_lt s.data.toList[i + 2]
          have hw3 : wrap64 (((i + 2 : Nat) : Int) + 1) = ((i + 3 : Nat) : Int) := by rw [w64 (by omega) (by omega)]; omega
          have hd2 : s.data.toList.drop (i + 1) = s.data.toList[i + 1] :: s.data.toList[i + 2] :: s.data.toList.drop (i + 3) := by
            rw [drop_at hlt1, drop_at hlt2]
          have hih := fun e : UInt8 => ih (n - 3) pih.2.1 (i + 3) (acc ++ [e]) pih.1 (by rw [List.length_append]; exact pih.2.2)
          have vx := value_ev _ hx
          have vy := value_ev _ hy
          rw [h37, hd2, rdec_pct]
          have hvx : valI (s.data.toList[i + 1]).toNat ≤ 15 ∧ -1 ≤ valI (s.data.toList[i + 1]).toNat := by
            unfold valI
            split
            · omega
            · split <;> omega
          have hvy : valI (s.data.toList[i + 2]).toNat ≤ 15 ∧ -1 ≤ valI (s.data.toList[i + 2]).toNat := by
            unfold valI
            split
            · omega
            · split <;> omega
          generalize hA : valI (s.data.toList[i + 1]).toNat = A at *
          generalize hB : valI (s.data.toList[i + 2]).toNat = B at *
          have hbx := bt_nat s (i + 1) hlt1
          have hby := bt_nat s (i + 2) hlt2
          clear ih hl ha hi
          by_cases hAB : 0 ≤ A ∧ 0 ≤ B
          · rw [if_pos hAB, Option.map_map]
            have hm : (fun x => acc ++ x) ∘ (fun x => UInt8.ofNat (16 * A.toNat + B.toNat) :: x) = (fun x => (acc ++ [UInt8.ofNat (16 * A.toNat + B.toNat)]) ++ x) := by
              funext x
              simp
            rw [hm]
            have hn := push_eq hvx.1 hvy.1 hAB.1 hAB.2
            have hna : ¬ A < 0 := Int.not_lt.2 hAB.1
            have hnb : ¬ B < 0 := Int.not_lt.2 hAB.2
            refine Ev.up (Ev.up (((hih (UInt8.ofNat (16 * A.toNat + B.toNat))).and (vx.and vy)).mp fun k hk => ?_))
            rw [cooperageref1_Unquote.l0, if_pos pi1, if_pos pi2, hpl, Option.bind_some, hc, if_neg pf, if_pos hb37, hw2, pd, cooperageref1_Unquote.j1, if_neg pf, hw, if_pos pa1, if_pos pa2, hbx, hk.2.1, Option.bind_some, hw2, if_pos pb1, if_pos pb2, hby, hk.2.2, Option.bind_some, if_neg hna, if_neg hnb, if_pos pl, hw3, hn]
            rw [← hk.1]
            simp [numsOf]
          · rw [if_neg hAB]
            refine Ev.up (Ev.up ((vx.and vy).mp fun k hk => ?_))
            rw [cooperageref1_Unquote.l0, if_pos pi1, if_pos pi2, hpl, Option.bind_some, hc, if_neg pf, if_pos hb37, hw2, pd, cooperageref1_Unquote.j1, if_neg pf, hw, if_pos pa1, if_pos pa2, hbx, hk.1, Option.bind_some, hw2, if_pos pb1, if_pos pb2, hby, hk.2, Option.bind_some]
            by_cases hA0 : A < 0
            · rw [if_pos hA0]
              rfl
            · have hB0 : B < 0 := Int.not_le.1 fun h => hAB ⟨Int.not_lt.1 hA0, h⟩
              rw [if_neg hA0, if_pos hB0]
              rfl
        · rw [h37, rdec_short _ (by rw [List.length_drop]; omega)]
          refine Ev.up (Ev.up (Ev.of fun k => ?_))
          simp only [cooperageref1_Unquote.l0, cooperageref1_Unquote.j1]
          rw [if_pos (by omega), if_pos (by omega), hpl, Option.bind_some, hc, if_neg (by decide), if_pos hb37, hw2, show decide (((i + 2 : Nat) : Int) ≥ (s.size : Int)) = true from decide_eq_true (by omega), if_pos rfl]
          rfl
      · have hb37 : ¬ bt s (i : Int) = 37 := by
          rw [hb]
          intro e
          apply h37
          apply UInt8.toNat_inj.1
          show _ = 37
          omega
        rw [rdec_other _ _ hc h37]
        refine Ev.up (Ev.up (Ev.of fun k => ?_))
        simp only [cooperageref1_Unquote.l0, cooperageref1_Unquote.j1]
        rw [if_pos (by omega), if_pos (by omega), hpl, Option.bind_some, hc, if_neg (by decide), if_neg hb37, if_pos trivial]
        rfl
theorem refunq_f (s : ByteArray) (hs : s.size ≤ 100000) : Ev fun k => cooperageref1_Unquote.f k s = some (unqP (unqV s)) := by
  unfold unqV
  by_cases h : s.data.toList = [37]
  · refine Ev.of fun k => ?_
    unfold cooperageref1_Unquote.f
    rw [if_pos (by rw [tl]; exact h), if_pos h]
    rfl
  · refine (refunq_loop s hs s.size 0 [] (by omega) (Nat.le_refl _)).mp fun k hk => ?_
    unfold cooperageref1_Unquote.f
    rw [if_neg (by rw [tl]; exact h), if_neg h, unq_rdec]
    refine hk.trans ?_
    simp
end Go.Proofs.YtghbaehbgefpaaaGreatDoor.PureR
namespace Go.Proofs.YtghbaehbgefpaaaGreatDoor.Hand3
open Go.RowKit Go.Proofs.YtghbaehbgefpaaaGreatDoorW.PrintWords
def cooperageref1_Quote.f (a0 : ByteArray) : Option ByteArray := if a0.size ≤ 100000 then some (Hand.quoteV a0) else none
theorem cooperageref1_Quote.calls (a0 : ByteArray) (r : ByteArray) (w : World) (h : cooperageref1_Quote.f a0 = some r) :
    Calls Tryz.prog 76 #[.string a0] w fun e w' => e = .returned (.string r) ∧ Drawn0 w w' := by
  unfold cooperageref1_Quote.f at h
  split at h
  next hs =>
    injection h with h
    subst h
    obtain ⟨k, hk⟩ := (PureR.refquote_f a0 hs).get
    exact R.cooperageref1_Quote.calls k a0 _ w hk
  next => exact absurd h (by simp)
def cooperageref1_Unquote.f (a0 : ByteArray) : Option (ByteArray × Int) := if a0.size ≤ 100000 then some (Hand.unqP (Hand.unqV a0)) else none
theorem cooperageref1_Unquote.calls (a0 : ByteArray) (r1 : ByteArray) (r2 : Int) (w : World) (h : cooperageref1_Unquote.f a0 = some (r1, r2)) :
    Calls Tryz.prog 114 #[.string a0] w fun e w' => e = .returned (.tuple #[.string r1, .int .i64 r2]) ∧ Below w.heap.size w w' := by
  unfold cooperageref1_Unquote.f at h
  split at h
  next hs =>
    injection h with h
    obtain ⟨k, hk⟩ := (PureR.refunq_f a0 hs).get
    rw [h] at hk
    exact R.cooperageref1_Unquote.calls k a0 _ _ w hk
  next => exact absurd h (by simp)
end Go.Proofs.YtghbaehbgefpaaaGreatDoor.Hand3
namespace Go.Proofs.YtghbaehbgefpaaaGreatDoor.L
open Go.RowKit Go.Proofs.YtghbaehbgefpaaaGreatDoorW.PrintWords Go.Proofs.YtghbaehbgefpaaaGreatDoorW.PrintLast Go.Proofs.YtghbaehbgefpaaaGreatDoorW.PrintMore
attribute [local go_sem] max2_int min2_int max_two min_two max_three min_three max_four min_four   -- for this text's walks alone
theorem info9 : (Tryz.prog.info? 9).map (fun i => (i.zero, i.size, i.bytes)) = some (some (.string ⟨#[]⟩), 1, 16) := by kernel_rfl
theorem info22 : (Tryz.prog.info? 22).map (fun i => (i.zero, i.size, i.bytes)) = some (some (.slice none 0 0), 1, 24) := by kernel_rfl
-- the values' own types
end Go.Proofs.YtghbaehbgefpaaaGreatDoor.L
namespace Go.Proofs.YtghbaehbgefpaaaGreatDoor.L
open Go.Proofs.YtghbaehbgefpaaaGreatDoor.Hand3
open Go.Proofs.YtghbaehbgefpaaaGreatDoor
open Go.RowKit Go.Proofs.YtghbaehbgefpaaaGreatDoorW.PrintWords Go.Proofs.YtghbaehbgefpaaaGreatDoorW.PrintLast Go.Proofs.YtghbaehbgefpaaaGreatDoorW.PrintMore
attribute [local go_sem] max2_int min2_int max_two min_two max_three min_three max_four min_four   -- for this text's walks alone
-- GIVEN: cooperageref1_Quote (function 76)
def cooperageref3_Hex.l0 : Nat → Int → ByteArray → Int → Option (ByteArray)
  | 0, _, _, _ => none
  | k + 1, x0, x3, x4 => if x4 < 8 then (if 0 ≤ (wrap64 (Int.tmod x0 16)) then (if (wrap64 (Int.tmod x0 16)) ≤ (wrap64 ((wrap64 (Int.tmod x0 16)) + 1)) then (if (wrap64 ((wrap64 (Int.tmod x0 16)) + 1)) ≤ 16 then (if ((⟨#[48, 49, 50, 51, 52, 53, 54, 55, 56, 57, 97, 98, 99, 100, 101, 102]⟩ : ByteArray).extract ((wrap64 (Int.tmod x0 16)) : Int).toNat ((wrap64 ((wrap64 (Int.tmod x0 16)) + 1)) : Int).toNat).size + x3.size ≤ 9223372036854775807 then (cooperageref3_Hex.l0 k ((Int.tdiv x0 16) % 4294967296) (((⟨#[48, 49, 50, 51, 52, 53, 54, 55, 56, 57, 97, 98, 99, 100, 101, 102]⟩ : ByteArray).extract ((wrap64 (Int.tmod x0 16)) : Int).toNat ((wrap64 ((wrap64 (Int.tmod x0 16)) + 1)) : Int).toNat) ++ x3) (wrap64 (x4 + 1))) else (none)) else (none)) else (none)) else (none)) else (some x3)
def cooperageref3_Hex.f (k : Nat) (a0 : Int) : Option (ByteArray) := cooperageref3_Hex.l0 k a0 (⟨#[]⟩ : ByteArray) 0
set_option maxHeartbeats 8000000 in
set_option maxRecDepth 100000 in
theorem cooperageref3_Hex.calls (k : Nat) (a0 : Int) (r : ByteArray) (w : World) (h : cooperageref3_Hex.f k a0 = some r) :
    Calls Tryz.prog 77 #[.int .u32 a0] w fun e w' => e = .returned (.string r) ∧ Drawn0 w w' := by
  have H : (cooperageref3_Hex.l0 k a0 (⟨#[]⟩ : ByteArray) 0) = some r := h
  clear h
  have H' := Aside0.mk H
  clear H
  go_enter Tryz.func77, Tryz.ntmps77
  go_wp2
  go_loopg [0, 3, 4] k (fun kq v0 v3 v4 w' => ∃ (x0_1 : Int) (x3_1 : ByteArray) (x4_1 : Int), v0 = .int .u32 x0_1 ∧ v3 = .string x3_1 ∧ v4 = .int .i64 x4_1 ∧ Aside0 (cooperageref3_Hex.l0 kq x0_1 x3_1 x4_1 = some r) ∧ Aside0 (kq ≤ k) ∧ Drawn0 w w')
  case atStart => exact ⟨(a0), ((⟨#[]⟩ : ByteArray)), (0), (by first | rfl | (simp; done) | (simp [*]; done)), (by first | rfl | (simp; done) | (simp [*]; done)), (by first | rfl | (simp; done) | (simp [*]; done)), H', ⟨Nat.le_refl _⟩, by repeat (first | exact Drawn0.refl _ | apply Drawn0.step)⟩
  case round =>
    clear H'
    obtain ⟨x0_1, x3_1, x4_1, rfl, rfl, rfl, HA, HK1, ⟨m1, rfl⟩⟩ := hrel
    cases gk with
    | zero => exact absurd HA.out (by simp [cooperageref3_Hex.l0])
    | succ k1 =>
      have H := HA.out
      clear HA
      simp only [cooperageref3_Hex.l0] at H
      by_cases c2 : x4_1 < 8
      · rw [if_pos c2] at H
        have c2b0 : decide (x4_1 < 8) = true := decide_eq_true c2
        clear c2
        obtain ⟨ji3, hji3⟩ : ∃ j_ : Int, (wrap64 (Int.tmod x0_1 16)) = j_ := ⟨_, rfl⟩
        replace H : (if 0 ≤ (ji3) then (if (ji3) ≤ (wrap64 ((ji3) + 1)) then (if (wrap64 ((ji3) + 1)) ≤ 16 then (if ((⟨#[48, 49, 50, 51, 52, 53, 54, 55, 56, 57, 97, 98, 99, 100, 101, 102]⟩ : ByteArray).extract ((ji3) : Int).toNat ((wrap64 ((ji3) + 1)) : Int).toNat).size + x3_1.size ≤ 9223372036854775807 then (cooperageref3_Hex.l0 k1 ((Int.tdiv x0_1 16) % 4294967296) (((⟨#[48, 49, 50, 51, 52, 53, 54, 55, 56, 57, 97, 98, 99, 100, 101, 102]⟩ : ByteArray).extract ((ji3) : Int).toNat ((wrap64 ((ji3) + 1)) : Int).toNat) ++ x3_1) (wrap64 (x4_1 + 1))) else (none)) else (none)) else (none)) else (none)) = some r := by first | (rw [hji3] at H; exact H) | (simp only [hji3] at H ⊢; exact H)
        have hji3w : (IntKind.i64.wrap (Int.tmod x0_1 16)) = ji3 := (i64_w _).trans hji3
        by_cases c4 : 0 ≤ (ji3)
        · rw [if_pos c4] at H
          have c4b0 := eq_true c4
          have c4b1 : decide (0 ≤ (ji3)) = true := decide_eq_true c4
          clear c4
          by_cases c5 : (ji3) ≤ (wrap64 ((ji3) + 1))
          · rw [if_pos c5] at H
            have c5b0 := eq_true c5
            have c5b1 : decide ((ji3) ≤ (wrap64 ((ji3) + 1))) = true := decide_eq_true c5
            by_cases c6 : (wrap64 ((ji3) + 1)) ≤ 16
            · rw [if_pos c6] at H
              have c6b0 := eq_true c6
              have c6b1 : decide ((wrap64 ((ji3) + 1)) ≤ 16) = true := decide_eq_true c6
              by_cases c7 : ((⟨#[48, 49, 50, 51, 52, 53, 54, 55, 56, 57, 97, 98, 99, 100, 101, 102]⟩ : ByteArray).extract ((ji3) : Int).toNat ((wrap64 ((ji3) + 1)) : Int).toNat).size + x3_1.size ≤ 9223372036854775807
              · rw [if_pos c7] at H
                have c7b0 := eq_true c7
                have c7b1 : decide (((⟨#[48, 49, 50, 51, 52, 53, 54, 55, 56, 57, 97, 98, 99, 100, 101, 102]⟩ : ByteArray).extract ((ji3) : Int).toNat ((wrap64 ((ji3) + 1)) : Int).toNat).size + x3_1.size ≤ 9223372036854775807) = true := decide_eq_true c7
                try have c7b2 : (9223372036854775807 < ((⟨#[48, 49, 50, 51, 52, 53, 54, 55, 56, 57, 97, 98, 99, 100, 101, 102]⟩ : ByteArray).extract ((ji3) : Int).toNat ((wrap64 ((ji3) + 1)) : Int).toNat).size + x3_1.size) = False := eq_false (Nat.not_lt.2 c7)
                have H' := Aside0.mk H
                clear H
                go_wp2
                go_roundg k1
                case measure => have := HK1.out; omega
                case rel => exact ⟨((Int.tdiv x0_1 16) % 4294967296), (((⟨#[48, 49, 50, 51, 52, 53, 54, 55, 56, 57, 97, 98, 99, 100, 101, 102]⟩ : ByteArray).extract ((ji3) : Int).toNat ((wrap64 ((ji3) + 1)) : Int).toNat) ++ x3_1), (wrap64 (x4_1 + 1)), (by first | rfl | (simp; done) | (simp [*]; done)), (by first | rfl | (simp; done) | (simp only [← hji3] <;> (first | rfl | simp)) | (simp [*]; done)), (by first | rfl | (simp; done) | (simp [*]; done)), H', ⟨by have := HK1.out; omega⟩, by repeat (first | exact Drawn0.refl _ | apply Drawn0.step)⟩
              · rw [if_neg c7] at H
                exact absurd H (by simp)
            · rw [if_neg c6] at H
              exact absurd H (by simp)
          · rw [if_neg c5] at H
            exact absurd H (by simp)
        · rw [if_neg c4] at H
          exact absurd H (by simp)
      · rw [if_neg c2] at H
        have c2b0 : decide (x4_1 < 8) = false := decide_eq_false c2
        clear c2
        obtain rfl := Option.some.inj H
        go_wp2
        go_ret
        exact ⟨by first | rfl | (simp; done) | (simp [*]; done), by repeat (first | exact Drawn0.refl _ | apply Drawn0.step)⟩
def cooperageref3_Add.l0 : Nat → ByteArray → Int → Int → Int → Option (Int)
  | 0, _, _, _, _ => none
  | k + 1, x1, x5, x6, x7 => if x7 < (x1.size : Int) then (if 0 ≤ x7 then (cooperageref3_Add.l0 k x1 (Int.tmod (wrap64 (x5 + (wrap64 (bt x1 x7)))) 65521) (Int.tmod (wrap64 (x6 + (Int.tmod (wrap64 (x5 + (wrap64 (bt x1 x7)))) 65521))) 65521) (wrap64 (x7 + 1))) else (none)) else (some ((wrap64 ((wrap64 (x6 * 65536)) + x5)) % 4294967296))
def cooperageref3_Add.f (k : Nat) (a0 : Int) (a1 : ByteArray) : Option (Int) := cooperageref3_Add.l0 k a1 (Int.tmod (Int.tmod (wrap64 (a0)) 65536) 65521) (Int.tmod (wrap64 (Int.tdiv (wrap64 (a0)) 65536)) 65521) 0
set_option maxHeartbeats 8000000 in
set_option maxRecDepth 100000 in
theorem cooperageref3_Add.calls (k : Nat) (a0 : Int) (a1 : ByteArray) (r : Int) (w : World) (h : cooperageref3_Add.f k a0 a1 = some r) :
    Calls Tryz.prog 97 #[.int .u32 a0, .string a1] w fun e w' => e = .returned (.int .u32 r) ∧ Drawn0 w w' := by
  have H : (cooperageref3_Add.l0 k a1 (Int.tmod (Int.tmod (wrap64 (a0)) 65536) 65521) (Int.tmod (wrap64 (Int.tdiv (wrap64 (a0)) 65536)) 65521) 0) = some r := h
  clear h
  have H' := Aside0.mk H
  clear H
  go_enter Tryz.func97, Tryz.ntmps97
  go_wp2
  go_loopg [5, 6, 7] k (fun kq v5 v6 v7 w' => ∃ (x5_1 : Int) (x6_1 : Int) (x7_1 : Int), v5 = .int .i64 x5_1 ∧ v6 = .int .i64 x6_1 ∧ v7 = .int .i64 x7_1 ∧ Aside0 (cooperageref3_Add.l0 kq a1 x5_1 x6_1 x7_1 = some r) ∧ Aside0 (kq ≤ k) ∧ Drawn0 w w')
  case atStart => exact ⟨(Int.tmod (Int.tmod (wrap64 (a0)) 65536) 65521), (Int.tmod (wrap64 (Int.tdiv (wrap64 (a0)) 65536)) 65521), (0), (by first | rfl | (simp; done) | (simp [*]; done)), (by first | rfl | (simp; done) | (simp [*]; done)), (by first | rfl | (simp; done) | (simp [*]; done)), H', ⟨Nat.le_refl _⟩, by repeat (first | exact Drawn0.refl _ | apply Drawn0.step)⟩
  case round =>
    clear H'
    try clear p2
    obtain ⟨x5_1, x6_1, x7_1, rfl, rfl, rfl, HA, HK1, ⟨m1, rfl⟩⟩ := hrel
    cases gk with
    | zero => exact absurd HA.out (by simp [cooperageref3_Add.l0])
    | succ k1 =>
      have H := HA.out
      clear HA
      simp only [cooperageref3_Add.l0] at H
      by_cases c3 : x7_1 < (a1.size : Int)
      · rw [if_pos c3] at H
        have c3b0 : decide (x7_1 < (a1.size : Int)) = true := decide_eq_true c3
        clear c3
        by_cases c4 : 0 ≤ x7_1
        · rw [if_pos c4] at H
          have c4b0 : decide (0 ≤ x7_1) = true := decide_eq_true c4
          clear c4
          have H' := Aside0.mk H
          clear H
          have p5 : 0 ≤ (x7_1 : Int) := of_decide_eq_true (by first | (with_reducible assumption) | assumption)
          have q5 : x7_1 < (a1.size : Int) := of_decide_eq_true (by first | (with_reducible assumption) | assumption)
          have hx5 := bt_at a1 x7_1
          replace p5 := eq_true p5
          replace q5 := eq_true q5
          go_wp2
          go_roundg k1
          case measure => have := HK1.out; omega
          case rel => exact ⟨(Int.tmod (wrap64 (x5_1 + (wrap64 (bt a1 x7_1)))) 65521), (Int.tmod (wrap64 (x6_1 + (Int.tmod (wrap64 (x5_1 + (wrap64 (bt a1 x7_1)))) 65521))) 65521), (wrap64 (x7_1 + 1)), (by first | rfl | (simp; done) | (simp [*]; done)), (by first | rfl | (simp; done) | (simp [*]; done)), (by first | rfl | (simp; done) | (simp [*]; done)), H', ⟨by have := HK1.out; omega⟩, by repeat (first | exact Drawn0.refl _ | apply Drawn0.step)⟩
        · rw [if_neg c4] at H
          exact absurd H (by simp)
      · rw [if_neg c3] at H
        have c3b0 : decide (x7_1 < (a1.size : Int)) = false := decide_eq_false c3
        clear c3
        obtain rfl := Option.some.inj H
        go_wp2
        go_ret
        exact ⟨by first | rfl | (simp; done) | (simp [*]; done), by repeat (first | exact Drawn0.refl _ | apply Drawn0.step)⟩
def cooperageref3_Of.f (k : Nat) (a0 : ByteArray) : Option (Int) := (cooperageref3_Add.f k 1 a0).bind fun t101 => (some t101)
set_option maxHeartbeats 8000000 in
set_option maxRecDepth 100000 in
theorem cooperageref3_Of.calls (k : Nat) (a0 : ByteArray) (r : Int) (w : World) (h : cooperageref3_Of.f k a0 = some r) :
    Calls Tryz.prog 78 #[.string a0] w fun e w' => e = .returned (.int .u32 r) ∧ Drawn0 w w' := by
  have H : ((cooperageref3_Add.f k 1 a0).bind fun t101 => (some t101)) = some r := h
  clear h
  replace H := Option.bind_eq_some_iff.mp H
  obtain ⟨t101, A20, H⟩ := H
  replace H : (some t101) = some r := H
  have A2 := Aside0.mk A20
  clear A20
  obtain rfl := Option.some.inj H
  go_enter Tryz.func78, Tryz.ntmps78
  go_wp2_with (first | ((with_reducible refine gate_callee (f := 97) rfl ?_); refine goesL_ (some 4) rfl rfl Tryz.func97 (by kernel_rfl) rfl #[.int .u32 1, .string a0] rfl (by (try simp only [List.map_toArray, List.map_cons, List.map_nil]); first | done | rfl | (simp only [List.length_drop, List.length_take]; rfl)) ?_; (with_reducible refine (cooperageref3_Add.calls k 1 a0 t101 _ A2.out).mono ?_); rintro e w' ⟨rfl, ⟨nd, rfl⟩⟩; refine ⟨_, rfl, ?_⟩))
  go_ret
  exact ⟨by first | rfl | (simp; done) | (simp [*]; done), by repeat (first | exact Drawn0.refl _ | apply Drawn0.step)⟩
end Go.Proofs.YtghbaehbgefpaaaGreatDoor.L
