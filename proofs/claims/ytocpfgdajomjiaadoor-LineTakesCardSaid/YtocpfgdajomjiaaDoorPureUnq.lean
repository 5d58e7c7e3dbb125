import Derived.Test.YtocpfgdajomjiaaDoorPureNum
import Derived.Test.YtocpfgdajomjiaaDoorPureRef1
import Derived.Test.YtocpfgdajomjiaaDoorR10
/- The reference's quoting, plain. -/
namespace Go.Proofs.YtocpfgdajomjiaaDoor.PureR
open Go.RowKit Go.Proofs.YtocpfgdajomjiaaDoor.R Go.Proofs.YtocpfgdajomjiaaDoor.Hand2 Go.Proofs.YtocpfgdajomjiaaDoorW.PrintWords Go.Proofs.YtocpfgdajomjiaaDoor.Spl
open Go.Proofs.YtocpfgdajomjiaaDoor.Hand hiding text_Lines.f text_Words.f text_Trim.f text_Join.f text_Path.f text_Quote.f text_Lines.calls text_Words.calls text_Trim.calls text_Join.calls text_Path.calls text_Quote.calls Glob
set_option linter.unusedVariables false
set_option linter.unusedSimpArgs false
theorem hx_ext : ∀ r : Fin 16, ((⟨#[48, 49, 50, 51, 52, 53, 54, 55, 56, 57, 65, 66, 67, 68, 69, 70]⟩ : ByteArray).extract r.val (r.val + 1)).data.toList = [hexD r.val] := by decide +kernel
theorem hx_size (r : Nat) (h : r < 16) : ((⟨#[48, 49, 50, 51, 52, 53, 54, 55, 56, 57, 65, 66, 67, 68, 69, 70]⟩ : ByteArray).extract r (r + 1)).size = 1 := by
  rw [← len_data, hx_ext ⟨r, h⟩]
  rfl
theorem w64n (i : Nat) (h : i ≤ 100000000000) : wrap64 (i : Int) = (i : Int) := w64 (by omega) (by omega)
theorem nib (m : Nat) (h : m < 256) : wrap64 (m : Int) = (m : Int) ∧ wrap64 (Int.tdiv (m : Int) 16) = ((m / 16 : Nat) : Int) ∧ Int.tmod (m : Int) 16 = ((m % 16 : Nat) : Int) ∧ wrap64 (((m / 16 : Nat) : Int) + 1) = ((m / 16 + 1 : Nat) : Int) ∧ wrap64 (((m % 16 : Nat) : Int) + 1) = ((m % 16 + 1 : Nat) : Int) ∧
    (0 : Int) ≤ ((m / 16 : Nat) : Int) ∧ ((m / 16 : Nat) : Int) ≤ ((m / 16 + 1 : Nat) : Int) ∧ ((m / 16 + 1 : Nat) : Int) ≤ 16 ∧ (0 : Int) ≤ ((m % 16 : Nat) : Int) ∧ ((m % 16 : Nat) : Int) ≤ ((m % 16 + 1 : Nat) : Int) ∧ ((m % 16 + 1 : Nat) : Int) ≤ 16 :=
  ⟨w64n m (by omega), by rw [Int.tdiv_eq_ediv_of_nonneg (by omega), w64 (by omega) (by omega)]; omega, by rw [Int.tmod_eq_emod_of_nonneg (by omega)]; omega, w64s _ (by omega), w64s _ (by omega), by omega, by omega, by omega, by omega, by omega, by omega⟩
theorem le_big1 {a : Nat} (h : a ≤ 300000) : a + 1 ≤ 9223372036854775807 := by omega
theorem le_big2 {a : Nat} (h : a ≤ 300000) : a + 1 + 1 ≤ 9223372036854775807 := by omega
theorem le_big3 {a : Nat} (h : a ≤ 300000) : a + 1 + 1 + 1 ≤ 9223372036854775807 := by omega
theorem refquote_loop (s : ByteArray) (hs : s.size ≤ 100000) : ∀ (n i : Nat) (acc : ByteArray), i + n = s.size → acc.data.toList = (s.data.toList.take i).flatMap quoteB →
    Ev fun k => cooperageref1_Quote.l0 k s acc (i : Int) = some (quoteV s) := by
  have hl := len_data s
  intro n
  induction n with
  | zero =>
    intro i acc hi ha
    refine Ev.up (Ev.of fun k => ?_)
    simp only [cooperageref1_Quote.l0]
    rw [if_neg (by omega)]
    rw [List.take_of_length_le (by omega)] at ha
    unfold quoteV
    by_cases h0 : s.size = 0
    · rw [if_pos h0, if_pos (by rw [tl]; exact List.eq_nil_of_length_eq_zero (by omega))]
    · rw [if_neg h0, if_neg (by rw [tl]; intro e; rw [e] at hl; simp at hl; omega)]
      congr 1
      exact ba_ext ha
  | succ n ih =>
    intro i acc hi ha
    have hlt : i < s.data.toList.length := by omega
    have hpl := plain_at s i hlt
    have hb := bt_nat s i hlt
    have hw := w64s i (by omega)
    have hal : acc.size ≤ 3 * i := by
      have h1 := quote_len (s.data.toList.take i)
      rw [← ha, len_data, List.length_take] at h1
      omega
    have hst : (s.data.toList.take (i + 1)).flatMap quoteB = (s.data.toList.take i).flatMap quoteB ++ quoteB s.data.toList[i] := by
      rw [List.take_succ_eq_append_getElem hlt, List.flatMap_append]
      simp
    have hc256 := UInt8.toNat_lt s.data.toList[i]
    cases hc : plainI ((s.data.toList[i]).toNat : Int) with
    | true =>
      have hz : (s.extract i (i + 1)).size = 1 := by rw [← len_data, ext_one s i hlt]; rfl
      have p1 : (i : Int) < (s.size : Int) := by omega
      have p2 : 0 ≤ (i : Int) := by omega
      have p3 : (i : Int) ≤ ((i + 1 : Nat) : Int) := by omega
      have p4 : ((i + 1 : Nat) : Int) ≤ (s.size : Int) := by omega
      have p5 : acc.size + (s.extract i (i + 1)).size ≤ 9223372036854775807 := by omega
      refine Ev.up ((ih (i + 1) (acc ++ s.extract i (i + 1)) (by omega) (by rw [data_app2, ext_one s i hlt, ha, hst, quoteB, if_pos hc])).mp fun k hk => ?_)
      rw [cooperageref1_Quote.l0, if_pos p1, if_pos p2, hpl, Option.bind_some, hc, if_pos rfl, hw, Int.toNat_natCast, Int.toNat_natCast, if_pos p3, if_pos p4, if_pos p5]
      exact hk
    | false =>
      obtain ⟨m, hn⟩ : ∃ m, (s.data.toList[i]).toNat = m := ⟨_, rfl⟩
      rw [hn] at hc hb hpl hc256
      rw [hc] at hpl
      have hm : m < 256 := hc256
      have hal2 : acc.size ≤ 300000 := by omega
      have p1 : (i : Int) < (s.size : Int) := by omega
      have p2 : 0 ≤ (i : Int) := by omega
      obtain ⟨e1, e2, e3, e4, e5, q1, q2, q3, r1, r2, r3⟩ := nib m hm
      have y1 : m / 16 < 16 := Nat.div_lt_of_lt_mul hm
      have y2 : m % 16 < 16 := Nat.mod_lt _ (by decide)
      have z1 := hx_size (m / 16) y1
      have z2 := hx_size (m % 16) y2
      have d1 := hx_ext ⟨m / 16, y1⟩
      have d2 := hx_ext ⟨m % 16, y2⟩
      simp only at d1 d2
      have z0 : ((⟨#[37]⟩ : ByteArray)).size = 1 := rfl
      have hun : ∀ k, cooperageref1_Quote.l0 (k + 1) s acc (i : Int) = _ := fun k => cooperageref1_Quote.l0.eq_2 s acc (i : Int) k
      have p6 : ¬ (false = true) := by decide
      have p7 : acc.size + 1 ≤ 9223372036854775807 := le_big1 hal2
      generalize hD : (⟨#[48, 49, 50, 51, 52, 53, 54, 55, 56, 57, 65, 66, 67, 68, 69, 70]⟩ : ByteArray) = D at hun d1 d2 z1 z2
      have t1 : (acc ++ (⟨#[37]⟩ : ByteArray)).size + (D.extract (m / 16) (m / 16 + 1)).size ≤ 9223372036854775807 := by rw [ByteArray.size_append, z0, z1]; exact le_big2 hal2
      have t2 : ((acc ++ (⟨#[37]⟩ : ByteArray)) ++ D.extract (m / 16) (m / 16 + 1)).size + (D.extract (m % 16) (m % 16 + 1)).size ≤ 9223372036854775807 := by rw [ByteArray.size_append, ByteArray.size_append, z0, z1, z2]; exact le_big3 hal2
      have hi' : i + 1 + n = s.size := (Nat.add_right_comm i 1 n).trans ((Nat.add_assoc i n 1).trans hi)
      refine Ev.up ((ih (i + 1) (((acc ++ (⟨#[37]⟩ : ByteArray)) ++ (D.extract (m / 16) (m / 16 + 1))) ++ (D.extract (m % 16) (m % 16 + 1))) hi' ?_).mp fun k hk => ?_)
      · rw [data_app2, data_app2, data_app2, d1, d2, ha, hst, quoteB, hn, hc, if_neg p6]
        simp
      · rw [hun, if_pos p1, if_pos p2, hpl, Option.bind_some, if_neg p6, if_pos p7, hb, e1, e2, e3, e4, e5, if_pos q1, if_pos q2, if_pos q3,
          Int.toNat_natCast, Int.toNat_natCast, Int.toNat_natCast, Int.toNat_natCast, if_pos t1, if_pos r1, if_pos r2, if_pos r3, if_pos t2, hw]
        exact hk
theorem refquote_f (s : ByteArray) (hs : s.size ≤ 100000) : Ev fun k => cooperageref1_Quote.f k s = some (quoteV s) :=
  (refquote_loop s hs s.size 0 (⟨#[]⟩ : ByteArray) (by omega) rfl).mp fun k hk => hk
def valI (n : Nat) : Int := if 48 ≤ n ∧ n ≤ 57 then (n : Int) - 48 else if 65 ≤ n ∧ n ≤ 70 then (n : Int) - 55 else -1
theorem value_20 : ∀ n : Fin 256, cooperageref1_value.f 20 ((n.val : Nat) : Int) = some (valI n.val) := by decide +kernel
theorem value_ev (n : Nat) (h : n < 256) : Ev fun k => cooperageref1_value.f k (n : Int) = some (valI n) := by
  refine ⟨20, fun k hk => ?_⟩
  induction k with
  | zero => omega
  | succ k ih =>
    by_cases e : k + 1 = 20
    · rw [e]
      exact value_20 ⟨n, h⟩
    · exact cooperageref1_value.mono _ k _ (ih (by omega))
def rdec : List UInt8 → Option (List UInt8)
  | [] => some []
  | c :: t => if plainI c.toNat = true then (rdec t).map (c :: ·) else if c = 37 then
      match t with
      | x :: y :: r => if 0 ≤ valI x.toNat ∧ 0 ≤ valI y.toNat then (rdec r).map (UInt8.ofNat (16 * (valI x.toNat).toNat + (valI y.toNat).toNat) :: ·) else none
      | _ => none
    else none
termination_by l => l.length
decreasing_by all_goals simp <;> omega
theorem rdec_nil : rdec [] = some [] := by rw [rdec.eq_def]
theorem rdec_plain (c : UInt8) (t : List UInt8) (h : plainI c.toNat = true) : rdec (c :: t) = (rdec t).map (c :: ·) := by rw [rdec.eq_def]; exact if_pos h
theorem rdec_pct (x y : UInt8) (r : List UInt8) : rdec (37 :: x :: y :: r) = if 0 ≤ valI x.toNat ∧ 0 ≤ valI y.toNat then (rdec r).map (UInt8.ofNat (16 * (valI x.toNat).toNat + (valI y.toNat).toNat) :: ·) else none := by
  rw [rdec.eq_def]
  exact (if_neg (by decide)).trans (if_pos rfl)
theorem rdec_short (t : List UInt8) (h : t.length < 2) : rdec (37 :: t) = none := by
  rw [rdec.eq_def]
  refine (if_neg (by decide)).trans ((if_pos rfl).trans ?_)
  match t, h with
  | [], _ => rfl
  | [_], _ => rfl
  | _ :: _ :: _, h => simp at h; omega
theorem rdec_other (c : UInt8) (t : List UInt8) (h : plainI c.toNat = false) (h2 : c ≠ 37) : rdec (c :: t) = none := by
  rw [rdec.eq_def]
  exact (if_neg (by rw [h]; decide)).trans (if_neg h2)
theorem val_hexD : ∀ r : Fin 16, valI (hexD r.val).toNat = (r.val : Int) := by decide +kernel
theorem hexv_hexD : ∀ r : Fin 16, hexv (hexD r.val) = some r.val := by decide +kernel
theorem plain_no37 {c : UInt8} (h : plainI c.toNat = true) : c ≠ 37 := by
  intro e
  subst e
  exact absurd h (by decide)
theorem ofNat_back (c : UInt8) : UInt8.ofNat (16 * (c.toNat / 16) + c.toNat % 16) = c := by
  apply UInt8.toNat_inj.1
  rw [ofNat_to _ (by have := UInt8.toNat_lt c; omega)]
  omega
theorem rdec_quote : ∀ t : List UInt8, rdec (t.flatMap quoteB) = some t := by
  intro t
  induction t with
  | nil => exact rdec_nil
  | cons c t ih =>
    rw [List.flatMap_cons, quoteB]
    have hc := UInt8.toNat_lt c
    by_cases hp : plainI c.toNat = true
    · rw [if_pos hp, List.singleton_append, rdec_plain c _ hp, ih]
      rfl
    · have h1 := val_hexD ⟨c.toNat / 16, by omega⟩
      have h2 := val_hexD ⟨c.toNat % 16, by omega⟩
      simp only at h1 h2
      rw [if_neg hp]
      simp only [List.cons_append, List.nil_append]
      rw [rdec_pct, h1, h2, if_pos ⟨by omega, by omega⟩, ih, Int.toNat_natCast, Int.toNat_natCast, ofNat_back]
      rfl
theorem decG_quote : ∀ t : List UInt8, decG (t.flatMap quoteB) = some t := by
  intro t
  induction t with
  | nil => exact decG_nil
  | cons c t ih =>
    rw [List.flatMap_cons, quoteB]
    have hc := UInt8.toNat_lt c
    by_cases hp : plainI c.toNat = true
    · rw [if_pos hp, List.singleton_append, decG_plain c _ (plain_no37 hp), ih]
      rfl
    · have h1 := hexv_hexD ⟨c.toNat / 16, by omega⟩
      have h2 := hexv_hexD ⟨c.toNat % 16, by omega⟩
      simp only at h1 h2
      have h3 : hexG 0 [hexD (c.toNat / 16), hexD (c.toNat % 16)] = some (16 * (c.toNat / 16) + c.toNat % 16) := by
        simp only [hexG, h1, h2]
        congr 1
        omega
      rw [if_neg hp]
      simp only [List.cons_append, List.nil_append]
      rw [decG_pct, h3, ih]
      show some (UInt8.ofNat _ :: t) = _
      rw [ofNat_back]
theorem quoteV_data {t : List UInt8} (h : t ≠ []) : (quoteV ⟨t.toArray⟩).data.toList = t.flatMap quoteB := by
  unfold quoteV
  rw [if_neg]
  show ¬ t.toArray.size = 0
  rw [List.size_toArray]
  intro e
  exact h (List.eq_nil_of_length_eq_zero e)
theorem unqO_eq (s : ByteArray) (o o' : Option (List UInt8)) (h : ∀ t, s.data.toList = t.flatMap quoteB → o = some t) (h' : ∀ t, s.data.toList = t.flatMap quoteB → o' = some t) : unqO s o = unqO s o' := by
  by_cases e : ∃ t : List UInt8, t ≠ [] ∧ quoteV ⟨t.toArray⟩ = s
  · obtain ⟨t, ht, hq⟩ := e
    have hd := quoteV_data ht
    rw [hq] at hd
    rw [h t hd, h' t hd]
  · have none_of : ∀ o, unqO s o = none := by
      intro o
      cases o with
      | none => rfl
      | some t => exact if_neg fun hh => e ⟨t, hh⟩
    rw [none_of, none_of]
theorem unq_rdec (s : ByteArray) : unqO s (decG s.data.toList) = unqO s (rdec s.data.toList) :=
  unqO_eq s _ _ (fun t ht => by rw [ht]; exact decG_quote t) (fun t ht => by rw [ht]; exact rdec_quote t)
def numsOf (l : List UInt8) : List Int := l.map fun c => (c.toNat : Int)
theorem strOf_nums (l : List UInt8) : strOfNums (numsOf l) = (⟨l.toArray⟩ : ByteArray) := by
  unfold strOfNums numsOf
  have : (l.map fun c => (c.toNat : Int)).map (fun n => UInt8.ofNat n.toNat) = l := by
    rw [List.map_map]
    have e : ((fun n : Int => UInt8.ofNat n.toNat) ∘ fun c : UInt8 => (c.toNat : Int)) = id := by
      funext c
      apply UInt8.toNat_inj.1
      rw [Function.comp_apply, Int.toNat_natCast, ofNat_to _ (UInt8.toNat_lt c)]
      rfl
    rw [e, List.map_id]
  rw [← this]
  simp
theorem push_eq {A B : Int} (a : A ≤ 15) (b : B ≤ 15) (a0 : 0 ≤ A) (b0 : 0 ≤ B) : (wrap64 (wrap64 (16 * A) + B)) % 256 = ((UInt8.ofNat (16 * A.toNat + B.toNat)).toNat : Int) := by
  rw [ofNat_to _ (by omega), w64 (x := 16 * A) (by omega) (by omega), w64 (by omega) (by omega)]
  omega
theorem refunq_loop (s : ByteArray) (hs : s.size ≤ 100000) : ∀ (n i : Nat) (acc : List UInt8), i + n = s.size → acc.length ≤ i →
    Ev fun k => cooperageref1_Unquote.l0 k s (numsOf acc) (i : Int) = some (unqP (unqO s ((rdec (s.data.toList.drop i)).map (acc ++ ·)))) := by
  have hl := len_data s
  intro n
  induction n using Nat.strongRecOn with
  | ind n ih =>
  intro i acc hi ha
  have hnl : (numsOf acc).length = acc.length := by simp [numsOf]
  by_cases hend : n = 0
  · have hd : s.data.toList.drop i = [] := List.drop_eq_nil_of_le (by omega)
    rw [hd, rdec_nil]
    simp only [Option.map_some, List.append_nil]
    by_cases hacc : acc = []
    · subst hacc
      refine Ev.up (Ev.of fun k => ?_)
      simp only [cooperageref1_Unquote.l0]
      rw [if_neg (by omega), if_pos (by simp [numsOf])]
      rfl
    · have hal : 0 < acc.length := List.length_pos_iff.2 hacc
      have hsz : (⟨acc.toArray⟩ : ByteArray).size ≤ 100000 := by
        show acc.toArray.size ≤ _
        rw [List.size_toArray]
        omega
      refine Ev.up ((refquote_f ⟨acc.toArray⟩ hsz).mp fun k hk => ?_)
      simp only [cooperageref1_Unquote.l0]
      rw [if_neg (by omega), if_neg (by omega), strOf_nums, hk, Option.bind_some]
      by_cases hq : quoteV ⟨acc.toArray⟩ = s
      · rw [if_pos (by rw [hq]), unqO, if_pos ⟨hacc, hq⟩]
        rfl
      · rw [if_neg (fun e => hq (tl_inj e)), unqO, if_neg (fun e => hq e.2)]
        rfl
  · have hlt : i < s.data.toList.length := by omega
    have hpl := plain_at s i hlt
    have hb := bt_nat s i hlt
    have hw := w64s i (by omega)
    rw [drop_at hlt]
    cases hc : plainI ((s.data.toList[i]).toNat : Int) with
    | true =>
      have hih := ih (n - 1) (by omega) (i + 1) (acc ++ [s.data.toList[i]]) (by omega) (by rw [List.length_append]; simp; omega)
      rw [rdec_plain _ _ hc, Option.map_map]
      have hm : (fun x => acc ++ x) ∘ (fun x => s.data.toList[i] :: x) = (fun x => (acc ++ [s.data.toList[i]]) ++ x) := by
        funext x
        simp
      rw [hm]
      refine Ev.up (hih.mp fun k hk => ?_)
      simp only [cooperageref1_Unquote.l0]
      rw [if_pos (by omega), if_pos (by omega), hpl, Option.bind_some, hc, if_pos rfl, if_pos (by omega), hw, hb]
      rw [← hk]
      simp [numsOf]
    | false =>
      by_cases h37 : s.data.toList[i] = 37
      · have hb37 : bt s (i : Int) = 37 := by rw [hb, h37]; rfl
        have hw2 : wrap64 ((i : Int) + 2) = ((i + 2 : Nat) : Int) := by rw [w64 (by omega) (by omega)]; omega
        by_cases h2 : i + 2 < s.size
        · have hlt1 : i + 1 < s.data.toList.length := by omega
          have hlt2 : i + 2 < s.data.toList.length := by omega
          have pi1 : (i : Int) < (s.size : Int) := by omega
          have pi2 : 0 ≤ (i : Int) := by omega
          have pa1 : 0 ≤ ((i + 1 : Nat) : Int) := by omega
          have pa2 : ((i + 1 : Nat) : Int) < (s.size : Int) := by omega
          have pb1 : 0 ≤ ((i + 2 : Nat) : Int) := by omega
          have pb2 : ((i + 2 : Nat) : Int) < (s.size : Int) := by omega
          have pd : decide (((i + 2 : Nat) : Int) ≥ (s.size : Int)) = false := decide_eq_false (by omega)
          have pl : (numsOf acc).length < 140737488355328 := by omega
          have pf : ¬ (false = true) := by decide
          have pih : i + 3 + (n - 3) = s.size ∧ n - 3 < n ∧ acc.length + 1 ≤ i + 3 := by omega
          have hx := UInt8.toNat_lt s.data.toList[i + 1]
          have hy := UInt8.toNat_lt s.data.toList[i + 2]
          have hw3 : wrap64 (((i + 2 : Nat) : Int) + 1) = ((i + 3 : Nat) : Int) := by rw [w64 (by omega) (by omega)]; omega
          have hd2 : s.data.toList.drop (i + 1) = s.data.toList[i + 1] :: s.data.toList[i + 2] :: s.data.toList.drop (i + 3) := by
            rw [drop_at hlt1, drop_at hlt2]
          have hih := fun e : UInt8 => ih (n - 3) pih.2.1 (i + 3) (acc ++ [e]) pih.1 (by rw [List.length_append]; exact pih.2.2)
          have vx := value_ev _ hx
          have vy := value_ev _ hy
          rw [h37, hd2, rdec_pct]
          have hvx : valI (s.data.toList[i + 1]).toNat ≤ 15 ∧ -1 ≤ valI (s.data.toList[i + 1]).toNat := by
            unfold valI
            split
            · omega
            · split <;> omega
          have hvy : valI (s.data.toList[i + 2]).toNat ≤ 15 ∧ -1 ≤ valI (s.data.toList[i + 2]).toNat := by
            unfold valI
            split
            · omega
            · split <;> omega
          generalize hA : valI (s.data.toList[i + 1]).toNat = A at *
          generalize hB : valI (s.data.toList[i + 2]).toNat = B at *
          have hbx := bt_nat s (i + 1) hlt1
          have hby := bt_nat s (i + 2) hlt2
          clear ih hl ha hi
          by_cases hAB : 0 ≤ A ∧ 0 ≤ B
          · rw [if_pos hAB, Option.map_map]
            have hm : (fun x => acc ++ x) ∘ (fun x => UInt8.ofNat (16 * A.toNat + B.toNat) :: x) = (fun x => (acc ++ [UInt8.ofNat (16 * A.toNat + B.toNat)]) ++ x) := by
              funext x
              simp
            rw [hm]
            have hn := push_eq hvx.1 hvy.1 hAB.1 hAB.2
            have hna : ¬ A < 0 := Int.not_lt.2 hAB.1
            have hnb : ¬ B < 0 := Int.not_lt.2 hAB.2
            refine Ev.up (Ev.up (((hih (UInt8.ofNat (16 * A.toNat + B.toNat))).and (vx.and vy)).mp fun k hk => ?_))
            rw [cooperageref1_Unquote.l0, if_pos pi1, if_pos pi2, hpl, Option.bind_some, hc, if_neg pf, if_pos hb37, hw2, pd, cooperageref1_Unquote.j1, if_neg pf, hw, if_pos pa1, if_pos pa2, hbx, hk.2.1, Option.bind_some, hw2, if_pos pb1, if_pos pb2, hby, hk.2.2, Option.bind_some, if_neg hna, if_neg hnb, if_pos pl, hw3, hn]
            rw [← hk.1]
            simp [numsOf]
          · rw [if_neg hAB]
            refine Ev.up (Ev.up ((vx.and vy).mp fun k hk => ?_))
            rw [cooperageref1_Unquote.l0, if_pos pi1, if_pos pi2, hpl, Option.bind_some, hc, if_neg pf, if_pos hb37, hw2, pd, cooperageref1_Unquote.j1, if_neg pf, hw, if_pos pa1, if_pos pa2, hbx, hk.1, Option.bind_some, hw2, if_pos pb1, if_pos pb2, hby, hk.2, Option.bind_some]
            by_cases hA0 : A < 0
            · rw [if_pos hA0]
              rfl
            · have hB0 : B < 0 := Int.not_le.1 fun h => hAB ⟨Int.not_lt.1 hA0, h⟩
              rw [if_neg hA0, if_pos hB0]
              rfl
        · rw [h37, rdec_short _ (by rw [List.length_drop]; omega)]
          refine Ev.up (Ev.up (Ev.of fun k => ?_))
          simp only [cooperageref1_Unquote.l0, cooperageref1_Unquote.j1]
          rw [if_pos (by omega), if_pos (by omega), hpl, Option.bind_some, hc, if_neg (by decide), if_pos hb37, hw2, show decide (((i + 2 : Nat) : Int) ≥ (s.size : Int)) = true from decide_eq_true (by omega), if_pos rfl]
          rfl
      · have hb37 : ¬ bt s (i : Int) = 37 := by
          rw [hb]
          intro e
          apply h37
          apply UInt8.toNat_inj.1
          show _ = 37
          omega
        rw [rdec_other _ _ hc h37]
        refine Ev.up (Ev.up (Ev.of fun k => ?_))
        simp only [cooperageref1_Unquote.l0, cooperageref1_Unquote.j1]
        rw [if_pos (by omega), if_pos (by omega), hpl, Option.bind_some, hc, if_neg (by decide), if_neg hb37, if_pos trivial]
        rfl
theorem refunq_f (s : ByteArray) (hs : s.size ≤ 100000) : Ev fun k => cooperageref1_Unquote.f k s = some (unqP (unqV s)) := by
  unfold unqV
  by_cases h : s.data.toList = [37]
  · refine Ev.of fun k => ?_
    unfold cooperageref1_Unquote.f
    rw [if_pos (by rw [tl]; exact h), if_pos h]
    rfl
  · refine (refunq_loop s hs s.size 0 [] (by omega) (Nat.le_refl _)).mp fun k hk => ?_
    unfold cooperageref1_Unquote.f
    rw [if_neg (by rw [tl]; exact h), if_neg h, unq_rdec]
    refine hk.trans ?_
    simp
end Go.Proofs.YtocpfgdajomjiaaDoor.PureR
