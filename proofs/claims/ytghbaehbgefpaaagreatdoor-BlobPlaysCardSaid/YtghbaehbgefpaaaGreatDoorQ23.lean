import Derived.Test.YtghbaehbgefpaaaGreatDoorQ15
import Derived.Test.YtghbaehbgefpaaaGreatDoorQ12
import Derived.Test.YtghbaehbgefpaaaGreatDoorQ19
import Derived.Test.YtghbaehbgefpaaaGreatDoorQ22
/- Several texts of this session in one: the walks of the functions that the laws reach, and what they tell. -/
set_option linter.unusedVariables false
set_option linter.unusedSimpArgs false
namespace Go.Proofs.YtghbaehbgefpaaaGreatDoor.PureR
open Go.RowKit Go.Proofs.YtghbaehbgefpaaaGreatDoor.Fr Go.Proofs.YtghbaehbgefpaaaGreatDoorW.PrintWords Go.Proofs.YtghbaehbgefpaaaGreatDoor.Spl
open Go.Proofs.YtghbaehbgefpaaaGreatDoor.Hand
theorem rdo {l : List ByteArray} {i : Nat} (h : i < l.length) : rdOf ByteArray.empty l (i : Int) = l[i] := by
  simp [rdOf, List.getD_eq_getElem?_getD, List.getElem?_eq_getElem h]
theorem data_app3 (s m t : ByteArray) : ((s ++ m) ++ t).data.toList = s.data.toList ++ m.data.toList ++ t.data.toList := by
  simp [ByteArray.data_append, Array.toList_append]
end Go.Proofs.YtghbaehbgefpaaaGreatDoor.PureR
namespace Go.Proofs.YtghbaehbgefpaaaGreatDoor.PureR
open Go.RowKit Go.Proofs.YtghbaehbgefpaaaGreatDoor.Fr
open Go.Proofs.YtghbaehbgefpaaaGreatDoor.Hand
end Go.Proofs.YtghbaehbgefpaaaGreatDoor.PureR
namespace Go.Proofs.YtghbaehbgefpaaaGreatDoor.PureR
open Go.RowKit Go.Proofs.YtghbaehbgefpaaaGreatDoor.Fr Go.Proofs.YtghbaehbgefpaaaGreatDoor.R Go.Proofs.YtghbaehbgefpaaaGreatDoorW.PrintWords Go.Proofs.YtghbaehbgefpaaaGreatDoor.Spl
open Go.Proofs.YtghbaehbgefpaaaGreatDoor.Hand
end Go.Proofs.YtghbaehbgefpaaaGreatDoor.PureR
namespace Go.Proofs.YtghbaehbgefpaaaGreatDoor.PureR
open Go.RowKit Go.Proofs.YtghbaehbgefpaaaGreatDoor.Fr Go.Proofs.YtghbaehbgefpaaaGreatDoor.R Go.Proofs.YtghbaehbgefpaaaGreatDoorW.PrintWords Go.Proofs.YtghbaehbgefpaaaGreatDoor.Spl
open Go.Proofs.YtghbaehbgefpaaaGreatDoor.Hand
end Go.Proofs.YtghbaehbgefpaaaGreatDoor.PureR
namespace Go.Proofs.YtghbaehbgefpaaaGreatDoor.PureL
open Go.RowKit Go.Proofs.YtghbaehbgefpaaaGreatDoor.Fr Go.Proofs.YtghbaehbgefpaaaGreatDoor.SumW Go.Proofs.YtghbaehbgefpaaaGreatDoorW.PrintWords
def addv (n : Nat) (s : ByteArray) : Nat := adlSum (adl (adlStart n) s.data.toList)
theorem hex8_data (n : Nat) (hn : n < 4294967296) : (hex8 n).data.toList = [hexd (n / 268435456 % 16), hexd (n / 16777216 % 16), hexd (n / 1048576 % 16), hexd (n / 65536 % 16), hexd (n / 4096 % 16), hexd (n / 256 % 16), hexd (n / 16 % 16), hexd (n % 16)] := by
  unfold hex8
  rw [hexList_ge (by omega), hexList_ge (by omega), hexList_ge (by omega), hexList_ge (by omega), hexList_ge (by omega), hexList_ge (by omega), hexList_ge (by omega), hexList_ge (by omega), hexList_lt (by omega)]
  simp only [List.cons_append, List.nil_append, List.drop_succ_cons, List.drop_zero, Nat.div_div_eq_div_mul]
  have e : ∀ a b : Nat, a = b → hexd a = hexd b := fun a b h => by rw [h]
  congr 1
  · exact e _ _ (by omega)
  congr 1
  · exact e _ _ (by omega)
  congr 1
  · exact e _ _ (by omega)
  congr 1
  · exact e _ _ (by omega)
  congr 1
  · exact e _ _ (by omega)
  congr 1
  · exact e _ _ (by omega)
  congr 1
  · exact e _ _ (by omega)
  congr 1
  exact e _ _ (by omega)
end Go.Proofs.YtghbaehbgefpaaaGreatDoor.PureL
namespace Go.Proofs.YtghbaehbgefpaaaGreatDoor.PureL
open Go.RowKit Go.Proofs.YtghbaehbgefpaaaGreatDoor.Fr Go.Proofs.YtghbaehbgefpaaaGreatDoor.SumW Go.Proofs.YtghbaehbgefpaaaGreatDoor.L Go.Proofs.YtghbaehbgefpaaaGreatDoor.Hand3 Go.Proofs.YtghbaehbgefpaaaGreatDoorW.PrintWords
open Go.Proofs.YtghbaehbgefpaaaGreatDoor.PureR (w64 len_data)
theorem bt_nat (s : ByteArray) (i : Nat) (h : i < s.size) : bt s (i : Int) = ((s.data.toList[i]'(by simpa using h)).toNat : Int) := by
  have h' : i < s.data.size := h
  unfold bt
  rw [dif_pos (by simpa using h)]
  simp [ByteArray.getElem_eq_getElem_data]
theorem drop_bt (s : ByteArray) (i : Nat) (h : i < s.size) : s.data.toList.drop i = (s.data.toList[i]'(by simpa using h)) :: s.data.toList.drop (i + 1) :=
  List.drop_eq_getElem_cons (by simpa using h)
theorem tmod_nat (a b : Nat) : Int.tmod (a : Int) (b : Int) = ((a % b : Nat) : Int) := rfl
theorem tdiv_nat (a b : Nat) : Int.tdiv (a : Int) (b : Int) = ((a / b : Nat) : Int) := rfl
theorem ref_loop (s : ByteArray) (hs : s.size ≤ 140737488351232) : ∀ (d k i a b : Nat), s.size - i = d → i ≤ s.size → d < k → a < 65521 → b < 65521 →
    cooperageref3_Add.l0 k s (a : Int) (b : Int) (i : Int) = some ((adlSum (adl (a, b) (s.data.toList.drop i)) : Nat) : Int) := by
  intro d
  induction d with
  | zero =>
    intro k i a b hd hi hk ha hb
    obtain ⟨k, rfl⟩ : ∃ m, k = m + 1 := ⟨k - 1, by omega⟩
    simp only [cooperageref3_Add.l0]
    rw [if_neg (by omega), List.drop_eq_nil_of_le (by simp; omega)]
    congr 1
    rw [w64 (x := (b : Int) * 65536) (by omega) (by omega), w64 (by omega) (by omega)]
    simp only [adl, List.foldl_nil, adlSum]
    omega
  | succ d ih =>
    intro k i a b hd hi hk ha hb
    obtain ⟨k, rfl⟩ : ∃ m, k = m + 1 := ⟨k - 1, by omega⟩
    have hlt : i < s.size := by omega
    simp only [cooperageref3_Add.l0]
    rw [if_pos (by omega), if_pos (by omega), bt_nat s i hlt]
    have hc : (s.data.toList[i]'(by simpa using hlt)).toNat < 256 := UInt8.toNat_lt _
    rw [drop_bt s i hlt]
    generalize hx : s.data.toList[i]'(by simpa using hlt) = x at hc ⊢
    rw [w64 (x := (x.toNat : Int)) (by omega) (by omega), w64 (x := (a : Int) + x.toNat) (by omega) (by omega), w64 (x := (i : Int) + 1) (by omega) (by omega)]
    rw [show (a : Int) + (x.toNat : Int) = ((a + x.toNat : Nat) : Int) by omega, show (65521 : Int) = ((65521 : Nat) : Int) from rfl, tmod_nat]
    have h1 : (a + x.toNat) % 65521 < 65521 := Nat.mod_lt _ (by decide)
    rw [w64 (x := (b : Int) + ((a + x.toNat) % 65521 : Nat)) (by omega) (by omega)]
    rw [show (b : Int) + (((a + x.toNat) % 65521 : Nat) : Int) = ((b + (a + x.toNat) % 65521 : Nat) : Int) by omega, tmod_nat, show (i : Int) + 1 = ((i + 1 : Nat) : Int) by omega]
    rw [ih k (i + 1) _ _ (by omega) (by omega) (by omega) h1 (Nat.mod_lt _ (by decide))]
    rfl
theorem refAdd_f (n : Nat) (s : ByteArray) (hn : n < 4294967296) (hs : s.size ≤ 140737488351232) (k : Nat) (hk : s.size < k) : cooperageref3_Add.f k (n : Int) s = some ((addv n s : Nat) : Int) := by
  unfold cooperageref3_Add.f
  rw [w64 (x := (n : Int)) (by omega) (by omega)]
  rw [show (65536 : Int) = ((65536 : Nat) : Int) from rfl, show (65521 : Int) = ((65521 : Nat) : Int) from rfl, tmod_nat, tmod_nat, tdiv_nat, w64 (by omega) (by omega), tmod_nat]
  have h := adlStart_lt n
  have := ref_loop s hs s.size k 0 (adlStart n).1 (adlStart n).2 (by omega) (by omega) hk h.1 h.2
  simpa [adlStart, addv] using this
theorem refOf_f (s : ByteArray) (hs : s.size ≤ 140737488351232) (k : Nat) (hk : s.size < k) : cooperageref3_Of.f k s = some ((addv 1 s : Nat) : Int) := by
  unfold cooperageref3_Of.f
  rw [show (1 : Int) = ((1 : Nat) : Int) from rfl, refAdd_f 1 s (by omega) hs k hk]
  rfl
theorem hexl_at : ∀ (m : Nat), m < 16 → ((⟨#[48, 49, 50, 51, 52, 53, 54, 55, 56, 57, 97, 98, 99, 100, 101, 102]⟩ : ByteArray).extract m (m + 1)) = ⟨#[hexd m]⟩ := by decide +kernel
theorem refHex_step (k v i : Nat) (x : ByteArray) (hv : v < 4294967296) (hi : i < 8) (hx : x.size ≤ 100) : cooperageref3_Hex.l0 (k + 1) (v : Int) x (i : Int) = cooperageref3_Hex.l0 k ((v / 16 : Nat) : Int) (⟨#[hexd (v % 16)]⟩ ++ x) ((i + 1 : Nat) : Int) := by
  have hm : v % 16 < 16 := Nat.mod_lt _ (by decide)
  simp only [cooperageref3_Hex.l0]
  rw [show (16 : Int) = ((16 : Nat) : Int) from rfl, tmod_nat, tdiv_nat, w64 (x := ((v % 16 : Nat) : Int)) (by omega) (by omega), w64 (x := ((v % 16 : Nat) : Int) + 1) (by omega) (by omega), w64 (x := (i : Int) + 1) (by omega) (by omega)]
  rw [if_pos (by omega), if_pos (by omega), if_pos (by omega), if_pos (by omega)]
  rw [show (((v % 16 : Nat) : Int) + 1).toNat = v % 16 + 1 by omega, Int.toNat_natCast, hexl_at _ hm]
  rw [if_pos (by show 1 + x.size ≤ _; omega)]
  rw [show (((v / 16 : Nat) : Int)) % 4294967296 = ((v / 16 : Nat) : Int) by omega, show (i : Int) + 1 = ((i + 1 : Nat) : Int) by omega]
theorem refHex_f (n : Nat) (hn : n < 4294967296) (k : Nat) (hk : 9 ≤ k) : cooperageref3_Hex.f k (n : Int) = some (hex8 n) := by
  obtain ⟨k, rfl⟩ : ∃ m, k = m + 9 := ⟨k - 9, by omega⟩
  unfold cooperageref3_Hex.f
  rw [show (0 : Int) = ((0 : Nat) : Int) from rfl]
  rw [refHex_step _ _ _ _ (by omega) (by omega) (by decide), refHex_step _ _ _ _ (by omega) (by omega) (by simp [ByteArray.size]), refHex_step _ _ _ _ (by omega) (by omega) (by simp [ByteArray.size]), refHex_step _ _ _ _ (by omega) (by omega) (by simp [ByteArray.size]),
    refHex_step _ _ _ _ (by omega) (by omega) (by simp [ByteArray.size]), refHex_step _ _ _ _ (by omega) (by omega) (by simp [ByteArray.size]), refHex_step _ _ _ _ (by omega) (by omega) (by simp [ByteArray.size]), refHex_step _ _ _ _ (by omega) (by omega) (by simp [ByteArray.size])]
  simp only [cooperageref3_Hex.l0]
  rw [if_neg (by decide)]
  congr 1
  apply ByteArray.ext
  apply Array.toList_inj.1
  rw [hex8_data n hn]
  simp [ByteArray.data_append, Nat.div_div_eq_div_mul]
end Go.Proofs.YtghbaehbgefpaaaGreatDoor.PureL
namespace Go.Proofs.YtghbaehbgefpaaaGreatDoor.PureL
open Go.RowKit Go.Proofs.YtghbaehbgefpaaaGreatDoor.Fr Go.Proofs.YtghbaehbgefpaaaGreatDoor.PureR Go.Proofs.YtghbaehbgefpaaaGreatDoor.L Go.Proofs.YtghbaehbgefpaaaGreatDoor.Hand3 Go.Proofs.YtghbaehbgefpaaaGreatDoor.Spl Go.Proofs.YtghbaehbgefpaaaGreatDoorW.PrintWords
open Go.Proofs.YtghbaehbgefpaaaGreatDoor.Hand
end Go.Proofs.YtghbaehbgefpaaaGreatDoor.PureL
namespace Go.Proofs.YtghbaehbgefpaaaGreatDoor.PureL
open Go.RowKit Go.Proofs.YtghbaehbgefpaaaGreatDoor.Fr Go.Proofs.YtghbaehbgefpaaaGreatDoor.PureR Go.Proofs.YtghbaehbgefpaaaGreatDoor.L Go.Proofs.YtghbaehbgefpaaaGreatDoor.Hand3 Go.Proofs.YtghbaehbgefpaaaGreatDoor.Spl Go.Proofs.YtghbaehbgefpaaaGreatDoorW.PrintWords
open Go.Proofs.YtghbaehbgefpaaaGreatDoor.Hand
end Go.Proofs.YtghbaehbgefpaaaGreatDoor.PureL
namespace Go.Proofs.YtghbaehbgefpaaaGreatDoor.PureL
open Go.RowKit Go.Proofs.YtghbaehbgefpaaaGreatDoor.Fr Go.Proofs.YtghbaehbgefpaaaGreatDoor.PureR Go.Proofs.YtghbaehbgefpaaaGreatDoor.L Go.Proofs.YtghbaehbgefpaaaGreatDoor.Hand3 Go.Proofs.YtghbaehbgefpaaaGreatDoor.Spl Go.Proofs.YtghbaehbgefpaaaGreatDoorW.PrintWords
open Go.Proofs.YtghbaehbgefpaaaGreatDoor.Hand
end Go.Proofs.YtghbaehbgefpaaaGreatDoor.PureL
namespace Go.Proofs.YtghbaehbgefpaaaGreatDoor.PureL
open Go.RowKit Go.Proofs.YtghbaehbgefpaaaGreatDoor.Fr Go.Proofs.YtghbaehbgefpaaaGreatDoor.PureR Go.Proofs.YtghbaehbgefpaaaGreatDoor.L Go.Proofs.YtghbaehbgefpaaaGreatDoor.Hand3 Go.Proofs.YtghbaehbgefpaaaGreatDoor.Spl Go.Proofs.YtghbaehbgefpaaaGreatDoorW.PrintWords
open Go.Proofs.YtghbaehbgefpaaaGreatDoor.Hand
theorem hex_byte : ∀ c : Fin 256, (hexL.contains (UInt8.ofNat c.val) = true) ↔ ((48 ≤ c.val ∧ c.val ≤ 57) ∨ (97 ≤ c.val ∧ c.val ≤ 102)) := by decide +kernel
theorem hex_iff (c : UInt8) : hexL.contains c = true ↔ ((48 ≤ c.toNat ∧ c.toNat ≤ 57) ∨ (97 ≤ c.toNat ∧ c.toNat ≤ 102)) := by
  have h := hex_byte ⟨c.toNat, UInt8.toNat_lt c⟩
  simpa using h
theorem digits_loop (u : ByteArray) (hu : u.size ≤ 100000) : ∀ (n i : Nat), i + n = u.size → Ev fun k => cooperageref4_digits.l0 k u (i : Int) = some ((u.data.toList.drop i).all fun c => hexL.contains c) := by
  intro n
  induction n with
  | zero =>
    intro i hi
    refine Ev.up (Ev.of fun k => ?_)
    rw [List.drop_eq_nil_of_le (by rw [len_data]; omega)]
    unfold cooperageref4_digits.l0
    rw [if_neg (by omega)]
    rfl
  | succ n ih =>
    intro i hi
    have hlt : i < u.data.toList.length := by rw [len_data]; omega
    have hb := bt_nat u i hlt
    rw [List.drop_eq_getElem_cons hlt, List.all_cons]
    have hh := hex_iff u.data.toList[i]
    generalize u.data.toList[i] = c at hb hh ⊢
    have c0 : (i : Int) < (u.size : Int) := by omega
    have c1 : (0 : Int) ≤ (i : Int) := by omega
    have hw := w64s i (by omega)
    by_cases hc : hexL.contains c = true
    · rw [hc, Bool.true_and]
      refine Ev.up ((ih (i + 1) (by omega)).mp fun k hk => ?_)
      unfold cooperageref4_digits.l0
      rw [if_pos c0, if_pos c1, hb, hw]
      rcases hh.1 hc with h | h
      · rw [if_pos (by omega), if_pos (by omega)]
        exact hk
      · rw [if_pos (by omega), if_neg (by omega), if_pos (by omega), if_pos (by omega)]
        exact hk
    · have hn := fun h => hc (hh.2 h)
      rw [Bool.eq_false_iff.mpr hc, Bool.false_and]
      refine Ev.up (Ev.of fun k => ?_)
      unfold cooperageref4_digits.l0
      rw [if_pos c0, if_pos c1, hb]
      by_cases h48 : ((c.toNat : Nat) : Int) ≥ 48
      · rw [if_pos h48]
        by_cases h57 : ((c.toNat : Nat) : Int) ≤ 57
        · exact absurd (.inl ⟨by omega, by omega⟩) hn
        · rw [if_neg h57]
          by_cases h97 : ((c.toNat : Nat) : Int) ≥ 97
          · rw [if_pos h97]
            by_cases h102 : ((c.toNat : Nat) : Int) ≤ 102
            · exact absurd (.inr ⟨by omega, by omega⟩) hn
            · rw [if_neg h102]
          · rw [if_neg h97]
      · rw [if_neg h48, if_neg (by omega)]
theorem digits_f (u : ByteArray) (hu : u.size ≤ 100000) : Ev fun k => cooperageref4_digits.f k u = some (u.data.toList.all fun c => hexL.contains c) := by
  refine (digits_loop u hu u.size 0 (by omega)).mp fun k hk => ?_
  unfold cooperageref4_digits.f
  exact hk
theorem splG_ne (c : UInt8) : ∀ l cur : List UInt8, splG c cur l ≠ [] := by
  intro l
  induction l with
  | nil => intro cur; simp [splG]
  | cons b t ih =>
    intro cur
    rw [splG]
    split
    · simp
    · exact ih _
def refJ (x0 a : ByteArray) (m : Nat) (l : List ByteArray) (b : Bool) : List ByteArray × ByteArray × Int :=
  if b = true ∨ l.length = 0 ∨ 40 < l.length then ([], ⟨#[]⟩, 2) else if SumW.hex8 (adlOf (a.data.toList.take m)) = a.extract m a.size then (l, x0.extract (m + 9) x0.size, 0) else ([], ⟨#[]⟩, 13)
def refW (x0 a : ByteArray) (m : Nat) : List ByteArray → List (List UInt8) → List ByteArray × ByteArray × Int
  | acc, [] => refJ x0 a m acc true
  | acc, [p] => refJ x0 a m acc (decide (p ≠ []))
  | acc, p :: q :: r => match unqV ⟨p.toArray⟩ with
    | none => ([], ⟨#[]⟩, 2)
    | some t => refW x0 a m (acc ++ [t]) (q :: r)
theorem refJ_true (x0 a : ByteArray) (m : Nat) (l : List ByteArray) : refJ x0 a m l true = ([], ⟨#[]⟩, 2) := by
  unfold refJ
  exact if_pos (.inl rfl)
theorem refW_none {x0 a : ByteArray} {m : Nat} {acc : List ByteArray} {p q : List UInt8} {r : List (List UInt8)} (h : unqV ⟨p.toArray⟩ = none) : refW x0 a m acc (p :: q :: r) = ([], ⟨#[]⟩, 2) := by rw [refW, h]
theorem refW_some {x0 a : ByteArray} {m : Nat} {acc : List ByteArray} {p q : List UInt8} {r : List (List UInt8)} {t : ByteArray} (h : unqV ⟨p.toArray⟩ = some t) : refW x0 a m acc (p :: q :: r) = refW x0 a m (acc ++ [t]) (q :: r) := by rw [refW, h]
theorem refU (s : ByteArray) (h : s.size ≤ 100000) : cooperageref1_Unquote.f s = some (unqP (unqV s)) := by
  unfold cooperageref1_Unquote.f
  rw [if_pos h]
theorem refOf_ev' (s : ByteArray) (hs : s.size ≤ 100000000) : Ev fun k => cooperageref3_Of.f k s = some ((adlOf s.data.toList : Nat) : Int) := ⟨s.size + 1, fun k hk => refOf_f s (by omega) k (by omega)⟩
theorem refHex_ev' (n : Nat) (hn : n < 4294967296) : Ev fun k => cooperageref3_Hex.f k (n : Int) = some (SumW.hex8 n) := ⟨9, fun k hk => refHex_f n hn k hk⟩
theorem ref_j4 (x0 a : ByteArray) (m : Nat) (hm : a.size = m + 8) (h0 : a.size < x0.size) (hs : x0.size ≤ 100000) (l : List ByteArray) (b : Bool) (hb : b = false → l.length ≠ 0 ∧ l.length ≤ 40) (hb2 : b = true → refJ x0 a m l b = ([], ⟨#[]⟩, 2)) :
    Ev fun k => cooperageref4_Take.j4 k x0 (a.size : Int) a l b = some (refJ x0 a m l b) := by
  cases b with
  | true =>
    rw [hb2 rfl]
    refine Ev.up (Ev.of fun k => ?_)
    rw [cooperageref4_Take.j4]
    rw [if_pos rfl]
  | false =>
    obtain ⟨h1, h2⟩ := hb rfl
    have hw : wrap64 ((a.size : Int) - 8) = (m : Int) := by rw [w64 (by omega) (by omega)]; omega
    have hw1 : wrap64 ((a.size : Int) + 1) = ((m + 9 : Nat) : Int) := by rw [w64 (by omega) (by omega)]; omega
    have hsz : (a.extract 0 m).size ≤ 100000000 := by rw [ByteArray.size_extract]; omega
    have hd : (a.extract 0 m).data.toList = a.data.toList.take m := by rw [← ext_take]
    have e1 := refOf_ev' (a.extract 0 m) hsz
    rw [hd] at e1
    have hlt := adlOf_lt (a.data.toList.take m)
    have e2 := refHex_ev' _ hlt
    unfold refJ
    rw [if_neg (show ¬ ((false : Bool) = true ∨ l.length = 0 ∨ 40 < l.length) by rintro (h | h | h); exact absurd h (by decide); exact h1 h; omega)]
    refine Ev.up ((e1.and e2).mp fun k hk => ?_)
    rw [cooperageref4_Take.j4]
    rw [if_neg (by decide), hw, hw1, if_pos (show (0 : Int) ≤ (m : Int) by omega), if_pos (show (m : Int) ≤ (a.size : Int) by omega), Int.toNat_natCast, Int.toNat_natCast, hk.1, Option.bind_some, hk.2, Option.bind_some]
    by_cases hq : SumW.hex8 (adlOf (a.data.toList.take m)) = a.extract m a.size
    · rw [if_pos hq, if_pos (show (SumW.hex8 (adlOf (a.data.toList.take m))).toList = (a.extract m a.size).toList by rw [hq]), if_pos (show (0 : Int) ≤ ((m + 9 : Nat) : Int) by omega), if_pos (show ((m + 9 : Nat) : Int) ≤ (x0.size : Int) by omega)]
    · rw [if_neg hq, if_neg (fun h => hq (tl_inj h))]
theorem ref_l1 (x0 a : ByteArray) (m : Nat) (hm : a.size = m + 8) (h0 : a.size < x0.size) (hs : x0.size ≤ 100000) :
    ∀ (n i : Nat) (acc : List ByteArray) (cur : ByteArray), i + n = m → acc.length ≤ i → cur.size ≤ i →
      Ev fun k => cooperageref4_Take.l1 k x0 (a.size : Int) a acc cur (i : Int) = some (refW x0 a m acc (splG 32 cur.data.toList.reverse ((a.data.toList.take m).drop i))) := by
  have hw : wrap64 ((a.size : Int) - 8) = (m : Int) := by rw [w64 (by omega) (by omega)]; omega
  have hlen : (a.data.toList.take m).length = m := by rw [List.length_take, len_data]; omega
  intro n
  induction n with
  | zero =>
    intro i acc cur hi hacc hcur
    rw [List.drop_eq_nil_of_le (by omega)]
    have hne : ¬ (i : Int) < (m : Int) := by omega
    show Ev fun k => cooperageref4_Take.l1 k x0 (a.size : Int) a acc cur (i : Int) = some (refW x0 a m acc [cur.data.toList.reverse.reverse])
    rw [List.reverse_reverse]
    show Ev fun k => cooperageref4_Take.l1 k x0 (a.size : Int) a acc cur (i : Int) = some (refJ x0 a m acc (decide (cur.data.toList ≠ [])))
    by_cases hc : cur.data.toList = []
    · rw [decide_eq_false (by simp [hc])]
      by_cases hz : acc.length = 0
      · have e : refJ x0 a m acc false = refJ x0 a m acc true := by
          unfold refJ
          rw [if_pos (.inr (.inl hz)), if_pos (.inl rfl)]
        rw [e]
        refine Ev.up ((ref_j4 x0 a m hm h0 hs acc true (fun h => by cases h) (fun _ => by unfold refJ; rw [if_pos (.inl rfl)])).mp fun k hk => ?_)
        rw [cooperageref4_Take.l1]
        rw [hw, if_neg hne, if_pos (by rw [tl]; exact hc), if_pos (by omega)]
        exact hk
      · by_cases h40 : 40 < acc.length
        · have e : refJ x0 a m acc false = refJ x0 a m acc true := by
            unfold refJ
            rw [if_pos (.inr (.inr h40)), if_pos (.inl rfl)]
          rw [e]
          refine Ev.up ((ref_j4 x0 a m hm h0 hs acc true (fun h => by cases h) (fun _ => by unfold refJ; rw [if_pos (.inl rfl)])).mp fun k hk => ?_)
          rw [cooperageref4_Take.l1]
          rw [hw, if_neg hne, if_pos (by rw [tl]; exact hc), if_neg (by omega), decide_eq_true (by omega)]
          exact hk
        · refine Ev.up ((ref_j4 x0 a m hm h0 hs acc false (fun _ => ⟨hz, by omega⟩) (fun h => by cases h)).mp fun k hk => ?_)
          rw [cooperageref4_Take.l1]
          rw [hw, if_neg hne, if_pos (by rw [tl]; exact hc), if_neg (by omega), decide_eq_false (by omega)]
          exact hk
    · rw [decide_eq_true hc]
      refine Ev.up ((ref_j4 x0 a m hm h0 hs acc true (fun h => by cases h) (fun _ => by unfold refJ; rw [if_pos (.inl rfl)])).mp fun k hk => ?_)
      rw [cooperageref4_Take.l1]
      rw [hw, if_neg hne, if_neg (by rw [tl]; exact hc)]
      exact hk
  | succ n ih =>
    intro i acc cur hi hacc hcur
    have hlt : i < (a.data.toList.take m).length := by omega
    have hlt2 : i < a.data.toList.length := by rw [len_data]; omega
    have hb := bt_nat a i (by omega)
    have hg : (a.data.toList.take m)[i] = a.data.toList[i] := List.getElem_take ..
    rw [List.drop_eq_getElem_cons hlt, hg, splG]
    have hpos : (i : Int) < (m : Int) := by omega
    by_cases h32 : a.data.toList[i] = 32
    · have hb32 : bt a (i : Int) = 32 := by rw [hb, h32]; rfl
      rw [if_pos h32, List.reverse_reverse]
      obtain ⟨q, r, hqr⟩ : ∃ q r, splG 32 [] ((a.data.toList.take m).drop (i + 1)) = q :: r := by
        cases h : splG 32 [] ((a.data.toList.take m).drop (i + 1)) with
        | nil => exact absurd h (splG_ne _ _ _)
        | cons q r => exact ⟨q, r, rfl⟩
      rw [hqr]
      have hu := refU cur (by omega)
      cases hun : unqV cur with
      | none =>
        rw [hun] at hu
        rw [refW_none hun]
        refine Ev.up (Ev.of fun k => ?_)
        rw [cooperageref4_Take.l1]
        rw [hw, if_pos hpos, if_pos (by omega), if_pos (by omega), if_pos hb32, hu, Option.bind_some, if_neg (by decide)]
      | some t =>
        rw [hun] at hu
        have := ih (i + 1) (acc ++ [t]) ⟨#[]⟩ (by omega) (by rw [List.length_append]; show _ + 1 ≤ _; omega) (Nat.zero_le _)
        rw [show ((⟨#[]⟩ : ByteArray).data.toList.reverse) = [] from rfl, hqr] at this
        rw [refW_some hun]
        refine Ev.up (this.mp fun k hk => ?_)
        rw [cooperageref4_Take.l1]
        rw [hw, if_pos hpos, if_pos (by omega), if_pos (by omega), if_pos hb32, hu, Option.bind_some, if_pos (show (unqP (some t)).2 = 0 from rfl), if_pos (by omega), w64s i (by omega)]
        exact hk
    · have hb32 : ¬ bt a (i : Int) = 32 := by
        rw [hb]
        intro h
        exact h32 (UInt8.toNat_inj.1 (by show _ = 32; omega))
      rw [if_neg h32]
      have hex : (a.extract i (i + 1)).data.toList = [a.data.toList[i]] := by
        rw [ext_one a i (by omega)]
      have hex1 : (a.extract i (i + 1)).size = 1 := by rw [← len_data, hex]; rfl
      have := ih (i + 1) acc (cur ++ a.extract i (i + 1)) (by omega) (by omega) (by rw [ByteArray.size_append, hex1]; omega)
      rw [data_app2, hex, List.reverse_append, List.reverse_singleton, List.singleton_append] at this
      refine Ev.up (this.mp fun k hk => ?_)
      rw [cooperageref4_Take.l1]
      rw [hw, w64s i (by omega), if_pos hpos, if_pos (by omega), if_pos (by omega), if_neg hb32, if_pos (by omega), if_pos (by omega), Int.toNat_natCast, Int.toNat_natCast, if_pos (by rw [hex1]; omega)]
      exact hk
theorem refW_words (x0 a : ByteArray) (m : Nat) (last : List UInt8) : ∀ (ws : List (List UInt8)) (acc : List ByteArray),
    refW x0 a m acc (ws ++ [last]) = if (ws.all fun p => (unqV ⟨p.toArray⟩).isSome) = true then refJ x0 a m (acc ++ ws.map fun p => (unqV ⟨p.toArray⟩).getD ⟨#[]⟩) (decide (last ≠ [])) else ([], ⟨#[]⟩, 2) := by
  intro ws
  induction ws with
  | nil => intro acc; rw [List.nil_append, refW, if_pos (by simp), List.map_nil, List.append_nil]
  | cons p t ih =>
    intro acc
    obtain ⟨q, r, hqr⟩ : ∃ q r, t ++ [last] = q :: r := by
      cases h : t ++ [last] with
      | nil => simp at h
      | cons q r => exact ⟨q, r, rfl⟩
    rw [List.cons_append, hqr, refW, ← hqr]
    rw [List.all_cons, List.map_cons]
    cases hun : unqV ⟨p.toArray⟩ with
    | none => simp
    | some u =>
      show refW x0 a m (acc ++ [u]) (t ++ [last]) = _
      rw [ih]
      simp
theorem splG_last (c b : UInt8) (hb : b ≠ c) : ∀ (l cur : List UInt8), ∃ ws q, splG c cur (l ++ [b]) = ws ++ [q ++ [b]] := by
  intro l
  induction l with
  | nil => intro cur; exact ⟨[], cur.reverse, by rw [List.nil_append, splG, if_neg hb, splG]; simp⟩
  | cons x t ih =>
    intro cur
    rw [List.cons_append, splG]
    split
    · obtain ⟨ws, q, h⟩ := ih []
      exact ⟨cur.reverse :: ws, q, by rw [h, List.cons_append]⟩
    · exact ih _
theorem words_bytes (a : ByteArray) : (splG 32 [] (a.data.toList.take (a.size - 9))).map (fun p => (⟨p.toArray⟩ : ByteArray)) = wordsB a := by
  have h := words_data a
  rw [show (a.extract 0 (a.size - 9)).data.toList = a.data.toList.take (a.size - 9) by rw [← ext_take]] at h
  rw [← h, bytes_map]
theorem refW_take (x0 a : ByteArray) (m : Nat) (hm : a.size = m + 8) (h13 : a.size < 13000) (hx : (a.data.toList.drop m).all (fun c => hexL.contains c) = true) :
    refW x0 a m [] (splG 32 [] (a.data.toList.take m)) = takeB a (x0.extract (m + 9) x0.size) := by
  have hlen := len_data a
  have hm8 : a.size - 8 = m := by omega
  unfold takeB formB
  rw [hm8]
  cases m with
  | zero =>
    rw [decide_eq_false (show ¬ 9 ≤ a.size by omega), if_pos (by simp)]
    show refJ x0 a 0 [] (decide (([] : List UInt8) ≠ [])) = _
    unfold refJ
    rw [if_pos (.inr (.inl rfl))]
  | succ d =>
    have hm9 : a.size - 9 = d := by omega
    have hd : d < a.data.toList.length := by omega
    have htk : a.data.toList.take (d + 1) = a.data.toList.take d ++ [a.data.toList[d]] := List.take_succ_eq_append_getElem hd
    rw [decide_eq_true (show 9 ≤ a.size by omega), decide_eq_true h13, hx, hm9, List.getElem?_eq_getElem hd]
    by_cases h32 : a.data.toList[d] = 32
    · rw [h32] at htk ⊢
      rw [htk, show a.data.toList.take d ++ [32] = a.data.toList.take d ++ 32 :: [] from rfl, splG_app]
      show refW x0 a (d + 1) [] (splG 32 [] (a.data.toList.take d) ++ [[]]) = _
      rw [refW_words, if_neg (show ¬ ((true && true && decide ((some 32 : Option UInt8) = some 32) && true) = false) by decide)]
      have hw := words_bytes a
      rw [hm9] at hw
      have hall : (splG 32 [] (a.data.toList.take d)).all (fun p => (unqV ⟨p.toArray⟩).isSome) = (wordsB a).all (fun x => (unqV x).isSome) := by
        rw [← hw, List.all_map]
        rfl
      have hmap : (splG 32 [] (a.data.toList.take d)).map (fun p => (unqV ⟨p.toArray⟩).getD ⟨#[]⟩) = (wordsB a).map fun x => (unqV x).getD ⟨#[]⟩ := by
        rw [← hw, List.map_map]
        rfl
      rw [hall, hmap, List.nil_append]
      have hne : (wordsB a).length ≠ 0 := by
        rw [← hw, List.length_map]
        intro h
        exact splG_ne _ _ _ (List.length_eq_zero_iff.1 h)
      have hl : refJ x0 a (d + 1) ((wordsB a).map fun x => (unqV x).getD ⟨#[]⟩) (decide (([] : List UInt8) ≠ [])) = if 40 < (wordsB a).length then ([], ⟨#[]⟩, 2) else if SumW.hex8 (adlOf (a.data.toList.take (d + 1))) = a.extract (d + 1) a.size then ((wordsB a).map fun x => (unqV x).getD ⟨#[]⟩, x0.extract (d + 1 + 9) x0.size, 0) else ([], ⟨#[]⟩, 13) := by
        unfold refJ
        rw [List.length_map]
        by_cases h40 : 40 < (wordsB a).length
        · rw [if_pos (show decide (([] : List UInt8) ≠ []) = true ∨ (wordsB a).length = 0 ∨ 40 < (wordsB a).length from .inr (.inr h40)), if_pos h40]
        · rw [if_neg (show ¬ (decide (([] : List UInt8) ≠ []) = true ∨ (wordsB a).length = 0 ∨ 40 < (wordsB a).length) from by rintro (h | h | h); exact absurd h (by simp); exact hne h; exact h40 h), if_neg h40]
      rw [hl, ← htk]
      by_cases hs : (wordsB a).all (fun x => (unqV x).isSome) = true
      · rw [if_pos hs]
        by_cases h40 : 40 < (wordsB a).length
        · rw [if_pos h40, if_pos h40]
        · rw [if_neg h40, if_neg h40, if_neg (show ¬ ((wordsB a).all (fun x => (unqV x).isSome) = false) by rw [hs]; decide)]
      · rw [if_neg hs]
        by_cases h40 : 40 < (wordsB a).length
        · rw [if_pos h40]
        · rw [if_neg h40, if_pos (show (wordsB a).all (fun x => (unqV x).isSome) = false by simpa using hs)]
    · obtain ⟨ws, q, hq⟩ := splG_last 32 _ h32 (a.data.toList.take d) []
      rw [htk, hq, refW_words, decide_eq_true (show q ++ [a.data.toList[d]] ≠ [] by simp)]
      rw [if_pos (show (true && true && decide (some a.data.toList[d] = some 32) && true) = false by rw [decide_eq_false (show ¬ some a.data.toList[d] = some (32 : UInt8) from fun h => h32 (Option.some.inj h))]; rfl), refJ_true]
      split <;> rfl
theorem ref_j1 (s : ByteArray) (hs : s.size ≤ 100000) (n : Nat) (hn : n < s.size) :
    Ev fun k => cooperageref4_Take.j1 k s (n : Int) = some (takeB (s.extract 0 n) (s.extract (n + 1) s.size)) := by
  obtain ⟨a, ha⟩ : ∃ a, s.extract 0 n = a := ⟨_, rfl⟩
  have hsz : a.size = n := by rw [← ha, ByteArray.size_extract]; omega
  have hlen := len_data a
  have hj2 : ∀ a' : ByteArray, Ev fun k => cooperageref4_Take.j2 k s (n : Int) a' true = some ([], ⟨#[]⟩, 2) := by
    intro a'
    refine Ev.up (Ev.of fun k => ?_)
    rw [cooperageref4_Take.j2]
    rw [if_pos rfl]
  by_cases h8 : n < 8
  · have e : takeB a (s.extract (n + 1) s.size) = ([], ⟨#[]⟩, 2) := by
      unfold takeB formB
      rw [decide_eq_false (show ¬ 9 ≤ a.size by omega), if_pos (by simp)]
    rw [ha, e]
    refine Ev.up ((hj2 a).mp fun k hk => ?_)
    rw [cooperageref4_Take.j1]
    rw [if_neg (by omega), if_pos (by omega), if_pos (by omega), if_pos (by omega), Int.toNat_natCast, ha]
    exact hk
  · by_cases h13 : 13000 ≤ n
    · have e : takeB a (s.extract (n + 1) s.size) = ([], ⟨#[]⟩, 2) := by
        unfold takeB formB
        rw [decide_eq_false (show ¬ a.size < 13000 by omega), if_pos (by simp)]
      rw [ha, e]
      refine Ev.up ((hj2 a).mp fun k hk => ?_)
      rw [cooperageref4_Take.j1]
      rw [if_neg (by omega), if_pos (by omega), if_pos (by omega), if_neg (by omega), if_pos (by omega), Int.toNat_natCast, ha]
      exact hk
    · obtain ⟨m, hm⟩ : ∃ m, n = m + 8 := ⟨n - 8, by omega⟩
      have hw : wrap64 ((n : Int) - 8) = (m : Int) := by rw [w64 (by omega) (by omega)]; omega
      have hdz : (a.extract m a.size).size ≤ 100000 := by rw [ByteArray.size_extract]; omega
      have hdd : (a.extract m a.size).data.toList = a.data.toList.drop m := by rw [← ext_drop]
      have hdig := digits_f (a.extract m a.size) hdz
      rw [hdd] at hdig
      by_cases hx : (a.data.toList.drop m).all (fun c => hexL.contains c) = true
      · rw [hx] at hdig
        have h1 := ref_l1 s a m (by omega) (by omega) hs m 0 [] ⟨#[]⟩ (by omega) (Nat.le_refl _) (Nat.le_refl _)
        rw [show ((⟨#[]⟩ : ByteArray).data.toList.reverse) = [] from rfl, List.drop_zero, refW_take s a m (by omega) (by omega) hx, show m + 9 = n + 1 by omega, hsz] at h1
        have h2 : Ev fun k => cooperageref4_Take.j2 k s (n : Int) a false = some (takeB a (s.extract (n + 1) s.size)) := by
          refine Ev.up (h1.mp fun k hk => ?_)
          rw [cooperageref4_Take.j2]
          rw [if_neg (by decide)]
          exact hk
        rw [ha]
        refine Ev.up ((hdig.and h2).mp fun k hk => ?_)
        rw [cooperageref4_Take.j1]
        rw [if_neg (by omega), if_pos (by omega), if_pos (by omega), if_neg (by omega), if_neg (by omega), Int.toNat_natCast, ha, hw, if_pos (by omega), if_pos (by omega), Int.toNat_natCast, hk.1, Option.bind_some]
        exact hk.2
      · have hx' := Bool.eq_false_iff.mpr hx
        rw [hx'] at hdig
        have e : takeB a (s.extract (n + 1) s.size) = ([], ⟨#[]⟩, 2) := by
          unfold takeB formB
          rw [show a.size - 8 = m by omega, hx', if_pos (by simp)]
        rw [ha, e]
        refine Ev.up ((hdig.and (hj2 a)).mp fun k hk => ?_)
        rw [cooperageref4_Take.j1]
        rw [if_neg (by omega), if_pos (by omega), if_pos (by omega), if_neg (by omega), if_neg (by omega), Int.toNat_natCast, ha, hw, if_pos (by omega), if_pos (by omega), Int.toNat_natCast, hk.1, Option.bind_some]
        exact hk.2
theorem ref_l0 (s : ByteArray) (hs : s.size ≤ 100000) (n : Nat) (hn : n ≤ s.size) (R : List ByteArray × ByteArray × Int) (hno : ∀ j (h : j < s.data.toList.length), j < n → s.data.toList[j] ≠ 10) (hat : ∀ (h : n < s.data.toList.length), s.data.toList[n] = 10)
    (hj : Ev fun k => cooperageref4_Take.j1 k s (n : Int) = some R) : ∀ (d i : Nat), i + d = n → Ev fun k => cooperageref4_Take.l0 k s (i : Int) = some R := by
  have hlen := len_data s
  intro d
  induction d with
  | zero =>
    intro i hi
    obtain rfl : i = n := by omega
    refine Ev.up (hj.mp fun k hk => ?_)
    rw [cooperageref4_Take.l0]
    by_cases hlt : i < s.data.toList.length
    · have hb := PureL.bt_nat s i (by omega)
      rw [if_pos (by omega), if_pos (by omega), if_pos (by rw [hb, hat hlt]; rfl)]
      exact hk
    · rw [if_neg (by omega)]
      exact hk
  | succ d ih =>
    intro i hi
    have hlt : i < s.data.toList.length := by omega
    have hb := PureL.bt_nat s i (by omega)
    have h10 : ¬ bt s (i : Int) = 10 := by
      rw [hb]
      intro h
      exact hno i hlt (by omega) (UInt8.toNat_inj.1 (by show _ = 10; omega))
    refine Ev.up ((ih (i + 1) (by omega)).mp fun k hk => ?_)
    rw [cooperageref4_Take.l0]
    rw [if_pos (by omega), if_pos (by omega), if_neg h10, w64s i (by omega)]
    exact hk
theorem refTake_f (s : ByteArray) (hs : s.size ≤ 100000) : Ev fun k => cooperageref4_Take.f k s = some (takeV s) := by
  have hlen := len_data s
  rcases cut_one 10 s.data.toList with ⟨h1, ⟨h2, h3⟩ | ⟨h2, h3⟩⟩
  · obtain ⟨A, hA⟩ : ∃ A, (Lib.cut s.data.toList [10]).1 = A := ⟨_, rfl⟩
    obtain ⟨B, hB⟩ : ∃ B, (Lib.cut s.data.toList [10]).2.1 = B := ⟨_, rfl⟩
    have hv : takeV s = takeB ⟨A.toArray⟩ ⟨B.toArray⟩ := by
      unfold takeV
      rw [h2, if_neg (by decide), hA, hB]
    rw [hA] at h1 h3
    rw [hB] at h3
    have hl3 := congrArg List.length h3
    rw [List.length_append, List.length_cons] at hl3
    have e1 : (⟨A.toArray⟩ : ByteArray) = s.extract 0 A.length := by
      rw [← ext_take, h3, List.take_left]
    have e2 : (⟨B.toArray⟩ : ByteArray) = s.extract (A.length + 1) s.size := by
      rw [← ext_drop, h3, ← List.drop_drop, List.drop_left]
      rfl
    rw [hv, e1, e2]
    refine ref_l0 s hs A.length (by omega) _ (fun j h hj => ?_) (fun h => ?_) (ref_j1 s hs A.length (by omega)) A.length 0 (by omega)
    · have : s.data.toList[j] = A[j] := by
        simp only [h3]
        rw [List.getElem_append_left hj]
      rw [this]
      exact fun e => h1 (e ▸ List.getElem_mem hj)
    · simp only [h3]
      rw [List.getElem_append_right (Nat.le_refl _)]
      simp
  · have hv : takeV s = ([], ⟨#[]⟩, 14) := by
      unfold takeV
      rw [h2, if_pos rfl]
    rw [hv]
    refine ref_l0 s hs s.size (Nat.le_refl _) _ (fun j h hj => ?_) (fun h => by omega) ?_ s.size 0 (by omega)
    · have hm : s.data.toList[j] ∈ (Lib.cut s.data.toList [10]).1 := by
        rw [← h3]
        exact List.getElem_mem h
      exact fun e => h1 (e ▸ hm)
    · refine Ev.up (Ev.of fun k => ?_)
      rw [cooperageref4_Take.j1]
      rw [if_pos rfl]
end Go.Proofs.YtghbaehbgefpaaaGreatDoor.PureL
namespace Go.Proofs.YtghbaehbgefpaaaGreatDoor.PureL
open Go.RowKit Go.Proofs.YtghbaehbgefpaaaGreatDoor.Fr Go.Proofs.YtghbaehbgefpaaaGreatDoor.PureR Go.Proofs.YtghbaehbgefpaaaGreatDoor.L Go.Proofs.YtghbaehbgefpaaaGreatDoor.Hand3 Go.Proofs.YtghbaehbgefpaaaGreatDoor.Spl Go.Proofs.YtghbaehbgefpaaaGreatDoorW.PrintWords
open Go.Proofs.YtghbaehbgefpaaaGreatDoor.Hand
theorem refOf_ev (s : ByteArray) (hs : s.size ≤ 100000000) : Ev fun k => cooperageref3_Of.f k s = some ((adlOf s.data.toList : Nat) : Int) := ⟨s.size + 1, fun k hk => refOf_f s (by omega) k (by omega)⟩
theorem refHex_ev (n : Nat) (hn : n < 4294967296) : Ev fun k => cooperageref3_Hex.f k (n : Int) = some (SumW.hex8 n) := ⟨9, fun k hk => refHex_f n hn k hk⟩
theorem refQ (s : ByteArray) (h : s.size ≤ 100000) : cooperageref1_Quote.f s = some (quoteV s) := by
  unfold cooperageref1_Quote.f
  rw [if_pos h]
theorem refPut_loop (l : List ByteArray) (h1 : 1 ≤ l.length) (hl : l.length ≤ 40) (hx : ∀ x ∈ l, x.size ≤ 100000) : ∀ (n i : Nat) (acc : ByteArray), i + n = l.length → acc.data.toList = bodyL (l.take i) → Ev fun k => cooperageref4_Put.l0 k l acc (i : Int) = some (putV l) := by
  intro n
  induction n with
  | zero =>
    intro i acc hi ha
    rw [List.take_of_length_le (by omega)] at ha
    have hbl := bodyL_len 100000 l hx
    have has : acc.size = (bodyL l).length := by rw [← len_data, ha]
    have hsz : acc.size ≤ 100000000 := by
      have : (3 * 100000 + 2) * l.length ≤ (3 * 100000 + 2) * 40 := Nat.mul_le_mul_left _ hl
      omega
    have hadl := adlOf_lt acc.data.toList
    have h8 := hex8_size _ hadl
    have z1 : ((⟨#[10]⟩ : ByteArray)).size = 1 := rfl
    refine Ev.up (((refOf_ev acc hsz).and (refHex_ev _ hadl)).mp fun k hk => ?_)
    simp only [cooperageref4_Put.l0]
    rw [if_neg (by omega), hk.1, Option.bind_some, hk.2, Option.bind_some, if_pos (by omega), if_pos (by rw [ByteArray.size_append]; omega)]
    have hline : ((acc ++ SumW.hex8 (adlOf acc.data.toList)) ++ (⟨#[10]⟩ : ByteArray)) = ⟨(lineL l).toArray⟩ := by
      apply ba_ext
      rw [data_app3, ha]
      rfl
    rw [hline]
    have hsl : ((⟨(lineL l).toArray⟩ : ByteArray)).size = (lineL l).length := List.size_toArray
    unfold putV
    have e0 : ¬ l.length = 0 := by omega
    have e40 : ¬ 40 < l.length := by omega
    rw [hsl, if_neg e0, if_neg e40]
    by_cases h13 : 13000 < (lineL l).length
    · rw [if_pos (by omega), if_pos h13]
    · rw [if_neg (by omega), if_neg h13]
  | succ n ih =>
    intro i acc hi ha
    have hlt : i < l.length := by omega
    have hr := rdo hlt
    have hxi := hx _ (List.getElem_mem hlt)
    have hq := quoteV_len l[i]
    have hbl := bodyL_len 100000 (l.take i) (fun x hm => hx x (List.mem_of_mem_take hm))
    have has : acc.size = (bodyL (l.take i)).length := by rw [← len_data, ha]
    have htl : (l.take i).length ≤ 40 := by rw [List.length_take]; omega
    have hsz : acc.size ≤ 100000000 := by
      have : (3 * 100000 + 2) * (l.take i).length ≤ (3 * 100000 + 2) * 40 := Nat.mul_le_mul_left _ htl
      omega
    have hd : ((acc ++ quoteV l[i]) ++ (⟨#[32]⟩ : ByteArray)).data.toList = bodyL (l.take (i + 1)) := by
      rw [data_app3, ha, List.take_succ_eq_append_getElem hlt, bodyL_snoc]
      simp
    refine Ev.up ((ih (i + 1) _ (by omega) hd).mp fun k hk => ?_)
    simp only [cooperageref4_Put.l0]
    rw [if_pos (by omega), if_pos (by omega), hr, refQ _ hxi, Option.bind_some, if_pos (by omega), if_pos (by rw [ByteArray.size_append]; omega), w64s i (by omega)]
    exact hk
theorem refPut_f (l : List ByteArray) (hx : ∀ x ∈ l, x.size ≤ 100000) : Ev fun k => cooperageref4_Put.f k l = some (putV l) := by
  by_cases h0 : l.length = 0
  · refine Ev.of fun k => ?_
    unfold cooperageref4_Put.f putV
    rw [if_pos (by omega), if_pos h0]
  · by_cases h40 : 40 < l.length
    · refine Ev.of fun k => ?_
      unfold cooperageref4_Put.f putV
      rw [if_neg (by omega), if_pos (by omega), if_neg h0, if_pos h40]
    · refine (refPut_loop l (by omega) (by omega) hx l.length 0 (⟨#[]⟩ : ByteArray) (by omega) rfl).mp fun k hk => ?_
      unfold cooperageref4_Put.f
      rw [if_neg (by omega), if_neg (by omega)]
      exact hk
end Go.Proofs.YtghbaehbgefpaaaGreatDoor.PureL
namespace Go.Proofs.YtghbaehbgefpaaaGreatDoor.PureL
open Go.RowKit Go.Proofs.YtghbaehbgefpaaaGreatDoor.Fr Go.Proofs.YtghbaehbgefpaaaGreatDoor.PureR Go.Proofs.YtghbaehbgefpaaaGreatDoor.L Go.Proofs.YtghbaehbgefpaaaGreatDoor.Hand3 Go.Proofs.YtghbaehbgefpaaaGreatDoor.Spl Go.Proofs.YtghbaehbgefpaaaGreatDoorW.PrintWords
open Go.Proofs.YtghbaehbgefpaaaGreatDoor.Hand
theorem refScan_loop (s : ByteArray) (hs : s.size ≤ 100000) : ∀ (f : Nat) (u : ByteArray) (acc : List (List ByteArray)), u.size < f → u.size ≤ s.size → acc.length + u.size ≤ s.size →
    Ev fun k => cooperageref4_Scan.l0 k s acc u = some (acc ++ (scanG s.size f u).map (·.1), (match (scanG s.size f u).getLast? with | some p => p.2 | none => (s.size : Int) - (u.size : Int))) := by
  intro f
  induction f with
  | zero => intro u acc hf; omega
  | succ f ih =>
    intro u acc hf hu hacc
    by_cases h0 : (takeV u).2.2 = 0
    · obtain ⟨h1, h2⟩ := take_inv h0
      have h3 := congrArg ByteArray.size h2
      rw [ByteArray.size_append] at h3
      have h4 : 1 ≤ (putV (takeV u).1).1.size := by
        rw [putV_size h1, line_len]
        omega
      have hstep : scanG s.size (f + 1) u = ((takeV u).1, (s.size : Int) - ((takeV u).2.1.size : Int)) :: scanG s.size f (takeV u).2.1 := by rw [scanG, if_pos h0]
      rw [hstep]
      have := ih (takeV u).2.1 (acc ++ [(takeV u).1]) (by omega) (by omega) (by rw [List.length_append]; show acc.length + 1 + _ ≤ _; omega)
      refine Ev.up (((refTake_f u (by omega)).and this).mp fun k hk => ?_)
      unfold cooperageref4_Scan.l0
      rw [hk.1, Option.bind_some, if_pos h0, if_pos (by omega), hk.2]
      congr 1
      rw [List.map_cons, List.append_assoc, List.singleton_append]
      congr 1
      cases hsc : scanG s.size f (takeV u).2.1 with
      | nil => rfl
      | cons a b =>
        rw [List.getLast?_cons_cons]
        cases hg : (a :: b).getLast? with
        | none => simp at hg
        | some p => rfl
    · have hstep : scanG s.size (f + 1) u = [] := by rw [scanG, if_neg h0]
      rw [hstep]
      refine Ev.up ((refTake_f u (by omega)).mp fun k hk => ?_)
      unfold cooperageref4_Scan.l0
      rw [hk, Option.bind_some, if_neg h0, w64 (by omega) (by omega), List.map_nil, List.append_nil]
      rfl
theorem refScan_f (s : ByteArray) (hs : s.size ≤ 100000) : Ev fun k => cooperageref4_Scan.f k s = some (scanV s) := by
  refine (refScan_loop s hs (s.size + 1) s [] (by omega) (Nat.le_refl _) (by simp)).mp fun k hk => ?_
  unfold cooperageref4_Scan.f
  rw [hk]
  unfold scanV scanP lastE
  rw [List.nil_append]
  congr 2
  cases (scanG s.size (s.size + 1) s).getLast? with
  | none => show (s.size : Int) - (s.size : Int) = 0; omega
  | some p => rfl
end Go.Proofs.YtghbaehbgefpaaaGreatDoor.PureL
