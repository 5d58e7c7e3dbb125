import Derived.Test.YtghbaehbgefpaaaGreatDoorQB
import Derived.Maps.Own
import Derived.Maps.OwnSet
import Derived.Maps.Views
import Derived.StringKeys
import Derived.WalkArith
import Derived.Maps.AppendAt
import Derived.Laws.ResultCell
/- Several texts of this session in one: the walks of the functions that the laws reach, and what they tell. -/
/- Plain facts of lines. -/
namespace Go.Proofs.YtghbaehbgefpaaaGreatDoor.PureL
open Go.RowKit Go.Proofs.YtghbaehbgefpaaaGreatDoor.PureR Go.Proofs.YtghbaehbgefpaaaGreatDoor.Spl
open Go.Proofs.YtghbaehbgefpaaaGreatDoor.Hand
open Go.Proofs.YtghbaehbgefpaaaGreatDoor.Fr (plainI)
set_option linter.unusedVariables false
set_option linter.unusedSimpArgs false
theorem quoteV_empty {s : ByteArray} (h : s.data.toList = []) : quoteV s = ⟨#[37]⟩ := by
  unfold quoteV
  rw [if_pos]
  rw [← len_data, h]
  rfl
theorem quoteV_full {s : ByteArray} (h : s.data.toList ≠ []) : (quoteV s).data.toList = s.data.toList.flatMap quoteB := quoteV_data (t := s.data.toList) h
theorem quoteV_sign (s : ByteArray) : ∀ c ∈ (quoteV s).data.toList, plainI c.toNat = true ∨ c = 37 := by
  intro c hc
  by_cases h : s.data.toList = []
  · rw [quoteV_empty h] at hc
    exact .inr (by simpa using hc)
  · rw [quoteV_full h] at hc
    obtain ⟨d, -, hd⟩ := List.mem_flatMap.1 hc
    exact quoteB_sign d c hd
theorem sign_ne {c : UInt8} (h : plainI c.toNat = true ∨ c = 37) : c ≠ 32 ∧ c ≠ 10 := by
  constructor <;> (rintro rfl; rcases h with h | h <;> exact absurd h (by decide))
theorem unq_quote (s : ByteArray) : unqV (quoteV s) = some s := by
  by_cases h : s.data.toList = []
  · rw [quoteV_empty h]
    have : s = (⟨#[]⟩ : ByteArray) := ba_ext h
    rw [this]
    rfl
  · have hf := quoteV_full h
    have hne : (quoteV s).data.toList ≠ [37] := by
      rw [hf]
      cases hd : s.data.toList with
      | nil => exact absurd hd h
      | cons c t =>
        intro e
        rw [List.flatMap_cons, quoteB] at e
        split at e
        next hp =>
          rw [List.singleton_append] at e
          injection e with e1 e2
          exact plain_no37 hp e1
        next => simp at e
    rw [unqV_of hne (congrArg decG hf), decG_quote]
    show (if s.data.toList ≠ [] ∧ quoteV ⟨s.data.toList.toArray⟩ = quoteV s then some (⟨s.data.toList.toArray⟩ : ByteArray) else none) = some s
    have hs : (⟨s.data.toList.toArray⟩ : ByteArray) = s := ba_ext rfl
    rw [hs, if_pos ⟨h, rfl⟩]
theorem unq_inv {x t : ByteArray} (h : unqV x = some t) : quoteV t = x := by
  unfold unqV at h
  split at h
  next hx =>
    injection h with h
    subst h
    exact ba_ext hx.symm
  next hx =>
    cases hd : decG x.data.toList with
    | none => rw [hd] at h; cases h
    | some l =>
      rw [hd] at h
      have h' : (if l ≠ [] ∧ quoteV ⟨l.toArray⟩ = x then some (⟨l.toArray⟩ : ByteArray) else none) = some t := h
      by_cases hc : l ≠ [] ∧ quoteV ⟨l.toArray⟩ = x
      · rw [if_pos hc] at h'
        injection h' with h'
        subst h'
        exact hc.2
      · rw [if_neg hc] at h'
        cases h'
theorem body_sign (l : List ByteArray) : ∀ c ∈ bodyL l, (plainI c.toNat = true ∨ c = 37) ∨ c = 32 := by
  intro c hc
  obtain ⟨x, -, hx⟩ := List.mem_flatMap.1 hc
  rcases List.mem_append.1 hx with h | h
  · exact .inl (quoteV_sign x c h)
  · exact .inr (by simpa using h)
theorem body_no10 (l : List ByteArray) : ∀ c ∈ bodyL l, c ≠ 10 := by
  intro c hc
  rcases body_sign l c hc with h | h
  · exact (sign_ne h).2
  · rw [h]; decide
theorem body_cons (x : ByteArray) (r : List ByteArray) : bodyL (x :: r) = (quoteV x).data.toList ++ 32 :: bodyL r := by simp [bodyL]
theorem body_map (l : List ByteArray) : bodyL l = ((l.map quoteV).map (·.data.toList)).flatMap (· ++ [32]) := by
  induction l with
  | nil => rfl
  | cons x r ih => rw [body_cons, ih]; simp
theorem body_ne {l : List ByteArray} (h : l ≠ []) : bodyL l ≠ [] := by
  cases l with
  | nil => exact absurd rfl h
  | cons x r => rw [body_cons]; simp
theorem body_split : ∀ l : List ByteArray, l ≠ [] → splG 32 [] (bodyL l).dropLast = l.map (fun x => (quoteV x).data.toList) ∧ (bodyL l).dropLast ++ [32] = bodyL l := by
  intro l
  induction l with
  | nil => intro h; exact absurd rfl h
  | cons x r ih =>
    intro _
    have hq : splG 32 [] (quoteV x).data.toList = [(quoteV x).data.toList] := by
      rw [splG_none 32 _ [] (fun c hc => (sign_ne (quoteV_sign x c hc)).1)]
      rfl
    rw [body_cons]
    cases r with
    | nil =>
      have e : (quoteV x).data.toList ++ 32 :: bodyL [] = (quoteV x).data.toList ++ [32] := rfl
      rw [e, List.dropLast_concat]
      exact ⟨hq, rfl⟩
    | cons y r' =>
      obtain ⟨i1, i2⟩ := ih (by simp)
      have hne := body_ne (l := y :: r') (by simp)
      have e : ((quoteV x).data.toList ++ 32 :: bodyL (y :: r')).dropLast = (quoteV x).data.toList ++ 32 :: (bodyL (y :: r')).dropLast := by
        rw [List.dropLast_append_of_ne_nil (by simp), List.dropLast_cons_of_ne_nil hne]
      rw [e, splG_app, hq, i1]
      refine ⟨rfl, ?_⟩
      rw [List.append_assoc, List.cons_append, i2]
theorem hexd_hex : ∀ d : Fin 16, hexL.contains (SumW.hexd d.val) = true := by decide +kernel
theorem hexList_hex : ∀ n : Nat, ∀ c ∈ SumW.hexList n, hexL.contains c = true := by
  intro n
  induction n using Nat.strongRecOn with
  | ind n ih =>
    intro c hc
    by_cases h : n < 16
    · rw [SumW.hexList_lt h, List.mem_singleton] at hc
      rw [hc]
      exact hexd_hex ⟨n, h⟩
    · rw [SumW.hexList_ge (by omega)] at hc
      rcases List.mem_append.1 hc with hc | hc
      · exact ih (n / 16) (by omega) c hc
      · rw [List.mem_singleton] at hc
        rw [hc]
        exact hexd_hex ⟨n % 16, Nat.mod_lt _ (by decide)⟩
theorem hex8_hex (n : Nat) : ∀ c ∈ (SumW.hex8 n).data.toList, hexL.contains c = true := by
  intro c hc
  exact hexList_hex (n + 4294967296) c (List.mem_of_mem_drop hc)
theorem hex_no10 {c : UInt8} (h : hexL.contains c = true) : c ≠ 10 := by
  rintro rfl
  exact absurd h (by decide)
theorem hex8_len {n : Nat} (h : n < 4294967296) : (SumW.hex8 n).data.toList.length = 8 := by rw [len_data]; exact hex8_size n h
theorem line_len (l : List ByteArray) : (lineL l).length = (bodyL l).length + 9 := by
  unfold lineL
  rw [List.length_append, List.length_append, hex8_len (adlOf_lt _)]
  rfl
theorem index_app (c : UInt8) (r : List UInt8) : ∀ l : List UInt8, c ∉ l → Lib.index (l ++ c :: r) [c] = l.length := by
  intro l
  induction l with
  | nil => intro _; rw [List.nil_append, Lib.index]; simp [List.isPrefixOf]
  | cons b t ih =>
    intro h
    rw [List.mem_cons, not_or] at h
    have hp : ([c] : List UInt8).isPrefixOf (b :: (t ++ c :: r)) = false := by simp [List.isPrefixOf, h.1]
    rw [List.cons_append, Lib.index, hp, ih h.2]
    simp
theorem cut_app (c : UInt8) (l r : List UInt8) (h : c ∉ l) : Lib.cut (l ++ c :: r) [c] = (l, r, true) := by
  unfold Lib.cut
  rw [index_app c r l h, if_pos (by omega)]
  simp
theorem bytes_map (l : List ByteArray) : (l.map (·.data.toList)).map (fun x => (⟨x.toArray⟩ : ByteArray)) = l := by
  rw [List.map_map]
  have : ((fun x : List UInt8 => (⟨x.toArray⟩ : ByteArray)) ∘ fun x : ByteArray => x.data.toList) = id := by
    funext x
    rfl
  rw [this, List.map_id]
theorem put_ok {l : List ByteArray} (h : (putV l).2 = 0) : 1 ≤ l.length ∧ l.length ≤ 40 ∧ (lineL l).length ≤ 13000 ∧ putV l = (⟨(lineL l).toArray⟩, 0) := by
  unfold putV at h ⊢
  split at h
  · exact absurd h (by decide)
  · split at h
    · exact absurd h (by decide)
    · split at h
      · exact absurd h (by decide)
      · next h1 h2 h3 => exact ⟨by omega, by omega, by omega, by rw [if_neg h1, if_neg h2, if_neg h3]⟩
theorem put_of {l : List ByteArray} (h1 : 1 ≤ l.length) (h2 : l.length ≤ 40) (h3 : (lineL l).length ≤ 13000) : putV l = (⟨(lineL l).toArray⟩, 0) := by
  unfold putV
  rw [if_neg (by omega), if_neg (by omega), if_neg (by omega)]
/-- What was put is taken. -/
theorem take_line {l : List ByteArray} (h : (putV l).2 = 0) (r : ByteArray) : takeV ((putV l).1 ++ r) = (l, r, 0) := by
  obtain ⟨h1, h2, h3, h4⟩ := put_ok h
  have hne : l ≠ [] := by intro e; subst e; simp at h1
  obtain ⟨s1, s2⟩ := body_split l hne
  have hll := line_len l
  obtain ⟨D, hD⟩ : ∃ D, (bodyL l).dropLast = D := ⟨_, rfl⟩
  rw [hD] at s1 s2
  clear hD
  have hbl : D.length + 1 = (bodyL l).length := by
    have := congrArg List.length s2
    rw [List.length_append] at this
    exact this
  have h8 := hex8_len (adlOf_lt (bodyL l))
  have hno : (10 : UInt8) ∉ bodyL l ++ (SumW.hex8 (adlOf (bodyL l))).data.toList := by
    intro hm
    rcases List.mem_append.1 hm with hm | hm
    · exact body_no10 l _ hm rfl
    · exact hex_no10 (hex8_hex _ _ hm) rfl
  have hd : ((putV l).1 ++ r).data.toList = (bodyL l ++ (SumW.hex8 (adlOf (bodyL l))).data.toList) ++ 10 :: r.data.toList := by
    rw [h4, data_app2]
    show lineL l ++ r.data.toList = _
    unfold lineL
    simp
  unfold takeV
  rw [hd, cut_app 10 _ _ hno, if_neg (show ¬ (true = false) by decide)]
  show takeB ⟨(bodyL l ++ (SumW.hex8 (adlOf (bodyL l))).data.toList).toArray⟩ ⟨r.data.toList.toArray⟩ = _
  have hr : (⟨r.data.toList.toArray⟩ : ByteArray) = r := rfl
  rw [hr]
  obtain ⟨a, ha⟩ : ∃ a : ByteArray, a = ⟨(bodyL l ++ (SumW.hex8 (adlOf (bodyL l))).data.toList).toArray⟩ := ⟨_, rfl⟩
  rw [← ha]
  have had : a.data.toList = bodyL l ++ (SumW.hex8 (adlOf (bodyL l))).data.toList := by rw [ha]
  have has : a.size = (bodyL l).length + 8 := by rw [← len_data, had, List.length_append, h8]
  have hs9 : a.size - 9 = D.length := by omega
  have hs8 : a.size - 8 = (bodyL l).length := by omega
  have ht9 : a.data.toList.take (a.size - 9) = D := by
    rw [hs9, had]
    rw [← s2, List.append_assoc, List.take_left]
  have ht8 : a.data.toList.take (a.size - 8) = bodyL l := by rw [hs8, had, List.take_left]
  have hd8 : a.data.toList.drop (a.size - 8) = (SumW.hex8 (adlOf (bodyL l))).data.toList := by rw [hs8, had, List.drop_left]
  have h32 : a.data.toList[a.size - 9]? = some 32 := by
    rw [hs9, had]
    rw [← s2, List.append_assoc, List.getElem?_append_right (Nat.le_refl _), Nat.sub_self]
    rfl
  have hform : formB a = true := by
    unfold formB
    rw [h32, hd8]
    simp only [Bool.and_eq_true, decide_eq_true_eq, List.all_eq_true]
    exact ⟨⟨⟨by omega, by omega⟩, trivial⟩, hex8_hex _⟩
  have hw : wordsB a = l.map quoteV := by
    have hwd := words_data a
    rw [show (a.extract 0 (a.size - 9)).data.toList = a.data.toList.take (a.size - 9) by rw [← ext_take], ht9, s1] at hwd
    rw [← bytes_map (wordsB a), hwd, List.map_map]
    rfl
  have hsum : SumW.hex8 (adlOf (a.data.toList.take (a.size - 8))) = a.extract (a.size - 8) a.size := by
    rw [ht8, ← ext_drop, hd8]
  unfold takeB
  rw [hform, if_neg (by decide), hw, if_neg (by rw [List.length_map]; omega), if_neg, if_pos hsum]
  · rw [List.map_map]
    have : ((fun x => (unqV x).getD ⟨#[]⟩) ∘ quoteV) = id := by
      funext x
      rw [Function.comp_apply, unq_quote]
      rfl
    rw [this, List.map_id]
  · rw [List.all_map]
    have : ((fun x => (unqV x).isSome) ∘ quoteV) = fun _ => true := by
      funext x
      rw [Function.comp_apply, unq_quote]
      rfl
    rw [this]
    simp
theorem splG_join (c : UInt8) : ∀ l cur : List UInt8, (splG c cur l).flatMap (· ++ [c]) = cur.reverse ++ l ++ [c] := by
  intro l
  induction l with
  | nil => intro cur; simp [splG]
  | cons b t ih =>
    intro cur
    rw [splG]
    split
    next h =>
      subst h
      rw [List.flatMap_cons, ih]
      simp
    next h =>
      rw [ih]
      simp
/-- What is taken is a line that was put. -/
theorem take_inv {s : ByteArray} (h : (takeV s).2.2 = 0) : (putV (takeV s).1).2 = 0 ∧ (putV (takeV s).1).1 ++ (takeV s).2.1 = s := by
  have hspec := (cut_one 10 s.data.toList).2
  unfold takeV at h ⊢
  split at h
  · exact absurd h (by decide)
  · next hf =>
    rw [if_neg hf]
    have hs : s.data.toList = (Lib.cut s.data.toList [10]).1 ++ 10 :: (Lib.cut s.data.toList [10]).2.1 := by
      rcases hspec with ⟨-, h⟩ | ⟨h, -⟩
      · exact h
      · exact absurd h hf
    obtain ⟨a, ha⟩ : ∃ a : ByteArray, a = ⟨(Lib.cut s.data.toList [10]).1.toArray⟩ := ⟨_, rfl⟩
    obtain ⟨r, hr⟩ : ∃ r : ByteArray, r = ⟨(Lib.cut s.data.toList [10]).2.1.toArray⟩ := ⟨_, rfl⟩
    have had : (Lib.cut s.data.toList [10]).1 = a.data.toList := by rw [ha]
    have hrd : (Lib.cut s.data.toList [10]).2.1 = r.data.toList := by rw [hr]
    rw [← ha, ← hr] at h ⊢
    rw [had, hrd] at hs
    clear ha hr had hrd hspec hf
    unfold takeB at h ⊢
    split at h
    · exact absurd h (by decide)
    · split at h
      · exact absurd h (by decide)
      · split at h
        · exact absurd h (by decide)
        · split at h
          · next h1 h2 h3 h4 =>
            rw [if_neg h1, if_neg h2, if_neg h3, if_pos h4]
            show (putV ((wordsB a).map fun x => (unqV x).getD ⟨#[]⟩)).2 = 0 ∧ (putV ((wordsB a).map fun x => (unqV x).getD ⟨#[]⟩)).1 ++ r = s
            have hform : formB a = true := by simpa using h1
            simp only [formB, Bool.and_eq_true, decide_eq_true_eq] at hform
            obtain ⟨⟨⟨f1, f2⟩, f3⟩, f4⟩ := hform
            have hsome : ∀ x ∈ wordsB a, (unqV x).isSome = true := by
              have : (wordsB a).all (fun x => (unqV x).isSome) = true := by rw [Bool.not_eq_false] at h3; exact h3
              exact List.all_eq_true.1 this
            have hq : ((wordsB a).map fun x => (unqV x).getD ⟨#[]⟩).map quoteV = wordsB a := by
              rw [List.map_map]
              conv => rhs; rw [← List.map_id (wordsB a)]
              refine List.map_congr_left fun x hx => ?_
              obtain ⟨t, ht⟩ := Option.isSome_iff_exists.1 (hsome x hx)
              rw [Function.comp_apply, ht]
              exact unq_inv ht
            have hlen : a.data.toList.length = a.size := len_data a
            have hbody : bodyL ((wordsB a).map fun x => (unqV x).getD ⟨#[]⟩) = a.data.toList.take (a.size - 8) := by
              have e1 : bodyL ((wordsB a).map fun x => (unqV x).getD ⟨#[]⟩) = ((((wordsB a).map fun x => (unqV x).getD ⟨#[]⟩).map quoteV).map (·.data.toList)).flatMap (· ++ [32]) := body_map _
              rw [e1, hq, words_data, splG_join, show (a.extract 0 (a.size - 9)).data.toList = a.data.toList.take (a.size - 9) by rw [← ext_take]]
              have h9 : a.size - 9 < a.data.toList.length := by omega
              rw [List.getElem?_eq_getElem h9] at f3
              rw [show a.size - 8 = (a.size - 9) + 1 by omega, List.take_succ_eq_append_getElem h9, Option.some.inj f3]
              rfl
            have hline : lineL ((wordsB a).map fun x => (unqV x).getD ⟨#[]⟩) = a.data.toList ++ [10] := by
              unfold lineL
              rw [hbody, h4, ← ext_drop]
              show a.data.toList.take (a.size - 8) ++ a.data.toList.drop (a.size - 8) ++ [10] = _
              rw [List.take_append_drop]
            have hwl : 1 ≤ (wordsB a).length := by
              have := congrArg List.length (words_data a)
              rw [List.length_map, splG_len] at this
              omega
            have hput := put_of (l := (wordsB a).map fun x => (unqV x).getD ⟨#[]⟩) (by rw [List.length_map]; exact hwl) (by rw [List.length_map]; omega) (by rw [hline, List.length_append]; simp; omega)
            rw [hput]
            refine ⟨rfl, ba_ext ?_⟩
            rw [data_app2, hs]
            show lineL ((wordsB a).map fun x => (unqV x).getD ⟨#[]⟩) ++ r.data.toList = _
            rw [hline]
            simp
          · exact absurd h (by decide)
end Go.Proofs.YtghbaehbgefpaaaGreatDoor.PureL
/- Plain facts of lines one behind the other. -/
namespace Go.Proofs.YtghbaehbgefpaaaGreatDoor.PureL
open Go.RowKit Go.Proofs.YtghbaehbgefpaaaGreatDoor.PureR Go.Proofs.YtghbaehbgefpaaaGreatDoor.Spl
open Go.Proofs.YtghbaehbgefpaaaGreatDoor.Hand
open Go.Proofs.YtghbaehbgefpaaaGreatDoor.Fr (plainI)
set_option linter.unusedVariables false
set_option linter.unusedSimpArgs false
/-- Lines put one behind the other, and what is behind. -/
def cat : List (List ByteArray) → ByteArray → ByteArray
  | [], r => r
  | l :: t, r => (putV l).1 ++ cat t r
theorem ba_assoc (a b c : ByteArray) : (a ++ b) ++ c = a ++ (b ++ c) := by
  apply ba_ext
  simp [ByteArray.data_append, Array.toList_append]
theorem cat_app (xs ys : List (List ByteArray)) (r : ByteArray) : cat (xs ++ ys) r = cat xs (cat ys r) := by
  induction xs with
  | nil => rfl
  | cons l t ih => show (putV l).1 ++ cat (t ++ ys) r = _; rw [ih]; rfl
theorem cat_behind (xs : List (List ByteArray)) (r q : ByteArray) : cat xs r ++ q = cat xs (r ++ q) := by
  induction xs with
  | nil => rfl
  | cons l t ih => show ((putV l).1 ++ cat t r) ++ q = (putV l).1 ++ cat t (r ++ q); rw [ba_assoc, ih]
theorem scan_step {l : List ByteArray} (h : (putV l).2 = 0) (r : ByteArray) (tot f : Nat) : scanG tot (f + 1) ((putV l).1 ++ r) = (l, (tot : Int) - (r.size : Int)) :: scanG tot f r := by
  rw [scanG, take_line h r, if_pos rfl]
theorem scan_stop {u : ByteArray} (h : (takeV u).2.2 ≠ 0) (tot : Nat) : ∀ f, scanG tot f u = [] := by
  intro f
  cases f with
  | zero => rfl
  | succ f => rw [scanG, if_neg h]
theorem cat_size (xs : List (List ByteArray)) (r : ByteArray) : (cat xs r).size = (cat xs ⟨#[]⟩).size + r.size := by
  have := cat_behind xs ⟨#[]⟩ r
  have e : (⟨#[]⟩ : ByteArray) ++ r = r := ba_ext (by simp [ByteArray.data_append, Array.toList_append])
  rw [e] at this
  rw [← this, ByteArray.size_append]
theorem scan_cat (tot : Nat) (r : ByteArray) (hr : (takeV r).2.2 ≠ 0) : ∀ (xs : List (List ByteArray)) (f : Nat), (∀ l ∈ xs, (putV l).2 = 0) → xs.length ≤ f →
    (scanG tot f (cat xs r)).map (·.1) = xs ∧ (xs ≠ [] → lastE (scanG tot f (cat xs r)) = (tot : Int) - (r.size : Int)) := by
  intro xs
  induction xs with
  | nil =>
    intro f _ _
    rw [cat, scan_stop hr]
    exact ⟨rfl, fun h => absurd rfl h⟩
  | cons l t ih =>
    intro f hx hf
    obtain ⟨f, rfl⟩ : ∃ g, f = g + 1 := ⟨f - 1, by simp at hf; omega⟩
    have hl := hx l (by simp)
    obtain ⟨i1, i2⟩ := ih f (fun y hy => hx y (by simp [hy])) (by simpa using hf)
    rw [cat, scan_step hl]
    refine ⟨by rw [List.map_cons, i1], fun _ => ?_⟩
    cases t with
    | nil =>
      rw [cat, scan_stop hr]
      rfl
    | cons m t' =>
      have i3 := i2 (by simp)
      rw [← i3]
      unfold lastE
      cases hs : scanG tot f (cat (m :: t') r) with
      | nil => rw [hs] at i1; simp at i1
      | cons a b => rw [List.getLast?_cons_cons]
theorem scanV_cat (xs : List (List ByteArray)) (r : ByteArray) (hx : ∀ l ∈ xs, (putV l).2 = 0) (hr : (takeV r).2.2 ≠ 0) : scanV (cat xs r) = (xs, ((cat xs ⟨#[]⟩).size : Int)) := by
  have hsz := cat_size xs r
  have hlen : xs.length ≤ (cat xs r).size + 1 := by
    have : ∀ ys : List (List ByteArray), (∀ l ∈ ys, (putV l).2 = 0) → ys.length ≤ (cat ys ⟨#[]⟩).size := by
      intro ys
      induction ys with
      | nil => intro _; exact Nat.zero_le _
      | cons l t ih =>
        intro h
        have h1 := ih fun y hy => h y (by simp [hy])
        obtain ⟨-, -, -, h4⟩ := put_ok (h l (by simp))
        have h5 : 1 ≤ (putV l).1.size := by
          rw [h4]
          show 1 ≤ (lineL l).toArray.size
          rw [List.size_toArray, line_len]
          omega
        show t.length + 1 ≤ ((putV l).1 ++ cat t ⟨#[]⟩).size
        rw [ByteArray.size_append]
        omega
    have := this xs hx
    omega
  obtain ⟨h1, h2⟩ := scan_cat (cat xs r).size r hr xs ((cat xs r).size + 1) hx hlen
  unfold scanV scanP
  rw [h1]
  congr 1
  cases xs with
  | nil =>
    rw [cat, scan_stop hr]
    rfl
  | cons l t =>
    rw [h2 (by simp), hsz]
    omega
theorem take_no10 {u : ByteArray} (h : ∀ c ∈ u.data.toList, c ≠ 10) : (takeV u).2.2 ≠ 0 := by
  rcases cut_one 10 u.data.toList with ⟨h1, ⟨h2, h3⟩ | ⟨h2, h3⟩⟩
  · exfalso
    rw [h3] at h
    exact h 10 (by simp) rfl
  · unfold takeV
    rw [h2, if_pos rfl]
    decide
theorem putV_size {l : List ByteArray} (h : (putV l).2 = 0) : (putV l).1.size = (lineL l).length := by
  rw [(put_ok h).2.2.2]
  exact List.size_toArray
theorem putV_data {l : List ByteArray} (h : (putV l).2 = 0) : (putV l).1.data.toList = lineL l := by
  rw [(put_ok h).2.2.2]
/-- A part of a line that is put has no line feed, but at its end. -/
theorem line_no10 (l : List ByteArray) : lineL l = (bodyL l ++ (SumW.hex8 (adlOf (bodyL l))).data.toList) ++ [10] ∧ ∀ c ∈ bodyL l ++ (SumW.hex8 (adlOf (bodyL l))).data.toList, c ≠ 10 := by
  refine ⟨rfl, fun c hc => ?_⟩
  rcases List.mem_append.1 hc with h | h
  · exact body_no10 l c h
  · exact hex_no10 (hex8_hex _ c h)
end Go.Proofs.YtghbaehbgefpaaaGreatDoor.PureL
/- What is read of a text, plain. -/
namespace Go.Proofs.YtghbaehbgefpaaaGreatDoor.Fr
open Go.RowKit Go.Proofs.YtghbaehbgefpaaaGreatDoor.F Go.Proofs.YtghbaehbgefpaaaGreatDoorW.PrintWords
open Go.Proofs.YtghbaehbgefpaaaGreatDoor.Hand (putV takeV scanV scanG scanP lastE lineL)
open Go.Proofs.YtghbaehbgefpaaaGreatDoor.PureL (cat cat_app cat_behind cat_size scanV_cat take_inv take_no10 putV_data line_no10 ba_assoc)
set_option linter.unusedVariables false
set_option linter.unusedSimpArgs false
def e0 : ByteArray := ⟨#[]⟩
theorem app_e0 (s : ByteArray) : s ++ e0 = s := ba_eq (by simp [e0, ByteArray.data_append, Array.toList_append])
theorem e0_app (s : ByteArray) : e0 ++ s = s := ba_eq (by simp [e0, ByteArray.data_append, Array.toList_append])
theorem size_e0 {s : ByteArray} (h : s.size = 0) : s = e0 := ba_eq (by
  have : s.data.toList.length = 0 := by rw [Array.length_toList]; exact h
  rw [List.length_eq_zero_iff.1 this]
  rfl)
def Lines (xs : List (List ByteArray)) : Prop := ∀ l ∈ xs, (putV l).2 = 0
/-- A text is the lines of xs, and what is behind: it begins with none. -/
structure Dec (s : ByteArray) (xs : List (List ByteArray)) (r : ByteArray) : Prop where
  ok : Lines xs
  tl : (takeV r).2.2 ≠ 0
  eq : s = cat xs r
theorem take_e0 : (takeV e0).2.2 ≠ 0 := take_no10 (by intro c hc; cases hc)
theorem Dec.scan {s : ByteArray} {xs : List (List ByteArray)} {r : ByteArray} (h : Dec s xs r) : scanV s = (xs, ((cat xs e0).size : Int)) := by
  rw [h.eq]
  exact scanV_cat xs r h.ok h.tl
theorem scanG_inv (tot : Nat) : ∀ (f : Nat) (u : ByteArray), u.size < f → ∃ r, Dec u ((scanG tot f u).map (·.1)) r := by
  intro f
  induction f with
  | zero => intro u h; omega
  | succ f ih =>
    intro u h
    rw [scanG]
    split
    next ht =>
      obtain ⟨h1, h2⟩ := take_inv ht
      have h3 := Hand.take_rest ht
      obtain ⟨r, hr⟩ := ih (takeV u).2.1 (by omega)
      refine ⟨r, ?_, hr.tl, ?_⟩
      · intro l hl
        rw [List.map_cons] at hl
        rcases List.mem_cons.1 hl with rfl | hl
        · exact h1
        · exact hr.ok l hl
      · rw [List.map_cons]
        show u = (putV (takeV u).1).1 ++ cat _ r
        rw [← hr.eq]
        exact h2.symm
    next ht => exact ⟨u, fun l hl => (by cases hl), ht, rfl⟩
theorem scan_dec (s : ByteArray) : ∃ r, Dec s (scanV s).1 r := scanG_inv s.size (s.size + 1) s (Nat.lt_succ_self _)
theorem Dec.size {s : ByteArray} {xs : List (List ByteArray)} {r : ByteArray} (h : Dec s xs r) : s.size = (cat xs e0).size + r.size := by
  rw [h.eq]
  exact cat_size xs r
theorem Dec.whole {s : ByteArray} {xs : List (List ByteArray)} {r : ByteArray} (h : Dec s xs r) : ((scanV s).2 == ((s.size : Nat) : Int)) = decide (r.size = 0) := by
  rw [h.scan]
  have := h.size
  rw [Bool.eq_iff_iff]
  simp only [beq_iff_eq, decide_eq_true_eq]
  omega
theorem dec_cat {xs : List (List ByteArray)} (h : Lines xs) : Dec (cat xs e0) xs e0 := ⟨h, take_e0, rfl⟩
theorem dec_part {xs : List (List ByteArray)} (h : Lines xs) {r : ByteArray} (hr : ∀ c ∈ r.data.toList, c ≠ 10) : Dec (cat xs r) xs r := ⟨h, take_no10 hr, rfl⟩
theorem cat_snoc (xs : List (List ByteArray)) (l : List ByteArray) : cat (xs ++ [l]) e0 = cat xs e0 ++ (putV l).1 := by
  rw [cat_app, cat_behind]
  show cat xs ((putV l).1 ++ e0) = cat xs (e0 ++ (putV l).1)
  rw [app_e0, e0_app]
theorem putAllA_ok : ∀ (xs : List (List ByteArray)) (acc : ByteArray), Lines xs → putAllA acc xs = (acc ++ cat xs e0, 0) := by
  intro xs
  induction xs with
  | nil => intro acc _; rw [putAllA]; show _ = (acc ++ e0, 0); rw [app_e0]
  | cons x t ih =>
    intro acc h
    rw [putAllA, if_pos (h x (List.mem_cons_self ..)), ih _ (fun l hl => h l (List.mem_cons_of_mem _ hl)), ba_assoc]
    rfl
theorem putAll_ok {xs : List (List ByteArray)} (h : Lines xs) : putAll xs = (cat xs e0, 0) := by
  unfold putAll
  have := putAllA_ok xs ⟨#[]⟩ h
  rw [this]
  show (e0 ++ _, _) = _
  rw [e0_app]
theorem scan_lines (s : ByteArray) : Lines (scanV s).1 := by
  obtain ⟨r, h⟩ := scan_dec s
  exact h.ok
/-- A line of which a part is there: nothing, or it has no line feed, or it is whole. -/
theorem line_cut {l : List ByteArray} (h : (putV l).2 = 0) (m : Nat) : (putV l).1.extract 0 m = (putV l).1 ∨ ∀ c ∈ ((putV l).1.extract 0 m).data.toList, c ≠ 10 := by
  by_cases hm : (putV l).1.size ≤ m
  · left
    apply ba_eq
    have e1 : ((putV l).1.extract 0 m).data.toList = ((putV l).1.data.toList).take m := by
      rw [← Hand.ext_take]
    rw [e1]
    exact List.take_of_length_le (by rw [Array.length_toList]; exact hm)
  · right
    obtain ⟨e1, e2⟩ := line_no10 l
    have e3 := putV_data h
    rw [e1] at e3
    intro c hc
    have e4 : ((putV l).1.extract 0 m).data.toList = ((putV l).1.data.toList).take m := by
      rw [← Hand.ext_take]
    rw [e4, e3] at hc
    have hs : (putV l).1.size = (putV l).1.data.toList.length := by rw [Array.length_toList]; rfl
    rw [e3, List.length_append, List.length_singleton] at hs
    rw [List.take_append_of_le_length (by omega)] at hc
    exact e2 c (List.mem_of_mem_take hc)
end Go.Proofs.YtghbaehbgefpaaaGreatDoor.Fr
/- journal's calls: Beside, put, Read. -/
namespace Go.Proofs.YtghbaehbgefpaaaGreatDoor.Fr
open Go.RowKit Go.Proofs.YtghbaehbgefpaaaGreatDoor.F Go.Proofs.YtghbaehbgefpaaaGreatDoorW.PrintWords
open Go.Proofs.YtghbaehbgefpaaaGreatDoor.Hand (putV takeV scanV)
open Go.Proofs.YtghbaehbgefpaaaGreatDoor.PureL (cat cat_app cat_behind cat_size)
set_option linter.unusedVariables false
set_option linter.unusedSimpArgs false
abbrev kLL : Kd (List ByteArray) := Kd.slice 9 Kd.string
theorem at_LL {w : World} {A : Option Addr} {xs : List (List ByteArray)} (h : Kd.C kLL w A xs.length xs) {i : Nat} (hi : i < xs.length) :
    ∃ ad A' c', A = some ad ∧ w.cell? (ad.add i) = some (.slice A' (xs[i]).length c') ∧ (xs[i]).length ≤ c' ∧ Kd.C Kd.string w A' (xs[i]).length xs[i] := by
  obtain ⟨ad, c, e, _, ⟨A', c', hcs, hl, hr⟩, hc⟩ := Kd.C_get h [] (i : Int) (by omega) (by omega)
  have e1 : xs.getD (i : Int).toNat [] = xs[i] := by
    rw [Int.toNat_natCast, List.getD_eq_getElem?_getD, List.getElem?_eq_getElem hi, Option.getD_some]
  rw [e1] at hcs hl hr
  subst hcs
  have := hc 0 _ rfl
  have h0 : (i : Int).toNat * kLL.sz + 0 = i := by rw [Int.toNat_natCast]; exact Nat.mul_one i
  rw [h0] at this
  exact ⟨ad, A', c', e, this, hl, hr⟩
theorem put_code (l : List ByteArray) : (putV l).2 = 0 ∨ (putV l).2 = 1 ∨ (putV l).2 = 3 := by
  unfold putV
  split
  · exact .inr (.inl rfl)
  · split
    · exact .inr (.inr rfl)
    · split
      · exact .inr (.inr rfl)
      · exact .inl rfl
theorem beside_call (q : ByteArray) (hq : q.size ≤ 100000) (W : World) : Calls Tryz.prog 43 #[.string q] W fun e w' => e = .returned (.string (besN q)) ∧ W = w' := by
  go_enter Tryz.func43, Tryz.ntmps43
  go_wp2
  go_ret
  exact ⟨rfl, rfl⟩
theorem putAll_stop : ∀ (all : List (List ByteArray)) (k : Nat) (hk : k < all.length) (acc : ByteArray), Lines (all.take k) → (putV all[k]).2 ≠ 0 → putAllA acc all = (e0, (putV all[k]).2) := by
  intro all
  induction all with
  | nil => intro k hk; exact absurd hk (Nat.not_lt_zero _)
  | cons x r ih =>
    intro k hk acc hl hx
    cases k with
    | zero => rw [putAllA, if_neg (show ¬ (putV x).2 = 0 from hx)]; rfl
    | succ k =>
      rw [putAllA, if_pos (hl x (by simp))]
      exact ih k (by simpa using hk) _ (fun y hy => hl y (by simp [hy])) hx
theorem putAllA_code : ∀ (all : List (List ByteArray)) (acc : ByteArray), (putAllA acc all).2 = 0 ∨ (putAllA acc all).2 = 1 ∨ (putAllA acc all).2 = 3 := by
  intro all
  induction all with
  | nil => intro acc; exact .inl rfl
  | cons x r ih =>
    intro acc
    rw [putAllA]
    split
    · exact ih _
    · exact put_code x
theorem lines_take_succ {all : List (List ByteArray)} {k : Nat} (hk : k < all.length) (h : Lines (all.take k)) (hx : (putV all[k]).2 = 0) : Lines (all.take (k + 1)) := by
  rw [List.take_succ_eq_append_getElem hk]
  intro l hl
  rcases List.mem_append.1 hl with hl | hl
  · exact h l hl
  · rw [List.mem_singleton.1 hl]; exact hx
set_option maxHeartbeats 8000000 in
set_option maxRecDepth 100000 in
theorem putAll_walk (A : Option Addr) (c : Nat) (all : List (List ByteArray)) (w : World) (hG : Hand2.Glob w) (hC : Kd.C kLL w A all.length all) (hx : ∀ l ∈ all, ∀ x ∈ l, x.size ≤ 100000)
    (hB : ∀ k, k ≤ all.length → (putAll (all.take k)).1.size ≤ 90000000) (hn : all.length ≤ 10000000) :
    Calls Tryz.prog 51 #[.slice A all.length c, .func (.func 44) #[] #[]] w fun e w' => e = .returned (.tuple #[.string (putAll all).1, .int .i64 (putAll all).2]) ∧ Below w.heap.size w w' := by
  have HG := Lib.hid hG
  have HC := Lib.hid hC
  have HX := Lib.hid hx
  have HB := Lib.hid hB
  clear hG hC hx hB
  go_enter Tryz.func51, Tryz.ntmps51
  go_wp2
  obtain ⟨w0, hw0⟩ : ∃ w0, w.alloc (Obj.cells #[Value.pointer none, Value.slice none 0 0] 125) = w0 := ⟨_, rfl⟩
  have hs0 : w0.heap.size = w.heap.size + 1 := by rw [← hw0]; simp
  have hB0 : Hid (Below w.heap.size w w0) := by
    rw [Hid, ← hw0]
    exact (Below.refl _ _).alloc (Nat.le_refl _) _
  have hbl0 : Hid (Hand.Bld w.heap.size (w.heap.size + 1) [] w0) := by
    refine ⟨by omega, by rw [hs0]; omega, _, _, .inl rfl, ?_, World.ownsRowF_nil _ _ _ _⟩
    rw [← hw0]
    exact World.alloc_heap_new w _
  rw [hw0]
  clear hw0
  go_loopw [13] (fun i wr => ∃ k : Nat, k ≤ all.length ∧ i = .int .i64 k ∧ Hid (Hand.Bld w.heap.size (w.heap.size + 1) (Lib.byteCells (cat (all.take k) e0).data.toList) wr) ∧ Hid (Hand.Apart w.heap.size (w.heap.size + 1) w0 wr) ∧ Hid (Lines (all.take k)))
    (fun i _ => all.length - (intOf i).toNat)
  case atStart => exact ⟨0, Nat.zero_le _, rfl, hbl0, Hand.Apart.refl _ _ _, fun l hl => (by cases hl)⟩
  case round =>
    obtain ⟨k, hk, rfl, hbl, hA, HL⟩ := hrel
    have hlen : Hid ((cat (all.take k) e0).data.toList.length ≤ 90000000) := by
      have := HB.out k hk
      rw [putAll_ok HL.out] at this
      rw [Hid, Array.length_toList]
      exact this
    have HT := Lib.hid (hB0.out.trans (hA.out.below (by omega)))
    by_cases hlt : k < all.length
    · obtain ⟨ad, A', c', rfl, hc1, hc2, hC'⟩ := at_LL (Kd.C_below HC.out HT.out) hlt
      have HC' := Lib.hid hC'
      have HX' := Lib.hid (HX.out _ (List.getElem_mem hlt))
      have HST := Lib.hid (putAll_stop all k hlt ⟨#[]⟩ HL.out)
      have HNX := Lib.hid (lines_take_succ hlt HL.out)
      have HTK : Hid (all.take (k + 1) = all.take k ++ [all[k]]) := List.take_succ_eq_append_getElem hlt
      have hcode := put_code all[k]
      have hln := lineL_le (l := all[k])
      clear hC'
      generalize all[k] = x at hc1 hc2 HC' HX' HST HNX HTK hcode hln
      have HP := Lib.hid (Hand.put_walk A' c' x wr (HG.out.below HT.out) HC'.out hc2 HX'.out)
      obtain ⟨s, er, hp⟩ : ∃ s er, Hid (putV x = (s, er)) := ⟨_, _, Lib.hid rfl⟩
      rw [hp.out] at hcode HP HST HNX hln
      simp only [Hand.pOut] at HP
      simp only at hcode hln
      have hsx := World.block_lt_of_cell? _ _ hc1
      rcases hcode with rfl | rfl | rfl
      · have hs : s.size ≤ 13000 := hln rfl
        have hwl : Hid ((Lib.byteCells (cat (all.take k) e0).data.toList).length + s.size ≤ 100000000) := by
          have := hlen.out
          rw [Hid, Lib.byteCells_length]
          omega
        go_wp2_with (first | (go_at_call 44; refine HP.out.mono ?_; rintro e W1 ⟨rfl, hb1⟩; have HL1 := Lib.hid (Hand.bld_below hbl.out hb1); have HA1 := Lib.hid (hA.out.trans (Hand.apart_of_below hb1 hbl.out.2.1)); clear hb1) | (go_at_call 68; refine (Hand.writeString w.heap.size (w.heap.size + 1) _ _ _ HL1.out hwl.out).mono ?_; rintro e W2 ⟨rfl, hb2, hA2⟩; have HL2 := Lib.hid hb2; have HA2 := Lib.hid (HA1.out.trans hA2); clear hb2 hA2))
        go_roundw
        case rel =>
          refine ⟨k + 1, by omega, by go_num, ?_, HA2, HNX.out (by first | rfl | exact trivial)⟩
          have := HL2.out
          rw [Lib.strCells_eq, ← Lib.byteCells_append] at this
          rw [Hid, HTK.out, cat_snoc, hp.out]
          have e : (cat (all.take k) e0 ++ s).data.toList = (cat (all.take k) e0).data.toList ++ s.data.toList := by simp [ByteArray.data_append, Array.toList_append]
          rw [e]
          exact this
        case measure => simp [intOf]; omega
      all_goals
        have HE : Hid (putAll all = (e0, _)) := HST.out (by simp)
        go_wp2_with (first | (go_at_call 44; refine HP.out.mono ?_; rintro e W1 ⟨rfl, hb1⟩; have HA1 := Lib.hid (HT.out.trans (hb1.mono HT.out.size)); clear hb1))
        go_ret2
        exact ⟨by rw [HE.out]; rfl, HA1.out⟩
    · have hkn : k = all.length := by omega
      subst hkn
      have htk : all.take all.length = all := List.take_length
      rw [htk] at hbl hlen HL
      clear htk
      have HS := Lib.hid (Hand.bstring2 w.heap.size (cat all e0).data.toList wr hbl.out)
      have HE : Hid (putAll all = (cat all e0, 0)) := putAll_ok HL.out
      have e1 : (⟨(cat all e0).data.toList.toArray⟩ : ByteArray) = cat all e0 := ba_eq rfl
      rw [e1] at HS
      clear e1
      go_wp2_with (first | (go_at_call 72; refine HS.out.mono ?_; rintro e W1 ⟨rfl, hb1, hA1⟩; have HA1 := Lib.hid (hB0.out.trans ((hA.out.trans hA1).below (Nat.lt_succ_self _))); clear hb1 hA1))
      go_ret2
      exact ⟨by rw [HE.out]; rfl, HA1.out⟩
/-- Read. -/
def RdEnd (w : World) (l : List (List ByteArray)) (b : Bool) (e : Ending) (w' : World) : Prop := ∃ v, e = .returned (.tuple #[v, .bool b]) ∧ Kd.S kLL 22 w' w.heap.size (fun _ => True) v l ∧ Below w.heap.size w w'
set_option maxHeartbeats 4000000 in
set_option maxRecDepth 100000 in
theorem Sts.jRead {K : Nat → Prop} {L : List (Nat × TS)} {m p i n : Nat} {T Tm : TS} {W : World} (h : Sts K L m Tm W) (hi : L[i]? = some (p, T)) (hG : Hand2.Glob W) (hI : Inv n T) (hr : T.room ≤ 2000000) (q : ByteArray) (hq : q.size ≤ 100000) :
    Calls Tryz.prog 50 #[.pointer (some ⟨p, 0, none⟩), .string q] W (RdEnd W (readL T q) (readW T q)) := by
  have HS := Lib.hid h
  have HG := Lib.hid hG
  have hsz : (readT T q).1.size ≤ 2000000 := by
    have h1 := read_used T q
    have h2 := hI.good.used
    omega
  have HR := Lib.hid (h.Read hi q hq)
  have hw : (((scanV (readT T q).1).2 == (((readT T q).1.size : Nat) : Int)) : Bool) = readW T q := rfl
  have hl : (scanV (readT T q).1).1 = readL T q := rfl
  have HSC := Lib.hid (Hand.scan_walk (readT T q).1 hsz W hG)
  rw [hl] at HSC
  generalize readT T q = r at HR hw hl hsz HSC
  obtain ⟨s, er⟩ := r
  simp only at HR hw hl hsz HSC
  generalize (scanV s).2 = z at hw HSC
  generalize readL T q = ls at HSC
  have HW := Lib.hid hw
  clear h hG hw hl
  go_enter Tryz.func50, Tryz.ntmps50
  go_wp2_with (first
    | (go_at_call 81; refine HR.out.mono ?_; rintro e w1 ⟨rfl, rfl⟩)
    | (go_at_call 82; refine HSC.out.mono ?_; rintro e w2 ⟨v, rfl, hv, hb⟩; have HV := Lib.hid hv; have HB := Lib.hid hb; clear hv hb))
  go_ret2
  exact ⟨v, by rw [HW.out]; rfl, HV.out, HB.out⟩
end Go.Proofs.YtghbaehbgefpaaaGreatDoor.Fr
/- journal's calls over the trees that a law holds: Add, Anew, Open. -/
namespace Go.Proofs.YtghbaehbgefpaaaGreatDoor.Fr
open Go.RowKit Go.Proofs.YtghbaehbgefpaaaGreatDoor.F Go.Proofs.YtghbaehbgefpaaaGreatDoorW.PrintWords
open Go.Proofs.YtghbaehbgefpaaaGreatDoor.Hand (putV takeV scanV)
open Go.Proofs.YtghbaehbgefpaaaGreatDoor.PureL (cat cat_app cat_behind cat_size)
set_option linter.unusedVariables false
set_option linter.unusedSimpArgs false
section
variable {K : Nat → Prop} {L : List (Nat × TS)} {m p i n : Nat} {T Tm T' : TS} {W W' : World}
theorem set_same {x : Nat × TS} (hi : L[i]? = some x) : L.set i x = L := by
  obtain ⟨h1, h2⟩ := List.getElem?_eq_some_iff.1 hi
  subst h2
  exact List.set_getElem_self h1
theorem set_set' (x y : Nat × TS) : (L.set i x).set i y = L.set i y := List.set_set ..
theorem set_at (hi : L[i]? = some (p, T)) (T' : TS) : (L.set i (p, T'))[i]? = some (p, T') := List.getElem?_set_self (List.getElem?_eq_some_iff.1 hi).1
theorem StEnd.same {v : Value} (h : Sts K L m Tm W) (hi : L[i]? = some (p, T)) (hb : Below W.heap.size W W') : StEnd K (L.set i (p, T)) m Tm W v (.returned v) W' := ⟨rfl, by rw [set_same hi]; exact h.below hb, Kp.of hb⟩
/-- What the library's variables hold stays as long as K is kept. -/
def GK (K : Nat → Prop) (W : World) : Prop := ∀ W', Kp K W W' → Hand2.Glob W'
theorem GK.now (h : GK K W) : Hand2.Glob W := h _ (Kp.of (Below.refl _ _))
theorem GK.step (h : GK K W) (hk : Kp K W W') : GK K W' := fun W2 h2 => h W2 (hk.trans h2)
theorem GK.more {K' : Nat → Prop} (h : GK K W) (hK : ∀ k, K k → K' k) : GK K' W := fun W2 h2 => h W2 (h2.mono hK)
theorem Kp.glob {w : World} (hG : Hand2.Glob w) (hK : ∀ k, k < w.heap.size → K k) (hk : Kp K w W') : Hand2.Glob W' := hG.below (hk.below (Nat.le_refl _) hK)
set_option maxHeartbeats 4000000 in
set_option maxRecDepth 100000 in
theorem Sts.jAdd (h : Sts K L m Tm W) (hi : L[i]? = some (p, T)) (hG : Hand2.Glob W) (hI : Inv n T) (hn : n ≤ 1000000) (q : ByteArray) (hq : q.size ≤ 99000) (A : Option Addr) (c : Nat) (l : List ByteArray)
    (hC : Kd.C Kd.string W A l.length l) (hc : l.length ≤ c) (hx : ∀ x ∈ l, x.size ≤ 100000) :
    Calls Tryz.prog 23 #[.pointer (some ⟨p, 0, none⟩), .string q, .slice A l.length c] W (StEnd K (L.set i (p, addT T q l)) m Tm W (.int .i64 (addE T q l))) := by
  have HS := Lib.hid h
  have HC := Lib.hid hC
  have HG := Lib.hid hG
  have HX := Lib.hid hx
  have HI := Lib.hid hI
  have hbs := besN_size q
  have HBs := Lib.hid (beside_call q (by omega))
  obtain ⟨m0, hm0⟩ := hG.g.cell
  have HP := Lib.hid (path_walk (besN q) (by omega) m0 W hG.g.lt hm0)
  clear hm0
  cases hb : pathV (besN q) with
  | false =>
    have HE : Hid (addE T q l = 1 ∧ addT T q l = T) := by unfold Hid addE addT; rw [hb]; exact ⟨rfl, rfl⟩
    rw [hb] at HP
    rw [HE.out.1, HE.out.2]
    clear h hC hG hx hI hb hbs HE
    go_enter Tryz.func23, Tryz.ntmps23
    go_wp2_with (first
      | (go_at_call 43; refine (HBs.out _).mono ?_; rintro e w1 ⟨rfl, rfl⟩)
      | (go_at_call 42; refine HP.out.mono ?_; rintro e w2 ⟨rfl, hb⟩; have HB := Lib.hid hb; clear hb))
    go_ret
    exact StEnd.same HS.out hi HB.out
  | true =>
    rw [hb] at HP
    have HQ : Hid (∀ W1, Below W.heap.size W W1 → Calls Tryz.prog 44 #[.slice A l.length c] W1 fun e w' => e = .returned (.tuple #[.string (putV l).1, .int .i64 (putV l).2]) ∧ Below W1.heap.size W1 w') :=
      fun W1 hb => Hand.put_walk A c l W1 (hG.below hb) (Kd.C_below hC hb) hc hx
    have hcode := put_code l
    have hln := lineL_le (l := l)
    obtain ⟨s, er, hp⟩ : ∃ s er, putV l = (s, er) := ⟨_, _, rfl⟩
    have HA : Hid (addE T q l = if er = 0 then writeE T true q s else er) := by unfold Hid addE; rw [hb, if_neg (by decide), hp]
    have HT : Hid (addT T q l = if er = 0 then writeT T true q s else T) := by unfold Hid addT; rw [hb, if_neg (by decide), hp]
    rw [hp] at HQ hcode hln
    simp only at HQ hcode hln
    rw [HA.out, HT.out]
    clear h hC hG hx hI hb hbs hp HA HT
    rcases hcode with rfl | rfl | rfl
    · have hs : s.size ≤ 13000 := hln rfl
      rw [if_pos rfl, if_pos rfl]
      clear hln
      go_enter Tryz.func23, Tryz.ntmps23
      go_wp2_with (first
        | (go_at_call 43; refine (HBs.out _).mono ?_; rintro e w1 ⟨rfl, rfl⟩)
        | (go_at_call 42; refine HP.out.mono ?_; rintro e w2 ⟨rfl, hb⟩; have HB := Lib.hid hb; clear hb)
        | (go_at_call 44; refine (HQ.out _ HB.out).mono ?_; rintro e w3 ⟨rfl, hb⟩; have HB3 := Lib.hid (HB.out.trans (hb.mono HB.out.size)); clear hb)
        | (go_at_call 45; refine ((HS.out.below HB3.out).Append hi (HG.out.below HB3.out).g HI.out hn q s (by omega) (by omega)).mono ?_; rintro e w4 ⟨rfl, hs4, hk4⟩; have HE := Lib.hid hs4; have HK := Lib.hid ((Kp.of (K := K) HB3.out).trans hk4); clear hs4 hk4))
      go_ret
      exact ⟨rfl, HE.out, HK.out⟩
    all_goals
      rw [if_neg (by decide), if_neg (by decide)]
      clear hln
      go_enter Tryz.func23, Tryz.ntmps23
      go_wp2_with (first
        | (go_at_call 43; refine (HBs.out _).mono ?_; rintro e w1 ⟨rfl, rfl⟩)
        | (go_at_call 42; refine HP.out.mono ?_; rintro e w2 ⟨rfl, hb⟩; have HB := Lib.hid hb; clear hb)
        | (go_at_call 44; refine (HQ.out _ HB.out).mono ?_; rintro e w3 ⟨rfl, hb⟩; have HB3 := Lib.hid (HB.out.trans (hb.mono HB.out.size)); clear hb))
      go_ret
      exact StEnd.same HS.out hi HB3.out
theorem write_code (T : TS) (st : Bool) (q s : ByteArray) : writeE T st q s = 0 ∨ writeE T st q s = 1 ∨ writeE T st q s = 3 ∨ writeE T st q s = 5 ∨ writeE T st q s = 6 := by
  unfold writeE
  split
  · simp
  · split
    · simp
    · split
      · simp
      · split <;> simp
theorem rename_code (T : TS) (a b : ByteArray) : renameE T a b = 0 ∨ renameE T a b = 1 ∨ renameE T a b = 4 ∨ renameE T a b = 5 := by
  unfold renameE
  split
  · simp
  · split
    · simp
    · split
      · simp
      · split <;> simp
theorem anew1_code (T : TS) (q s : ByteArray) : anew1E T q s = 0 ∨ anew1E T q s = 1 ∨ anew1E T q s = 3 ∨ anew1E T q s = 4 ∨ anew1E T q s = 5 ∨ anew1E T q s = 6 := by
  have h1 := write_code T false (besN q) s
  have h2 := rename_code (writeT T false (besN q) s) (besN q) q
  unfold anew1E
  split <;> omega
theorem anew_code (T : TS) (q : ByteArray) (l : List (List ByteArray)) : anewE T q l = 0 ∨ anewE T q l = 1 ∨ anewE T q l = 3 ∨ anewE T q l = 4 ∨ anewE T q l = 5 ∨ anewE T q l = 6 := by
  have h1 := anew1_code T q (putAll l).1
  have h2 : (putAll l).2 = 0 ∨ (putAll l).2 = 1 ∨ (putAll l).2 = 3 := putAllA_code l _
  unfold anewE
  split
  · omega
  · split <;> omega
theorem flat_ge : ∀ l : List UInt8, l.length ≤ (l.flatMap Hand.quoteB).length := by
  intro l
  induction l with
  | nil => exact Nat.le_refl _
  | cons c r ih =>
    rw [List.flatMap_cons, List.length_append, List.length_cons]
    have := PureR.quoteB_pos c
    omega
theorem quote_ge (s : ByteArray) : s.size ≤ (Hand.quoteV s).size := by
  unfold Hand.quoteV
  split
  next h => rw [h]; exact Nat.zero_le _
  next h =>
    have := flat_ge s.data.toList
    rw [Array.length_toList] at this
    show s.size ≤ (s.data.toList.flatMap Hand.quoteB).toArray.size
    rw [List.size_toArray]
    exact this
theorem body_mem {x : ByteArray} : ∀ l : List ByteArray, x ∈ l → (Hand.quoteV x).size ≤ (Hand.bodyL l).length := by
  intro l
  induction l with
  | nil => intro h; cases h
  | cons y r ih =>
    intro h
    have e : Hand.bodyL (y :: r) = ((Hand.quoteV y).data.toList ++ [32]) ++ Hand.bodyL r := by simp [Hand.bodyL]
    have e2 : (Hand.quoteV y).data.size = (Hand.quoteV y).size := rfl
    rw [e, List.length_append, List.length_append, Array.length_toList]
    rcases List.mem_cons.1 h with rfl | h
    · omega
    · have := ih h
      omega
theorem word_le {l : List ByteArray} (h : (putV l).2 = 0) : ∀ x ∈ l, x.size ≤ 13000 := fun x hx => by
  have h1 := lineL_le h
  rw [PureL.putV_size h] at h1
  have h2 := body_mem l hx
  have h3 : (Hand.bodyL l).length ≤ (Hand.lineL l).length := by
    unfold Hand.lineL
    rw [List.length_append, List.length_append]
    omega
  have h4 := quote_ge x
  omega
/-- What a journal's text may be that is written anew. -/
structure AllOK (all : List (List ByteArray)) : Prop where
  small : ∀ l ∈ all, ∀ x ∈ l, x.size ≤ 100000
  size : ∀ k, k ≤ all.length → (putAll (all.take k)).1.size ≤ 90000000
  many : all.length ≤ 10000000
theorem AllOK.all {all : List (List ByteArray)} (h : AllOK all) : (putAll all).1.size ≤ 90000000 := by
  have := h.size all.length (Nat.le_refl _)
  rwa [List.take_length] at this
theorem pathV_size {q : ByteArray} (h : pathV (besN q) = true) : q.size ≤ 96 := by
  have h1 := path_size h
  have h2 := besN_size q
  omega
set_option maxHeartbeats 16000000 in
set_option maxRecDepth 100000 in
theorem Sts.jAnew (h : Sts K L m Tm W) (hi : L[i]? = some (p, T)) (hGK : GK K W) (hI : Inv n T) (hn : n + 3 ≤ 1000000) (q : ByteArray) (hq : q.size ≤ 99000) (A : Option Addr) (c : Nat) (all : List (List ByteArray))
    (hC : Kd.C kLL W A all.length all) (hA : AllOK all) :
    Calls Tryz.prog 31 #[.pointer (some ⟨p, 0, none⟩), .string q, .slice A all.length c] W (StEnd K (L.set i (p, anewT T q all)) m Tm W (.int .i64 (anewE T q all))) := by
  have hG : Hand2.Glob W := hGK _ (Kp.of (Below.refl _ _))
  have hGl : ∀ W', Kp K W W' → Fr.Glob W' := fun W' h => (hGK W' h).g
  clear hGK
  have HS := Lib.hid h
  have HGl := Lib.hid hGl
  have hbs := besN_size q
  have HBs := Lib.hid (beside_call q (by omega))
  obtain ⟨m0, hm0⟩ := hG.g.cell
  have HP := Lib.hid (path_walk (besN q) (by omega) m0 W hG.g.lt hm0)
  clear hm0
  cases hb : pathV (besN q) with
  | false =>
    have HE : Hid (anewE T q all = 1 ∧ anewT T q all = T) := by unfold Hid anewE anewT; rw [hb]; exact ⟨rfl, rfl⟩
    rw [hb] at HP
    rw [HE.out.1, HE.out.2]
    clear h hC hG hGl hI hb hbs HE hA
    go_enter Tryz.func31, Tryz.ntmps31
    go_wp2_with (first
      | (go_at_call 43; refine (HBs.out _).mono ?_; rintro e w1 ⟨rfl, rfl⟩)
      | (go_at_call 42; refine HP.out.mono ?_; rintro e w2 ⟨rfl, hb⟩; have HB := Lib.hid hb; clear hb))
    go_ret
    exact StEnd.same HS.out hi HB.out
  | true =>
    rw [hb] at HP
    have HQ : Hid (∀ W1, Below W.heap.size W W1 → Calls Tryz.prog 51 #[.slice A all.length c, .func (.func 44) #[] #[]] W1 fun e w' => e = .returned (.tuple #[.string (putAll all).1, .int .i64 (putAll all).2]) ∧ Below W1.heap.size W1 w') :=
      fun W1 hb => putAll_walk A c all W1 (hG.below hb) (Kd.C_below hC hb) hA.small hA.size hA.many
    have hqs := pathV_size hb
    have hcode : (putAll all).2 = 0 ∨ (putAll all).2 = 1 ∨ (putAll all).2 = 3 := by
      by_cases hL : Lines all
      · rw [putAll_ok hL]; exact .inl rfl
      · exact putAllA_code all _
    have hln := hA.all
    obtain ⟨s, er, hp⟩ : ∃ s er, putAll all = (s, er) := ⟨_, _, rfl⟩
    have HA1 : Hid (anewE T q all = if er = 0 then anew1E T q s else er) := by unfold Hid anewE; rw [hb, if_neg (by decide), hp]
    have HT1 : Hid (anewT T q all = if er = 0 then anew1T T q s else T) := by unfold Hid anewT; rw [hb, if_neg (by decide), hp]
    rw [hp] at HQ hcode hln
    simp only at HQ hcode hln
    rw [HA1.out, HT1.out]
    have HbQ : (besN q).size ≤ 100 := by omega
    have hI1 := Lib.hid (inv_write hI false (q := besN q) (s := s) (by omega))
    have hI2 := Lib.hid (inv_rename hI1.out (besN q) q)
    have HI := Lib.hid hI
    clear h hC hG hGl hI hb hbs hp HA1 HT1 hA
    have hE : anew1E T q s = if writeE T false (besN q) s = 0 then renameE (writeT T false (besN q) s) (besN q) q else writeE T false (besN q) s := rfl
    have hT : anew1T T q s = if writeE T false (besN q) s = 0 then
    if renameE (writeT T false (besN q) s) (besN q) q = 0 then syncT (renameT (writeT T false (besN q) s) (besN q) q) else removeT (renameT (writeT T false (besN q) s) (besN q) q) (besN q)
  else removeT (writeT T false (besN q) s) (besN q) := rfl
    rw [hE, hT]
    clear hE hT
    obtain ⟨B, hB⟩ : ∃ B, besN q = B := ⟨_, rfl⟩
    rw [hB] at HBs HP hI1 hI2 HbQ ⊢
    clear hB
    rcases hcode with rfl | rfl | rfl
    · rw [if_pos rfl, if_pos rfl]
      have HW : Hid (∀ W1, Below W.heap.size W W1 → Calls Tryz.prog 52 #[.pointer (some ⟨p, 0, none⟩), .string B, .string s] W1 (StEnd K (L.set i (p, writeT T false B s)) m Tm W1 (.int .i64 (writeE T false B s)))) :=
        fun W1 hb => (HS.out.below hb).Write hi (HGl.out _ (Kp.of hb)) HI.out (by omega) B s (by omega) (by omega)
      have hw := write_code T false B s
      generalize writeE T false B s = ew at HW hw ⊢
      generalize writeT T false B s = T1 at HW hI1 hI2 ⊢
      rcases hw with rfl | hw
      · rw [if_pos rfl, if_pos rfl]
        have hr := rename_code T1 B q
        have HR : Hid (∀ W1, Sts K (L.set i (p, T1)) m Tm W1 → Kp K W W1 → Calls Tryz.prog 53 #[.pointer (some ⟨p, 0, none⟩), .string B, .string q] W1 (StEnd K (L.set i (p, renameT T1 B q)) m Tm W1 (.int .i64 (renameE T1 B q)))) := fun W1 h1 h2 => by
          have := h1.Rename (set_at hi T1) (HGl.out _ h2) hI1.out (by omega) B q (by omega) (by omega)
          rwa [set_set'] at this
        generalize renameE T1 B q = er at HR hr ⊢
        generalize renameT T1 B q = T2 at HR hI2 ⊢
        have HR2 : Hid (∀ W1, Sts K (L.set i (p, T2)) m Tm W1 → Kp K W W1 → Calls Tryz.prog 49 #[.pointer (some ⟨p, 0, none⟩), .string B] W1 (StEnd K (L.set i (p, removeT T2 B)) m Tm W1 (.int .i64 (removeE T2 B)))) := fun W1 h1 h2 => by
          have := h1.Remove (set_at hi T2) (HGl.out _ h2) hI2.out (by omega) B (by omega)
          rwa [set_set'] at this
        have HR3 : Hid (∀ W1, Sts K (L.set i (p, T2)) m Tm W1 → Kp K W W1 → Calls Tryz.prog 16 #[.pointer (some ⟨p, 0, none⟩)] W1 (StEnd K (L.set i (p, syncT T2)) m Tm W1 (.tuple #[]))) := fun W1 h1 h2 => by
          have := h1.Sync (set_at hi T2) (HGl.out _ h2) hI2.out (by omega)
          rwa [set_set'] at this
        rcases hr with rfl | rfl | rfl | rfl
        · rw [if_pos rfl]
          go_enter Tryz.func31, Tryz.ntmps31
          go_wp2_with (first
            | (go_at_call 43; refine (HBs.out _).mono ?_; rintro e w1 ⟨rfl, rfl⟩)
            | (go_at_call 42; refine HP.out.mono ?_; rintro e w2 ⟨rfl, hb⟩; have HB := Lib.hid hb; clear hb)
            | (go_at_call 51; refine (HQ.out _ HB.out).mono ?_; rintro e w3 ⟨rfl, hb⟩; have HB3 := Lib.hid (HB.out.trans (hb.mono HB.out.size)); clear hb)
            | (go_at_call 52; refine (HW.out _ HB3.out).mono ?_; rintro e w4 ⟨rfl, hs4, hk4⟩; have HE4 := Lib.hid hs4; have HK4 := Lib.hid ((Kp.of (K := K) HB3.out).trans hk4); clear hs4 hk4)
            | (go_at_call 53; refine (HR.out _ HE4.out HK4.out).mono ?_; rintro e w5 ⟨rfl, hs5, hk5⟩; have HE5 := Lib.hid hs5; have HK5 := Lib.hid (HK4.out.trans hk5); clear hs5 hk5)
            | (go_at_call 16; refine (HR3.out _ HE5.out HK5.out).mono ?_; rintro e w6 ⟨rfl, hs6, hk6⟩; have HE6 := Lib.hid hs6; have HK6 := Lib.hid (HK5.out.trans hk6); clear hs6 hk6))
          go_ret
          exact ⟨rfl, HE6.out, HK6.out⟩
        all_goals
          rw [if_neg (by decide)]
          go_enter Tryz.func31, Tryz.ntmps31
          go_wp2_with (first
            | (go_at_call 43; refine (HBs.out _).mono ?_; rintro e w1 ⟨rfl, rfl⟩)
            | (go_at_call 42; refine HP.out.mono ?_; rintro e w2 ⟨rfl, hb⟩; have HB := Lib.hid hb; clear hb)
            | (go_at_call 51; refine (HQ.out _ HB.out).mono ?_; rintro e w3 ⟨rfl, hb⟩; have HB3 := Lib.hid (HB.out.trans (hb.mono HB.out.size)); clear hb)
            | (go_at_call 52; refine (HW.out _ HB3.out).mono ?_; rintro e w4 ⟨rfl, hs4, hk4⟩; have HE4 := Lib.hid hs4; have HK4 := Lib.hid ((Kp.of (K := K) HB3.out).trans hk4); clear hs4 hk4)
            | (go_at_call 53; refine (HR.out _ HE4.out HK4.out).mono ?_; rintro e w5 ⟨rfl, hs5, hk5⟩; have HE5 := Lib.hid hs5; have HK5 := Lib.hid (HK4.out.trans hk5); clear hs5 hk5)
            | (go_at_call 49; refine (HR2.out _ HE5.out HK5.out).mono ?_; rintro e w6 ⟨rfl, hs6, hk6⟩; have HE6 := Lib.hid hs6; have HK6 := Lib.hid (HK5.out.trans hk6); clear hs6 hk6))
          go_ret
          exact ⟨rfl, HE6.out, HK6.out⟩
      · have HR2 : Hid (∀ W1, Sts K (L.set i (p, T1)) m Tm W1 → Kp K W W1 → Calls Tryz.prog 49 #[.pointer (some ⟨p, 0, none⟩), .string B] W1 (StEnd K (L.set i (p, removeT T1 B)) m Tm W1 (.int .i64 (removeE T1 B)))) := fun W1 h1 h2 => by
          have := h1.Remove (set_at hi T1) (HGl.out _ h2) hI1.out (by omega) B (by omega)
          rwa [set_set'] at this
        clear hI2
        rcases hw with rfl | rfl | rfl | rfl
        all_goals
          rw [if_neg (by decide), if_neg (by decide)]
          go_enter Tryz.func31, Tryz.ntmps31
          go_wp2_with (first
            | (go_at_call 43; refine (HBs.out _).mono ?_; rintro e w1 ⟨rfl, rfl⟩)
            | (go_at_call 42; refine HP.out.mono ?_; rintro e w2 ⟨rfl, hb⟩; have HB := Lib.hid hb; clear hb)
            | (go_at_call 51; refine (HQ.out _ HB.out).mono ?_; rintro e w3 ⟨rfl, hb⟩; have HB3 := Lib.hid (HB.out.trans (hb.mono HB.out.size)); clear hb)
            | (go_at_call 52; refine (HW.out _ HB3.out).mono ?_; rintro e w4 ⟨rfl, hs4, hk4⟩; have HE4 := Lib.hid hs4; have HK4 := Lib.hid ((Kp.of (K := K) HB3.out).trans hk4); clear hs4 hk4)
            | (go_at_call 49; refine (HR2.out _ HE4.out HK4.out).mono ?_; rintro e w6 ⟨rfl, hs6, hk6⟩; have HE6 := Lib.hid hs6; have HK6 := Lib.hid (HK4.out.trans hk6); clear hs6 hk6))
          go_ret
          exact ⟨rfl, HE6.out, HK6.out⟩
    all_goals
      rw [if_neg (by decide), if_neg (by decide)]
      clear hI1 hI2
      go_enter Tryz.func31, Tryz.ntmps31
      go_wp2_with (first
        | (go_at_call 43; refine (HBs.out _).mono ?_; rintro e w1 ⟨rfl, rfl⟩)
        | (go_at_call 42; refine HP.out.mono ?_; rintro e w2 ⟨rfl, hb⟩; have HB := Lib.hid hb; clear hb)
        | (go_at_call 51; refine (HQ.out _ HB.out).mono ?_; rintro e w3 ⟨rfl, hb⟩; have HB3 := Lib.hid (HB.out.trans (hb.mono HB.out.size)); clear hb))
      go_ret
      exact StEnd.same HS.out hi HB3.out
/-- Open. -/
def JOEnd (K : Nat → Prop) (L : List (Nat × TS)) (m : Nat) (Tm : TS) (W : World) (l : List (List ByteArray)) (er : Int) (e : Ending) (w' : World) : Prop :=
  ∃ v K', e = .returned (.tuple #[v, .int .i64 er]) ∧ (∀ k, K k → K' k) ∧ Sts K' L m Tm w' ∧ Kp K W w' ∧ Kd.S kLL 22 w' W.heap.size (fun k => K' k ∧ W.heap.size ≤ k) v l
theorem JOEnd.none {e : Int} (h : Sts K L m Tm W') (hk : Kp K W W') : JOEnd K L m Tm W [] e (.returned (.tuple #[.slice none 0 0, .int .i64 e])) W' :=
  ⟨_, K, rfl, fun k h => h, h, hk, Kd.S_nil _ _ _ _ _⟩
theorem readAll_ok {n : Nat} {T : TS} (hI : Inv n T) (hr : T.room ≤ 2000000) (q : ByteArray) : AllOK (readL T q) where
  small := fun l hl x hx => by
    have h1 := scan_lines (readT T q).1 l hl
    have h2 := lineL_le h1
    have h3 := word_le h1 x hx
    omega
  size := fun k hk => by
    have h1 := scan_lines (readT T q).1
    have h2 : Lines ((readL T q).take k) := fun l hl => h1 l (List.mem_of_mem_take hl)
    rw [putAll_ok h2]
    obtain ⟨r, hd⟩ := scan_dec (readT T q).1
    have h3 := hd.size
    have h4 := read_used T q
    have h5 := hI.good.used
    have e : readL T q = (readL T q).take k ++ (readL T q).drop k := (List.take_append_drop k _).symm
    have h6 : (cat (readL T q) e0).size = (cat ((readL T q).take k) e0).size + (cat ((readL T q).drop k) e0).size := by
      conv => lhs; rw [e, cat_app]
      exact cat_size _ _
    have h7 : (scanV (readT T q).1).1 = readL T q := rfl
    rw [h7] at h3
    show (cat _ e0).size ≤ _
    omega
  many := by
    have := readL_many hI q
    omega
set_option maxHeartbeats 8000000 in
set_option maxRecDepth 100000 in
theorem Sts.jOpen (h : Sts K L m Tm W) (hi : L[i]? = some (p, T)) (hGK : GK K W) (hI : Inv n T) (hn : n + 4 ≤ 1000000) (hr : T.room ≤ 2000000) (q : ByteArray) (hq : q.size ≤ 99000) :
    Calls Tryz.prog 29 #[.pointer (some ⟨p, 0, none⟩), .string q] W (JOEnd K (L.set i (p, openT T q)) m Tm W (openL T q) (openE T q)) := by
  have hG : Hand2.Glob W := hGK.now
  have HS := Lib.hid h
  have HGK := Lib.hid hGK
  have hbs := besN_size q
  have HBs := Lib.hid (beside_call q (by omega))
  obtain ⟨m0, hm0⟩ := hG.g.cell
  have HP := Lib.hid (path_walk (besN q) (by omega) m0 W hG.g.lt hm0)
  clear hm0
  cases hb : pathV (besN q) with
  | false =>
    have HE : Hid (openE T q = 1 ∧ openT T q = T ∧ openL T q = []) := by
      have h1 : openE T q = 1 := by unfold openE; rw [hb]; rfl
      exact ⟨h1, by unfold openT; rw [hb]; rfl, by unfold openL; rw [h1]; rfl⟩
    rw [hb] at HP
    rw [HE.out.1, HE.out.2.1, HE.out.2.2, set_same hi]
    clear h hG hGK hI hb hbs HE
    go_enter Tryz.func29, Tryz.ntmps29
    go_wp2_with (first
      | (go_at_call 43; refine (HBs.out _).mono ?_; rintro e w1 ⟨rfl, rfl⟩)
      | (go_at_call 42; refine HP.out.mono ?_; rintro e w2 ⟨rfl, hb⟩; have HB := Lib.hid hb; clear hb))
    go_ret2
    exact JOEnd.none (HS.out.below HB.out) (Kp.of HB.out)
  | true =>
    rw [hb] at HP
    have hqs := pathV_size hb
    have HbQ : (besN q).size ≤ 100 := by omega
    have hI1 := inv_remove hI (besN q)
    have hr1 : (removeT T (besN q)).room ≤ 2000000 := by rw [remove_room]; exact hr
    have HI := Lib.hid hI
    have HR : Hid (∀ W1, Below W.heap.size W W1 → Calls Tryz.prog 49 #[.pointer (some ⟨p, 0, none⟩), .string (besN q)] W1 (StEnd K (L.set i (p, removeT T (besN q))) m Tm W1 (.int .i64 (removeE T (besN q))))) :=
      fun W1 hb => (HS.out.below hb).Remove hi (HGK.out _ (Kp.of hb)).g hI (by omega) (besN q) (by omega)
    have hall := readAll_ok hI1 hr1 q
    have hoE : openE T q = if readW (removeT T (besN q)) q = true then 0 else anewE (removeT T (besN q)) q (readL (removeT T (besN q)) q) := by unfold openE; rw [hb, if_neg (by decide)]
    have hoT : openT T q = if readW (removeT T (besN q)) q = true then syncT (removeT T (besN q)) else anewT (removeT T (besN q)) q (readL (removeT T (besN q)) q) := by unfold openT; rw [hb, if_neg (by decide)]
    have hoL : openL T q = if openE T q = 0 then readL (removeT T (besN q)) q else [] := rfl
    rw [hoL, hoT, hoE]
    clear hoL hoT hoE h hG hGK hI hb
    obtain ⟨B, hB⟩ : ∃ B, besN q = B := ⟨_, rfl⟩
    rw [hB] at HBs HP HR HbQ hI1 hr1 hall hbs ⊢
    clear hB
    have HRD : Hid (∀ W1, Sts K (L.set i (p, removeT T B)) m Tm W1 → Kp K W W1 → Calls Tryz.prog 50 #[.pointer (some ⟨p, 0, none⟩), .string q] W1 (RdEnd W1 (readL (removeT T B) q) (readW (removeT T B) q))) :=
      fun W1 h1 h2 => h1.jRead (set_at hi _) (HGK.out _ h2) hI1 hr1 q (by omega)
    generalize removeE T B = re at HR
    generalize removeT T B = T1 at HR HRD hI1 hr1 hall ⊢
    generalize readL T1 q = ls at HRD hall ⊢
    have HI1 := Lib.hid hI1
    have HALL := Lib.hid hall
    clear hI1 hr1 hall
    have HSY : Hid (∀ W1, Sts K (L.set i (p, T1)) m Tm W1 → Kp K W W1 → ∀ W2, Below W1.heap.size W1 W2 → ∀ K2 : Nat → Prop, (∀ k, K2 k → K k ∨ (W1.heap.size ≤ k ∧ k < W2.heap.size)) → (∀ k, K k → K2 k) → Calls Tryz.prog 16 #[.pointer (some ⟨p, 0, none⟩)] W2 (StEnd K2 (L.set i (p, syncT T1)) m Tm W2 (.tuple #[]))) := fun W1 h1 h2 W2 hb K2 hk hk' => by
      have := (h1.kept hb hk).Sync (set_at hi T1) (HGK.out _ (h2.trans (Kp.of hb))).g HI1.out (by omega)
      rwa [set_set'] at this
    have HAN : Hid (∀ W1, Sts K (L.set i (p, T1)) m Tm W1 → Kp K W W1 → ∀ W2, Below W1.heap.size W1 W2 → ∀ K2 : Nat → Prop, (∀ k, K2 k → K k ∨ (W1.heap.size ≤ k ∧ k < W2.heap.size)) → (∀ k, K k → K2 k) → ∀ A c, Kd.C kLL W2 A ls.length ls → Calls Tryz.prog 31 #[.pointer (some ⟨p, 0, none⟩), .string q, .slice A ls.length c] W2 (StEnd K2 (L.set i (p, anewT T1 q ls)) m Tm W2 (.int .i64 (anewE T1 q ls)))) := fun W1 h1 h2 W2 hb K2 hk hk' A c hC => by
      have := (h1.kept hb hk).jAnew (set_at hi T1) (((HGK.out.step h2).step (Kp.of hb)).more hk') HI1.out (by omega) q hq A c ls hC HALL.out
      rwa [set_set'] at this
    have hcode := anew_code T1 q ls
    obtain ⟨bw, hbw⟩ : ∃ bw, readW T1 q = bw := ⟨_, rfl⟩
    rw [hbw] at HRD ⊢
    clear hbw
    have HVK : Hid (∀ (w1 w2 w3 : World) (v : Value), Kp K W w1 → Below w1.heap.size w1 w2 → Kd.S kLL 22 w2 w1.heap.size (fun _ => True) v ls → Kp (fun k => K k ∨ (w1.heap.size ≤ k ∧ k < w2.heap.size)) w2 w3 →
        Kd.S kLL 22 w3 W.heap.size (fun k => (K k ∨ (w1.heap.size ≤ k ∧ k < w2.heap.size)) ∧ W.heap.size ≤ k) v ls) := fun w1 w2 w3 v h1 h2 h3 h4 => by
      have hle : W.heap.size ≤ w1.heap.size := h1.size
      refine Kd.S_lower (Kd.S_mono (Kd.S_step (Kd.S_bound h3) (w1 := w3) fun k hk hlt => h4.block (.inr ⟨hk.2.1, hk.2.2.1⟩) hlt) fun k hk => ?_) hle
      exact ⟨.inr ⟨hk.2.1, hk.2.2.1⟩, Nat.le_trans hle hk.2.1⟩
    cases bw with
    | true =>
      rw [if_pos rfl, if_pos rfl, if_pos rfl]
      go_enter Tryz.func29, Tryz.ntmps29
      go_wp2_with (first
        | (go_at_call 43; refine (HBs.out _).mono ?_; rintro e w1 ⟨rfl, rfl⟩)
        | (go_at_call 42; refine HP.out.mono ?_; rintro e w2 ⟨rfl, hb⟩; have HB := Lib.hid hb; clear hb)
        | (go_at_call 49; refine (HR.out _ HB.out).mono ?_; rintro e w3 ⟨rfl, hs3, hk3⟩; have HE3 := Lib.hid hs3; have HK3 := Lib.hid ((Kp.of (K := K) HB.out).trans hk3); clear hs3 hk3)
        | (go_at_call 50; refine (HRD.out _ HE3.out HK3.out).mono ?_; rintro e w4 ⟨v, rfl, hv, hb⟩; obtain ⟨Av, cv, rfl⟩ := Kd.S_slice hv; have HV := Lib.hid hv; have HB4 := Lib.hid hb; clear hv hb)
        | (go_at_call 16; refine (HSY.out _ HE3.out HK3.out _ HB4.out _ (fun k hk => hk) (fun k hk => .inl hk)).mono ?_; rintro e w5 ⟨rfl, hs5, hk5⟩; have HE5 := Lib.hid hs5; have HK5 := Lib.hid hk5; clear hs5 hk5))
      go_ret2
      exact ⟨_, _, rfl, fun k hk => .inl hk, HE5.out, (HK3.out.trans (Kp.of HB4.out)).trans (HK5.out.mono fun k hk => .inl hk), HVK.out _ _ _ _ HK3.out HB4.out HV.out HK5.out⟩
    | false =>
      have hff : ¬ (false = true) := by decide
      simp only [if_neg hff]
      clear hff
      generalize anewE T1 q ls = er at hcode HAN ⊢
      generalize anewT T1 q ls = T2 at HAN ⊢
      clear HSY
      rcases hcode with rfl | hcode
      · rw [if_pos rfl]
        go_enter Tryz.func29, Tryz.ntmps29
        go_wp2_with (first
          | (go_at_call 43; refine (HBs.out _).mono ?_; rintro e w1 ⟨rfl, rfl⟩)
          | (go_at_call 42; refine HP.out.mono ?_; rintro e w2 ⟨rfl, hb⟩; have HB := Lib.hid hb; clear hb)
          | (go_at_call 49; refine (HR.out _ HB.out).mono ?_; rintro e w3 ⟨rfl, hs3, hk3⟩; have HE3 := Lib.hid hs3; have HK3 := Lib.hid ((Kp.of (K := K) HB.out).trans hk3); clear hs3 hk3)
          | (go_at_call 50; refine (HRD.out _ HE3.out HK3.out).mono ?_; rintro e w4 ⟨v, rfl, hv, hb⟩; obtain ⟨Av, cv, rfl⟩ := Kd.S_slice hv; have HC4 := Lib.hid (Kd.S_reads' hv).2.2; have HV := Lib.hid hv; have HB4 := Lib.hid hb; clear hv hb)
          | (go_at_call 31; refine (HAN.out _ HE3.out HK3.out _ HB4.out _ (fun k hk => hk) (fun k hk => .inl hk) _ _ HC4.out).mono ?_; rintro e w5 ⟨rfl, hs5, hk5⟩; have HE5 := Lib.hid hs5; have HK5 := Lib.hid hk5; clear hs5 hk5))
        go_ret2
        exact ⟨_, _, rfl, fun k hk => .inl hk, HE5.out, (HK3.out.trans (Kp.of HB4.out)).trans (HK5.out.mono fun k hk => .inl hk), HVK.out _ _ _ _ HK3.out HB4.out HV.out HK5.out⟩
      · rcases hcode with rfl | rfl | rfl | rfl | rfl
        all_goals
          rw [if_neg (by decide)]
          go_enter Tryz.func29, Tryz.ntmps29
          go_wp2_with (first
            | (go_at_call 43; refine (HBs.out _).mono ?_; rintro e w1 ⟨rfl, rfl⟩)
            | (go_at_call 42; refine HP.out.mono ?_; rintro e w2 ⟨rfl, hb⟩; have HB := Lib.hid hb; clear hb)
            | (go_at_call 49; refine (HR.out _ HB.out).mono ?_; rintro e w3 ⟨rfl, hs3, hk3⟩; have HE3 := Lib.hid hs3; have HK3 := Lib.hid ((Kp.of (K := K) HB.out).trans hk3); clear hs3 hk3)
            | (go_at_call 50; refine (HRD.out _ HE3.out HK3.out).mono ?_; rintro e w4 ⟨v, rfl, hv, hb⟩; obtain ⟨Av, cv, rfl⟩ := Kd.S_slice hv; have HC4 := Lib.hid (Kd.S_reads' hv).2.2; have HV := Lib.hid hv; have HB4 := Lib.hid hb; clear hv hb)
            | (go_at_call 31; refine (HAN.out _ HE3.out HK3.out _ HB4.out _ (fun k hk => hk) (fun k hk => .inl hk) _ _ HC4.out).mono ?_; rintro e w5 ⟨rfl, hs5, hk5⟩; have HE5 := Lib.hid hs5; have HK5 := Lib.hid hk5; clear hs5 hk5))
          go_ret2
          exact JOEnd.none (HE5.out.drop fun k hk => .inl hk) ((HK3.out.trans (Kp.of HB4.out)).trans (HK5.out.mono fun k hk => .inl hk))
end
end Go.Proofs.YtghbaehbgefpaaaGreatDoor.Fr
/- A store of texts, plain; where it lies. -/
namespace Go.Proofs.YtghbaehbgefpaaaGreatDoor.Fr
open Go.RowKit Go.Proofs.YtghbaehbgefpaaaGreatDoor.F Go.Proofs.YtghbaehbgefpaaaGreatDoorW.PrintWords Go.Maps
open Go.Proofs.YtghbaehbgefpaaaGreatDoor.Hand (putV takeV scanV)
set_option linter.unusedVariables false
set_option linter.unusedSimpArgs false
/-- A text's number; 0: it has none. -/
def idxB : List ByteArray → ByteArray → Nat
  | [], _ => 0
  | x :: r, t => if x = t then 1 else if idxB r t = 0 then 0 else idxB r t + 1
theorem idx_le (l : List ByteArray) (t : ByteArray) : idxB l t ≤ l.length := by
  induction l with
  | nil => exact Nat.le_refl _
  | cons x r ih =>
    rw [idxB, List.length_cons]
    split
    · omega
    · split <;> omega
theorem idx_cons (x : ByteArray) (r : List ByteArray) (t : ByteArray) : idxB (x :: r) t = if x = t then 1 else if idxB r t = 0 then 0 else idxB r t + 1 := rfl
theorem idx_zero {l : List ByteArray} {t : ByteArray} : idxB l t = 0 ↔ t ∉ l := by
  induction l with
  | nil => exact ⟨fun _ => List.not_mem_nil, fun _ => rfl⟩
  | cons x r ih =>
    rw [idx_cons, List.mem_cons]
    by_cases h : x = t
    · rw [if_pos h]
      exact ⟨fun e => absurd e (by decide), fun e => absurd (.inl h.symm) e⟩
    · rw [if_neg h]
      by_cases h2 : idxB r t = 0
      · rw [if_pos h2]
        exact ⟨fun _ e => e.elim (fun e => h e.symm) (ih.1 h2), fun _ => rfl⟩
      · rw [if_neg h2]
        exact ⟨fun e => absurd e (by omega), fun e => absurd (ih.2 fun m => e (.inr m)) h2⟩
theorem idx_at {l : List ByteArray} {t : ByteArray} (h : idxB l t ≠ 0) : ∃ hlt : idxB l t - 1 < l.length, l[idxB l t - 1] = t := by
  induction l with
  | nil => exact absurd rfl h
  | cons x r ih =>
    rw [idxB] at h
    by_cases e : x = t
    · have hi : idxB (x :: r) t = 1 := by rw [idxB, if_pos e]
      refine ⟨by rw [hi, List.length_cons]; omega, ?_⟩
      simp only [hi]
      exact e
    · rw [if_neg e] at h
      by_cases h2 : idxB r t = 0
      · rw [if_pos h2] at h
        exact absurd rfl h
      · have hi : idxB (x :: r) t = idxB r t + 1 := by rw [idxB, if_neg e, if_neg h2]
        obtain ⟨h3, h4⟩ := ih h2
        refine ⟨by rw [hi, List.length_cons]; omega, ?_⟩
        have : idxB r t + 1 - 1 = (idxB r t - 1) + 1 := by omega
        simp only [hi, this]
        exact h4
theorem idx_snoc (l : List ByteArray) (t u : ByteArray) : idxB (l ++ [t]) u = if idxB l u ≠ 0 then idxB l u else if t = u then l.length + 1 else 0 := by
  induction l with
  | nil =>
    have e : idxB [] u = 0 := rfl
    rw [List.nil_append, idx_cons, e, if_neg (fun h : (0 : Nat) ≠ 0 => h rfl), if_pos rfl]
    rfl
  | cons x r ih =>
    rw [List.cons_append, idx_cons, idx_cons, ih, List.length_cons]
    by_cases h : x = u
    · rw [if_pos h, if_pos h, if_pos (by decide)]
    · rw [if_neg h, if_neg h]
      by_cases h2 : idxB r u = 0
      · rw [h2, if_neg (fun h : (0 : Nat) ≠ 0 => h rfl), if_pos rfl, if_neg (fun h : (0 : Nat) ≠ 0 => h rfl)]
        by_cases h3 : t = u
        · rw [if_pos h3, if_pos h3, if_neg (by omega)]
        · rw [if_neg h3, if_neg h3, if_pos rfl]
      · rw [if_pos h2, if_neg h2, if_pos (by omega)]
/-- A text's number asked for: the tree, the texts, the number, what is wrong. -/
def idT (T : TS) (q : ByteArray) (l : List ByteArray) (t : ByteArray) : TS := if idxB l t ≠ 0 then T else addT T q [t]
def idL (T : TS) (q : ByteArray) (l : List ByteArray) (t : ByteArray) : List ByteArray := if idxB l t ≠ 0 then l else if addE T q [t] = 0 then l ++ [t] else l
def idN (T : TS) (q : ByteArray) (l : List ByteArray) (t : ByteArray) : Int := if idxB l t ≠ 0 then (idxB l t : Nat) else if addE T q [t] = 0 then ((l.length + 1 : Nat) : Int) else 0
def idE (T : TS) (q : ByteArray) (l : List ByteArray) (t : ByteArray) : Int := if idxB l t ≠ 0 then 0 else addE T q [t]
def textN (l : List ByteArray) (i : Int) : ByteArray × Bool := if h : 1 ≤ i ∧ i ≤ l.length then (l[(i - 1).toNat]'(by omega), true) else (⟨#[]⟩, false)
end Go.Proofs.YtghbaehbgefpaaaGreatDoor.Fr
/- Where a store of texts lies; Find, Len, Text. -/
namespace Go.Proofs.YtghbaehbgefpaaaGreatDoor.Fr
open Go.RowKit Go.Proofs.YtghbaehbgefpaaaGreatDoor.F Go.Proofs.YtghbaehbgefpaaaGreatDoorW.PrintWords Go.Maps
set_option linter.unusedVariables false
set_option linter.unusedSimpArgs false
theorem zeroI (w : World) : (zeroValue 3).run Tryz.prog w = .ok (.int .i64 0) w := by kernel_rfl
abbrev strV (l : List ByteArray) : List Value := l.map Value.string
/-- The store at s: the tree's pointer, the name, the texts (v), the numbers (b). -/
structure BsAt (W : World) (s p : Nat) (nm : ByteArray) (l : List ByteArray) (v : Value) (b : Nat) (D : DataW Unit) : Prop where
  box : W.heap[s]? = some (.cells #[.pointer (some ⟨p, 0, none⟩), .string nm, v, .map (some b)] 68 (0, 0))
  row : W.ownsRow 0 9 1 v l.length (strV l)
  ids : W.ownsMap Tryz.prog 9 (plainElem Tryz.prog 3) b l.length D
  at_ : ∀ t : ByteArray, D.atKey (.string t.data.toList) (.lit (.int .i64 0)) = .lit (.int .i64 (idxB l t : Nat))
/-- What it stands on. -/
def BsF (s : Nat) (v : Value) (b : Nat) (k : Nat) : Prop := k = s ∨ k = b ∨ v.ownBlock = some k
section
variable {W W' : World} {s p b : Nat} {nm : ByteArray} {l : List ByteArray} {v : Value} {D : DataW Unit}
theorem BsAt.lt (h : BsAt W s p nm l v b D) : ∀ k, BsF s v b k → k < W.heap.size := fun k hk => by
  rcases hk with rfl | rfl | hk
  · exact (Array.getElem?_eq_some_iff.1 h.box).1
  · exact World.ownsMap.lt h.ids
  · exact own_lt h.row k hk
theorem BsAt.kept (h : BsAt W s p nm l v b D) (hk : ∀ k, BsF s v b k → W'.heap[k]? = W.heap[k]?) : BsAt W' s p nm l v b D where
  box := (hk s (.inl rfl)).trans h.box
  row := ownsRow_block h.row fun k e => hk k (.inr (.inr e))
  ids := by
    obtain ⟨es, clock, hb, F, hs, hD⟩ := h.ids
    exact ⟨es, clock, (hk b (.inr (.inl rfl))).trans hb, F, hs, hD⟩
  at_ := h.at_
theorem BsAt.cells (h : BsAt W s p nm l v b D) : W.cell? ⟨s, 0, none⟩ = some (.pointer (some ⟨p, 0, none⟩)) ∧ W.cell? ⟨s, 1, none⟩ = some (.string nm) ∧ W.cell? ⟨s, 2, none⟩ = some v ∧ W.cell? ⟨s, 3, none⟩ = some (.map (some b)) :=
  ⟨cell_box h.box 0 rfl, cell_box h.box 1 rfl, cell_box h.box 2 rfl, cell_box h.box 3 rfl⟩
theorem BsAt.slice (h : BsAt W s p nm l v b D) : ∃ A c, v = .slice A l.length c := by
  rcases h.row.2 with ⟨rfl, e⟩ | ⟨g, cap, cur, rfl, _⟩
  · exact ⟨none, 0, by rw [e]⟩
  · exact ⟨_, _, rfl⟩
theorem BsAt.look (h : BsAt W s p nm l v b D) (t : ByteArray) (ht : t.size ≤ maxLen) : (Instr.lookup 66 (.map (some b)) (.string t) false).run Tryz.prog W = .ok (.int .i64 (idxB l t : Nat)) W := by
  obtain ⟨c, hrun, hat, -⟩ := World.ownsMap.lookup_int h.ids lawK Tryz.underlying66 Tryz.underlying3 (zeroI W) (Go.WideMaps.keyOf_string_mk Tryz.underlying9 ht)
  have e : DataW.lit (.int .i64 ((idxB l t : Nat) : Int)) = DataW.lit (H := Unit) (.int .i64 c) := (h.at_ t).symm.trans hat
  have e2 : ((idxB l t : Nat) : Int) = c := by
    have e3 := DataW.lit.inj e
    exact (Lit.int.inj e3).2
  rw [hrun, e2]
end
end Go.Proofs.YtghbaehbgefpaaaGreatDoor.Fr
/- (*Store).keep: a text more. -/
namespace Go.Proofs.YtghbaehbgefpaaaGreatDoor.Fr
open Go.RowKit Go.Proofs.YtghbaehbgefpaaaGreatDoor.F Go.Proofs.YtghbaehbgefpaaaGreatDoorW.PrintWords Go.Maps
set_option linter.unusedVariables false
set_option linter.unusedSimpArgs false
section
variable {W W' : World} {s p b : Nat} {nm : ByteArray} {l : List ByteArray} {v : Value} {D : DataW Unit}
theorem str_app (l : List ByteArray) (t : ByteArray) : strV (l ++ [t]) = strV l ++ [.string t] := by
  simp [strV]
theorem BsAt.row_ne (h : BsAt W s p nm l v b D) {k : Nat} (hk : v.ownBlock = some k) : k ≠ s ∧ k ≠ b := by
  rcases h.row.2 with ⟨e, -⟩ | ⟨g, cap, cur, e, -, hg, -⟩
  · rw [e] at hk
    cases hk
  · rw [e] at hk
    obtain rfl : g = k := Option.some.inj hk
    refine ⟨fun e2 => ?_, fun e2 => ?_⟩
    · have h1 := h.box
      rw [← e2, hg] at h1
      have h2 := Option.some.inj h1
      injection h2 with _ h3
      exact absurd h3 (by decide)
    · obtain ⟨es, clock, hb, -⟩ := h.ids
      rw [← e2, hg] at hb
      have h2 := Option.some.inj hb
      cases h2
theorem BsAt.ne (h : BsAt W s p nm l v b D) : b ≠ s := fun e => by
  obtain ⟨es, clock, hb, -⟩ := h.ids
  rw [e, h.box] at hb
  have h2 := Option.some.inj hb
  cases h2
/-- Behind the append and its store, ahead of the map's. -/
structure KeepMid (W : World) (s p : Nat) (nm : ByteArray) (l : List ByteArray) (v : Value) (b : Nat) (D : DataW Unit) (t : ByteArray) (v1 : Value) (W2 : World) : Prop where
  box : W2.heap[s]? = some (.cells #[.pointer (some ⟨p, 0, none⟩), .string nm, v1, .map (some b)] 68 (0, 0))
  row : W2.ownsRow 0 9 1 v1 (l.length + 1) (strV (l ++ [t]))
  ids : W2.ownsMap Tryz.prog 9 (plainElem Tryz.prog 3) b l.length D
  chg : Chg (fun k => BsF s v b k) W W2
  new : ∀ k, v1.ownBlock = some k → v.ownBlock = some k ∨ W.heap.size ≤ k
theorem keep_mid {w1 : World} {v1 : Value} {t : ByteArray} {o : Obj} (h : BsAt W s p nm l v b D) (h1 : w1.ownsRow 0 9 1 v1 (l.length + 1) (strV l ++ [.string t]))
    (h2 : (W.alloc o).grownBy w1 v.ownBlock) (h4 : v1.ownBlock = v.ownBlock ∨ v1.ownBlock = some (W.alloc o).heap.size) :
    KeepMid W s p nm l v b D t v1 (w1.setCell ⟨s, 2, none⟩ v1) ∧ w1.heap[s]? = some (.cells #[.pointer (some ⟨p, 0, none⟩), .string nm, v, .map (some b)] 68 (0, 0)) := by
  have hsl := h.lt s (.inl rfl)
  have hbl := h.lt b (.inr (.inl rfl))
  have hsz : (W.alloc o).heap.size = W.heap.size + 1 := World.size_alloc W o
  have hblk : ∀ k, k < W.heap.size → v.ownBlock ≠ some k → w1.heap[k]? = W.heap[k]? := fun k hk hn => (h2.block k (by omega) (fun e => hn e.symm)).trans (Below.heap_alloc W o k hk)
  have hs1 : w1.heap[s]? = _ := (hblk s hsl fun e => (h.row_ne e).1 rfl).trans h.box
  have hb1 : w1.heap[b]? = W.heap[b]? := hblk b hbl fun e => (h.row_ne e).2 rfl
  have hv1 : ∀ k, v1.ownBlock = some k → k ≠ s := by
    intro k hk e
    rcases h4 with h4 | h4
    · rw [h4] at hk
      exact (h.row_ne hk).1 e
    · rw [h4] at hk
      have := Option.some.inj hk
      omega
  have hC1 : Chg (fun k => BsF s v b k) W w1 := ((Chg.refl _ W).alloc o).grown h2 fun k e _ => .inr (.inr e)
  refine ⟨⟨?_, ?_, ?_, hC1.setCell (p := ⟨s, 2, none⟩) (fun _ => .inl rfl) _, ?_⟩, hs1⟩
  · rw [heap_setCell_same w1 s 2 _ _ _ hs1]
    rfl
  · rw [str_app]
    exact ownsRow_block h1 fun k hk => heap_setCell_other w1 ⟨s, 2, none⟩ k v1 (hv1 k hk)
  · obtain ⟨es, clock, hb, F, hs, hD⟩ := h.ids
    exact ⟨es, clock, ((heap_setCell_other w1 ⟨s, 2, none⟩ b v1 h.ne).trans hb1).trans hb, F, hs, hD⟩
  · intro k hk
    rcases h4 with h4 | h4
    · exact .inl (h4 ▸ hk)
    · rw [h4] at hk
      have := Option.some.inj hk
      exact .inr (by omega)
theorem KeepMid.drew {t : ByteArray} {v1 : Value} {W2 : World} (h : KeepMid W s p nm l v b D t v1 W2) : KeepMid W s p nm l v b D t v1 W2.drew := ⟨h.box, h.row, h.ids, h.chg.drew, h.new⟩
/-- How keep ends. -/
def KeepEnd (W : World) (s p : Nat) (nm : ByteArray) (l : List ByteArray) (v : Value) (b : Nat) (t : ByteArray) (W' : World) : Prop :=
  ∃ v' D', BsAt W' s p nm (l ++ [t]) v' b D' ∧ Chg (fun k => BsF s v b k) W W' ∧ ∀ k, BsF s v' b k → BsF s v b k ∨ W.heap.size ≤ k
theorem keep_end {W2 W3 : World} {v1 : Value} {t : ByteArray} (h : BsAt W s p nm l v b D) (hm : KeepMid W s p nm l v b D t v1 W2) (hf : idxB l t = 0)
    (h3 : W3.ownsMap Tryz.prog 9 (plainElem Tryz.prog 3) b (l.length + 1) (D.put (.string t.data.toList) (.lit (.int .i64 ((l.length + 1 : Nat) : Int))))) (hg : W2.grownBy W3 (some b)) :
    KeepEnd W s p nm l v b t W3 := by
  have hlen : (l ++ [t]).length = l.length + 1 := by simp
  have hs2 : s < W2.heap.size := (Array.getElem?_eq_some_iff.1 hm.box).1
  refine ⟨v1, _, ⟨?_, ?_, by rw [hlen]; exact h3, ?_⟩, hm.chg.grown hg (fun k e _ => .inr (.inl (Option.some.inj e).symm)), ?_⟩
  · exact (hg.block s hs2 (fun e => h.ne (Option.some.inj e).symm)).trans hm.box
  · rw [hlen]
    refine ownsRow_block hm.row fun k hk => hg.block k (own_lt hm.row k hk) fun e => ?_
    have e := Option.some.inj e
    rcases hm.new k hk with h5 | h5
    · exact (h.row_ne h5).2 e
    · have := h.lt b (.inr (.inl rfl))
      omega
  · intro u
    rw [idx_snoc]
    by_cases e : t = u
    · subst e
      rw [atKey_put_same h.ids.isMap (show WideAt.IsKeyLit (.string t.data.toList) from trivial), hf, if_neg (fun h : (0 : Nat) ≠ 0 => h rfl), if_pos rfl]
    · have e2 : (Lit.string u.data.toList) ≠ Lit.string t.data.toList := fun h6 => by
        have h7 := Lit.string.inj h6
        exact e (by cases t; cases u; simp only at h7; rw [Array.toList_inj.1 h7])
      rw [atKey_put_other e2, h.at_ u]
      by_cases h8 : idxB l u ≠ 0
      · rw [if_pos h8]
      · rw [if_neg h8, if_neg e, Classical.not_not.1 h8]
  · intro k hk
    rcases hk with rfl | rfl | hk
    · exact .inl (.inl rfl)
    · exact .inl (.inr (.inl rfl))
    · exact (hm.new k hk).imp (fun e => .inr (.inr e)) id
theorem newS (W : World) (u : Value) : ∀ (j : Nat) v, [u][j]? = some v → (W.alloc (.cells #[u] 9)).cell? ((⟨W.heap.size, 0, none⟩ : Addr).add j) = some v := World.news_of_block (World.alloc_heap_new W _)
set_option maxHeartbeats 4000000 in
set_option maxRecDepth 100000 in
theorem keep_call (h : BsAt W s p nm l v b D) (t : ByteArray) (ht : t.size ≤ 100000) (hn : l.length ≤ 1000000) (hf : idxB l t = 0) :
    Calls Tryz.prog 30 #[.pointer (some ⟨s, 0, none⟩), .string t] W fun e W' => e = .returned (.int .i64 ((l.length + 1 : Nat) : Int)) ∧ KeepEnd W s p nm l v b t W' := by
  obtain ⟨i0, hi, hz0, hz1, hz2⟩ := info_parts Hand.infoStr2
  have HB := Lib.hid h
  have HF := Lib.hid hf
  have HN := Lib.hid hn
  have HT := Lib.hid ht
  obtain ⟨c0, c1, c2, c3⟩ := h.cells
  have HNW := Lib.hid (newS W (.string t))
  have HONE : Hid (∀ u ∈ [Value.string t], u.oneCell' = true) := fun u hu => by rw [List.mem_singleton.1 hu]; rfl
  have H63 : Hid (l.length + 1 ≤ maxLen) := by unfold Hid maxLen; omega
  have HBY : Hid ((l.length + 1) * 16 ≤ 140737488355328) := by unfold Hid; omega
  have HKY : Hid (keyOf Tryz.prog 9 (.string t) = some (.string t.data.toList)) := Go.WideMaps.keyOf_string_mk Tryz.underlying9 (by unfold maxLen; omega)
  have HLM : Hid (l.length < maxLen) := by unfold Hid maxLen; omega
  obtain ⟨A0, n0, rfl⟩ := h.slice
  clear h hf hn ht
  go_enter Tryz.func30, Tryz.ntmps30
  go_upto_region 2 with (at_builtin; refine wpList_append_own_at _ rfl _ _ 22 rfl 0 9 i0 _ 1 16 Tryz.underlying22 hi hz0 hz1 hz2 rfl (by decide) (.slice A0 l.length n0) l.length (strV l) rfl (HB.out.row.alloc _) ⟨W.heap.size, 0, none⟩ 1 1 [.string t] rfl rfl HNW.out HONE.out H63.out HBY.out (Nat.zero_le _) ?_; intro v1 w1 h1 h2 h3 h4; obtain ⟨A1, n1, rfl⟩ : ∃ A1 n1, v1 = .slice A1 (l.length + 1) n1 := (by rcases h1.2 with ⟨-, e⟩ | ⟨g, cap, cur, e, -⟩; exact absurd e (by omega); exact ⟨_, _, e⟩); obtain ⟨hm, hs1⟩ := keep_mid HB.out h1 h2 h4; have HM := Lib.hid hm; have d2 : w1.cell? ⟨s, 2, none⟩ = some (.slice A0 l.length n0) := cell_box hs1 2 rfl; have d3 : w1.cell? ⟨s, 3, none⟩ = some (.map (some b)) := cell_box hs1 3 rfl; have f2 : w1.frozen? ⟨s, 2, none⟩ = false := (by simp [World.frozen?, hs1]); clear h1 h2 h3 h4 hm hs1)
  have HM2 := Lib.hid HM.out.drew
  obtain ⟨w3, hrun, h3, h4⟩ := HM2.out.ids.update lawK (t := 66) Tryz.underlying66 HLM.out HKY.out (plainElem_int (a := ((l.length + 1 : Nat) : Int)) Tryz.underlying3 (Go.WalkArith.wf_i64 (by have := HN.out; omega)))
  rw [show ((l.length + 1 : Nat) : Int) = (l.length : Int) + 1 from by omega] at hrun
  have e2 : w3.cell? ⟨s, 2, none⟩ = some (.slice A1 (l.length + 1) n1) := cell_box ((h4.block s (Array.getElem?_eq_some_iff.1 HM2.out.box).1 (fun e => HB.out.ne (Option.some.inj e).symm)).trans HM2.out.box) 2 rfl
  have HE := Lib.hid (keep_end HB.out HM2.out HF.out h3 h4)
  clear h3 h4 HM HM2
  go_region
  go_wp2
  go_ret
  exact ⟨rfl, HE.out⟩
end
end Go.Proofs.YtghbaehbgefpaaaGreatDoor.Fr
/- (*Store).Find, Len, Text: nothing is changed. -/
namespace Go.Proofs.YtghbaehbgefpaaaGreatDoor.Fr
open Go.RowKit Go.Proofs.YtghbaehbgefpaaaGreatDoor.F Go.Proofs.YtghbaehbgefpaaaGreatDoorW.PrintWords Go.Maps
set_option linter.unusedVariables false
set_option linter.unusedSimpArgs false
section
variable {W W' : World} {s p b : Nat} {nm : ByteArray} {l : List ByteArray} {v : Value} {D : DataW Unit}
set_option maxHeartbeats 4000000 in
set_option maxRecDepth 100000 in
theorem find_same (h : BsAt W s p nm l v b D) (t : ByteArray) (ht : t.size ≤ maxLen) :
    Calls Tryz.prog 13 #[.pointer (some ⟨s, 0, none⟩), .string t] W fun e W' => e = .returned (.int .i64 (idxB l t : Nat)) ∧ W' = W := by
  obtain ⟨c0, c1, c2, c3⟩ := h.cells
  have hl := h.look t ht
  generalize idxB l t = n at hl ⊢
  clear h ht
  go_enter Tryz.func13, Tryz.ntmps13
  go_wp2
  go_ret
  exact ⟨rfl, rfl⟩
theorem find_call (h : BsAt W s p nm l v b D) (t : ByteArray) (ht : t.size ≤ maxLen) :
    Calls Tryz.prog 13 #[.pointer (some ⟨s, 0, none⟩), .string t] W fun e W' => e = .returned (.int .i64 (idxB l t : Nat)) ∧ Below W.heap.size W W' :=
  (find_same h t ht).mono fun e W' ⟨h1, h2⟩ => ⟨h1, by rw [h2]; exact Below.refl _ _⟩
set_option maxHeartbeats 4000000 in
set_option maxRecDepth 100000 in
theorem len_same (h : BsAt W s p nm l v b D) :
    Calls Tryz.prog 14 #[.pointer (some ⟨s, 0, none⟩)] W fun e W' => e = .returned (.int .i64 (l.length : Nat)) ∧ W' = W := by
  obtain ⟨c0, c1, c2, c3⟩ := h.cells
  obtain ⟨A, n, rfl⟩ := h.slice
  clear h
  go_enter Tryz.func14, Tryz.ntmps14
  go_wp2
  go_ret
  exact ⟨rfl, rfl⟩
theorem len_call (h : BsAt W s p nm l v b D) :
    Calls Tryz.prog 14 #[.pointer (some ⟨s, 0, none⟩)] W fun e W' => e = .returned (.int .i64 (l.length : Nat)) ∧ Below W.heap.size W W' :=
  (len_same h).mono fun e W' ⟨h1, h2⟩ => ⟨h1, by rw [h2]; exact Below.refl _ _⟩
theorem BsAt.text (h : BsAt W s p nm l v b D) {i : Nat} (hi : i < l.length) : ∃ g n, v = .slice (some ⟨g, 0, none⟩) l.length n ∧ W.cell? ⟨g, i, none⟩ = some (.string l[i]) ∧ l.length ≤ n := by
  rcases h.row with ⟨h1, ⟨-, h2⟩ | ⟨g, cap, cur, rfl, -, hg, hc, -, hz, ht⟩⟩
  · omega
  · refine ⟨g, cap, rfl, ?_, hc⟩
    have e : cur[i]? = some (.string l[i]) := by
      have e1 : (cur.toList.take (l.length * 1))[i]? = (strV l)[i]? := by rw [ht]
      rw [List.getElem?_take_of_lt (by omega)] at e1
      rw [← Array.getElem?_toList, e1]
      simp [strV, hi]
    exact cell_box hg i e
theorem textN_in {l : List ByteArray} {i : Nat} (hi : i < l.length) : textN l ((i : Int) + 1) = (l[i], true) := by
  unfold textN
  rw [dif_pos ⟨by omega, by omega⟩]
  have : ((i : Int) + 1 - 1).toNat = i := by omega
  simp only [this]
theorem textN_out {l : List ByteArray} {i : Int} (hi : ¬ (1 ≤ i ∧ i ≤ l.length)) : textN l i = (⟨#[]⟩, false) := by
  unfold textN
  rw [dif_neg hi]
set_option maxHeartbeats 4000000 in
set_option maxRecDepth 100000 in
theorem text_call (h : BsAt W s p nm l v b D) (hlm : l.length ≤ 1000000) (i : Int) :
    Calls Tryz.prog 12 #[.pointer (some ⟨s, 0, none⟩), .int .i64 i] W fun e W' => e = .returned (.tuple #[.string (textN l i).1, .bool (textN l i).2]) ∧ Below W.heap.size W W' := by
  obtain ⟨c0, c1, c2, c3⟩ := h.cells
  by_cases hin : 1 ≤ i ∧ i ≤ l.length
  · obtain ⟨k, rfl⟩ : ∃ k : Nat, i = (k : Int) + 1 := ⟨(i - 1).toNat, by omega⟩
    have hk : k < l.length := by omega
    obtain ⟨g, n, rfl, hx, hn⟩ := h.text hk
    rw [textN_in hk]
    generalize l[k] = x at hx ⊢
    have d1 : decide ((k : Int) + 1 < 1) = false := decide_eq_false (by omega)
    have d2 : decide ((l.length : Int) < (k : Int) + 1) = false := decide_eq_false (by omega)
    clear h
    go_enter Tryz.func12, Tryz.ntmps12
    go_wp2
    exact bodyPost_ret (v := .tuple #[.string x, .bool true]) (by simp [results, Tryz.results12, go_sem]) rfl ⟨rfl, Below.refl _ _⟩
  · rw [textN_out hin]
    obtain ⟨A, n, rfl⟩ := h.slice
    clear h
    go_enter Tryz.func12, Tryz.ntmps12
    by_cases h1 : i < 1
    · have d1 : decide (i < 1) = true := decide_eq_true h1
      go_wp2
      exact bodyPost_ret (v := .tuple #[.string ⟨#[]⟩, .bool false]) (by simp [results, Tryz.results12, go_sem]) rfl ⟨rfl, Below.refl _ _⟩
    · have d1 : decide (i < 1) = false := decide_eq_false h1
      have d2 : decide ((l.length : Int) < i) = true := decide_eq_true (by omega)
      go_wp2
      exact bodyPost_ret (v := .tuple #[.string ⟨#[]⟩, .bool false]) (by simp [results, Tryz.results12, go_sem]) rfl ⟨rfl, Below.refl _ _⟩
end
end Go.Proofs.YtghbaehbgefpaaaGreatDoor.Fr
/- Rows of lists that a law gathers; what Open told is kept. -/
namespace Go.Proofs.YtghbaehbgefpaaaGreatDoor.Fr
open Go.RowKit Go.Proofs.YtghbaehbgefpaaaGreatDoor.F Go.Proofs.YtghbaehbgefpaaaGreatDoorW.PrintWords
set_option linter.unusedVariables false
set_option linter.unusedSimpArgs false
section
variable {w W W' W1 : World} {K K' : Nat → Prop} {m n p : Nat} {L L' : List (Nat × TS)} {T T' Tm Tm' : TS} {V V' : List Vw}
theorem Law.gk (h : Law w K m L Tm V W) : GK K W := fun W' hk => h.g0.below (h.bel.trans (hk.below h.bel.size h.kw))
/-- What is new and was told is kept. -/
theorem Law.told (h : Law w K m L Tm V W) {P : Vw} (hK : ∀ k, K k → K' k) (hs : Sts K' L' m Tm' W') (hk : Kp K W W') (hP : P W') (hst : ∀ W1 W2, Kp K' W1 W2 → P W1 → P W2) : Law w K' m L' Tm' (P :: V) W' :=
  { h.step (hs.drop hK) hk with
    sts := hs
    kw := fun k hk => hK k (h.kw k hk)
    vs := fun x hx => by
      rcases List.mem_cons.1 hx with rfl | hx
      · exact ⟨hP, hst⟩
      · exact ⟨((h.step (hs.drop hK) hk).vs x hx).1, fun W1 W2 hk => (h.vs x hx).2 W1 W2 (hk.mono hK)⟩ }
/-- Read's list: kept. -/
theorem Law.reads (h : Law w K m L Tm V W) {l : List (List ByteArray)} {v : Value} (hb : Below W.heap.size W W') (hv : Kd.S kLL 22 W' W.heap.size (fun _ => True) v l) :
    ∃ (K' O : Nat → Prop), Law w K' m L Tm ((fun W2 => Kd.S kLL 22 W2 W.heap.size O v l) :: V) W' ∧ ∀ k, K k → K' k := by
  refine ⟨fun k => K k ∨ (W.heap.size ≤ k ∧ k < W'.heap.size), fun k => W.heap.size ≤ k ∧ k < W'.heap.size, ?_, fun k hk => .inl hk⟩
  refine h.told (fun k hk => .inl hk) (h.sts.kept hb fun k hk => hk) (Kp.of hb) ?_ ?_
  · exact Kd.S_mono (Kd.S_bound hv) fun k hk => ⟨hk.2.1, hk.2.2.1⟩
  · intro W1 W2 hk h1
    exact Kd.S_step h1 fun k hk1 hlt => hk.block (.inr hk1) hlt
theorem S_at {W : World} {b : Nat} {ok : Nat → Prop} {v : Value} {l : List (List ByteArray)} (h : Kd.S kLL 22 W b ok v l) : ∃ A c, v = .slice A l.length c ∧ l.length ≤ c ∧ Kd.C kLL W A l.length l := Kd.S_reads h
/-- v: a row of the law's own, of lists that lay there when the law began. -/
structure InAt (w : World) (K : Nat → Prop) (W : World) (v : Value) (xs : List (List ByteArray)) (cells : List Value) : Prop where
  len : cells.length = xs.length
  row : W.ownsRow w.heap.size 22 1 v xs.length cells
  rk : ∀ k, v.ownBlock = some k → K k
  el : ∀ (i : Nat) (x : List ByteArray), xs[i]? = some x → ∃ A c, cells[i]? = some (Value.slice A x.length c) ∧ x.length ≤ c ∧ Kd.C Kd.string w A x.length x
section
variable {v v' : Value} {xs : List (List ByteArray)} {cells : List Value}
theorem InAt.kp (h : InAt w K W v xs cells) (hk : Kp K W W') : InAt w K W' v xs cells where
  len := h.len
  row := ownsRow_block h.row fun k hv => hk.block (h.rk k hv) (own_lt h.row k hv)
  rk := h.rk
  el := h.el
theorem InAt.below (h : InAt w K W v xs cells) (hb : Below W.heap.size W W') : InAt w K W' v xs cells := h.kp (Kp.of hb)
theorem InAt.more (h : InAt w K W v xs cells) (hK : ∀ k, K k → K' k) : InAt w K' W v xs cells := { h with rk := fun k hk => hK k (h.rk k hk) }
theorem InAt.slice (h : InAt w K W v xs cells) : ∃ A c, v = .slice A xs.length c := by
  rcases h.row.2 with ⟨rfl, e⟩ | ⟨g, cap, cur, rfl, _⟩
  · exact ⟨none, 0, by rw [e]⟩
  · exact ⟨_, _, rfl⟩
theorem InAt.reads (h : InAt w K W v xs cells) (hb : Below w.heap.size w W) : ∃ A c, v = .slice A xs.length c ∧ xs.length ≤ c ∧ Kd.C kLL W A xs.length xs := by
  have hR : OwnRow (kLL.K W) 22 1 W w.heap.size v xs := by
    refine ⟨cells, h.row, by rw [h.len, Nat.mul_one], fun j x hj => ?_⟩
    obtain ⟨A, c, h1, h2, h3⟩ := h.el j x hj
    refine ⟨A, c, ?_, h2, Kd.C_below h3 hb⟩
    rw [Nat.mul_one]
    obtain ⟨hlt, hget⟩ := List.getElem?_eq_some_iff.1 h1
    rw [List.drop_eq_getElem_cons hlt, hget]
    rfl
  obtain ⟨A, c, h1, h2, h3⟩ := hR.reads
  exact ⟨A, c, h1, h2, h3⟩
/-- Another row stays. -/
theorem InAt.other {u : Value} (h : InAt w K W v xs cells) (hc : Chg (fun k => u.ownBlock = some k) W W') (hne : ∀ k, v.ownBlock = some k → u.ownBlock ≠ some k) : InAt w K W' v xs cells where
  len := h.len
  row := ownsRow_block h.row fun k hv => hc.block k (own_lt h.row k hv) (hne k hv)
  rk := h.rk
  el := h.el
end
end
end Go.Proofs.YtghbaehbgefpaaaGreatDoor.Fr
/- (*Store).Id over the trees that a law holds. -/
namespace Go.Proofs.YtghbaehbgefpaaaGreatDoor.Fr
open Go.RowKit Go.Proofs.YtghbaehbgefpaaaGreatDoor.F Go.Proofs.YtghbaehbgefpaaaGreatDoorW.PrintWords Go.Maps
open Go.Proofs.YtghbaehbgefpaaaGreatDoor.Hand (putV takeV scanV)
set_option linter.unusedVariables false
set_option linter.unusedSimpArgs false
theorem C_one (W : World) (s : ByteArray) : Kd.C Kd.string (W.alloc (.cells #[.string s] 9)) (some ⟨W.heap.size, 0, none⟩) 1 [s] := by
  refine ⟨rfl, by decide, fun _ => ⟨_, rfl, fun j p hj => ?_⟩⟩
  have hj0 : j = 0 := by
    have := (List.getElem?_eq_some_iff.1 hj).1
    simp at this
    exact this
  subst hj0
  have hp : s = p := by simpa using hj
  subst hp
  refine ⟨[.string s], rfl, rfl, fun i u hu => ?_⟩
  have hi : i = 0 := by
    have := (List.getElem?_eq_some_iff.1 hu).1
    simp at this
    exact this
  subst hi
  have hu : Value.string s = u := by simpa using hu
  subst hu
  exact cell_box (World.alloc_heap_new W _) 0 rfl
/-- A store beside the trees. -/
structure StB (K : Nat → Prop) (L : List (Nat × TS)) (m : Nat) (Tm : TS) (W : World) (s p : Nat) (nm : ByteArray) (l : List ByteArray) (v : Value) (b : Nat) (D : DataW Unit) : Prop where
  sts : Sts (fun k => K k ∨ BsF s v b k) L m Tm W
  at_ : BsAt W s p nm l v b D
  off : ∀ k, BsF s v b k → ¬ K k
def StS (K : Nat → Prop) (L : List (Nat × TS)) (m : Nat) (Tm : TS) (s p : Nat) (nm : ByteArray) (l : List ByteArray) (W : World) : Prop := ∃ v b D, StB K L m Tm W s p nm l v b D
section
variable {K : Nat → Prop} {L L' : List (Nat × TS)} {m p i n s b : Nat} {T Tm Tm' : TS} {W W' : World} {nm : ByteArray} {l : List ByteArray} {v : Value} {D : DataW Unit}
/-- A call on the trees: the store stays. -/
theorem StB.step (h : StB K L m Tm W s p nm l v b D) (hs : Sts (fun k => K k ∨ BsF s v b k) L' m Tm' W') (hk : Kp (fun k => K k ∨ BsF s v b k) W W') : StB K L' m Tm' W' s p nm l v b D where
  sts := hs
  at_ := h.at_.kept fun k hb => hk.block (.inr hb) (h.at_.lt k hb)
  off := h.off
theorem StB.below (h : StB K L m Tm W s p nm l v b D) (hb : Below W.heap.size W W') : StB K L m Tm W' s p nm l v b D := h.step (h.sts.below hb) (Kp.of hb)
theorem StS.below (h : StS K L m Tm s p nm l W) (hb : Below W.heap.size W W') : StS K L m Tm s p nm l W' := by
  obtain ⟨v, b, D, h⟩ := h
  exact ⟨v, b, D, h.below hb⟩
theorem StB.glob (h : StB K L m Tm W s p nm l v b D) (hG : GK K W) : GK (fun k => K k ∨ BsF s v b k) W := hG.more fun k hk => .inl hk
theorem BsAt.nofile (h : BsAt W s p nm l v b D) {φ : Phi} (hF : FilesOK W φ) : ∀ q, φ q ≠ none → ¬ BsF s v b q := by
  intro q hq hb
  cases e : φ q with
  | none => exact hq e
  | some f =>
    have hc := hF q f e
    rcases hb with rfl | rfl | hb
    · rw [h.box] at hc
      have h2 := Option.some.inj hc
      injection h2 with _ h3
      exact absurd h3 (by decide)
    · obtain ⟨es, clock, hb, -⟩ := h.ids
      rw [hb] at hc
      have h2 := Option.some.inj hc
      cases h2
    · rcases h.row.2 with ⟨e2, -⟩ | ⟨g, cap, cur, e2, -, hg, -⟩
      · rw [e2] at hb
        cases hb
      · rw [e2] at hb
        obtain rfl : g = q := Option.some.inj hb
        rw [hg] at hc
        have h2 := Option.some.inj hc
        injection h2 with _ h3
        exact absurd h3 (by decide)
theorem StB.keep {t : ByteArray} (h : StB K L m Tm W s p nm l v b D) (hk : KeepEnd W s p nm l v b t W') : StS K L m Tm s p nm (l ++ [t]) W' ∧ Kp K W W' := by
  obtain ⟨v', D', h1, hc, hn⟩ := hk
  obtain ⟨φ, F, B, hs⟩ := h.sts
  refine ⟨⟨v', b, D', ⟨⟨φ, F, B, hs.chg hc (fun k e => .inr e) (h.at_.nofile hs.fl) ?_⟩, h1, ?_⟩⟩, hc.mono fun k _ e => h.off k e⟩
  · intro k hk
    rcases hk with hk | hk
    · exact .inl (.inl hk)
    · rcases hn k hk with e | e
      · exact .inl (.inr e)
      · exact .inr ⟨e, h1.lt k hk⟩
  · intro k hk e
    rcases hn k hk with e2 | e2
    · exact h.off k e2 e
    · have := h.sts.kb k (.inl e)
      omega
/-- How Id ends. -/
def IdEnd (K : Nat → Prop) (L : List (Nat × TS)) (m : Nat) (Tm : TS) (s p : Nat) (nm : ByteArray) (l : List ByteArray) (W : World) (x : Value) (e : Ending) (W' : World) : Prop :=
  e = .returned x ∧ StS K L m Tm s p nm l W' ∧ Kp K W W'
set_option maxHeartbeats 4000000 in
set_option maxRecDepth 100000 in
theorem StS.Id (h : StS K L m Tm s p nm l W) (hi : L[i]? = some (p, T)) (hG : GK K W) (hI : Inv n T) (hn : n ≤ 1000000) (hq : nm.size ≤ 99000) (t : ByteArray) (ht : t.size ≤ 100000) (hl : l.length ≤ 1000000) :
    Calls Tryz.prog 11 #[.pointer (some ⟨s, 0, none⟩), .string t] W (IdEnd K (L.set i (p, idT T nm l t)) m Tm s p nm (idL T nm l t) W (.tuple #[.int .i64 (idN T nm l t), .int .i64 (idE T nm l t)])) := by
  obtain ⟨v, b, D, h⟩ := h
  obtain ⟨c0, c1, c2, c3⟩ := h.at_.cells
  have HH := Lib.hid h
  have HG := Lib.hid (h.glob hG)
  have HI := Lib.hid hI
  have hle := idx_le l t
  by_cases h0 : idxB l t = 0
  · have HF := Lib.hid h0
    have HN : Hid (idN T nm l t = if addE T nm [t] = 0 then ((l.length + 1 : Nat) : Int) else 0) := by unfold Hid idN; rw [if_neg (fun e => e h0)]
    have HE : Hid (idE T nm l t = addE T nm [t]) := by unfold Hid idE; rw [if_neg (fun e => e h0)]
    have HL : Hid (idL T nm l t = if addE T nm [t] = 0 then l ++ [t] else l) := by unfold Hid idL; rw [if_neg (fun e => e h0)]
    have HT : Hid (idT T nm l t = addT T nm [t]) := by unfold Hid idT; rw [if_neg (fun e => e h0)]
    have HX : Hid (∀ x ∈ [t], x.size ≤ 100000) := fun x hx => by rw [List.mem_singleton.1 hx]; exact ht
    rw [HN.out, HE.out, HL.out, HT.out]
    have hfd : Hid (∀ W1, Below W.heap.size W W1 → Calls Tryz.prog 13 #[.pointer (some ⟨s, 0, none⟩), .string t] W1 fun e W' => e = .returned (.int .i64 0) ∧ Below W1.heap.size W1 W') := fun W1 hb => by
      have := find_call (h.below hb).at_ t (Nat.le_trans ht (by decide))
      rw [h0] at this
      exact this
    clear h hG hI h0 hle HN HE HL HT
    have HC1 := Lib.hid fun w1 : World => C_one w1 t
    have HNL : Hid (([t] : List ByteArray).length ≤ 1) := Nat.le_refl _
    generalize hadE : addE T nm [t] = er
    generalize hadT : addT T nm [t] = T1
    have HAD : Hid (∀ W1, Below W.heap.size W W1 → Calls Tryz.prog 23 #[.pointer (some ⟨p, 0, none⟩), .string nm, .slice (some ⟨W1.heap.size, 0, none⟩) 1 1] (W1.alloc (.cells #[.string t] 9)) (StEnd (fun k => K k ∨ BsF s v b k) (L.set i (p, T1)) m Tm (W1.alloc (.cells #[.string t] 9)) (.int .i64 er))) := fun W1 hb => by
      have hb2 := hb.trans ((newBelow W1 (.cells #[.string t] 9)).mono hb.size)
      have := (HH.out.below hb2).sts.jAdd hi ((HG.out.step (Kp.of hb2)).now) HI.out hn nm hq (some ⟨W1.heap.size, 0, none⟩) 1 [t] (HC1.out W1) (Nat.le_refl _) HX.out
      rw [hadE, hadT] at this
      exact this
    clear hadT HG HI HC1 HNL HX
    have HCD : Hid (er = 0 ∨ er ≠ 0) := by unfold Hid; omega
    clear hadE
    by_cases he : er = 0
    · subst he
      rw [if_pos rfl, if_pos rfl]
      go_enter Tryz.func11, Tryz.ntmps11
      go_upto_region 4 with (go_at_call 13; refine (hfd.out _ (Below.refl _ _)).mono ?_; rintro e w1 ⟨rfl, hb⟩; have HB := Lib.hid hb; have d0 := (hb.cell (p := ⟨s, 0, none⟩) (HH.out.at_.lt s (.inl rfl))).trans c0; have d1 := (hb.cell (p := ⟨s, 1, none⟩) (HH.out.at_.lt s (.inl rfl))).trans c1; clear hb)
      have hsl := Nat.lt_of_lt_of_le (HH.out.at_.lt s (.inl rfl)) HB.out.size
      have HAL : Hid (∀ o : Obj, (w1.drew.alloc o).cell? ⟨s, 0, none⟩ = some (.pointer (some ⟨p, 0, none⟩)) ∧ (w1.drew.alloc o).cell? ⟨s, 1, none⟩ = some (.string nm)) := fun o => ⟨((newBelow w1.drew o).cell (p := ⟨s, 0, none⟩) hsl).trans d0, ((newBelow w1.drew o).cell (p := ⟨s, 1, none⟩) hsl).trans d1⟩
      clear hsl
      go_region_held3 (fun W => W.cell? ⟨s, 0, none⟩ = some (.pointer (some ⟨p, 0, none⟩)) ∧ W.cell? ⟨s, 1, none⟩ = some (.string nm)) (first | exact ⟨HS.out.at_.cells.1, HS.out.at_.cells.2.1⟩ | exact HAL.out _ | exact ⟨d0, d1⟩) (first | (go_at_call 23; refine (HAD.out w1.drew HB.out.drew).mono ?_; rintro e w2 ⟨rfl, hs, hk⟩; have hk2 := (Kp.of (K := fun k => K k ∨ BsF s v b k) (HB.out.drew.trans ((newBelow w1.drew (.cells #[.string t] 9)).mono HB.out.size))).trans hk; have HS := Lib.hid (HH.out.step hs hk2); have HK := Lib.hid (hk2.mono (K' := K) fun k hk => .inl hk); clear hs hk hk2))
      go_wp2_with (first | (go_at_call 30; refine (keep_call HS.out.at_ t ht hl HF.out).mono ?_; rintro e w3 ⟨rfl, hk⟩; have HE := Lib.hid (HS.out.keep hk); clear hk))
      exact bodyPost_ret (v := .tuple #[.int .i64 ((l.length + 1 : Nat) : Int), .int .i64 0]) (by simp [results, Tryz.results11, go_sem]) rfl ⟨rfl, HE.out.1, HK.out.trans HE.out.2⟩
    · rw [if_neg he, if_neg he]
      go_enter Tryz.func11, Tryz.ntmps11
      go_upto_region 4 with (go_at_call 13; refine (hfd.out _ (Below.refl _ _)).mono ?_; rintro e w1 ⟨rfl, hb⟩; have HB := Lib.hid hb; have d0 := (hb.cell (p := ⟨s, 0, none⟩) (HH.out.at_.lt s (.inl rfl))).trans c0; have d1 := (hb.cell (p := ⟨s, 1, none⟩) (HH.out.at_.lt s (.inl rfl))).trans c1; clear hb)
      have hsl := Nat.lt_of_lt_of_le (HH.out.at_.lt s (.inl rfl)) HB.out.size
      have HAL : Hid (∀ o : Obj, (w1.drew.alloc o).cell? ⟨s, 0, none⟩ = some (.pointer (some ⟨p, 0, none⟩)) ∧ (w1.drew.alloc o).cell? ⟨s, 1, none⟩ = some (.string nm)) := fun o => ⟨((newBelow w1.drew o).cell (p := ⟨s, 0, none⟩) hsl).trans d0, ((newBelow w1.drew o).cell (p := ⟨s, 1, none⟩) hsl).trans d1⟩
      clear hsl
      go_region_held3 (fun W => W.cell? ⟨s, 0, none⟩ = some (.pointer (some ⟨p, 0, none⟩)) ∧ W.cell? ⟨s, 1, none⟩ = some (.string nm)) (first | exact ⟨HS.out.at_.cells.1, HS.out.at_.cells.2.1⟩ | exact HAL.out _ | exact ⟨d0, d1⟩) (first | (go_at_call 23; refine (HAD.out w1.drew HB.out.drew).mono ?_; rintro e w2 ⟨rfl, hs, hk⟩; have hk2 := (Kp.of (K := fun k => K k ∨ BsF s v b k) (HB.out.drew.trans ((newBelow w1.drew (.cells #[.string t] 9)).mono HB.out.size))).trans hk; have HS := Lib.hid (HH.out.step hs hk2); have HK := Lib.hid (hk2.mono (K' := K) fun k hk => .inl hk); clear hs hk hk2))
      go_wp2_with fail
      exact bodyPost_ret (v := .tuple #[.int .i64 0, .int .i64 er]) (by simp [results, Tryz.results11, go_sem]) rfl ⟨rfl, ⟨v, b, D, HS.out⟩, HK.out⟩
  · have HN : Hid (idN T nm l t = (idxB l t : Nat)) := by unfold Hid idN; rw [if_pos h0]
    have HE : Hid (idE T nm l t = 0) := by unfold Hid idE; rw [if_pos h0]
    have HL : Hid (idL T nm l t = l) := by unfold Hid idL; rw [if_pos h0]
    have HT : Hid (idT T nm l t = T) := by unfold Hid idT; rw [if_pos h0]
    rw [HN.out, HE.out, HL.out, HT.out]
    have hfd := Lib.hid (find_call h.at_ t (Nat.le_trans ht (by decide)))
    rw [set_same hi]
    generalize idxB l t = k at hfd h0 hle ⊢
    have h1 : 0 < k := by omega
    clear h hG hI HN HE HL HT h0
    go_enter Tryz.func11, Tryz.ntmps11
    go_wp2_with (go_at_call 13; refine hfd.out.mono ?_; rintro e w1 ⟨rfl, hb⟩; have HB := Lib.hid hb; clear hb)
    exact bodyPost_ret (v := .tuple #[.int .i64 (k : Nat), .int .i64 0]) (by simp [results, Tryz.results11, go_sem]) rfl ⟨rfl, ⟨v, b, D, HH.out.below HB.out⟩, Kp.of HB.out⟩
end
end Go.Proofs.YtghbaehbgefpaaaGreatDoor.Fr
/- blob.Open at a journal of single texts, each once. -/
namespace Go.Proofs.YtghbaehbgefpaaaGreatDoor.Fr
open Go.RowKit Go.Proofs.YtghbaehbgefpaaaGreatDoor.F Go.Proofs.YtghbaehbgefpaaaGreatDoorW.PrintWords Go.Maps
open Go.Proofs.YtghbaehbgefpaaaGreatDoor.Hand (putV takeV scanV)
set_option linter.unusedVariables false
set_option linter.unusedSimpArgs false
theorem at_one {w : World} {A : Option Addr} {x : ByteArray} (h : Kd.C Kd.string w A 1 [x]) : ∃ ad, A = some ad ∧ w.cell? ad = some (.string x) := by
  obtain ⟨ad, c, e, h1, h2, hc⟩ := Kd.C_get h ⟨#[]⟩ 0 (by omega) (by omega)
  have h3 : c = [.string x] := h2
  subst h3
  have := hc 0 _ rfl
  exact ⟨ad, e, this⟩
section
variable {K : Nat → Prop} {L L' : List (Nat × TS)} {m p i n s b : Nat} {T Tm Tm' : TS} {W W' : World} {nm : ByteArray} {l : List ByteArray} {v : Value} {D : DataW Unit}
/-- A store that holds nothing, made anew. -/
theorem Sts.store (h : Sts K L m Tm W) (p : Nat) (nm : ByteArray) :
    StS K L m Tm (W.heap.size + 1) p nm [] ((W.alloc (.map #[] 0)).alloc (.cells #[.pointer (some ⟨p, 0, none⟩), .string nm, .slice none 0 0, .map (some W.heap.size)] 68)) := by
  have hb := newBelow2 W (.map #[] 0) (.cells #[.pointer (some ⟨p, 0, none⟩), .string nm, .slice none 0 0, .map (some W.heap.size)] 68)
  have hsz : ((W.alloc (.map #[] 0)).alloc (.cells #[.pointer (some ⟨p, 0, none⟩), .string nm, .slice none 0 0, .map (some W.heap.size)] 68)).heap.size = W.heap.size + 2 := by
    rw [World.size_alloc, World.size_alloc]
  have hF : ∀ k, BsF (W.heap.size + 1) (.slice none 0 0) W.heap.size k → W.heap.size ≤ k ∧ k < W.heap.size + 2 := by
    rintro k (rfl | rfl | e)
    · omega
    · omega
    · cases e
  refine ⟨.slice none 0 0, W.heap.size, .map [], ⟨h.kept hb fun k hk => hk.imp id fun e => by rw [hsz]; exact hF k e, ⟨new2 W _ _, ⟨rfl, .inl ⟨rfl, rfl⟩⟩, ?_, fun t => rfl⟩, fun k hk e => by have := h.kb k e; have := hF k hk; omega⟩⟩
  obtain ⟨es, clock, hb1, F, hs, hD⟩ := World.ownsMap_made (H := Unit) W Tryz.prog 9 (plainElem Tryz.prog 3)
  exact ⟨es, clock, (Below.heap_alloc _ _ _ (by rw [World.size_alloc]; omega)).trans hb1, F, hs, hD⟩
theorem StS.drop {K' : Nat → Prop} (h : StS K' L m Tm s p nm l W) (hK : ∀ k, K k → K' k) : StS K L m Tm s p nm l W := by
  obtain ⟨v, b, D, h⟩ := h
  exact ⟨v, b, D, ⟨h.sts.drop fun k hk => hk.imp (hK k) id, h.at_, fun k hk e => h.off k hk (hK k e)⟩⟩
/-- How Open ends. -/
def BOpenEnd (K : Nat → Prop) (L : List (Nat × TS)) (m : Nat) (Tm : TS) (p : Nat) (nm : ByteArray) (l : List ByteArray) (W : World) (e : Ending) (W' : World) : Prop :=
  ∃ s, e = .returned (.tuple #[.pointer (some ⟨s, 0, none⟩), .int .i64 0]) ∧ StS K L m Tm s p nm l W' ∧ Kp K W W'
set_option maxHeartbeats 4000000 in
set_option maxRecDepth 100000 in
theorem Sts.bOpen (h : Sts K L m Tm W) (hi : L[i]? = some (p, T)) (hG : GK K W) (hI : Inv n T) (hn : n + 4 ≤ 1000000) (hr : T.room ≤ 2000000) (nm : ByteArray) (hq : nm.size ≤ 99000)
    (he : openE T nm = 0) (l : List ByteArray) (hl : openL T nm = l.map fun x => [x]) (hd : l.Nodup) (hs : ∀ x ∈ l, x.size ≤ 100000) (hll : l.length ≤ 900000) :
    Calls Tryz.prog 10 #[.pointer (some ⟨p, 0, none⟩), .string nm] W (BOpenEnd K (L.set i (p, openT T nm)) m Tm p nm l W) := by
  have HJ := Lib.hid (h.jOpen hi hG hI hn hr nm hq)
  rw [he, hl] at HJ
  have HLM : Hid ((l.map fun x => [x]).length = l.length) := by rw [Hid, List.length_map]
  have HD : Hid (∀ (k : Nat) (hk : k < l.length), l[k] ∉ l.take k) := by
    intro k hk hm
    have h1 : (l.take k ++ l.drop k).Nodup := by rw [List.take_append_drop]; exact hd
    have h2 : l[k] ∈ l.drop k := by rw [List.drop_eq_getElem_cons hk]; exact List.mem_cons_self
    exact (List.pairwise_append.1 h1).2.2 _ hm _ h2 rfl
  have HSZ := Lib.hid hs
  generalize L.set i (p, openT T nm) = L1 at HJ ⊢
  clear h hG hI hr he hl hd hs
  have hmm := @run_makeMap Tryz.prog
  go_enter Tryz.func10, Tryz.ntmps10
  go_upto_region 4 with (go_at_call 29; refine HJ.out.mono ?_; rintro e w1 hE; obtain ⟨v, K1, rfl, hKK, hs1, hk1, hv⟩ := hE; obtain ⟨A1, n1, rfl⟩ := Kd.S_slice hv; have HKK := Lib.hid hKK; have HS1 := Lib.hid hs1; have HK1 := Lib.hid hk1; have HV := Lib.hid hv; clear hKK hs1 hk1 hv)
  have HST := Lib.hid (HS1.out.store p nm)
  have HB2 := Lib.hid (newBelow2 w1 (.map #[] 0) (.cells #[.pointer (some ⟨p, 0, none⟩), .string nm, .slice none 0 0, .map (some w1.heap.size)] 68))
  go_upto_region 5 with fail
  clear hmm
  generalize w1.heap.size + 1 = s at HST ⊢
  generalize ((w1.alloc (.map #[] 0)).alloc (.cells #[.pointer (some ⟨p, 0, none⟩), .string nm, .slice none 0 0, .map (some w1.heap.size)] 68)) = w2 at HST HB2 ⊢
  have HK2 := Lib.hid (Kp.of (K := K1) HB2.out)
  go_upto_region 6 with fail
  go_loopw [29] (fun i wr => ∃ k : Nat, k ≤ l.length ∧ i = .int .i64 k ∧ Hid (StS K1 L1 m Tm s p nm (l.take k) wr) ∧ Hid (Kp K1 w1 wr))
    (fun i _ => l.length - (intOf i).toNat)
  case atStart => exact ⟨0, Nat.zero_le _, rfl, HST, HK2⟩
  case round =>
    clear HST HK2 HB2
    obtain ⟨k, hk, rfl, HST, HK2⟩ := hrel
    by_cases hlk : k < l.length
    · obtain ⟨-, hc1, hC1⟩ := Kd.S_reads' (Kd.S_step HV.out (fun j hj hlt => HK2.out.block hj.1 hlt))
      obtain ⟨ad, Ae, ce, e, hce, hcl, hCe⟩ := at_LL hC1 (show k < (l.map fun x => [x]).length by rw [HLM.out]; exact hlk)
      subst e
      have e2 : (l.map fun x => [x])[k]'(by rw [HLM.out]; exact hlk) = [l[k]] := List.getElem_map _
      rw [e2] at hce hcl hCe
      obtain ⟨ad2, e3, hx⟩ := at_one hCe
      subst e3
      have hce : wr.cell? (ad.add k) = some (.slice (some ad2) 1 ce) := hce
      have HX : Hid (l[k].size ≤ 100000) := HSZ.out _ (List.getElem_mem hlk)
      have HI0 : Hid (idxB (l.take k) l[k] = 0) := idx_zero.2 (HD.out k hlk)
      have HTK : Hid (l.take (k + 1) = l.take k ++ [l[k]]) := List.take_succ_eq_append_getElem hlk
      generalize l[k] = x at hx HX HI0 HTK
      clear e2 hC1 hCe hc1 hcl
      obtain ⟨v, b, D, hB⟩ := HST.out
      have HBB := Lib.hid hB
      have hlook := (hB.at_.kept (W' := wr.drew) fun _ _ => rfl).look x (by have := HX.out; unfold maxLen; omega)
      rw [HI0.out] at hlook
      obtain ⟨c0, c1, c2, c3⟩ := hB.at_.cells
      clear hB
      go_upto_region 8 with fail
      have HBd := Lib.hid (HBB.out.below (Below.refl _ wr).drew)
      have HLT : Hid ((l.take k).length ≤ 1000000) := by
        have := List.length_take_le k l
        unfold Hid
        omega
      go_region
      go_wp2_with (go_at_call 30; refine (keep_call HBd.out.at_ x HX.out HLT.out HI0.out).mono ?_; rintro e w3 ⟨rfl, hk3⟩; have HE := Lib.hid (HBd.out.keep hk3); clear hk3)
      go_roundw
      case rel =>
        refine ⟨k + 1, by omega, by go_num, ?_, HK2.out.trans ((Kp.of (Below.refl _ wr).drew).trans HE.out.2)⟩
        rw [HTK.out]
        exact HE.out.1
      case measure => simp [intOf]; omega
    · obtain rfl : k = l.length := by omega
      have hS := HST.out
      rw [List.take_length] at hS
      have HS := Lib.hid hS
      clear hS
      obtain ⟨v, b, D, hB⟩ := HS.out
      have HBB := Lib.hid hB
      clear hB
      go_wp2_with (go_at_call 14; refine (len_call HBB.out.at_).mono ?_; rintro e w3 ⟨rfl, hb⟩; have HB3 := Lib.hid hb; clear hb)
      go_ret2
      exact ⟨s, rfl, StS.drop ⟨v, b, D, HBB.out.below HB3.out⟩ HKK.out, HK1.out.trans ((HK2.out.trans (Kp.of HB3.out)).mono HKK.out)⟩
end
end Go.Proofs.YtghbaehbgefpaaaGreatDoor.Fr
/- Journals in a tree with room, plain. -/
namespace Go.Proofs.YtghbaehbgefpaaaGreatDoor.Fr
open Go.RowKit Go.Proofs.YtghbaehbgefpaaaGreatDoor.F Go.Proofs.YtghbaehbgefpaaaGreatDoorW.PrintWords
open Go.Proofs.YtghbaehbgefpaaaGreatDoor.Hand (putV takeV scanV)
open Go.Proofs.YtghbaehbgefpaaaGreatDoor.PureL (cat cat_app cat_behind cat_size)
set_option linter.unusedVariables false
set_option linter.unusedSimpArgs false
theorem read_text (T : TS) (q : ByteArray) : (readT T q).1 = textF T.l q := by
  unfold readT textF
  cases findF T.l q <;> rfl
theorem same_false' {a b : ByteArray} (h : a ≠ b) : sameB a b = false := by
  unfold sameB
  cases e : a.data.toList == b.data.toList with
  | false => rfl
  | true => exact absurd (ba_eq (eq_of_beq e)) h
theorem same_self (a : ByteArray) : sameB a a = true := by unfold sameB; exact beq_self_eq_true _
theorem srt_eq {l k : List Fl} (hl : Srt l) (hk : Srt k) (h : ∀ x, x ∈ l ↔ x ∈ k) : l = k := by
  induction l generalizing k with
  | nil =>
    cases k with
    | nil => rfl
    | cons y r => exact absurd ((h y).2 List.mem_cons_self) (by simp)
  | cons x r ih =>
    cases k with
    | nil => exact absurd ((h x).1 List.mem_cons_self) (by simp)
    | cons y s =>
      obtain ⟨h1, h2⟩ := srt_cons.1 hl
      obtain ⟨h3, h4⟩ := srt_cons.1 hk
      have e : x = y := by
        rcases List.mem_cons.1 ((h x).1 List.mem_cons_self) with e | e
        · exact e
        · rcases List.mem_cons.1 ((h y).2 List.mem_cons_self) with e2 | e2
          · exact e2.symm
          · have a1 := h3 x e
            have a2 := h1 y e2
            exact absurd (ltB_trans a2 a1) (ltB_irrefl _)
      subst e
      congr 1
      refine ih h2 h4 fun z => ?_
      constructor
      · intro hz
        rcases List.mem_cons.1 ((h z).1 (List.mem_cons_of_mem _ hz)) with e | e
        · subst e
          exact absurd (h1 z hz) (ltB_irrefl _)
        · exact e
      · intro hz
        rcases List.mem_cons.1 ((h z).2 (List.mem_cons_of_mem _ hz)) with e | e
        · subst e
          exact absurd (h3 z hz) (ltB_irrefl _)
        · exact e
/-- Names of which none is another one's directory, all of them paths. -/
structure NS (N : List ByteArray) : Prop where
  way : ∀ a ∈ N, ∀ b ∈ N, wayF a b = false
  path : ∀ a ∈ N, pathV a = true
  many : N.length ≤ 100
theorem filter_lt {N : List ByteArray} {a : ByteArray} (h : a ∈ N) : (N.filter fun x => !sameB x a).length < N.length := by
  induction N with
  | nil => cases h
  | cons x t ih =>
    have hle : (t.filter fun x => !sameB x a).length ≤ t.length := List.length_filter_le _ _
    rcases List.mem_cons.1 h with rfl | h
    · rw [List.filter_cons, if_neg (by rw [same_self]; decide), List.length_cons]
      omega
    · have := ih h
      rw [List.filter_cons]
      split
      · rw [List.length_cons, List.length_cons]; omega
      · rw [List.length_cons]; omega
theorem len_names : ∀ (l : List Fl) (N : List ByteArray), Srt l → (∀ f ∈ l, f.f0 ∈ N) → l.length ≤ N.length := by
  intro l
  induction l with
  | nil => intro N _ _; exact Nat.zero_le _
  | cons f r ih =>
    intro N hs hn
    obtain ⟨h1, h2⟩ := srt_cons.1 hs
    have hf := hn f (List.mem_cons_self ..)
    have := ih (N.filter fun x => !sameB x f.f0) h2 fun g hg => by
      rw [List.mem_filter]
      refine ⟨hn g (List.mem_cons_of_mem _ hg), ?_⟩
      have hne : g.f0 ≠ f.f0 := fun e => ltB_irrefl f.f0 (by have := h1 g hg; rw [e] at this; exact this)
      rw [same_false' hne]
      rfl
    have := filter_lt hf
    rw [List.length_cons]
    omega
/-- A tree whose files' names are among N; so many bytes. -/
structure Jn (R : Nat) (N : List ByteArray) (n u : Nat) (T : TS) : Prop where
  inv : Inv n T
  room : T.room = (R : Int)
  rle : R ≤ 2000000
  names : ∀ f ∈ T.l, f.f0 ∈ N
  used : usedF T.l ≤ u
theorem Jn.mono {R : Nat} {N : List ByteArray} {n u n' u' : Nat} {T : TS} (h : Jn R N n u T) (h1 : n ≤ n') (h2 : u ≤ u') : Jn R N n' u' T := ⟨h.inv.mono h1, h.room, h.rle, h.names, Nat.le_trans h.used h2⟩
theorem jn_new {R : Nat} (h1 : 1 ≤ R) (h2 : R ≤ 2000000) (N : List ByteArray) : Jn R N 0 0 (newT R) := ⟨inv_new (by omega) (by omega), rfl, h2, fun f hf => (by cases hf), Nat.le_refl _⟩
section
variable {R : Nat} {N : List ByteArray} {n u : Nat} {T : TS}
theorem Jn.many (h : Jn R N n u T) : T.l.length ≤ N.length := len_names _ _ h.inv.good.srt h.names
theorem Jn.free (hN : NS N) (h : Jn R N n u T) {q : ByteArray} (hq : q ∈ N) (but : ByteArray) : blockT T.l q but = false := by
  unfold blockT
  rw [List.any_eq_false]
  intro f hf
  have h1 := hN.way _ (h.names f hf) _ hq
  have h2 := hN.way _ hq _ (h.names f hf)
  unfold testB
  simp [h1, h2]
theorem Jn.write0 (hN : NS N) (hN2 : N.length ≤ 100) (h : Jn R N n u T) {q : ByteArray} (hq : q ∈ N) (st : Bool) (s : ByteArray) (hu : u + s.size ≤ R) : writeE T st q s = 0 := by
  have h1 := had_le T.l q
  have h2 := h.used
  have hrl := h.rle
  have h3 : sizeT T st q s ≤ hadT T q + s.size ∧ (usedF T.l : Int) - hadT T q + sizeT T st q s ≤ usedF T.l + s.size := by
    unfold sizeT hadT
    split <;> omega
  have h4 := h.many
  have h5 : manyT T q ≤ 101 := by
    unfold manyT
    split <;> omega
  have hh : hadT T q = (textF T.l q).size := rfl
  unfold writeE
  rw [hN.path q hq, if_neg (by decide), if_neg (by omega), h.free hN hq, if_neg (by decide), if_neg]
  unfold fullT
  rw [Bool.or_eq_true, decide_eq_true_eq, decide_eq_true_eq, h.room]
  omega
theorem write_done {st : Bool} {q s : ByteArray} (h : writeE T st q s = 0) : writeT T st q s = doneT T (writeC T st q s) := by
  unfold writeT
  rw [if_pos h]
/-- The text of a file, behind a write. -/
theorem write_text0 (hI : Inv n T) {q s : ByteArray} (h : writeE T false q s = 0) : (writeT T false q s).l = putF T.l ⟨q, s, T.clock + 1⟩ := by rw [write_done h]; rfl
theorem write_text1 (hI : Inv n T) {q s : ByteArray} (h : writeE T true q s = 0) : (writeT T true q s).l = putF T.l ⟨q, textF T.l q ++ s, T.clock + 1⟩ := by rw [write_done h]; rfl
theorem text_put {l : List Fl} (h : Srt l) (f : Fl) : textF (putF l f) f.f0 = f.f1 := by unfold textF; rw [find_put h]
theorem text_put_ne {l : List Fl} (h : Srt l) (f : Fl) {q : ByteArray} (hq : q ≠ f.f0) : textF (putF l f) q = textF l q := by unfold textF; rw [find_put_ne h f hq]
theorem Jn.append (hN : NS N) (h : Jn R N n u T) {q s : ByteArray} (hq : q ∈ N) (hu : u + s.size ≤ R) :
    writeE T true q s = 0 ∧ Jn R N (n + 1) (u + s.size) (writeT T true q s) ∧ textF (writeT T true q s).l q = textF T.l q ++ s ∧ (∀ p, p ≠ q → textF (writeT T true q s).l p = textF T.l p ∧ findF (writeT T true q s).l p = findF T.l p) ∧ writeT T true q s = doneT T ⟨2, q, s, T.clock + 1⟩ := by
  have he := h.write0 hN hN.many hq true s hu
  have hl := write_text1 h.inv he
  have hrl := h.rle
  have hsz : s.size ≤ 1000000000 := by omega
  obtain ⟨p1, p2⟩ := put_used h.inv.good.srt ⟨q, textF T.l q ++ s, T.clock + 1⟩
  rw [ByteArray.size_append] at p1
  have hu2 := h.used
  refine ⟨he, ⟨inv_write h.inv true hsz, by rw [write_room, h.room], h.rle, fun f hf => ?_, ?_⟩, ?_, fun p hp => ⟨?_, ?_⟩, ?_⟩
  · rw [hl] at hf
    rcases mem_put.1 hf with rfl | hf
    · exact hq
    · exact h.names f hf.1
  · rw [hl]
    have e : textF T.l ({ f0 := q, f1 := textF T.l q ++ s, f2 := T.clock + 1 } : Fl).f0 = textF T.l q := rfl
    rw [e] at p1
    omega
  · rw [hl]
    exact text_put h.inv.good.srt _
  · rw [hl]
    exact text_put_ne h.inv.good.srt _ hp
  · rw [hl]
    exact find_put_ne h.inv.good.srt _ hp
  · rw [write_done he]
    rfl
theorem remove_if {q : ByteArray} (h : findF T.l q = none) : removeT T q = T := by
  unfold removeT removeE
  rw [h]
  rfl
theorem remove_some {q : ByteArray} (h : (findF T.l q).isSome = true) : removeT T q = doneT T ⟨3, q, ⟨#[]⟩, 0⟩ := by
  unfold removeT removeE
  rw [h]
  rfl
theorem used_drop {l : List Fl} (h : Srt l) (q : ByteArray) : usedF (dropF l q) ≤ usedF l := by
  cases e : findF l q with
  | none => rw [drop_none e]; exact Nat.le_refl _
  | some f => have := (drop_some h e).1; omega
theorem Jn.remove (h : Jn R N n u T) (q : ByteArray) :
    Jn R N (n + 1) u (removeT T q) ∧ (∀ p, p ≠ q → findF (removeT T q).l p = findF T.l p) ∧ findF (removeT T q).l q = none := by
  cases e : findF T.l q with
  | none =>
    rw [remove_if e]
    exact ⟨h.mono (Nat.le_succ n) (Nat.le_refl u), fun p hp => rfl, e⟩
  | some f =>
    have hI := inv_remove h.inv q
    rw [remove_some (by rw [e]; rfl)] at hI ⊢
    have hl : (doneT T ⟨3, q, ⟨#[]⟩, 0⟩).l = dropF T.l q := rfl
    refine ⟨⟨hI, h.room, h.rle, fun g hg => ?_, ?_⟩, fun p hp => ?_, ?_⟩
    · rw [hl] at hg
      exact h.names g (mem_drop.1 hg).1
    · rw [hl]
      exact Nat.le_trans (used_drop h.inv.good.srt q) h.used
    · rw [hl]
      exact find_drop_ne h.inv.good.srt hp
    · rw [hl]
      exact find_drop _ _
theorem Jn.sync (h : Jn R N n u T) : Jn R N n u (syncT T) := ⟨inv_syncT h.inv, h.room, h.rle, h.names, h.used⟩
theorem text_find {l k : List Fl} {q : ByteArray} (h : findF l q = findF k q) : textF l q = textF k q := by unfold textF; rw [h]
/-- Written anew. -/
theorem Jn.anew1 (hN : NS N) (h : Jn R N n u T) {q s : ByteArray} (hq : q ∈ N) (hb : besN q ∈ N) (hne : besN q ≠ q) (hu : u + s.size ≤ R) :
    anew1E T q s = 0 ∧ Jn R N (n + 3) (u + s.size) (anew1T T q s) ∧ textF (anew1T T q s).l q = s ∧ findF (anew1T T q s).l (besN q) = none ∧ (∀ p, p ≠ q → p ≠ besN q → findF (anew1T T q s).l p = findF T.l p) ∧
      (anew1T T q s).ch = [] ∧ (anew1T T q s).last = (anew1T T q s).l ∧ writeE T false (besN q) s = 0 ∧ renameE (writeT T false (besN q) s) (besN q) q = 0 ∧ anew1T T q s = syncT (doneT (doneT T ⟨1, besN q, s, T.clock + 1⟩) ⟨4, besN q, q, 0⟩) := by
  have he := h.write0 hN hN.many hb false s hu
  have hrl := h.rle
  have hI := inv_write h.inv false (q := besN q) (s := s) (by omega)
  have hl := write_text0 h.inv he
  have hsrt := h.inv.good.srt
  have hJ1 : Jn R N (n + 1) (u + s.size) (writeT T false (besN q) s) := by
    refine ⟨hI, by rw [write_room, h.room], h.rle, fun f hf => ?_, ?_⟩
    · rw [hl] at hf
      rcases mem_put.1 hf with rfl | hf
      · exact hb
      · exact h.names f hf.1
    · rw [hl]
      have p1 := (put_used hsrt ⟨besN q, s, T.clock + 1⟩).1
      have := h.used
      simp only at p1
      omega
  have hf1 : findF (writeT T false (besN q) s).l (besN q) = some ⟨besN q, s, T.clock + 1⟩ := by
    rw [hl]
    exact find_put hsrt ⟨besN q, s, T.clock + 1⟩
  have hblk := hJ1.free hN hq (besN q)
  have hre : renameE (writeT T false (besN q) s) (besN q) q = 0 := by
    unfold renameE
    rw [hf1, hN.path q hq, same_false' hne, hblk]
    rfl
  have hrt : renameT (writeT T false (besN q) s) (besN q) q = doneT (writeT T false (besN q) s) ⟨4, besN q, q, 0⟩ := by
    unfold renameT
    rw [if_pos ⟨by rw [hf1]; rfl, hN.path q hq, same_false' hne, hblk⟩]
  have hrl : (renameT (writeT T false (besN q) s) (besN q) q).l = putF (dropF (writeT T false (besN q) s).l (besN q)) ⟨q, s, T.clock + 1⟩ := by
    rw [hrt]
    show afterF _ ⟨4, besN q, q, 0⟩ = _
    show (match findF (writeT T false (besN q) s).l (besN q) with | none => _ | some f => _) = _
    rw [hf1]
  have hI2 := inv_rename hI (besN q) q
  have hsd := srt_drop hI.good.srt (besN q)
  have hds : dropF (writeT T false (besN q) s).l (besN q) = dropF T.l (besN q) := by
    rw [hl]
    have key : ∀ x, x ∈ dropF (putF T.l ⟨besN q, s, T.clock + 1⟩) (besN q) ↔ x ∈ dropF T.l (besN q) := fun x => by
      rw [mem_drop, mem_drop, mem_put]
      constructor
      · rintro ⟨rfl | h1, h2⟩
        · exact absurd rfl h2
        · exact ⟨h1.1, h2⟩
      · rintro ⟨h1, h2⟩
        exact ⟨.inr ⟨h1, h2⟩, h2⟩
    exact srt_eq (srt_drop (srt_put hsrt _) _) (srt_drop hsrt _) key
  have ha : anew1T T q s = syncT (renameT (writeT T false (besN q) s) (besN q) q) := by
    unfold anew1T
    rw [if_pos he, if_pos hre]
  have hal : (anew1T T q s).l = putF (dropF T.l (besN q)) ⟨q, s, T.clock + 1⟩ := by
    rw [ha, ← hds]
    exact hrl
  have hsd0 := srt_drop hsrt (besN q)
  refine ⟨by unfold anew1E; rw [if_pos he]; exact hre, ⟨inv_anew1 h.inv q s (by omega), by rw [anew1_room, h.room], h.rle, fun f hf => ?_, ?_⟩, ?_, ?_, fun p hp hp2 => ?_, by rw [ha]; rfl, by rw [ha]; rfl, he, hre, by rw [ha, hrt, write_done he]; rfl⟩
  · rw [hal] at hf
    rcases mem_put.1 hf with rfl | hf
    · exact hq
    · exact h.names f (mem_drop.1 hf.1).1
  · rw [hal]
    have p1 := (put_used hsd0 ⟨q, s, T.clock + 1⟩).1
    have p2 := used_drop hsrt (besN q)
    have := h.used
    simp only at p1
    omega
  · rw [hal]
    exact text_put hsd0 ⟨q, s, T.clock + 1⟩
  · rw [hal, find_put_ne hsd0 ⟨q, s, T.clock + 1⟩ hne]
    exact find_drop _ _
  · rw [hal, find_put_ne hsd0 ⟨q, s, T.clock + 1⟩ hp]
    exact find_drop_ne hsrt hp2
end
end Go.Proofs.YtghbaehbgefpaaaGreatDoor.Fr
/- Journals behind a crash, plain. -/
namespace Go.Proofs.YtghbaehbgefpaaaGreatDoor.Fr
open Go.RowKit Go.Proofs.YtghbaehbgefpaaaGreatDoor.F Go.Proofs.YtghbaehbgefpaaaGreatDoorW.PrintWords
open Go.Proofs.YtghbaehbgefpaaaGreatDoor.Hand (putV takeV scanV)
open Go.Proofs.YtghbaehbgefpaaaGreatDoor.PureL (cat cat_app cat_behind cat_size)
set_option linter.unusedVariables false
set_option linter.unusedSimpArgs false
/-- The records of a journal among those that were added to some. -/
def sel (q : ByteArray) : List (ByteArray × List ByteArray) → List (List ByteArray)
  | [] => []
  | y :: r => if y.1 = q then y.2 :: sel q r else sel q r
theorem sel_app (q : ByteArray) (a b : List (ByteArray × List ByteArray)) : sel q (a ++ b) = sel q a ++ sel q b := by
  induction a with
  | nil => rfl
  | cons y r ih =>
    rw [List.cons_append, sel, sel, ih]
    split <;> rfl
theorem sel_lines {q : ByteArray} {ys : List (ByteArray × List ByteArray)} (h : ∀ y ∈ ys, (putV y.2).2 = 0) : Lines (sel q ys) := by
  induction ys with
  | nil => intro l hl; cases hl
  | cons y r ih =>
    have i := ih fun z hz => h z (List.mem_cons_of_mem _ hz)
    intro l hl
    rw [sel] at hl
    split at hl
    · rcases List.mem_cons.1 hl with rfl | hl
      · exact h y (List.mem_cons_self ..)
      · exact i l hl
    · exact i l hl
/-- Changes that add these records. -/
def ChOf (ys : List (ByteArray × List ByteArray)) (cs : List Cg) : Prop := cs.map (fun c => (c.f0, c.f1, c.f2)) = ys.map (fun y => ((2 : Int), y.1, (putV y.2).1))
theorem ChOf.nil : ChOf [] [] := rfl
theorem ChOf.snoc {ys : List (ByteArray × List ByteArray)} {cs : List Cg} (h : ChOf ys cs) (q : ByteArray) (l : List ByteArray) (t : Int) : ChOf (ys ++ [(q, l)]) (cs ++ [⟨2, q, (putV l).1, t⟩]) := by
  unfold ChOf at h ⊢
  rw [List.map_append, List.map_append, h]
  rfl
theorem ChOf.len {ys : List (ByteArray × List ByteArray)} {cs : List Cg} (h : ChOf ys cs) : cs.length = ys.length := by
  have := congrArg List.length h
  rwa [List.length_map, List.length_map] at this
theorem ChOf.take {ys : List (ByteArray × List ByteArray)} {cs : List Cg} (h : ChOf ys cs) (k : Nat) : ChOf (ys.take k) (cs.take k) := by
  unfold ChOf at h ⊢
  rw [List.map_take, List.map_take, h]
theorem ChOf.cons {y : ByteArray × List ByteArray} {ys : List (ByteArray × List ByteArray)} {cs : List Cg} (h : ChOf (y :: ys) cs) : ∃ c r, cs = c :: r ∧ c.f0 = 2 ∧ c.f1 = y.1 ∧ c.f2 = (putV y.2).1 ∧ ChOf ys r := by
  cases cs with
  | nil => cases h
  | cons c r =>
    have h : (c.f0, c.f1, c.f2) :: r.map _ = _ :: ys.map _ := h
    injection h with h1 h2
    injection h1 with a1 h1
    injection h1 with a2 a3
    exact ⟨c, r, rfl, a1, a2, a3, h2⟩
theorem ChOf.at {ys : List (ByteArray × List ByteArray)} {cs : List Cg} (h : ChOf ys cs) {k : Nat} (hk : k < ys.length) : ∃ c, cs[k]? = some c ∧ c.f0 = 2 ∧ c.f1 = ys[k].1 ∧ c.f2 = (putV ys[k].2).1 := by
  have hl : k < cs.length := by rw [h.len]; exact hk
  have e : (cs.map (fun c => (c.f0, c.f1, c.f2)))[k]? = (ys.map (fun y => ((2 : Int), y.1, (putV y.2).1)))[k]? := congrArg (·[k]?) h
  rw [List.getElem?_map, List.getElem?_map, List.getElem?_eq_getElem hl, List.getElem?_eq_getElem hk] at e
  injection e with e
  injection e with a1 e
  injection e with a2 a3
  exact ⟨cs[k], List.getElem?_eq_getElem hl, a1, a2, a3⟩
theorem after_text {l : List Fl} (hs : Srt l) {c : Cg} (hc : c.f0 = 2) (q : ByteArray) : textF (afterF l c) q = textF l q ++ (if c.f1 = q then c.f2 else e0) := by
  have e : afterF l c = putF l ⟨c.f1, textF l c.f1 ++ c.f2, c.f3⟩ := by
    unfold afterF
    rw [if_neg (by omega), if_pos hc]
  rw [e]
  by_cases h : c.f1 = q
  · subst h
    rw [if_pos rfl]
    exact text_put hs ⟨c.f1, textF l c.f1 ++ c.f2, c.f3⟩
  · rw [if_neg h, app_e0]
    exact text_put_ne hs ⟨c.f1, textF l c.f1 ++ c.f2, c.f3⟩ (fun e => h e.symm)
theorem fold_text (q : ByteArray) : ∀ (ys : List (ByteArray × List ByteArray)) (cs : List Cg) (l : List Fl) (xs : List (List ByteArray)), Srt l → ChOf ys cs → textF l q = cat xs e0 → textF (foldF l cs) q = cat (xs ++ sel q ys) e0 := by
  intro ys
  induction ys with
  | nil =>
    intro cs l xs hs h hx
    have : cs = [] := List.length_eq_zero_iff.1 h.len
    subst this
    rw [sel, List.append_nil]
    exact hx
  | cons y r ih =>
    intro cs l xs hs h hx
    obtain ⟨c, cr, rfl, h0, h1, h2, h3⟩ := h.cons
    have ht := after_text hs h0 q
    show textF (foldF (afterF l c) cr) q = _
    rw [h1, h2, hx] at ht
    rw [sel]
    by_cases e : y.1 = q
    · rw [if_pos e, ← cat_snoc] at ht
      rw [if_pos e, ih cr _ (xs ++ [y.2]) (srt_after hs c) h3 ht, List.append_assoc]
      rfl
    · rw [if_neg e, app_e0] at ht
      rw [if_neg e]
      exact ih cr _ xs (srt_after hs c) h3 ht
theorem fold_srt : ∀ (cs : List Cg) (l : List Fl), Srt l → Srt (foldF l cs) := by
  intro cs
  induction cs with
  | nil => intro l h; exact h
  | cons c r ih => intro l h; exact ih _ (srt_after h c)
theorem cut_cases {l : List ByteArray} (h : (putV l).2 = 0) (part : Int) (hp : 1 ≤ part) : (cutS (putV l).1 part = (putV l).1 ∧ ((putV l).1.size : Int) ≤ part) ∨ ∀ c ∈ (cutS (putV l).1 part).data.toList, c ≠ 10 := by
  unfold cutS
  rw [if_neg (by omega)]
  by_cases hs : ((putV l).1.size : Int) ≤ part
  · left
    refine ⟨?_, hs⟩
    have e : (min part (((putV l).1.size : Nat) : Int)).toNat = (putV l).1.size := by omega
    rw [e]
    exact ByteArray.extract_zero_size
  · rcases line_cut h (min part (((putV l).1.size : Nat) : Int)).toNat with e | e
    · exfalso
      have := congrArg ByteArray.size e
      rw [ByteArray.size_extract] at this
      omega
    · exact .inr e
/-- Behind a crash each journal has its first records, and perhaps a torn one. -/
theorem crash_dec {T : TS} {ys : List (ByteArray × List ByteArray)} (hs : Srt T.last) (hc : ChOf ys T.ch) (hy : ∀ y ∈ ys, (putV y.2).2 = 0) (many part : Int) :
    ∃ j, keptN many ys.length ≤ j ∧ j ≤ ys.length ∧ (j = keptN many ys.length ∨ ∃ h : keptN many ys.length < ys.length, ((putV ys[keptN many ys.length].2).1.size : Int) ≤ part) ∧ ∀ q xs, textF T.last q = cat xs e0 → Lines xs → ∃ r, Dec (textF (crashT T many part).l q) (xs ++ sel q (ys.take j)) r := by
  have hk : keptN many ys.length ≤ ys.length := by unfold keptN; omega
  have hl : (crashT T many part).l = crashL T many part := rfl
  have hfold : ∀ (k : Nat) q xs, textF T.last q = cat xs e0 → textF (foldF T.last (T.ch.take k)) q = cat (xs ++ sel q (ys.take k)) e0 := fun k q xs h => fold_text q (ys.take k) _ _ xs hs (hc.take k) h
  have hyk : ∀ (k : Nat) q, Lines (sel q (ys.take k)) := fun k q => sel_lines fun y h => hy y (List.mem_of_mem_take h)
  have happ : ∀ {xs : List (List ByteArray)} (k : Nat) (q : ByteArray), Lines xs → Lines (xs ++ sel q (ys.take k)) := fun k q h l hm => (List.mem_append.1 hm).elim (h l) (hyk k q l)
  rw [hl]
  unfold crashL
  rw [hc.len]
  generalize keptN many ys.length = k at hk
  simp only
  by_cases hlt : k < ys.length
  · obtain ⟨c, e1, c0, c1, c2⟩ := hc.at hlt
    rw [e1]
    simp only
    by_cases hp : c.f0 ≤ 2 ∧ 1 ≤ part
    · rw [if_pos hp]
      have hz := hy _ (List.getElem_mem hlt)
      have hsr := fold_srt (T.ch.take k) _ hs
      have hcut0 : (cutC c part).f0 = 2 := c0
      have hcut1 : (cutC c part).f1 = ys[k].1 := c1
      have hcut2 : (cutC c part).f2 = cutS (putV ys[k].2).1 part := by rw [← c2]; rfl
      have htk : ys.take (k + 1) = ys.take k ++ [ys[k]] := List.take_succ_eq_append_getElem hlt
      rcases cut_cases hz part hp.2 with hw | hw
      · refine ⟨k + 1, by omega, hlt, .inr ⟨hlt, hw.2⟩, fun q xs hx hxs => ⟨e0, ?_⟩⟩
        have ht := after_text hsr hcut0 q
        rw [hfold k q xs hx, hcut1, hcut2, hw.1] at ht
        rw [ht, htk, sel_app]
        have e3 : sel q [ys[k]] = if ys[k].1 = q then [ys[k].2] else [] := by
          rw [sel, sel]
        rw [e3]
        have hall := happ (k + 1) q hxs
        rw [htk, sel_app, e3] at hall
        split
        next hq =>
          rw [if_pos hq] at hall
          rw [← List.append_assoc] at hall ⊢
          rw [← cat_snoc]
          exact dec_cat hall
        next hq =>
          rw [if_neg hq] at hall
          rw [List.append_nil] at hall ⊢
          rw [app_e0]
          exact dec_cat hall
      · refine ⟨k, Nat.le_refl _, hk, .inl rfl, fun q xs hx hxs => ?_⟩
        have ht := after_text hsr hcut0 q
        rw [hfold k q xs hx, hcut1, hcut2] at ht
        rw [ht]
        by_cases hq : ys[k].1 = q
        · rw [if_pos hq, cat_behind, e0_app]
          exact ⟨_, dec_part (happ k q hxs) hw⟩
        · rw [if_neg hq, app_e0]
          exact ⟨e0, dec_cat (happ k q hxs)⟩
    · rw [if_neg hp]
      exact ⟨k, Nat.le_refl _, hk, .inl rfl, fun q xs hx hxs => ⟨e0, by rw [hfold k q xs hx]; exact dec_cat (happ k q hxs)⟩⟩
  · have e1 : T.ch[k]? = none := List.getElem?_eq_none (by rw [hc.len]; omega)
    rw [e1]
    exact ⟨k, Nat.le_refl _, hk, .inl rfl, fun q xs hx hxs => ⟨e0, by rw [hfold k q xs hx]; exact dec_cat (happ k q hxs)⟩⟩
end Go.Proofs.YtghbaehbgefpaaaGreatDoor.Fr
/- Journals that are added to, synced, opened, plain. -/
namespace Go.Proofs.YtghbaehbgefpaaaGreatDoor.Fr
open Go.RowKit Go.Proofs.YtghbaehbgefpaaaGreatDoor.F Go.Proofs.YtghbaehbgefpaaaGreatDoorW.PrintWords
open Go.Proofs.YtghbaehbgefpaaaGreatDoor.Hand (putV takeV scanV)
open Go.Proofs.YtghbaehbgefpaaaGreatDoor.PureL (cat cat_app cat_behind cat_size)
set_option linter.unusedVariables false
set_option linter.unusedSimpArgs false
/-- X: what the journals had at the last sync; ys: what was added since. -/
structure Jl (R : Nat) (N : List ByteArray) (n u : Nat) (T : TS) (X : ByteArray → List (List ByteArray)) (ys : List (ByteArray × List ByteArray)) : Prop where
  jn : Jn R N n u T
  last : ∀ q, textF T.last q = cat (X q) e0
  srt : Srt T.last
  xl : ∀ q, Lines (X q)
  ch : ChOf ys T.ch
  yl : ∀ y ∈ ys, (putV y.2).2 = 0
section
variable {R : Nat} {N : List ByteArray} {n u : Nat} {T : TS} {X : ByteArray → List (List ByteArray)} {ys : List (ByteArray × List ByteArray)}
theorem jl_new {R : Nat} (h1 : 1 ≤ R) (h2 : R ≤ 2000000) (N : List ByteArray) : Jl R N 0 0 (newT R) (fun _ => []) [] := ⟨jn_new h1 h2 N, fun q => rfl, List.Pairwise.nil, fun q l hl => (by cases hl), rfl, fun y hy => (by cases hy)⟩
theorem Jl.mono {n' u' : Nat} (h : Jl R N n u T X ys) (h1 : n ≤ n') (h2 : u ≤ u') : Jl R N n' u' T X ys := { h with jn := h.jn.mono h1 h2 }
theorem Jl.lines (h : Jl R N n u T X ys) (q : ByteArray) : Lines (X q ++ sel q ys) := fun l hl => (List.mem_append.1 hl).elim (h.xl q l) (sel_lines h.yl l)
theorem Jl.now (h : Jl R N n u T X ys) (q : ByteArray) : textF T.l q = cat (X q ++ sel q ys) e0 := by
  rw [← h.jn.inv.fold]
  exact fold_text q ys _ _ (X q) h.srt h.ch (h.last q)
theorem Jl.add (hN : NS N) (h : Jl R N n u T X ys) {q : ByteArray} (hq : q ∈ N) (hb : besN q ∈ N) {l : List ByteArray} (hl : (putV l).2 = 0) {b : Nat} (hs : (putV l).1.size ≤ b) (hu : u + b ≤ R) :
    addE T q l = 0 ∧ Jl R N (n + 1) (u + b) (addT T q l) X (ys ++ [(q, l)]) ∧ (addT T q l).last = T.last := by
  obtain ⟨a1, a2, a3, a4, a5⟩ := h.jn.append hN (q := q) (s := (putV l).1) hq (by omega)
  have e1 : addE T q l = 0 := by
    unfold addE
    rw [hN.path _ hb, if_neg (by decide), if_pos hl, a1]
  have e2 : addT T q l = writeT T true q (putV l).1 := by
    unfold addT
    rw [hN.path _ hb, if_neg (by decide), if_pos hl]
  rw [e2]
  refine ⟨e1, ⟨a2.mono (Nat.le_refl _) (by omega), ?_, ?_, h.xl, ?_, ?_⟩, ?_⟩
  · rw [a5]
    exact h.last
  · rw [a5]
    exact h.srt
  · rw [a5]
    exact h.ch.snoc q l _
  · intro y hy
    rcases List.mem_append.1 hy with hy | hy
    · exact h.yl y hy
    · rw [List.mem_singleton.1 hy]
      exact hl
  · rw [a5]
    rfl
theorem Jl.sync (h : Jl R N n u T X ys) : Jl R N n u (syncT T) (fun q => X q ++ sel q ys) [] :=
  ⟨h.jn.sync, fun q => h.now q, h.jn.inv.good.srt, h.lines, rfl, fun y hy => (by cases hy)⟩
/-- Bytes of changes that add. -/
def bytesY (ys : List (ByteArray × List ByteArray)) : Nat := (ys.map fun y => (putV y.2).1.size).sum
theorem after_used {l : List Fl} (hs : Srt l) {c : Cg} (hc : c.f0 = 2) : usedF (afterF l c) = usedF l + c.f2.size := by
  have e : afterF l c = putF l ⟨c.f1, textF l c.f1 ++ c.f2, c.f3⟩ := by
    unfold afterF
    rw [if_neg (by omega), if_pos hc]
  have := (put_used hs ⟨c.f1, textF l c.f1 ++ c.f2, c.f3⟩).1
  rw [e]
  rw [ByteArray.size_append] at this
  have e2 : textF l ({ f0 := c.f1, f1 := textF l c.f1 ++ c.f2, f2 := c.f3 } : Fl).f0 = textF l c.f1 := rfl
  rw [e2] at this
  omega
theorem after_names {l : List Fl} {c : Cg} (hc : c.f0 = 2) {f : Fl} (hf : f ∈ afterF l c) : f.f0 = c.f1 ∨ ∃ g ∈ l, g.f0 = f.f0 := by
  have e : afterF l c = putF l ⟨c.f1, textF l c.f1 ++ c.f2, c.f3⟩ := by
    unfold afterF
    rw [if_neg (by omega), if_pos hc]
  rw [e] at hf
  rcases mem_put.1 hf with rfl | hf
  · exact .inl rfl
  · exact .inr ⟨f, hf.1, rfl⟩
theorem after_has {l : List Fl} {c : Cg} (hc : c.f0 = 2) {N : List ByteArray} (h : ∀ f ∈ afterF l c, f.f0 ∈ N) : c.f1 ∈ N ∧ ∀ f ∈ l, f.f0 ∈ N := by
  have e : afterF l c = putF l ⟨c.f1, textF l c.f1 ++ c.f2, c.f3⟩ := by
    unfold afterF
    rw [if_neg (by omega), if_pos hc]
  rw [e] at h
  have h1 := h _ (mem_put.2 (.inl rfl))
  refine ⟨h1, fun f hf => ?_⟩
  by_cases e2 : f.f0 = c.f1
  · rw [e2]; exact h1
  · exact h f (mem_put.2 (.inr ⟨hf, e2⟩))
theorem fold_used : ∀ (ys : List (ByteArray × List ByteArray)) (cs : List Cg) (l : List Fl), Srt l → ChOf ys cs → usedF (foldF l cs) = usedF l + bytesY ys := by
  intro ys
  induction ys with
  | nil =>
    intro cs l hs h
    have : cs = [] := List.length_eq_zero_iff.1 h.len
    subst this
    rfl
  | cons y r ih =>
    intro cs l hs h
    obtain ⟨c, cr, rfl, h0, h1, h2, h3⟩ := h.cons
    show usedF (foldF (afterF l c) cr) = _
    rw [ih cr _ (srt_after hs c) h3, after_used hs h0, h2]
    unfold bytesY
    rw [List.map_cons, List.sum_cons]
    omega
theorem fold_names : ∀ (ys : List (ByteArray × List ByteArray)) (cs : List Cg) (l : List Fl) (N : List ByteArray), ChOf ys cs → (∀ f ∈ foldF l cs, f.f0 ∈ N) → (∀ f ∈ l, f.f0 ∈ N) ∧ ∀ c ∈ cs, c.f1 ∈ N := by
  intro ys
  induction ys with
  | nil =>
    intro cs l N h hn
    have : cs = [] := List.length_eq_zero_iff.1 h.len
    subst this
    exact ⟨hn, fun c hc => (by cases hc)⟩
  | cons y r ih =>
    intro cs l N h hn
    obtain ⟨c, cr, rfl, h0, h1, h2, h3⟩ := h.cons
    have h4 := ih cr _ N h3 hn
    have h5 := after_has h0 h4.1
    refine ⟨h5.2, fun d hd => ?_⟩
    rcases List.mem_cons.1 hd with rfl | hd
    · exact h5.1
    · exact h4.2 d hd
theorem fold_in : ∀ (ys : List (ByteArray × List ByteArray)) (cs : List Cg) (l : List Fl) (N : List ByteArray), ChOf ys cs → (∀ f ∈ l, f.f0 ∈ N) → (∀ c ∈ cs, c.f1 ∈ N) → ∀ f ∈ foldF l cs, f.f0 ∈ N := by
  intro ys
  induction ys with
  | nil =>
    intro cs l N h hn _
    have : cs = [] := List.length_eq_zero_iff.1 h.len
    subst this
    exact hn
  | cons y r ih =>
    intro cs l N h hn hcs
    obtain ⟨c, cr, rfl, h0, h1, h2, h3⟩ := h.cons
    refine ih cr _ N h3 (fun f hf => ?_) fun d hd => hcs d (List.mem_cons_of_mem _ hd)
    rcases after_names h0 hf with e | ⟨g, hg, e⟩
    · rw [e]; exact hcs c (List.mem_cons_self ..)
    · rw [← e]; exact hn g hg
theorem bytesY_app (a b : List (ByteArray × List ByteArray)) : bytesY (a ++ b) = bytesY a + bytesY b := by
  unfold bytesY
  rw [List.map_append, List.sum_append]
theorem bytesY_take (ys : List (ByteArray × List ByteArray)) (k : Nat) : bytesY (ys.take k) ≤ bytesY ys := by
  have := bytesY_app (ys.take k) (ys.drop k)
  rw [List.take_append_drop] at this
  omega
theorem cutS_size {s : ByteArray} {part : Int} (hp : 1 ≤ part) : (cutS s part).size ≤ s.size := by
  unfold cutS
  rw [if_neg (by omega), ByteArray.size_extract]
  omega
/-- Behind a crash. -/
theorem Jl.crash (h : Jl R N n u T X ys) (many part : Int) :
    Jn R N n u (crashT T many part) ∧ (crashT T many part).ch = [] ∧ ∃ j, keptN many ys.length ≤ j ∧ j ≤ ys.length ∧ (j = keptN many ys.length ∨ ∃ h : keptN many ys.length < ys.length, ((putV ys[keptN many ys.length].2).1.size : Int) ≤ part) ∧ ∀ q, ∃ r, Dec (textF (crashT T many part).l q) (X q ++ sel q (ys.take j)) r := by
  obtain ⟨j, h1, h2, h4, h3⟩ := crash_dec h.srt h.ch h.yl many part
  refine ⟨⟨inv_crash h.jn.inv many part, h.jn.room, h.jn.rle, ?_, ?_⟩, rfl, j, h1, h2, h4, fun q => h3 q (X q) (h.last q) (h.xl q)⟩
  · have hn : ∀ f ∈ foldF T.last T.ch, f.f0 ∈ N := by rw [h.jn.inv.fold]; exact h.jn.names
    obtain ⟨n1, n2⟩ := fold_names ys T.ch T.last N h.ch hn
    show ∀ f ∈ crashL T many part, f.f0 ∈ N
    unfold crashL
    generalize keptN many T.ch.length = k
    have n3 := fold_in _ _ _ N (h.ch.take k) n1 fun c hc => n2 c (List.mem_of_mem_take hc)
    simp only
    cases e : T.ch[k]? with
    | none => exact n3
    | some c =>
      simp only
      split
      next hc =>
        intro f hf
        have hc2 : (cutC c part).f0 = 2 := by
          obtain ⟨hlt, hget⟩ := List.getElem?_eq_some_iff.1 e
          obtain ⟨c', e1, c0, -⟩ := h.ch.at (k := k) (by rw [← h.ch.len]; exact hlt)
          rw [e] at e1
          cases e1
          exact c0
        rcases after_names hc2 hf with e2 | ⟨g, hg, e2⟩
        · rw [e2]
          exact n2 c (List.mem_of_getElem? e)
        · rw [← e2]
          exact n3 g hg
      next => exact n3
  · have hu := h.jn.used
    rw [← h.jn.inv.fold, fold_used ys _ _ h.srt h.ch] at hu
    show usedF (crashL T many part) ≤ u
    unfold crashL
    generalize keptN many T.ch.length = k
    have n3 := fold_used _ _ _ h.srt (h.ch.take k)
    have n4 := bytesY_take ys k
    simp only
    cases e : T.ch[k]? with
    | none => simp only; omega
    | some c =>
      simp only
      split
      next hc =>
        obtain ⟨hlt, hget⟩ := List.getElem?_eq_some_iff.1 e
        have hky : k < ys.length := by rw [← h.ch.len]; exact hlt
        obtain ⟨c', e1, c0, c1, c2⟩ := h.ch.at hky
        rw [e] at e1
        cases e1
        have hc2 : (cutC c part).f0 = 2 := c0
        rw [after_used (fold_srt _ _ h.srt) hc2, n3]
        have hs : (cutC c part).f2.size ≤ (putV ys[k].2).1.size := by rw [← c2]; exact cutS_size hc.2
        have n5 := bytesY_take ys (k + 1)
        rw [List.take_succ_eq_append_getElem hky, bytesY_app] at n5
        have e3 : bytesY [ys[k]] = (putV ys[k].2).1.size := by
          unfold bytesY
          rw [List.map_singleton, List.sum_singleton]
        omega
      next => omega
/-- Opened: the lines, and nothing behind. -/
theorem open_dec (hN : NS N) (h : Jn R N n u T) {q : ByteArray} (hq : q ∈ N) (hb : besN q ∈ N) (hne : besN q ≠ q) {xs : List (List ByteArray)} {r : ByteArray} (hd : Dec (textF T.l q) xs r) (hu : r.size ≠ 0 → u + u ≤ R) :
    openE T q = 0 ∧ openL T q = xs ∧ Jn R N (n + 4) (u + u) (openT T q) ∧ (r.size = 0 → Jn R N (n + 4) u (openT T q)) ∧ textF (openT T q).l q = cat xs e0 ∧ findF (openT T q).l (besN q) = none ∧
      (∀ p, p ≠ q → p ≠ besN q → findF (openT T q).l p = findF T.l p) ∧ (openT T q).ch = [] ∧ (openT T q).last = (openT T q).l := by
  obtain ⟨r1, r2, r3⟩ := h.remove (besN q)
  have ht : textF (removeT T (besN q)).l q = textF T.l q := text_find (r2 q (fun e => hne e.symm))
  have hd2 := hd
  rw [← ht] at hd2
  have hrl : readL (removeT T (besN q)) q = xs := by
    unfold readL
    rw [read_text, hd2.scan]
  have hrw : readW (removeT T (besN q)) q = decide (r.size = 0) := by
    unfold readW
    rw [read_text]
    exact hd2.whole
  have hpb := hN.path _ hb
  have hE : openE T q = if r.size = 0 then 0 else anewE (removeT T (besN q)) q xs := by
    unfold openE
    rw [hpb, if_neg (by decide), hrl, hrw]
    by_cases hr : r.size = 0
    · rw [if_pos hr, if_pos (decide_eq_true hr)]
    · rw [if_neg hr, if_neg (by rw [decide_eq_false hr]; decide)]
  have hT : openT T q = if r.size = 0 then syncT (removeT T (besN q)) else anewT (removeT T (besN q)) q xs := by
    unfold openT
    rw [hpb, if_neg (by decide), hrl, hrw]
    by_cases hr : r.size = 0
    · rw [if_pos hr, if_pos (decide_eq_true hr)]
    · rw [if_neg hr, if_neg (by rw [decide_eq_false hr]; decide)]
  by_cases hr : r.size = 0
  · rw [if_pos hr] at hE hT
    have hL : openL T q = xs := by unfold openL; rw [if_pos hE, hrl]
    rw [hT]
    refine ⟨hE, hL, (r1.sync).mono (by omega) (by omega), fun _ => (r1.sync).mono (by omega) (Nat.le_refl u), ?_, r3, fun p hp hp2 => r2 p hp2, rfl, rfl⟩
    show textF (removeT T (besN q)).l q = _
    rw [ht, hd.eq, size_e0 hr]
  · rw [if_neg hr] at hE hT
    have hu := hu hr
    have hcs : (cat xs e0).size ≤ u := by
      have h1 := hd.size
      have h2 := had_le T.l q
      have h3 := h.used
      omega
    obtain ⟨a1, a2, a3, a4, a5, a6, a7, -⟩ := r1.anew1 hN (s := cat xs e0) hq hb hne (by omega)
    have hE2 : anewE (removeT T (besN q)) q xs = 0 := by
      unfold anewE
      rw [hpb, if_neg (by decide), putAll_ok hd.ok, if_pos rfl]
      exact a1
    have hT2 : anewT (removeT T (besN q)) q xs = anew1T (removeT T (besN q)) q (cat xs e0) := by
      unfold anewT
      rw [hpb, if_neg (by decide), putAll_ok hd.ok, if_pos rfl]
    rw [hE2] at hE
    rw [hT2] at hT
    have hL : openL T q = xs := by unfold openL; rw [if_pos hE, hrl]
    rw [hT]
    exact ⟨hE, hL, a2.mono (by omega) (by omega), fun e => absurd e hr, a3, a4, fun p hp hp2 => (a5 p hp hp2).trans (r2 p hp2), a6, a7⟩
theorem Jl.of (h : Jn R N n u T) (hc : T.ch = []) (hl : T.last = T.l) (hx : ∀ q, textF T.l q = cat (X q) e0) (hxl : ∀ q, Lines (X q)) : Jl R N n u T X [] :=
  ⟨h, fun q => by rw [hl]; exact hx q, by rw [hl]; exact h.inv.good.srt, hxl, by rw [hc]; rfl, fun y hy => (by cases hy)⟩
end
end Go.Proofs.YtghbaehbgefpaaaGreatDoor.Fr
/- The journal that a store lies on: what a law tells of it, plain. -/
namespace Go.Proofs.YtghbaehbgefpaaaGreatDoor.Fr
open Go.RowKit Go.Proofs.YtghbaehbgefpaaaGreatDoor.F Go.Proofs.YtghbaehbgefpaaaGreatDoorW.PrintWords
open Go.Proofs.YtghbaehbgefpaaaGreatDoor.Hand (putV takeV scanV)
open Go.Proofs.YtghbaehbgefpaaaGreatDoor.PureL (cat cat_app cat_behind cat_size put_of line_len putV_size)
set_option linter.unusedVariables false
set_option linter.unusedSimpArgs false
theorem ns_of {N : List ByteArray} (h1 : (N.all fun a => N.all fun b => !wayF a b) = true) (h2 : N.all pathV = true) (h3 : N.length ≤ 100) : NS N where
  way := fun a ha b hb => by
    have := List.all_eq_true.1 (List.all_eq_true.1 h1 a ha) b hb
    simpa using this
  path := fun a ha => List.all_eq_true.1 h2 a ha
  many := h3
/-- A journal alone: xs at the last sync, ys since. -/
def at1 (q : ByteArray) (xs : List (List ByteArray)) : ByteArray → List (List ByteArray) := fun p => if p = q then xs else []
theorem sel_own (q : ByteArray) (ys : List (List ByteArray)) : sel q (ys.map fun y => (q, y)) = ys := by
  induction ys with
  | nil => rfl
  | cons y r ih => rw [List.map_cons, sel, if_pos rfl, ih]
theorem sel_not {q p : ByteArray} (h : q ≠ p) (ys : List (List ByteArray)) : sel p (ys.map fun y => (q, y)) = [] := by
  induction ys with
  | nil => rfl
  | cons y r ih => rw [List.map_cons, sel, if_neg h, ih]
theorem at1_add (q : ByteArray) (xs ys : List (List ByteArray)) : (fun p => at1 q xs p ++ sel p (ys.map fun y => (q, y))) = at1 q (xs ++ ys) := by
  funext p
  unfold at1
  by_cases h : p = q
  · rw [if_pos h, if_pos h, h, sel_own]
  · rw [if_neg h, if_neg h, sel_not (fun e => h e.symm)]
    rfl
structure J1 (R : Nat) (N : List ByteArray) (q : ByteArray) (n u : Nat) (T : TS) (xs ys : List (List ByteArray)) : Prop where
  jl : Jl R N n u T (at1 q xs) (ys.map fun y => (q, y))
section
variable {R : Nat} {N : List ByteArray} {q : ByteArray} {n u : Nat} {T : TS} {xs ys : List (List ByteArray)}
theorem j1_new {R : Nat} (h1 : 1 ≤ R) (h2 : R ≤ 2000000) (N : List ByteArray) (q : ByteArray) : J1 R N q 0 0 (newT R) [] [] := ⟨{ jl_new h1 h2 N with
  last := fun p => by
    have : at1 q [] p = [] := by unfold at1; split <;> rfl
    rw [this]
    exact (jl_new h1 h2 N).last p
  xl := fun p => by
    have : at1 q [] p = [] := by unfold at1; split <;> rfl
    rw [this]
    exact fun l hl => by cases hl }⟩
theorem J1.mono {n' u' : Nat} (h : J1 R N q n u T xs ys) (h1 : n ≤ n') (h2 : u ≤ u') : J1 R N q n' u' T xs ys := ⟨h.jl.mono h1 h2⟩
theorem J1.sync (h : J1 R N q n u T xs ys) : J1 R N q n u (syncT T) (xs ++ ys) [] := ⟨by
  have := h.jl.sync
  rw [at1_add] at this
  exact this⟩
theorem J1.inv (h : J1 R N q n u T xs ys) : Inv n T := h.jl.jn.inv
theorem J1.room (h : J1 R N q n u T xs ys) : T.room ≤ 2000000 := by have := h.jl.jn.rle; rw [h.jl.jn.room]; omega
theorem J1.add (hN : NS N) (h : J1 R N q n u T xs ys) (hq : q ∈ N) (hb : besN q ∈ N) {l : List ByteArray} (hl : (putV l).2 = 0) {b : Nat} (hs : (putV l).1.size ≤ b) (hu : u + b ≤ R) :
    addE T q l = 0 ∧ J1 R N q (n + 1) (u + b) (addT T q l) xs (ys ++ [l]) := by
  obtain ⟨h1, h2, h3⟩ := h.jl.add hN hq hb hl hs hu
  refine ⟨h1, ⟨?_⟩⟩
  rw [List.map_append]
  exact h2
theorem J1.lines (h : J1 R N q n u T xs ys) : Lines (xs ++ ys) := by
  have := h.jl.lines q
  unfold at1 at this
  rw [if_pos rfl, sel_own] at this
  exact this
theorem J1.now (h : J1 R N q n u T xs ys) : textF T.l q = cat (xs ++ ys) e0 := by
  have := h.jl.now q
  unfold at1 at this
  rw [if_pos rfl, sel_own] at this
  exact this
theorem J1.crash (h : J1 R N q n u T xs ys) (many part : Int) :
    Jn R N n u (crashT T many part) ∧ ∃ j r, keptN many ys.length ≤ j ∧ j ≤ ys.length ∧ (j = keptN many ys.length ∨ ∃ h : keptN many ys.length < ys.length, ((putV ys[keptN many ys.length]).1.size : Int) ≤ part) ∧ Dec (textF (crashT T many part).l q) (xs ++ ys.take j) r := by
  obtain ⟨h1, h2, j, h3, h4, h6, h5⟩ := h.jl.crash many part
  simp only [List.length_map, List.getElem_map] at h3 h4 h6
  obtain ⟨r, hr⟩ := h5 q
  refine ⟨h1, j, r, h3, h4, h6, ?_⟩
  rw [← List.map_take, sel_own] at hr
  unfold at1 at hr
  rw [if_pos rfl] at hr
  exact hr
end
theorem line_small {l : List ByteArray} {m : Nat} (h : ∀ x ∈ l, x.size ≤ m) (h1 : 1 ≤ l.length) (h2 : l.length ≤ 40) (h3 : (3 * m + 2) * l.length + 9 ≤ 13000) :
    (putV l).2 = 0 ∧ (putV l).1.size ≤ (3 * m + 2) * l.length + 9 ∧ 9 ≤ (putV l).1.size := by
  have hb := Hand.bodyL_len m l h
  have hl := line_len l
  have h0 := put_of h1 h2 (by omega)
  have hz : (putV l).2 = 0 := by rw [h0]
  have := putV_size hz
  exact ⟨hz, by omega, by omega⟩

def bB : ByteArray := ⟨#[98]⟩
def bnB : ByteArray := ⟨#[98, 46, 110, 101, 119]⟩
theorem bes_b : besN bB = bnB := by kernel_rfl
def bN : List ByteArray := [bB, bnB]
theorem ns_b : NS bN := ns_of (by kernel_rfl) (by kernel_rfl) (by decide)
theorem b_mem : bB ∈ bN := List.mem_cons_self ..
theorem bn_mem : besN bB ∈ bN := by rw [bes_b]; exact List.mem_cons_of_mem _ (List.mem_cons_self ..)
theorem bn_ne : besN bB ≠ bB := by
  rw [bes_b]
  intro e
  have := congrArg ByteArray.size e
  exact absurd this (by decide)
/-- The texts of a store, each a line of the journal; the first k at the last sync. -/
structure SB (R n u : Nat) (T : TS) (l : List ByteArray) (k : Nat) : Prop where
  ex : ∃ xs ys, J1 R bN bB n u T xs ys ∧ xs ++ ys = l.map (fun x => [x]) ∧ xs.length = k
  nd : l.Nodup
section
variable {R n u k : Nat} {T : TS} {l : List ByteArray} {t : ByteArray}
theorem sb_new {R : Nat} (h1 : 1 ≤ R) (h2 : R ≤ 2000000) : SB R 0 0 (newT R) [] 0 := ⟨⟨[], [], j1_new h1 h2 _ _, rfl, rfl⟩, List.Pairwise.nil⟩
theorem SB.inv (h : SB R n u T l k) : Inv n T := by obtain ⟨xs, ys, h, -⟩ := h.ex; exact h.inv
theorem SB.room (h : SB R n u T l k) : T.room ≤ 2000000 := by obtain ⟨xs, ys, h, -⟩ := h.ex; exact h.room
theorem SB.mono {n' u' : Nat} (h : SB R n u T l k) (h1 : n ≤ n') (h2 : u ≤ u') : SB R n' u' T l k := by
  obtain ⟨⟨xs, ys, h, e⟩, hd⟩ := h
  exact ⟨⟨xs, ys, h.mono h1 h2, e⟩, hd⟩
theorem SB.sync (h : SB R n u T l k) : SB R n u (syncT T) l l.length := by
  obtain ⟨⟨xs, ys, h, e, -⟩, hd⟩ := h
  exact ⟨⟨xs ++ ys, [], h.sync, by rw [List.append_nil]; exact e, by rw [e, List.length_map]⟩, hd⟩
theorem SB.id (h : SB R n u T l k) (t : ByteArray) {b : Nat} (hb : 3 * t.size + 11 ≤ b) (hb2 : b ≤ 13000) (hu : u + b ≤ R) :
    idE T bB l t = 0 ∧ SB R (n + 1) (u + b) (idT T bB l t) (idL T bB l t) k ∧ idL T bB l t = (if idxB l t ≠ 0 then l else l ++ [t]) ∧ idN T bB l t = ((if idxB l t ≠ 0 then idxB l t else l.length + 1 : Nat) : Int) := by
  unfold idE idT idL idN
  by_cases h0 : idxB l t ≠ 0
  · rw [if_pos h0, if_pos h0, if_pos h0, if_pos h0, if_pos h0, if_pos h0]
    exact ⟨rfl, h.mono (Nat.le_succ _) (Nat.le_add_right _ _), rfl, rfl⟩
  · rw [if_neg h0, if_neg h0, if_neg h0, if_neg h0, if_neg h0, if_neg h0]
    obtain ⟨hl, hs, -⟩ := line_small (l := [t]) (m := t.size) (fun x hx => by rw [List.mem_singleton.1 hx]; exact Nat.le_refl _) (Nat.le_refl 1) (show (1 : Nat) ≤ 40 by decide) (by show (3 * t.size + 2) * 1 + 9 ≤ 13000; omega)
    have hs2 : (putV [t]).1.size ≤ b := by
      have : (3 * t.size + 2) * [t].length = 3 * t.size + 2 := by show (3 * t.size + 2) * 1 = _; omega
      omega
    obtain ⟨⟨xs, ys, hj, e, hk⟩, hd⟩ := h
    obtain ⟨h1, h2⟩ := hj.add ns_b b_mem bn_mem hl hs2 hu
    rw [h1, if_pos rfl, if_pos rfl]
    refine ⟨rfl, ⟨⟨xs, ys ++ [[t]], h2, by rw [← List.append_assoc, e, List.map_append]; rfl, hk⟩, ?_⟩, rfl, rfl⟩
    rw [List.nodup_append]
    refine ⟨hd, List.pairwise_singleton _ _, fun a ha b hb e2 => ?_⟩
    rw [List.mem_singleton.1 hb] at e2
    exact idx_zero.1 (Classical.not_not.1 h0) (e2 ▸ ha)
theorem SB.opens (h : SB R n u T l k) : openE T bB = 0 ∧ openL T bB = l.map (fun x => [x]) ∧ SB R (n + 4) u (openT T bB) l l.length := by
  obtain ⟨⟨xs, ys, hj, e, -⟩, hd⟩ := h
  have hn := hj.now
  rw [e] at hn
  have hln := hj.lines
  rw [e] at hln
  have hdec : Dec (textF T.l bB) (l.map fun x => [x]) e0 := by rw [hn]; exact dec_cat hln
  obtain ⟨h1, h2, -, h3, h4, h5, h6, h7, h8⟩ := open_dec ns_b hj.jl.jn b_mem bn_mem bn_ne hdec (fun h => absurd rfl h)
  refine ⟨h1, h2, ⟨⟨l.map fun x => [x], [], ⟨?_⟩, List.append_nil _, List.length_map _⟩, hd⟩⟩
  refine Jl.of (h3 rfl) h7 h8 (fun p => ?_) fun p => ?_
  · unfold at1
    by_cases hp : p = bB
    · rw [if_pos hp, hp]
      exact h4
    · rw [if_neg hp]
      by_cases hp2 : p = besN bB
      · rw [hp2]
        unfold textF
        rw [h5]
        rfl
      · rw [text_find (h6 p hp hp2), hj.jl.now p]
        unfold at1
        rw [if_neg hp, sel_not (fun e => hp e.symm)]
        rfl
  · unfold at1
    by_cases hp : p = bB
    · rw [if_pos hp]
      exact hln
    · rw [if_neg hp]
      exact fun l hl => by cases hl
end
end Go.Proofs.YtghbaehbgefpaaaGreatDoor.Fr
/- begun and alike of chapter 7's laws. -/
namespace Go.Proofs.YtghbaehbgefpaaaGreatDoor.Fr
open Go.RowKit Go.Proofs.YtghbaehbgefpaaaGreatDoor.F Go.Proofs.YtghbaehbgefpaaaGreatDoorW.PrintWords
set_option linter.unusedVariables false
set_option linter.unusedSimpArgs false
/-- How begun ends where there is room. -/
def Begun7End (w : World) (φ : Phi) (room : Int) (e : Ending) (w' : World) : Prop :=
  ∃ p A m B, e = .returned (.tuple #[.agg #[.pointer (some ⟨p, 0, none⟩), .pointer (some ⟨m, 0, none⟩)], .bool true]) ∧ Pr w' φ p A m B (newT room) ∧ Below w.heap.size w w' ∧ (∀ k, A k → w.heap.size ≤ k) ∧ (∀ k, B k → w.heap.size ≤ k) ∧ w.heap.size ≤ m
set_option maxHeartbeats 2000000 in
set_option maxRecDepth 100000 in
theorem begun7_call (w : World) (φ : Phi) (hF : FilesOK w φ) (room : Int) (h1 : 1 ≤ room) (h2 : room ≤ 1073741824) : Calls Tryz.prog 9 #[.int .i64 room] w (Begun7End w φ room) := by
  have HF := Lib.hid hF
  clear hF
  go_enter Tryz.func9, Tryz.ntmps9
  go_wp2_with (first
    | (go_at_call 27; refine (new_call _ φ (HF.out.below (newBelow w _)) room h1 h2).mono ?_; rintro e w1 ⟨p, A, rfl, ht, hb, ha⟩; have HT := Lib.hid ht; have HB := Lib.hid ((newBelow w _).trans (hb.mono (by rw [World.size_alloc]; omega))); have HA := Lib.hid ha; have HAT1 := Lib.hid ((hb.block w.heap.size (by rw [World.size_alloc]; omega)).trans (World.alloc_heap_new w _)); clear ht hb ha)
    | (go_at_call 28; refine (rNew_call _ room h1 h2).mono ?_; rintro e w2 ⟨m, B, rfl, hr, hb2, hm, hB2⟩; have HR := Lib.hid hr; have HB2 := Lib.hid hb2; have HM := Lib.hid hm; have HBB := Lib.hid hB2; have hat2 := (hb2.block w.heap.size (Array.getElem?_eq_some_iff.1 HAT1.out).1).trans HAT1.out; have HAT2 := Lib.hid hat2; have d0 : w2.cell? ⟨w.heap.size, 0, none⟩ = some (.pointer none) := (by simp [World.cell?, hat2]); have d1 : w2.cell? ⟨w.heap.size, 1, none⟩ = some (.pointer none) := (by simp [World.cell?, hat2]); have g0 : w2.frozen? ⟨w.heap.size, 0, none⟩ = false := (by simp [World.frozen?, hat2]); have g1 : w2.frozen? ⟨w.heap.size, 1, none⟩ = false := (by simp [World.frozen?, hat2]); clear hat2 hr hb2 hm hB2))
  have hlt2 : w.heap.size < w2.heap.size := (Array.getElem?_eq_some_iff.1 HAT2.out).1
  have HEND : Hid (Begun7End w φ room (.returned (.tuple #[.agg #[.pointer (some ⟨p, 0, none⟩), .pointer (some ⟨m, 0, none⟩)], .bool true])) ((w2.setCell ⟨w.heap.size, 0, none⟩ (.pointer (some ⟨p, 0, none⟩))).setCell ⟨w.heap.size, 1, none⟩ (.pointer (some ⟨m, 0, none⟩)))) := by
    have hC : Chg (fun k => k = w.heap.size) w2 ((w2.setCell ⟨w.heap.size, 0, none⟩ (.pointer (some ⟨p, 0, none⟩))).setCell ⟨w.heap.size, 1, none⟩ (.pointer (some ⟨m, 0, none⟩))) := ((Chg.refl (fun k => k = w.heap.size) w2).setCell (p := ⟨w.heap.size, 0, none⟩) (fun _ => rfl) _).setCell (p := ⟨w.heap.size, 1, none⟩) (fun _ => rfl) _
    have hA := HA.out
    have hM := HM.out
    have hBB := HBB.out
    have hs1 : w.heap.size + 1 ≤ w1.heap.size := (Array.getElem?_eq_some_iff.1 HAT1.out).1
    have hT2 := HT.out.below HB2.out
    have hsz : (w.alloc (.cells #[.pointer none, .pointer none] 27)).heap.size = w.heap.size + 1 := World.size_alloc _ _
    have hA' : ∀ k, A k → w.heap.size + 1 ≤ k := fun k hk => by have := hA k hk; omega
    refine ⟨p, A, m, B, rfl, ⟨hT2.chg hC (fun k hk e => by have := hA' k hk; omega) (Ext.refl _ _) (hT2.files.chg hC fun q hq e => ?_), HR.out.chg hC (fun e => by omega) (fun k hk e => by have := hBB k hk; omega), fun k hk => ⟨fun e => ?_, fun e => ?_⟩, fun k hk e => ?_⟩, ?_, fun k hk => (by have := hA' k hk; omega), fun k hk => (by have := hBB k hk; omega), by omega⟩
    · have := HF.out.lt hq
      omega
    · have := (HT.out.free hk).1
      omega
    · have h1 := (HT.out.free hk).1
      have h2 := hBB k e
      omega
    · have := HF.out.lt hk
      omega
    · exact ((Chg.of_below (HB.out.trans (HB2.out.mono HB.out.size)) (fun _ => False)).trans hC fun k hk e => by omega).to_below (Nat.le_refl _) fun k hk => hk.elim
  refine bodyPost_ret (v := .tuple #[.agg #[.pointer (some ⟨p, 0, none⟩), .pointer (some ⟨m, 0, none⟩)], .bool true]) ?_ rfl HEND.out
  rw [results_cell_tmp rfl]
  go_simp
theorem VA.slice {w : World} {ok : Nat → Prop} {v : Value} {l : List Fl} (h : VA w ok v (l.map af)) : ∃ A c, v = .slice A l.length c := by
  obtain ⟨A, c, rfl⟩ := Kd.V_slice h
  exact ⟨A, c, by rw [List.length_map]⟩
def PBox7 (p m b : Nat) (W : World) : Prop := W.heap[b]? = some (.cells #[.pointer (some ⟨p, 0, none⟩), .pointer (some ⟨m, 0, none⟩)] 27)
theorem PBox7.cells {W : World} {p m b : Nat} (h : PBox7 p m b W) : W.cell? ⟨b, 0, none⟩ = some (.pointer (some ⟨p, 0, none⟩)) ∧ W.cell? ⟨b, 1, none⟩ = some (.pointer (some ⟨m, 0, none⟩)) := by
  have h : W.heap[b]? = _ := h
  constructor <;> simp [World.cell?, h]
theorem PBox7.chg {W W' : World} {p m b : Nat} {S : Nat → Prop} (h : PBox7 p m b W) (hc : Chg S W W') (hs : ¬ S b) : PBox7 p m b W' := (hc.block _ (Array.getElem?_eq_some_iff.1 h).1 hs).trans h
theorem PBox7.below {W W' : World} {p m b : Nat} (h : PBox7 p m b W) (hb : Below W.heap.size W W') : PBox7 p m b W' := h.chg (Chg.of_below hb fun _ => False) fun e => e
theorem PBox7.lt {W : World} {p m b : Nat} (h : PBox7 p m b W) : b < W.heap.size := (Array.getElem?_eq_some_iff.1 h).1
section
variable {w : World} {φ : Phi} {p m : Nat} {A B : Nat → Prop} {T : TS} {n : Nat}
end
/-- begun, and the pair's box. -/
def BegEnd7 (W : World) (room : Int) (e : Ending) (w' : World) : Prop := ∃ p m, e = .returned (.tuple #[.agg #[.pointer (some ⟨p, 0, none⟩), .pointer (some ⟨m, 0, none⟩)], .bool true]) ∧ Sts (fun k => k < W.heap.size) [(p, newT room)] m (newT room) w' ∧ Below W.heap.size W w'
theorem begun7_sts (W : World) (room : Int) (h1 : 1 ≤ room) (h2 : room ≤ 1073741824) : Calls Tryz.prog 9 #[.int .i64 room] W (BegEnd7 W room) := by
  refine (begun7_call W (fun _ => none) (fun q f e => by cases e) room h1 h2).mono ?_
  rintro e w' ⟨p, A, m, B, rfl, hP, hb, hA, hB, hm⟩
  exact ⟨p, m, rfl, hP.sts (fun k hk => Nat.lt_of_lt_of_le hk hb.size) (fun k hk e => by have := hA k hk; omega) (fun k hk e => by have := hB k hk; omega) (by omega), hb⟩
theorem law_begun7 {w W W1 : World} {p m : Nat} {room : Int} (hG : Hand2.Glob w) (hb0 : Below w.heap.size w W) (hs : Sts (fun k => k < W.heap.size) [(p, newT room)] m (newT room) W1) (hb : Below W.heap.size W W1) :
    Law w (fun k => k < W.heap.size ∨ k = W1.heap.size) m [(p, newT room)] (newT room) [fun W' => W'.heap[W1.heap.size]? = some (.cells #[.pointer (some ⟨p, 0, none⟩), .pointer (some ⟨m, 0, none⟩)] 27)] (W1.alloc (.cells #[.pointer (some ⟨p, 0, none⟩), .pointer (some ⟨m, 0, none⟩)] 27)) :=
  Law.box1 (K := fun k => k < W.heap.size) { g0 := hG, sts := hs, bel := hb0.trans (hb.mono hb0.size), kw := fun k hk => Nat.lt_of_lt_of_le hk hb0.size, vs := fun x hx => by cases hx } _
end Go.Proofs.YtghbaehbgefpaaaGreatDoor.Fr
/- What a law of chapter 7 holds: the trees, what is known, a store beside them. -/
namespace Go.Proofs.YtghbaehbgefpaaaGreatDoor.Fr
open Go.RowKit Go.Proofs.YtghbaehbgefpaaaGreatDoor.F Go.Proofs.YtghbaehbgefpaaaGreatDoorW.PrintWords Go.Maps
open Go.Proofs.YtghbaehbgefpaaaGreatDoor.Hand (putV takeV scanV)
set_option linter.unusedVariables false
set_option linter.unusedSimpArgs false
structure LS (w : World) (K : Nat → Prop) (m : Nat) (L : List (Nat × TS)) (Tm : TS) (V : List Vw) (s p : Nat) (nm : ByteArray) (l : List ByteArray) (W : World) : Prop where
  law : Law w K m L Tm V W
  st : StS K L m Tm s p nm l W
section
variable {w W W' : World} {K : Nat → Prop} {m s p n u k R : Nat} {L L' : List (Nat × TS)} {T Tm Tm' : TS} {V : List Vw} {nm : ByteArray} {l l' : List ByteArray} {t : ByteArray}
theorem StS.sts (h : StS K L m Tm s p nm l W) : Sts K L m Tm W := by
  obtain ⟨v, b, D, h⟩ := h
  exact h.sts.drop fun k hk => .inl hk
theorem LS.to (h : Law w K m L Tm V W) (hs : StS K L' m Tm' s p nm l W') (hk : Kp K W W') : LS w K m L' Tm' V s p nm l W' := ⟨h.step hs.sts hk, hs⟩
theorem LS.step (h : LS w K m L Tm V s p nm l W) (hs : StS K L' m Tm' s p nm l' W') (hk : Kp K W W') : LS w K m L' Tm' V s p nm l' W' := LS.to h.law hs hk
theorem LS.below (h : LS w K m L Tm V s p nm l W) (hb : Below W.heap.size W W') : LS w K m L Tm V s p nm l W' := h.step (h.st.below hb) (Kp.of hb)
theorem LS.bel (h : LS w K m L Tm V s p nm l W) : Below w.heap.size w W := h.law.bel
/-- Opened: a store beside. -/
theorem Law.bOpen (h : Law w K m [(p, T)] Tm V W) (hJ : SB R n u T l k) (hn : n + 4 ≤ 1000000) (hs : ∀ x ∈ l, x.size ≤ 100000) (hll : l.length ≤ 900000) :
    Calls Tryz.prog 10 #[.pointer (some ⟨p, 0, none⟩), .string bB] W fun e W' => ∃ s, e = .returned (.tuple #[.pointer (some ⟨s, 0, none⟩), .int .i64 0]) ∧ LS w K m [(p, openT T bB)] Tm V s p bB l W' := by
  obtain ⟨h1, h2, h3⟩ := hJ.opens
  refine (h.sts.bOpen (i := 0) rfl h.gk hJ.inv hn hJ.room bB (by decide) h1 l h2 hJ.nd hs hll).mono ?_
  rintro e W' ⟨s, rfl, hs, hk⟩
  exact ⟨s, rfl, LS.to h hs hk⟩
def idn (l : List ByteArray) (t : ByteArray) : Nat := if idxB l t ≠ 0 then idxB l t else l.length + 1
def idl (l : List ByteArray) (t : ByteArray) : List ByteArray := if idxB l t ≠ 0 then l else l ++ [t]
theorem idx_idl (l : List ByteArray) (t : ByteArray) : idxB (idl l t) t = idn l t := by
  unfold idl idn
  by_cases h : idxB l t ≠ 0
  · rw [if_pos h, if_pos h]
  · rw [if_neg h, if_neg h, idx_snoc, if_neg h, if_pos rfl]
theorem idn_pos (l : List ByteArray) (t : ByteArray) : 1 ≤ idn l t := by
  unfold idn
  split <;> omega
theorem idl_len (l : List ByteArray) (t : ByteArray) : l.length ≤ (idl l t).length ∧ (idl l t).length ≤ l.length + 1 ∧ idn l t ≤ (idl l t).length := by
  have := idx_le l t
  unfold idl idn
  split
  · omega
  · rw [List.length_append]
    show l.length ≤ l.length + 1 ∧ l.length + 1 ≤ l.length + 1 ∧ l.length + 1 ≤ l.length + 1
    omega
/-- What was found stays. -/
theorem idx_keep {l : List ByteArray} {t u : ByteArray} (h : idxB l u ≠ 0) : idxB (idl l t) u = idxB l u := by
  unfold idl
  by_cases h2 : idxB l t ≠ 0
  · rw [if_pos h2]
  · rw [if_neg h2, idx_snoc, if_pos h]
theorem idl_sz {m : Nat} (h : ∀ x ∈ l, x.size ≤ m) (ht : t.size ≤ m) : ∀ x ∈ idl l t, x.size ≤ m := by
  unfold idl
  split
  · exact h
  · intro x hx
    rcases List.mem_append.1 hx with hx | hx
    · exact h x hx
    · rw [List.mem_singleton.1 hx]
      exact ht
/-- Id: a text's number; the store, the journal under it. -/
theorem LS.Id (h : LS w K m [(p, T)] Tm V s p bB l W) (hJ : SB R n u T l k) (hn : n ≤ 1000000) (hl : l.length ≤ 1000000) (t : ByteArray) (ht : t.size ≤ 4000) {b : Nat} (hb : 3 * t.size + 11 ≤ b) (hb2 : b ≤ 13000) (hu : u + b ≤ R) :
    ∃ T', SB R (n + 1) (u + b) T' (idl l t) k ∧ Calls Tryz.prog 11 #[.pointer (some ⟨s, 0, none⟩), .string t] W fun e W' => e = .returned (.tuple #[.int .i64 (idn l t : Nat), .int .i64 0]) ∧ LS w K m [(p, T')] Tm V s p bB (idl l t) W' := by
  obtain ⟨h1, h2, h3, h4⟩ := hJ.id t hb hb2 hu
  rw [h3] at h2
  refine ⟨idT T bB l t, h2, ?_⟩
  have hc := h.st.Id (i := 0) rfl h.law.gk hJ.inv hn (by decide) t (by omega) hl
  rw [h1, h3, h4] at hc
  refine hc.mono ?_
  rintro e W' ⟨rfl, hs, hk⟩
  exact ⟨rfl, h.step hs hk⟩
theorem LS.Find (h : LS w K m L Tm V s p nm l W) (t : ByteArray) (ht : t.size ≤ maxLen) :
    Calls Tryz.prog 13 #[.pointer (some ⟨s, 0, none⟩), .string t] W fun e W' => e = .returned (.int .i64 (idxB l t : Nat)) ∧ LS w K m L Tm V s p nm l W' ∧ Below W.heap.size W W' := by
  obtain ⟨v, b, D, hb⟩ := h.st
  exact (find_call hb.at_ t ht).mono fun e W' ⟨h1, h2⟩ => ⟨h1, h.below h2, h2⟩
theorem LS.Len (h : LS w K m L Tm V s p nm l W) :
    Calls Tryz.prog 14 #[.pointer (some ⟨s, 0, none⟩)] W fun e W' => e = .returned (.int .i64 (l.length : Nat)) ∧ LS w K m L Tm V s p nm l W' ∧ Below W.heap.size W W' := by
  obtain ⟨v, b, D, hb⟩ := h.st
  exact (len_call hb.at_).mono fun e W' ⟨h1, h2⟩ => ⟨h1, h.below h2, h2⟩
theorem LS.Text (h : LS w K m L Tm V s p nm l W) (hl : l.length ≤ 1000000) (i : Int) :
    Calls Tryz.prog 12 #[.pointer (some ⟨s, 0, none⟩), .int .i64 i] W fun e W' => e = .returned (.tuple #[.string (textN l i).1, .bool (textN l i).2]) ∧ LS w K m L Tm V s p nm l W' ∧ Below W.heap.size W W' := by
  obtain ⟨v, b, D, hb⟩ := h.st
  exact (text_call hb.at_ hl i).mono fun e W' ⟨h1, h2⟩ => ⟨h1, h.below h2, h2⟩
/-- The text of the number that Id has told. -/
theorem text_idn (l : List ByteArray) (t : ByteArray) : textN (idl l t) (idn l t : Nat) = (t, true) := by
  have h1 := idx_idl l t
  have h2 : idxB (idl l t) t ≠ 0 := by have := idn_pos l t; omega
  obtain ⟨hlt, hat⟩ := idx_at h2
  have h3 : ((idn l t : Nat) : Int) = ((idn l t - 1 : Nat) : Int) + 1 := by have := idn_pos l t; omega
  rw [h3]
  simp only [h1] at hlt hat
  rw [textN_in hlt, hat]
/-- A store that is only read from now on: known, its blocks kept. -/
theorem LS.known (h : LS w K m L Tm V s p nm l W) : ∃ v b D, Law w (fun k => K k ∨ BsF s v b k) m L Tm ((fun W2 => BsAt W2 s p nm l v b D) :: V) W := by
  obtain ⟨v, b, D, hb⟩ := h.st
  exact ⟨v, b, D, h.law.told (fun k hk => .inl hk) hb.sts (Kp.of (Below.refl _ _)) hb.at_ fun W1 W2 hk h1 => h1.kept fun k hb => hk.block (.inr hb) (h1.lt k hb)⟩
end
end Go.Proofs.YtghbaehbgefpaaaGreatDoor.Fr
/- The example at the head of chapter 7's statements. -/
namespace Go.Proofs.YtghbaehbgefpaaaGreatDoor.Fr
open Go.RowKit Go.Proofs.YtghbaehbgefpaaaGreatDoor.F Go.Proofs.YtghbaehbgefpaaaGreatDoorW.PrintWords Go.Maps
open Go.Proofs.YtghbaehbgefpaaaGreatDoor.Hand (putV takeV scanV)
set_option linter.unusedVariables false
set_option linter.unusedSimpArgs false
def shA : ByteArray := ⟨#[97]⟩
def shB : ByteArray := ⟨#[98]⟩
section
variable {w : World}
set_option maxHeartbeats 8000000 in
set_option maxRecDepth 100000 in
theorem shown7_call (hG : Hand2.Glob w) : Calls Tryz.prog 8 #[] w fun e w' => e = .returned (.bool true) ∧ Below w.heap.size w w' := by
  have HG := Lib.hid hG
  clear hG
  go_enter Tryz.func8, Tryz.ntmps8
  go_upto_region 2 with (first | (go_at_call 9; refine (begun7_sts w 1000 (by decide) (by decide)).mono ?_; rintro e w1 ⟨p, m, rfl, hs, hb⟩; have HL0' := Lib.hid (law_begun7 HG.out (Below.refl _ w) hs hb); clear hs hb))
  obtain ⟨b, hbz⟩ : ∃ b, w1.heap.size = b := ⟨_, rfl⟩
  obtain ⟨K, hK⟩ : ∃ K : Nat → Prop, K = fun k => k < w.heap.size ∨ k = b := ⟨_, rfl⟩
  have HL0 : Hid (Law w K m [(p, newT 1000)] (newT 1000) [PBox7 p m b] (w1.alloc (.cells #[.pointer (some ⟨p, 0, none⟩), .pointer (some ⟨m, 0, none⟩)] 27))) := by rw [hK, ← hbz]; exact HL0'.out
  clear HL0' hK
  rw [hbz]
  generalize w1.alloc (.cells #[.pointer (some ⟨p, 0, none⟩), .pointer (some ⟨m, 0, none⟩)] 27) = W0 at HL0 ⊢
  clear hbz
  obtain ⟨c0, c1⟩ := (HL0.out.va 0 rfl : PBox7 p m b _).cells
  have HJ0 : Hid (SB 1000 0 0 (newT 1000) [] 0) := sb_new (by decide) (by decide)
  go_upto_region 5 with (go_at_call 10; refine (HL0.out.bOpen HJ0.out (by decide) (fun x hx => by cases hx) (by decide)).mono ?_; rintro e w2 ⟨s, rfl, hl⟩; have HL1 := Lib.hid hl; clear hl)
  have HJ1 := Lib.hid HJ0.out.opens.2.2
  clear c0 c1 HL0 HJ0
  generalize openT (newT 1000) bB = T1 at HL1 HJ1
  go_upto_region 7 with fail
  obtain ⟨T2, hj2, hc2⟩ := HL1.out.Id HJ1.out (by decide) (by decide) shA (by decide) (b := 14) (by decide) (by decide) (by decide)
  rw [show idn [] shA = 1 from by decide +kernel, show idl [] shA = [shA] from by decide +kernel] at hc2
  rw [show idl [] shA = [shA] from by decide +kernel] at hj2
  have HC2 := Lib.hid hc2
  have HJ2 := Lib.hid hj2
  clear hc2 hj2
  go_upto_region 8 with (go_at_call 11; refine HC2.out.mono ?_; rintro e w2 ⟨rfl, hl⟩; have HL2 := Lib.hid hl; clear hl)
  obtain ⟨T3, hj3, hc3⟩ := HL2.out.Id HJ2.out (by decide) (by decide) shB (by decide) (b := 14) (by decide) (by decide) (by decide)
  rw [show idn [shA] shB = 2 from by decide +kernel, show idl [shA] shB = [shA, shB] from by decide +kernel] at hc3
  rw [show idl [shA] shB = [shA, shB] from by decide +kernel] at hj3
  have HC3 := Lib.hid hc3
  have HJ3 := Lib.hid hj3
  clear hc3 hj3
  go_upto_region 9 with (go_at_call 11; refine HC3.out.mono ?_; rintro e w3 ⟨rfl, hl⟩; have HL3 := Lib.hid hl; clear hl)
  obtain ⟨T4, hj4, hc4⟩ := HL3.out.Id HJ3.out (by decide) (by decide) shA (by decide) (b := 14) (by decide) (by decide) (by decide)
  rw [show idn [shA, shB] shA = 1 from by decide +kernel, show idl [shA, shB] shA = [shA, shB] from by decide +kernel] at hc4
  rw [show idl [shA, shB] shA = [shA, shB] from by decide +kernel] at hj4
  have HC4 := Lib.hid hc4
  have HJ4 := Lib.hid hj4
  clear hc4 hj4
  go_upto_region 10 with (go_at_call 11; refine HC4.out.mono ?_; rintro e w4 ⟨rfl, hl⟩; have HL4 := Lib.hid hl; clear hl)
  have ht := HL4.out.Text (by decide) 2
  rw [show textN [shA, shB] 2 = ((⟨#[98]⟩ : ByteArray), true) from by decide +kernel] at ht
  have HT := Lib.hid ht
  clear ht
  go_upto_region 11 with (go_at_call 12; refine HT.out.mono ?_; rintro e w5 ⟨rfl, hl, -⟩; have HL5 := Lib.hid hl; clear hl)
  have hln := HL5.out.Len
  rw [show (([shA, shB].length : Nat) : Int) = 2 from rfl] at hln
  have HLN := Lib.hid hln
  clear hln
  go_wp2_with (go_at_call 14; refine HLN.out.mono ?_; rintro e w6 ⟨rfl, hl, -⟩; have HL6 := Lib.hid hl; clear hl)
  go_ret
  exact ⟨rfl, HL6.out.bel⟩
end
end Go.Proofs.YtghbaehbgefpaaaGreatDoor.Fr
/- A store behind a crash; a row of numbers beside a store. -/
namespace Go.Proofs.YtghbaehbgefpaaaGreatDoor.Fr
open Go.RowKit Go.Proofs.YtghbaehbgefpaaaGreatDoor.F Go.Proofs.YtghbaehbgefpaaaGreatDoorW.PrintWords Go.Maps
open Go.Proofs.YtghbaehbgefpaaaGreatDoor.Hand (putV takeV scanV)
open Go.Proofs.YtghbaehbgefpaaaGreatDoor.PureL (cat cat_app cat_behind cat_size put_of line_len putV_size)
set_option linter.unusedVariables false
set_option linter.unusedSimpArgs false
theorem idx_take (l : List ByteArray) (t : ByteArray) (j : Nat) : idxB (l.take j) t = if idxB l t ≤ j then idxB l t else 0 := by
  induction l generalizing j with
  | nil =>
    rw [List.take_nil]
    have e : idxB [] t = 0 := rfl
    rw [e]
    split <;> rfl
  | cons x r ih =>
    cases j with
    | zero =>
      rw [List.take_zero]
      have e : idxB [] t = 0 := rfl
      rw [e]
      split <;> omega
    | succ j =>
      rw [List.take_succ_cons, idx_cons, idx_cons, ih]
      by_cases h : x = t
      · rw [if_pos h, if_pos h, if_pos (by omega)]
      · rw [if_neg h, if_neg h]
        by_cases h1 : idxB r t ≤ j
        · rw [if_pos h1]
          by_cases h2 : idxB r t = 0
          · rw [if_pos h2, if_pos (by omega)]
          · rw [if_neg h2, if_pos (by omega)]
        · rw [if_neg h1, if_pos rfl]
          by_cases h2 : idxB r t = 0
          · omega
          · rw [if_neg h2, if_neg (by omega)]
theorem idx_inj {l : List ByteArray} {a b : ByteArray} (h : idxB l a ≠ 0) (e : idxB l a = idxB l b) : a = b := by
  obtain ⟨h1, h2⟩ := idx_at h
  obtain ⟨h3, h4⟩ := idx_at (e ▸ h)
  rw [← h2, ← h4]
  simp only [e]
theorem text_take {l : List ByteArray} {j : Nat} (hj : j ≤ l.length) {i : Int} (h1 : 1 ≤ i) (h2 : i ≤ j) : textN (l.take j) i = textN l i ∧ (textN l i).2 = true := by
  have ht : (l.take j).length = j := List.length_take_of_le hj
  unfold textN
  rw [dif_pos ⟨h1, by rw [ht]; exact h2⟩, dif_pos ⟨h1, by omega⟩]
  exact ⟨by rw [List.getElem_take], rfl⟩
section
variable {w W W' : World} {K : Nat → Prop} {m s p n u k R : Nat} {L L' : List (Nat × TS)} {T Tm Tm' : TS} {V : List Vw} {nm : ByteArray} {l l' : List ByteArray} {t : ByteArray}
/-- Behind a crash. -/
theorem SB.crash (h : SB R n u T l k) (many part : Int) (hu : u + u ≤ R) :
    ∃ j, k ≤ j ∧ j ≤ l.length ∧ openE (crashT T many part) bB = 0 ∧ openL (crashT T many part) bB = (l.take j).map (fun x => [x]) ∧ Inv n (crashT T many part) ∧ (crashT T many part).room ≤ 2000000 ∧ (l.take j).Nodup := by
  obtain ⟨⟨xs, ys, hj, e, hk⟩, hd⟩ := h
  obtain ⟨h1, j, r, h2, h3, -, h4⟩ := hj.crash many part
  obtain ⟨e1, e2, -⟩ := open_dec ns_b h1 b_mem bn_mem bn_ne h4 (fun _ => hu)
  have hl : l.length = xs.length + ys.length := by rw [← List.length_append, e, List.length_map]
  have htk : xs ++ ys.take j = (l.take (xs.length + j)).map (fun x => [x]) := by
    rw [List.map_take, ← e, List.take_append, List.take_of_length_le (show xs.length ≤ xs.length + j by omega)]
    congr 2
    omega
  rw [htk] at e2
  exact ⟨xs.length + j, by omega, by omega, e1, e2, h1.inv, by have := h1.rle; rw [h1.room]; omega, hd.sublist (List.take_sublist ..)⟩
/-- Opened, whatever lies there: a store beside. -/
theorem Law.bOpenE (h : Law w K m [(p, T)] Tm V W) (hI : Inv n T) (hr : T.room ≤ 2000000) (hn : n + 4 ≤ 1000000) (he : openE T bB = 0) (hl : openL T bB = l.map fun x => [x]) (hd : l.Nodup) (hs : ∀ x ∈ l, x.size ≤ 100000) (hll : l.length ≤ 900000) :
    Calls Tryz.prog 10 #[.pointer (some ⟨p, 0, none⟩), .string bB] W fun e W' => ∃ s, e = .returned (.tuple #[.pointer (some ⟨s, 0, none⟩), .int .i64 0]) ∧ LS w K m [(p, openT T bB)] Tm V s p bB l W' := by
  refine (h.sts.bOpen (i := 0) rfl h.gk hI hn hr bB (by decide) he l hl hd hs hll).mono ?_
  rintro e W' ⟨s, rfl, hs, hk⟩
  exact ⟨s, rfl, LS.to h hs hk⟩
/-- A call on the tree, the store beside. -/
theorem LS.treeOp (h : LS w K m L Tm V s p nm l W) {f : FuncId} {vs : Array Value} {L' : List (Nat × TS)} {x : Value}
    (hc : ∀ K', Sts K' L m Tm W → Calls Tryz.prog f vs W (StEnd K' L' m Tm W x)) :
    Calls Tryz.prog f vs W fun e W' => e = .returned x ∧ LS w K m L' Tm V s p nm l W' := by
  obtain ⟨v, b, D, hb⟩ := h.st
  refine (hc _ hb.sts).mono ?_
  rintro e W' ⟨rfl, hs, hk⟩
  exact ⟨rfl, h.step ⟨v, b, D, hb.step hs hk⟩ (hk.mono fun k hk => .inl hk)⟩
/-- A law's own row of numbers. -/
structure NAt (w : World) (K : Nat → Prop) (W : World) (v : Value) (ns : List Nat) : Prop where
  row : W.ownsRow w.heap.size 3 1 v ns.length (ns.map fun n => Value.int .i64 (n : Nat))
  rk : ∀ k, v.ownBlock = some k → K k
section
variable {v v' : Value} {ns : List Nat}
theorem NAt.kp (h : NAt w K W v ns) (hk : Kp K W W') : NAt w K W' v ns where
  row := ownsRow_block h.row fun k hv => hk.block (h.rk k hv) (own_lt h.row k hv)
  rk := h.rk
theorem NAt.below (h : NAt w K W v ns) (hb : Below W.heap.size W W') : NAt w K W' v ns := h.kp (Kp.of hb)
theorem nat_nil (w W : World) (K : Nat → Prop) : NAt w K W (Value.slice none 0 0) [] where
  row := own_nil _ _ _ _
  rk := fun k hk => by simp [Value.ownBlock] at hk
theorem NAt.slice (h : NAt w K W v ns) : ∃ A c, v = .slice A ns.length c := by
  rcases h.row.2 with ⟨rfl, e⟩ | ⟨g, cap, cur, rfl, _⟩
  · refine ⟨none, 0, ?_⟩
    rw [e]
  · exact ⟨_, _, rfl⟩
theorem NAt.at {A : Option Addr} {n c : Nat} (h : NAt w K W (.slice A n c) ns) {i : Nat} (hi : i < ns.length) : ∃ ad, A = some ad ∧ W.cell? (ad.add i) = some (.int .i64 (ns[i] : Nat)) := by
  rcases h.row.2 with ⟨e1, e⟩ | ⟨g, cap, cur, e1, _⟩
  · omega
  · injection e1 with e1 e2 e3
    subst e1 e2
    exact ⟨_, rfl, h.row.cells (g := g) rfl i _ (by rw [List.getElem?_map, List.getElem?_eq_getElem hi]; rfl)⟩
theorem NAt.of {A : Option Addr} {n c : Nat} {f : ByteArray → Nat} {r : List ByteArray} (h : NAt w K W (.slice A n c) (r.map f)) {i : Nat} (hi : i < r.length) : ∃ ad, A = some ad ∧ W.cell? (ad.add i) = some (.int .i64 (f r[i] : Nat)) := by
  obtain ⟨ad, e, h2⟩ := h.at (i := i) (by rw [List.length_map]; exact hi)
  rw [List.getElem_map] at h2
  exact ⟨ad, e, h2⟩
theorem box_nat {w W : World} {K : Nat → Prop} {v : Value} {ns : List Nat} {p m b0 : Nat} (hN : NAt w K W v ns) (hB : PBox7 p m b0 W) :
    ∀ P ∈ [PBox7 p m b0], ∀ W1 W2, Chg (fun k => v.ownBlock = some k) W1 W2 → W.heap.size ≤ W1.heap.size → P W1 → P W2 := fun P hP W1 W2 hc hs h1 => by
  rw [List.mem_singleton.1 hP] at h1 ⊢
  refine h1.chg hc fun e => ?_
  obtain ⟨cs, hcs⟩ := own_typed hN.row b0 e
  have hB : W.heap[b0]? = _ := hB
  rw [hcs] at hB
  simp at hB
/-- The row known. -/
theorem LS.nats (h : LS w K m L Tm V s p nm l W) (hN : NAt w K W v ns) : LS w K m L Tm ((fun W2 => NAt w K W2 v ns) :: V) s p nm l W := ⟨h.law.know hN fun W1 W2 hk h1 => h1.kp hk, h.st⟩
theorem LS.row (h : LS w K m L Tm ((fun W2 => NAt w K W2 v ns) :: V) s p nm l W) {x : Nat} {w2 : World}
    (hV : ∀ P ∈ V, ∀ W1 W2, Chg (fun k => v.ownBlock = some k) W1 W2 → W.heap.size ≤ W1.heap.size → P W1 → P W2)
    (h1 : w2.ownsRow w.heap.size 3 1 v' (ns.length + 1) (ns.map (fun n => Value.int .i64 (n : Nat)) ++ [.int .i64 (x : Nat)])) (h2 : (W.alloc (.cells #[.int .i64 (x : Nat)] 3)).grownBy w2 v.ownBlock)
    (h4 : v'.ownBlock = v.ownBlock ∨ v'.ownBlock = some (W.alloc (.cells #[.int .i64 (x : Nat)] 3)).heap.size) :
    ∃ K', LS w K' m L Tm ((fun W2 => NAt w K' W2 v' (ns ++ [x])) :: V) s p nm l w2 := by
  have hN : NAt w K W v ns := h.law.va 0 rfl
  have hbA : Below W.heap.size W (W.alloc (.cells #[.int .i64 (x : Nat)] 3)) := newBelow _ _
  obtain ⟨Wa, hWa⟩ : ∃ Wa, Wa = W.alloc (.cells #[.int .i64 (x : Nat)] 3) := ⟨_, rfl⟩
  have hsz1 : Wa.heap.size = W.heap.size + 1 := by rw [hWa, World.size_alloc]
  rw [← hWa] at h2 h4 hbA
  have hg2 := h2.size
  have hC1 : Chg (fun k => v.ownBlock = some k) W w2 := (Chg.of_below hbA _).grown h2 fun k e _ => e
  have hnf : ∀ {φ : Phi}, FilesOK W φ → ∀ q, φ q ≠ none → ¬ v.ownBlock = some q := fun hF q hq e => by
    obtain ⟨cs, hcs⟩ := own_typed hN.row q e
    rename_i φ
    cases hf : φ q with
    | none => exact hq hf
    | some f =>
      have := hF q f hf
      rw [hcs] at this
      simp at this
  refine ⟨fun k => K k ∨ (W.heap.size ≤ k ∧ k < w2.heap.size), LS.nats ⟨?_, ?_⟩ ⟨?_, ?_⟩⟩
  · obtain ⟨φ, F, B, hs⟩ := h.law.sts
    have hs' : StsAt (fun k => K k ∨ (W.heap.size ≤ k ∧ k < w2.heap.size)) L m Tm w2 φ F B := hs.chg hC1 (fun k e => hN.rk k e) (hnf hs.fl) fun k hk => hk
    exact {
      g0 := h.law.g0
      sts := ⟨φ, F, B, hs'⟩
      bel := h.bel.trans (hC1.to_below h.bel.size fun k e => own_base hN.row k e)
      kw := fun k hk => .inl (h.law.kw k hk)
      vs := fun P hP => ⟨hV P hP _ _ hC1 (Nat.le_refl _) (h.law.vs P (List.mem_cons_of_mem _ hP)).1, fun W1 W2 hk => (h.law.vs P (List.mem_cons_of_mem _ hP)).2 W1 W2 (hk.mono fun k e => .inl e)⟩ }
  · obtain ⟨vs, b, D, hb⟩ := h.st
    obtain ⟨φ, F, B, hs⟩ := hb.sts
    refine ⟨vs, b, D, ⟨⟨φ, F, B, hs.chg hC1 (fun k e => .inl (hN.rk k e)) (hnf hs.fl) fun k hk => ?_⟩, hb.at_.kept fun k hk => hC1.block k (hb.at_.lt k hk) fun e => hb.off k hk (hN.rk k e), fun k hk e => ?_⟩⟩
    · rcases hk with (hk | hk) | hk
      · exact .inl (.inl hk)
      · exact .inr hk
      · exact .inl (.inr hk)
    · rcases e with e | e
      · exact hb.off k hk e
      · have := hb.at_.lt k hk
        omega
  · rw [List.length_append, List.map_append]
    exact h1
  · intro k hk
    rcases h4 with e | e
    · rw [e] at hk
      exact .inl (hN.rk k hk)
    · rw [e] at hk
      have hk : Wa.heap.size = k := by simpa using hk
      have hlt := own_lt h1 k (by rw [e, hk])
      exact .inr ⟨by omega, hlt⟩
end
end
theorem int_wf {x : Int} (h : (Lit.int .i64 x).wf = true) : -9223372036854775808 ≤ x ∧ x ≤ 9223372036854775807 := by
  have h2 : (decide (IntKind.i64.min ≤ x) && decide (x ≤ IntKind.i64.max)) = true := h
  rw [Bool.and_eq_true, decide_eq_true_eq, decide_eq_true_eq] at h2
  exact h2
def pickI (c n : Int) : Int := if c < 0 then Int.tmod (-(c + 1)) n else Int.tmod c n
theorem pickn_f (c n : Int) (h0 : -9223372036854775808 ≤ c ∧ c ≤ 9223372036854775807) (h1 : 1 ≤ n) : cooperagelaw7_pick.f c n = some (pickI c n) := by
  unfold cooperagelaw7_pick.f pickI
  by_cases h : c < 0
  · rw [if_pos h, if_neg (by omega), if_pos h]
    have e : wrap64 (-(wrap64 (c + 1))) = -(c + 1) := by unfold wrap64; omega
    rw [e]
  · rw [if_neg h, if_neg (by omega), if_neg h]
theorem pickn_lt (c n : Int) (h1 : 1 ≤ n) : 0 ≤ pickI c n ∧ pickI c n < n := by
  unfold pickI
  split
  · rw [Int.tmod_eq_emod_of_nonneg (by omega)]
    exact ⟨Int.emod_nonneg _ (by omega), Int.emod_lt_of_pos _ (by omega)⟩
  · rw [Int.tmod_eq_emod_of_nonneg (by omega)]
    exact ⟨Int.emod_nonneg _ (by omega), Int.emod_lt_of_pos _ (by omega)⟩
theorem pick7_call (c n : Int) (h0 : -9223372036854775808 ≤ c ∧ c ≤ 9223372036854775807) (h1 : 1 ≤ n) (W : World) : Calls Tryz.prog 15 #[.int .i64 c, .int .i64 n] W fun e w' => e = .returned (.int .i64 (pickI c n)) ∧ Below W.heap.size W w' :=
  (cooperagelaw7_pick.calls c n _ W (pickn_f c n h0 h1)).mono fun e w' h => ⟨h.1, h.2.below⟩
theorem newsN (W : World) (u : Value) : ∀ (j : Nat) v, [u][j]? = some v → (W.alloc (.cells #[u] 3)).cell? ((⟨W.heap.size, 0, none⟩ : Addr).add j) = some v := World.news_of_block (World.alloc_heap_new W _)
end Go.Proofs.YtghbaehbgefpaaaGreatDoor.Fr
