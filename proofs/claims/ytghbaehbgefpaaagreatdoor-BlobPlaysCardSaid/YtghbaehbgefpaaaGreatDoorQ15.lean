import Derived.Test.YtghbaehbgefpaaaGreatDoorQ14
import Derived.Test.YtghbaehbgefpaaaGreatDoorProg
import Derived.Below
import Derived.Deep.Draws
import Derived.Deep.AppendLies
import Derived.Maps.AppendAt
import Derived.OwnWalk
import Derived.Laws.BytesArg
import Derived.Laws.MakeOwn
import Derived.Laws.OwnMore
import Derived.Deep.OwnRows
import Derived.Tactics
import Derived.Lib.ConvBytes
import Derived.Laws.Slices
import Derived.WalkKit
import Derived.KernelRfl
import Derived.RowKit3
import Derived.Deep.LoopGhost
import Derived.Deep.QuietTactic
import Derived.BigQuiet
import Derived.WideLaws
import Derived.Deep.DeepCutAuto
import Derived.Deep.CutBlock
import Derived.Deep.RegionHeld3
import Derived.Laws.Rows
import Derived.Lib.AppendStr
import Derived.ArgAppend
import Derived.Laws.IdiomCopy
import Derived.OrdersHeld
import Derived.Laws.BitsLemmas
import Derived.RowKit
import Derived.Test.YtghbaehbgefpaaaGreatDoorQ00
import Derived.Test.YtghbaehbgefpaaaGreatDoorQ01
import Derived.Test.YtghbaehbgefpaaaGreatDoorQ11
/- Several texts of this session in one: the walks of the functions that the laws reach, and what they tell. -/
set_option linter.unusedVariables false
set_option linter.unusedSimpArgs false
namespace Go.Proofs.YtghbaehbgefpaaaGreatDoor.PureL
open Go.RowKit Go.Proofs.YtghbaehbgefpaaaGreatDoor.PureR Go.Proofs.YtghbaehbgefpaaaGreatDoor.Spl
open Go.Proofs.YtghbaehbgefpaaaGreatDoor.Hand
open Go.Proofs.YtghbaehbgefpaaaGreatDoor.Fr (plainI)
theorem quoteV_empty {s : ByteArray} (h : s.data.toList = []) : quoteV s = ⟨#[37]⟩ := by
  unfold quoteV
  rw [if_pos]
  rw [← len_data, h]
  rfl
theorem quoteV_full {s : ByteArray} (h : s.data.toList ≠ []) : (quoteV s).data.toList = s.data.toList.flatMap quoteB := quoteV_data (t := s.data.toList) h
theorem quoteV_sign (s : ByteArray) : ∀ c ∈ (quoteV s).data.toList, plainI c.toNat = true ∨ c = 37 := by
  intro c hc
  by_cases h : s.data.toList = []
  · rw [quoteV_empty h] at hc
    exact .inr (by simpa using hc)
  · rw [quoteV_full h] at hc
    obtain ⟨d, -, hd⟩ := List.mem_flatMap.1 hc
    exact quoteB_sign d c hd
theorem sign_ne {c : UInt8} (h : plainI c.toNat = true ∨ c = 37) : c ≠ 32 ∧ c ≠ 10 := by
  constructor <;> (rintro rfl; rcases h with h | h <;> exact absurd h (by decide))
theorem unq_quote (s : ByteArray) : unqV (quoteV s) = some s := by
  by_cases h : s.data.toList = []
  · rw [quoteV_empty h]
    have : s = (⟨#[]⟩ : ByteArray) := ba_ext h
    rw [this]
    rfl
  · have hf := quoteV_full h
    have hne : (quoteV s).data.toList ≠ [37] := by
      rw [hf]
      cases hd : s.data.toList with
      | nil => exact absurd hd h
      | cons c t =>
        intro e
        rw [List.flatMap_cons, quoteB] at e
        split at e
        next hp =>
          rw [List.singleton_append] at e
          injection e with e1 e2
          exact plain_no37 hp e1
        next => simp at e
    rw [unqV_of hne (congrArg decG hf), decG_quote]
    show (if s.data.toList ≠ [] ∧ quoteV ⟨s.data.toList.toArray⟩ = quoteV s then some (⟨s.data.toList.toArray⟩ : ByteArray) else none) = some s
    have hs : (⟨s.data.toList.toArray⟩ : ByteArray) = s := ba_ext rfl
    rw [hs, if_pos ⟨h, rfl⟩]
theorem unq_inv {x t : ByteArray} (h : unqV x = some t) : quoteV t = x := by
  unfold unqV at h
  split at h
  next hx =>
    injection h with h
    subst h
    exact ba_ext hx.symm
  next hx =>
    cases hd : decG x.data.toList with
    | none => rw [hd] at h; cases h
    | some l =>
      rw [hd] at h
      have h' : (if l ≠ [] ∧ quoteV ⟨l.toArray⟩ = x then some (⟨l.toArray⟩ : ByteArray) else none) = some t := h
      by_cases hc : l ≠ [] ∧ quoteV ⟨l.toArray⟩ = x
      · rw [if_pos hc] at h'
        injection h' with h'
        subst h'
        exact hc.2
      · rw [if_neg hc] at h'
        cases h'
theorem body_sign (l : List ByteArray) : ∀ c ∈ bodyL l, (plainI c.toNat = true ∨ c = 37) ∨ c = 32 := by
  intro c hc
  obtain ⟨x, -, hx⟩ := List.mem_flatMap.1 hc
  rcases List.mem_append.1 hx with h | h
  · exact .inl (quoteV_sign x c h)
  · exact .inr (by simpa using h)
theorem body_no10 (l : List ByteArray) : ∀ c ∈ bodyL l, c ≠ 10 := by
  intro c hc
  rcases body_sign l c hc with h | h
  · exact (sign_ne h).2
  · rw [h]; decide
theorem body_cons (x : ByteArray) (r : List ByteArray) : bodyL (x :: r) = (quoteV x).data.toList ++ 32 :: bodyL r := by simp [bodyL]
theorem body_map (l : List ByteArray) : bodyL l = ((l.map quoteV).map (·.data.toList)).flatMap (· ++ [32]) := by
  induction l with
  | nil => rfl
  | cons x r ih => rw [body_cons, ih]; simp
theorem body_ne {l : List ByteArray} (h : l ≠ []) : bodyL l ≠ [] := by
  cases l with
  | nil => exact absurd rfl h
  | cons x r => rw [body_cons]; simp
theorem body_split : ∀ l : List ByteArray, l ≠ [] → splG 32 [] (bodyL l).dropLast = l.map (fun x => (quoteV x).data.toList) ∧ (bodyL l).dropLast ++ [32] = bodyL l := by
  intro l
  induction l with
  | nil => intro h; exact absurd rfl h
  | cons x r ih =>
    intro _
    have hq : splG 32 [] (quoteV x).data.toList = [(quoteV x).data.toList] := by
      rw [splG_none 32 _ [] (fun c hc => (sign_ne (quoteV_sign x c hc)).1)]
      rfl
    rw [body_cons]
    cases r with
    | nil =>
      have e : (quoteV x).data.toList ++ 32 :: bodyL [] = (quoteV x).data.toList ++ [32] := rfl
      rw [e, List.dropLast_concat]
      exact ⟨hq, rfl⟩
    | cons y r' =>
      obtain ⟨i1, i2⟩ := ih (by simp)
      have hne := body_ne (l := y :: r') (by simp)
      have e : ((quoteV x).data.toList ++ 32 :: bodyL (y :: r')).dropLast = (quoteV x).data.toList ++ 32 :: (bodyL (y :: r')).dropLast := by
        rw [List.dropLast_append_of_ne_nil (by simp), List.dropLast_cons_of_ne_nil hne]
      rw [e, splG_app, hq, i1]
      refine ⟨rfl, ?_⟩
      rw [List.append_assoc, List.cons_append, i2]
theorem hexd_hex : ∀ d : Fin 16, hexL.contains (SumW.hexd d.val) = true := by decide +kernel
theorem hexList_hex : ∀ n : Nat, ∀ c ∈ SumW.hexList n, hexL.contains c = true := by
  intro n
  induction n using Nat.strongRecOn with
  | ind n ih =>
    intro c hc
    by_cases h : n < 16
    · rw [SumW.hexList_lt h, List.mem_singleton] at hc
      rw [hc]
      exact hexd_hex ⟨n, h⟩
    · rw [SumW.hexList_ge (by omega)] at hc
      rcases List.mem_append.1 hc with hc | hc
      · exact ih (n / 16) (by omega) c hc
      · rw [List.mem_singleton] at hc
        rw [hc]
        exact hexd_hex ⟨n % 16, Nat.mod_lt _ (by decide)⟩
theorem hex8_hex (n : Nat) : ∀ c ∈ (SumW.hex8 n).data.toList, hexL.contains c = true := by
  intro c hc
  exact hexList_hex (n + 4294967296) c (List.mem_of_mem_drop hc)
theorem hex_no10 {c : UInt8} (h : hexL.contains c = true) : c ≠ 10 := by
  rintro rfl
  exact absurd h (by decide)
theorem hex8_len {n : Nat} (h : n < 4294967296) : (SumW.hex8 n).data.toList.length = 8 := by rw [len_data]; exact hex8_size n h
theorem line_len (l : List ByteArray) : (lineL l).length = (bodyL l).length + 9 := by
  unfold lineL
  rw [List.length_append, List.length_append, hex8_len (adlOf_lt _)]
  rfl
theorem index_app (c : UInt8) (r : List UInt8) : ∀ l : List UInt8, c ∉ l → Lib.index (l ++ c :: r) [c] = l.length := by
  intro l
  induction l with
  | nil => intro _; rw [List.nil_append, Lib.index]; simp [List.isPrefixOf]
  | cons b t ih =>
    intro h
    rw [List.mem_cons, not_or] at h
    have hp : ([c] : List UInt8).isPrefixOf (b :: (t ++ c :: r)) = false := by simp [List.isPrefixOf, h.1]
    rw [List.cons_append, Lib.index, hp, ih h.2]
    simp
theorem cut_app (c : UInt8) (l r : List UInt8) (h : c ∉ l) : Lib.cut (l ++ c :: r) [c] = (l, r, true) := by
  unfold Lib.cut
  rw [index_app c r l h, if_pos (by omega)]
  simp
theorem bytes_map (l : List ByteArray) : (l.map (·.data.toList)).map (fun x => (⟨x.toArray⟩ : ByteArray)) = l := by
  rw [List.map_map]
  have : ((fun x : List UInt8 => (⟨x.toArray⟩ : ByteArray)) ∘ fun x : ByteArray => x.data.toList) = id := by
    funext x
    rfl
  rw [this, List.map_id]
theorem put_ok {l : List ByteArray} (h : (putV l).2 = 0) : 1 ≤ l.length ∧ l.length ≤ 40 ∧ (lineL l).length ≤ 13000 ∧ putV l = (⟨(lineL l).toArray⟩, 0) := by
  unfold putV at h ⊢
  split at h
  · exact absurd h (by decide)
  · split at h
    · exact absurd h (by decide)
    · split at h
      · exact absurd h (by decide)
      · next h1 h2 h3 => exact ⟨by omega, by omega, by omega, by rw [if_neg h1, if_neg h2, if_neg h3]⟩
theorem put_of {l : List ByteArray} (h1 : 1 ≤ l.length) (h2 : l.length ≤ 40) (h3 : (lineL l).length ≤ 13000) : putV l = (⟨(lineL l).toArray⟩, 0) := by
  unfold putV
  rw [if_neg (by omega), if_neg (by omega), if_neg (by omega)]
theorem take_line {l : List ByteArray} (h : (putV l).2 = 0) (r : ByteArray) : takeV ((putV l).1 ++ r) = (l, r, 0) := by
  obtain ⟨h1, h2, h3, h4⟩ := put_ok h
  have hne : l ≠ [] := by intro e; subst e; simp at h1
  obtain ⟨s1, s2⟩ := body_split l hne
  have hll := line_len l
  obtain ⟨D, hD⟩ : ∃ D, (bodyL l).dropLast = D := ⟨_, rfl⟩
  rw [hD] at s1 s2
  clear hD
  have hbl : D.length + 1 = (bodyL l).length := by
    have := congrArg List.length s2
    rw [List.length_append] at this
    exact this
  have h8 := hex8_len (adlOf_lt (bodyL l))
  have hno : (10 : UInt8) ∉ bodyL l ++ (SumW.hex8 (adlOf (bodyL l))).data.toList := by
    intro hm
    rcases List.mem_append.1 hm with hm | hm
    · exact body_no10 l _ hm rfl
    · exact hex_no10 (hex8_hex _ _ hm) rfl
  have hd : ((putV l).1 ++ r).data.toList = (bodyL l ++ (SumW.hex8 (adlOf (bodyL l))).data.toList) ++ 10 :: r.data.toList := by
    rw [h4, data_app2]
    show lineL l ++ r.data.toList = _
    unfold lineL
    simp
  unfold takeV
  rw [hd, cut_app 10 _ _ hno, if_neg (show ¬ (true = false) by decide)]
  show takeB ⟨(bodyL l ++ (SumW.hex8 (adlOf (bodyL l))).data.toList).toArray⟩ ⟨r.data.toList.toArray⟩ = _
  have hr : (⟨r.data.toList.toArray⟩ : ByteArray) = r := rfl
  rw [hr]
  obtain ⟨a, ha⟩ : ∃ a : ByteArray, a = ⟨(bodyL l ++ (SumW.hex8 (adlOf (bodyL l))).data.toList).toArray⟩ := ⟨_, rfl⟩
  rw [← ha]
  have had : a.data.toList = bodyL l ++ (SumW.hex8 (adlOf (bodyL l))).data.toList := by rw [ha]
  have has : a.size = (bodyL l).length + 8 := by rw [← len_data, had, List.length_append, h8]
  have hs9 : a.size - 9 = D.length := by omega
  have hs8 : a.size - 8 = (bodyL l).length := by omega
  have ht9 : a.data.toList.take (a.size - 9) = D := by
    rw [hs9, had]
    rw [← s2, List.append_assoc, List.take_left]
  have ht8 : a.data.toList.take (a.size - 8) = bodyL l := by rw [hs8, had, List.take_left]
  have hd8 : a.data.toList.drop (a.size - 8) = (SumW.hex8 (adlOf (bodyL l))).data.toList := by rw [hs8, had, List.drop_left]
  have h32 : a.data.toList[a.size - 9]? = some 32 := by
    rw [hs9, had]
    rw [← s2, List.append_assoc, List.getElem?_append_right (Nat.le_refl _), Nat.sub_self]
    rfl
  have hform : formB a = true := by
    unfold formB
    rw [h32, hd8]
    simp only [Bool.and_eq_true, decide_eq_true_eq, List.all_eq_true]
    exact ⟨⟨⟨by omega, by omega⟩, trivial⟩, hex8_hex _⟩
  have hw : wordsB a = l.map quoteV := by
    have hwd := words_data a
    rw [show (a.extract 0 (a.size - 9)).data.toList = a.data.toList.take (a.size - 9) by rw [← ext_take], ht9, s1] at hwd
    rw [← bytes_map (wordsB a), hwd, List.map_map]
    rfl
  have hsum : SumW.hex8 (adlOf (a.data.toList.take (a.size - 8))) = a.extract (a.size - 8) a.size := by
    rw [ht8, ← ext_drop, hd8]
  unfold takeB
  rw [hform, if_neg (by decide), hw, if_neg (by rw [List.length_map]; omega), if_neg, if_pos hsum]
  · rw [List.map_map]
    have : ((fun x => (unqV x).getD ⟨#[]⟩) ∘ quoteV) = id := by
      funext x
      rw [Function.comp_apply, unq_quote]
      rfl
    rw [this, List.map_id]
  · rw [List.all_map]
    have : ((fun x => (unqV x).isSome) ∘ quoteV) = fun _ => true := by
      funext x
      rw [Function.comp_apply, unq_quote]
      rfl
    rw [this]
    simp
theorem splG_join (c : UInt8) : ∀ l cur : List UInt8, (splG c cur l).flatMap (· ++ [c]) = cur.reverse ++ l ++ [c] := by
  intro l
  induction l with
  | nil => intro cur; simp [splG]
  | cons b t ih =>
    intro cur
    rw [splG]
    split
    next h =>
      subst h
      rw [List.flatMap_cons, ih]
      simp
    next h =>
      rw [ih]
      simp
theorem take_inv {s : ByteArray} (h : (takeV s).2.2 = 0) : (putV (takeV s).1).2 = 0 ∧ (putV (takeV s).1).1 ++ (takeV s).2.1 = s := by
  have hspec := (cut_one 10 s.data.toList).2
  unfold takeV at h ⊢
  split at h
  · exact absurd h (by decide)
  · next hf =>
    rw [if_neg hf]
    have hs : s.data.toList = (Lib.cut s.data.toList [10]).1 ++ 10 :: (Lib.cut s.data.toList [10]).2.1 := by
      rcases hspec with ⟨-, h⟩ | ⟨h, -⟩
      · exact h
      · exact absurd h hf
    obtain ⟨a, ha⟩ : ∃ a : ByteArray, a = ⟨(Lib.cut s.data.toList [10]).1.toArray⟩ := ⟨_, rfl⟩
    obtain ⟨r, hr⟩ : ∃ r : ByteArray, r = ⟨(Lib.cut s.data.toList [10]).2.1.toArray⟩ := ⟨_, rfl⟩
    have had : (Lib.cut s.data.toList [10]).1 = a.data.toList := by rw [ha]
    have hrd : (Lib.cut s.data.toList [10]).2.1 = r.data.toList := by rw [hr]
    rw [← ha, ← hr] at h ⊢
    rw [had, hrd] at hs
    clear ha hr had hrd hspec hf
    unfold takeB at h ⊢
    split at h
    · exact absurd h (by decide)
    · split at h
      · exact absurd h (by decide)
      · split at h
        · exact absurd h (by decide)
        · split at h
          · next h1 h2 h3 h4 =>
            rw [if_neg h1, if_neg h2, if_neg h3, if_pos h4]
            show (putV ((wordsB a).map fun x => (unqV x).getD ⟨#[]⟩)).2 = 0 ∧ (putV ((wordsB a).map fun x => (unqV x).getD ⟨#[]⟩)).1 ++ r = s
            have hform : formB a = true := by simpa using h1
            simp only [formB, Bool.and_eq_true, decide_eq_true_eq] at hform
            obtain ⟨⟨⟨f1, f2⟩, f3⟩, f4⟩ := hform
            have hsome : ∀ x ∈ wordsB a, (unqV x).isSome = true := by
              have : (wordsB a).all (fun x => (unqV x).isSome) = true := by rw [Bool.not_eq_false] at h3; exact h3
              exact List.all_eq_true.1 this
            have hq : ((wordsB a).map fun x => (unqV x).getD ⟨#[]⟩).map quoteV = wordsB a := by
              rw [List.map_map]
              conv => rhs; rw [← List.map_id (wordsB a)]
              refine List.map_congr_left fun x hx => ?_
              obtain ⟨t, ht⟩ := Option.isSome_iff_exists.1 (hsome x hx)
              rw [Function.comp_apply, ht]
              exact unq_inv ht
            have hlen : a.data.toList.length = a.size := len_data a
            have hbody : bodyL ((wordsB a).map fun x => (unqV x).getD ⟨#[]⟩) = a.data.toList.take (a.size - 8) := by
              have e1 : bodyL ((wordsB a).map fun x => (unqV x).getD ⟨#[]⟩) = ((((wordsB a).map fun x => (unqV x).getD ⟨#[]⟩).map quoteV).map (·.data.toList)).flatMap (· ++ [32]) := body_map _
              rw [e1, hq, words_data, splG_join, show (a.extract 0 (a.size - 9)).data.toList = a.data.toList.take (a.size - 9) by rw [← ext_take]]
              have h9 : a.size - 9 < a.data.toList.length := by omega
              rw [List.getElem?_eq_getElem h9] at f3
              rw [show a.size - 8 = (a.size - 9) + 1 by omega, List.take_succ_eq_append_getElem h9, Option.some.inj f3]
              rfl
            have hline : lineL ((wordsB a).map fun x => (unqV x).getD ⟨#[]⟩) = a.data.toList ++ [10] := by
              unfold lineL
              rw [hbody, h4, ← ext_drop]
              show a.data.toList.take (a.size - 8) ++ a.data.toList.drop (a.size - 8) ++ [10] = _
              rw [List.take_append_drop]
            have hwl : 1 ≤ (wordsB a).length := by
              have := congrArg List.length (words_data a)
              rw [List.length_map, splG_len] at this
              omega
            have hput := put_of (l := (wordsB a).map fun x => (unqV x).getD ⟨#[]⟩) (by rw [List.length_map]; exact hwl) (by rw [List.length_map]; omega) (by rw [hline, List.length_append]; simp; omega)
            rw [hput]
            refine ⟨rfl, ba_ext ?_⟩
            rw [data_app2, hs]
            show lineL ((wordsB a).map fun x => (unqV x).getD ⟨#[]⟩) ++ r.data.toList = _
            rw [hline]
            simp
          · exact absurd h (by decide)
def cat : List (List ByteArray) → ByteArray → ByteArray
  | [], r => r
  | l :: t, r => (putV l).1 ++ cat t r
theorem ba_assoc (a b c : ByteArray) : (a ++ b) ++ c = a ++ (b ++ c) := by
  apply ba_ext
  simp [ByteArray.data_append, Array.toList_append]
theorem cat_app (xs ys : List (List ByteArray)) (r : ByteArray) : cat (xs ++ ys) r = cat xs (cat ys r) := by
  induction xs with
  | nil => rfl
  | cons l t ih => show (putV l).1 ++ cat (t ++ ys) r = _; rw [ih]; rfl
theorem cat_behind (xs : List (List ByteArray)) (r q : ByteArray) : cat xs r ++ q = cat xs (r ++ q) := by
  induction xs with
  | nil => rfl
  | cons l t ih => show ((putV l).1 ++ cat t r) ++ q = (putV l).1 ++ cat t (r ++ q); rw [ba_assoc, ih]
theorem scan_step {l : List ByteArray} (h : (putV l).2 = 0) (r : ByteArray) (tot f : Nat) : scanG tot (f + 1) ((putV l).1 ++ r) = (l, (tot : Int) - (r.size : Int)) :: scanG tot f r := by
  rw [scanG, take_line h r, if_pos rfl]
theorem scan_stop {u : ByteArray} (h : (takeV u).2.2 ≠ 0) (tot : Nat) : ∀ f, scanG tot f u = [] := by
  intro f
  cases f with
  | zero => rfl
  | succ f => rw [scanG, if_neg h]
theorem cat_size (xs : List (List ByteArray)) (r : ByteArray) : (cat xs r).size = (cat xs ⟨#[]⟩).size + r.size := by
  have := cat_behind xs ⟨#[]⟩ r
  have e : (⟨#[]⟩ : ByteArray) ++ r = r := ba_ext (by simp [ByteArray.data_append, Array.toList_append])
  rw [e] at this
  rw [← this, ByteArray.size_append]
theorem scan_cat (tot : Nat) (r : ByteArray) (hr : (takeV r).2.2 ≠ 0) : ∀ (xs : List (List ByteArray)) (f : Nat), (∀ l ∈ xs, (putV l).2 = 0) → xs.length ≤ f →
    (scanG tot f (cat xs r)).map (·.1) = xs ∧ (xs ≠ [] → lastE (scanG tot f (cat xs r)) = (tot : Int) - (r.size : Int)) := by
  intro xs
  induction xs with
  | nil =>
    intro f _ _
    rw [cat, scan_stop hr]
    exact ⟨rfl, fun h => absurd rfl h⟩
  | cons l t ih =>
    intro f hx hf
    obtain ⟨f, rfl⟩ : ∃ g, f = g + 1 := ⟨f - 1, by simp at hf; omega⟩
    have hl := hx l (by simp)
    obtain ⟨i1, i2⟩ := ih f (fun y hy => hx y (by simp [hy])) (by simpa using hf)
    rw [cat, scan_step hl]
    refine ⟨by rw [List.map_cons, i1], fun _ => ?_⟩
    cases t with
    | nil =>
      rw [cat, scan_stop hr]
      rfl
    | cons m t' =>
      have i3 := i2 (by simp)
      rw [← i3]
      unfold lastE
      cases hs : scanG tot f (cat (m :: t') r) with
      | nil => rw [hs] at i1; simp at i1
      | cons a b => rw [List.getLast?_cons_cons]
theorem scanV_cat (xs : List (List ByteArray)) (r : ByteArray) (hx : ∀ l ∈ xs, (putV l).2 = 0) (hr : (takeV r).2.2 ≠ 0) : scanV (cat xs r) = (xs, ((cat xs ⟨#[]⟩).size : Int)) := by
  have hsz := cat_size xs r
  have hlen : xs.length ≤ (cat xs r).size + 1 := by
    have : ∀ ys : List (List ByteArray), (∀ l ∈ ys, (putV l).2 = 0) → ys.length ≤ (cat ys ⟨#[]⟩).size := by
      intro ys
      induction ys with
      | nil => intro _; exact Nat.zero_le _
      | cons l t ih =>
        intro h
        have h1 := ih fun y hy => h y (by simp [hy])
        obtain ⟨-, -, -, h4⟩ := put_ok (h l (by simp))
        have h5 : 1 ≤ (putV l).1.size := by
          rw [h4]
          show 1 ≤ (lineL l).toArray.size
          rw [List.size_toArray, line_len]
          omega
        show t.length + 1 ≤ ((putV l).1 ++ cat t ⟨#[]⟩).size
        rw [ByteArray.size_append]
        omega
    have := this xs hx
    omega
  obtain ⟨h1, h2⟩ := scan_cat (cat xs r).size r hr xs ((cat xs r).size + 1) hx hlen
  unfold scanV scanP
  rw [h1]
  congr 1
  cases xs with
  | nil =>
    rw [cat, scan_stop hr]
    rfl
  | cons l t =>
    rw [h2 (by simp), hsz]
    omega
theorem take_no10 {u : ByteArray} (h : ∀ c ∈ u.data.toList, c ≠ 10) : (takeV u).2.2 ≠ 0 := by
  rcases cut_one 10 u.data.toList with ⟨h1, ⟨h2, h3⟩ | ⟨h2, h3⟩⟩
  · exfalso
    rw [h3] at h
    exact h 10 (by simp) rfl
  · unfold takeV
    rw [h2, if_pos rfl]
    decide
theorem putV_size {l : List ByteArray} (h : (putV l).2 = 0) : (putV l).1.size = (lineL l).length := by
  rw [(put_ok h).2.2.2]
  exact List.size_toArray
theorem putV_data {l : List ByteArray} (h : (putV l).2 = 0) : (putV l).1.data.toList = lineL l := by
  rw [(put_ok h).2.2.2]
theorem line_no10 (l : List ByteArray) : lineL l = (bodyL l ++ (SumW.hex8 (adlOf (bodyL l))).data.toList) ++ [10] ∧ ∀ c ∈ bodyL l ++ (SumW.hex8 (adlOf (bodyL l))).data.toList, c ≠ 10 := by
  refine ⟨rfl, fun c hc => ?_⟩
  rcases List.mem_append.1 hc with h | h
  · exact body_no10 l c h
  · exact hex_no10 (hex8_hex _ c h)
end Go.Proofs.YtghbaehbgefpaaaGreatDoor.PureL
namespace Go.Proofs.YtghbaehbgefpaaaGreatDoor.R
open Go.RowKit Go.Proofs.YtghbaehbgefpaaaGreatDoorW.PrintWords Go.Proofs.YtghbaehbgefpaaaGreatDoorW.PrintLast Go.Proofs.YtghbaehbgefpaaaGreatDoorW.PrintMore
attribute [local go_sem] max2_int min2_int max_two min_two max_three min_three max_four min_four   -- for this text's walks alone
theorem info5 : (Tryz.prog.info? 5).map (fun i => (i.zero, i.size, i.bytes)) = some (some (.int .u8 0), 1, 1) := by kernel_rfl
-- the values' own types
end Go.Proofs.YtghbaehbgefpaaaGreatDoor.R
namespace Go.Proofs.YtghbaehbgefpaaaGreatDoor.R
open Go.Proofs.YtghbaehbgefpaaaGreatDoor.Hand2
open Go.Proofs.YtghbaehbgefpaaaGreatDoor
open Go.RowKit Go.Proofs.YtghbaehbgefpaaaGreatDoorW.PrintWords Go.Proofs.YtghbaehbgefpaaaGreatDoorW.PrintLast Go.Proofs.YtghbaehbgefpaaaGreatDoorW.PrintMore
attribute [local go_sem] max2_int min2_int max_two min_two max_three min_three max_four min_four   -- for this text's walks alone
def cooperageref1_digit.f (a0 : Int) : Option (Bool) := if a0 ≥ 48 then (some (decide (a0 ≤ 57))) else (some false)
set_option maxHeartbeats 8000000 in
set_option maxRecDepth 100000 in
theorem cooperageref1_digit.calls (a0 : Int) (r : Bool) (w : World) (h : cooperageref1_digit.f a0 = some r) :
    Calls Tryz.prog 96 #[.int .u8 a0] w fun e w' => e = .returned (.bool r) ∧ Drawn0 w w' := by
  have H : (if a0 ≥ 48 then (some (decide (a0 ≤ 57))) else (some false)) = some r := h
  clear h
  by_cases c2 : a0 ≥ 48
  · rw [if_pos c2] at H
    have c2b0 : decide (48 ≤ a0) = true := decide_eq_true c2
    clear c2
    obtain rfl := Option.some.inj H
    go_enter Tryz.func96, Tryz.ntmps96
    go_wp2
    go_ret
    exact ⟨by first | rfl | (simp; done) | (simp [*]; done), by repeat (first | exact Drawn0.refl _ | apply Drawn0.step)⟩
  · rw [if_neg c2] at H
    have c2b0 : decide (48 ≤ a0) = false := decide_eq_false c2
    clear c2
    obtain rfl := Option.some.inj H
    go_enter Tryz.func96, Tryz.ntmps96
    go_wp2
    go_ret
    exact ⟨by first | rfl | (simp; done) | (simp [*]; done), by repeat (first | exact Drawn0.refl _ | apply Drawn0.step)⟩
end Go.Proofs.YtghbaehbgefpaaaGreatDoor.R
