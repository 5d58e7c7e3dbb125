import Derived.Test.YtocpfgdajomjiaaDoorPureG
import Derived.Lib.ParseIntBCases
/- Plain facts of numerals. -/
namespace Go.Proofs.YtocpfgdajomjiaaDoor.PureR
open Go.RowKit Go.Proofs.YtocpfgdajomjiaaDoor.Hand2
open Go.Proofs.YtocpfgdajomjiaaDoor.Hand hiding text_Lines.f text_Words.f text_Trim.f text_Join.f text_Path.f text_Quote.f text_Lines.calls text_Words.calls text_Trim.calls text_Join.calls text_Path.calls text_Quote.calls Glob
set_option linter.unusedVariables false
set_option linter.unusedSimpArgs false
def dgB (c : UInt8) : Bool := decide (48 ≤ c.toNat ∧ c.toNat ≤ 57)
def val (acc : Nat) (l : List UInt8) : Nat := l.foldl (fun a c => a * 10 + (c.toNat - 48)) acc
theorem val_cons (acc : Nat) (c : UInt8) (t : List UInt8) : val acc (c :: t) = val (acc * 10 + (c.toNat - 48)) t := by unfold val; rw [List.foldl_cons]
theorem val_snoc (acc : Nat) (c : UInt8) (t : List UInt8) : val acc (t ++ [c]) = val acc t * 10 + (c.toNat - 48) := by simp [val, List.foldl_append]
theorem val_app (acc : Nat) (a b : List UInt8) : val acc (a ++ b) = val (val acc a) b := by simp [val, List.foldl_append]
theorem val_le : ∀ (l : List UInt8) (acc : Nat), acc ≤ val acc l := by
  intro l
  induction l with
  | nil => intro acc; exact Nat.le_refl _
  | cons c t ih =>
    intro acc
    rw [val_cons]
    have := ih (acc * 10 + (c.toNat - 48))
    omega
theorem val_lt : ∀ (l : List UInt8) (acc : Nat), (∀ c ∈ l, dgB c = true) → val acc l < (acc + 1) * 10 ^ l.length := by
  intro l
  induction l with
  | nil => intro acc _; simp [val]
  | cons c t ih =>
    intro acc h
    have h1 := ih (acc * 10 + (c.toNat - 48)) (fun d hd => h d (by simp [hd]))
    have h2 := h c (by simp)
    simp only [dgB, decide_eq_true_eq] at h2
    rw [val_cons, List.length_cons, Nat.pow_succ]
    have h3 : acc * 10 + (c.toNat - 48) + 1 ≤ (acc + 1) * 10 := by omega
    calc _ < _ := h1
      _ ≤ (acc + 1) * 10 * 10 ^ t.length := Nat.mul_le_mul_right _ h3
      _ = _ := by rw [Nat.mul_assoc, Nat.mul_comm 10]
theorem parse_ok {M : Nat} : ∀ (l : List UInt8) (acc u : Nat), Lib.parseUintM M acc l = .ok u → (∀ c ∈ l, dgB c = true) ∧ u = val acc l := by
  intro l
  induction l with
  | nil =>
    intro acc u h
    simp only [Lib.parseUintM] at h
    cases h
    exact ⟨by simp, rfl⟩
  | cons c t ih =>
    intro acc u h
    rw [Lib.parseUintM] at h
    split at h
    next hd =>
      split at h
      · cases h
      · split at h
        · cases h
        · obtain ⟨h1, h2⟩ := ih _ _ h
          refine ⟨fun d hm => ?_, h2⟩
          rcases List.mem_cons.1 hm with e | e
          · subst e
            exact decide_eq_true hd
          · exact h1 d e
    next => cases h
theorem parse_of {M : Nat} (hM : M ≤ 4294967295) : ∀ (l : List UInt8) (acc : Nat), (∀ c ∈ l, dgB c = true) → val acc l ≤ M → Lib.parseUintM M acc l = .ok (val acc l) := by
  intro l
  induction l with
  | nil => intro acc _ _; rfl
  | cons c t ih =>
    intro acc h hv
    have h2 := h c (by simp)
    simp only [dgB, decide_eq_true_eq] at h2
    rw [val_cons] at hv ⊢
    have h3 := val_le t (acc * 10 + (c.toNat - 48))
    rw [Lib.parseUintM, if_pos h2, if_neg (by omega), if_neg (by omega)]
    exact ih _ (fun d hd => h d (by simp [hd])) hv
def canB (l : List UInt8) : Bool := decide (1 ≤ l.length) && l.all dgB && (decide (l.length = 1) || decide (l.head? ≠ some 48))
theorem dec_eq (u : Nat) : Lib.decDigits u = if u < 10 then [UInt8.ofNat (48 + u)] else Lib.decDigits (u / 10) ++ [UInt8.ofNat (48 + u % 10)] := by
  rw [Lib.decDigits]
  split <;> rfl
theorem ofNat_to (n : Nat) (h : n < 256) : (UInt8.ofNat n).toNat = n := by simp [UInt8.toNat_ofNat']; omega
theorem dec_spec : ∀ u : Nat, (∀ c ∈ Lib.decDigits u, dgB c = true) ∧ 1 ≤ (Lib.decDigits u).length ∧ (1 ≤ u → (Lib.decDigits u).head? ≠ some 48) ∧ val 0 (Lib.decDigits u) = u := by
  intro u
  induction u using Nat.strongRecOn with
  | ind u ih =>
    rw [dec_eq]
    by_cases h : u < 10
    · rw [if_pos h]
      have e := ofNat_to (48 + u) (by omega)
      refine ⟨fun c hc => ?_, by simp, fun h1 => ?_, ?_⟩
      · rw [List.mem_singleton.1 hc, dgB, e]
        exact decide_eq_true (by omega)
      · intro h2
        have h3 : UInt8.ofNat (48 + u) = 48 := by simpa using h2
        rw [h3] at e
        have : (48 : UInt8).toNat = 48 := rfl
        omega
      · rw [val_cons, e]
        show 0 * 10 + (48 + u - 48) = u
        omega
    · rw [if_neg h]
      obtain ⟨i1, i2, i3, i4⟩ := ih (u / 10) (by omega)
      have e := ofNat_to (48 + u % 10) (by omega)
      refine ⟨fun c hc => ?_, by simp, fun h1 => ?_, ?_⟩
      · rcases List.mem_append.1 hc with hc | hc
        · exact i1 c hc
        · rw [List.mem_singleton.1 hc, dgB, e]
          exact decide_eq_true (by omega)
      · cases hd : Lib.decDigits (u / 10) with
        | nil => rw [hd] at i2; simp at i2
        | cons x t =>
          have := i3 (by omega)
          rw [hd] at this
          simpa using this
      · rw [val_snoc, i4, e]
        omega
theorem dec_can (u : Nat) : canB (Lib.decDigits u) = true := by
  obtain ⟨i1, i2, i3, -⟩ := dec_spec u
  simp only [canB, Bool.and_eq_true, Bool.or_eq_true, decide_eq_true_eq, List.all_eq_true]
  refine ⟨⟨i2, i1⟩, ?_⟩
  by_cases h : 1 ≤ u
  · exact .inr (i3 h)
  · left
    rw [dec_eq, if_pos (by omega)]
    rfl
theorem dec_val : ∀ (n : Nat) (l : List UInt8), l.length = n → canB l = true → Lib.decDigits (val 0 l) = l := by
  intro n
  induction n with
  | zero =>
    intro l hl hc
    simp [canB, hl] at hc
  | succ n ih =>
    intro l hl hc
    have hne : l ≠ [] := by intro e; subst e; simp at hl
    have hsp := List.dropLast_concat_getLast hne
    generalize l.getLast hne = c at hsp
    generalize l.dropLast = t at hsp
    subst hsp
    simp only [canB, Bool.and_eq_true, Bool.or_eq_true, decide_eq_true_eq, List.all_eq_true] at hc
    obtain ⟨⟨-, hd⟩, hh⟩ := hc
    have hc1 := hd c (by simp)
    simp only [dgB, decide_eq_true_eq] at hc1
    rw [val_snoc]
    have hb : UInt8.ofNat (48 + (c.toNat - 48)) = c := by
      apply UInt8.toNat_inj.1
      rw [ofNat_to _ (by omega)]
      omega
    cases t with
    | nil =>
      rw [dec_eq]
      simp only [val, List.foldl_nil, Nat.zero_mul, Nat.zero_add]
      rw [if_pos (by omega), hb]
      rfl
    | cons x r =>
      have hlen : ¬ ((x :: r) ++ [c]).length = 1 := by simp
      have hx : x ≠ 48 := by
        rcases hh with h | h
        · exact absurd h hlen
        · intro e
          subst e
          exact h rfl
      have hxd := hd x (by simp)
      simp only [dgB, decide_eq_true_eq] at hxd
      have hx1 : 1 ≤ x.toNat - 48 := by
        have : x.toNat ≠ 48 := fun e => hx (UInt8.toNat_inj.1 e)
        omega
      have hv1 : 1 ≤ val 0 (x :: r) := by
        rw [val_cons]
        have := val_le r (0 * 10 + (x.toNat - 48))
        omega
      have hi := ih (x :: r) (by simp at hl ⊢; omega) (by
        simp only [canB, Bool.and_eq_true, Bool.or_eq_true, decide_eq_true_eq, List.all_eq_true]
        exact ⟨⟨by simp, fun d hm => hd d (by simp at hm ⊢; rcases hm with h | h <;> simp [h])⟩, .inr (by simpa using hx)⟩)
      rw [dec_eq, if_neg (by omega), show (val 0 (x :: r) * 10 + (c.toNat - 48)) / 10 = val 0 (x :: r) by omega, hi, show (val 0 (x :: r) * 10 + (c.toNat - 48)) % 10 = c.toNat - 48 by omega, hb]
def numL (l : List UInt8) : Bool := canB l && decide (l.length ≤ 9)
theorem can_parts {l : List UInt8} (h : canB l = true) : 1 ≤ l.length ∧ (∀ c ∈ l, dgB c = true) ∧ (l.length = 1 ∨ l.head? ≠ some 48) := by
  simp only [canB, Bool.and_eq_true, Bool.or_eq_true, decide_eq_true_eq, List.all_eq_true] at h
  exact ⟨h.1.1, h.1.2, h.2⟩
theorem num_lt {l : List UInt8} (h : numL l = true) : val 0 l < 1000000000 := by
  simp only [numL, Bool.and_eq_true, decide_eq_true_eq] at h
  have h1 := val_lt l 0 (can_parts h.1).2.1
  have h2 : 10 ^ l.length ≤ 10 ^ 9 := Nat.pow_le_pow_right (by decide) h.2
  omega
theorem numV_eq (s : ByteArray) : numV s = if numL s.data.toList = true then ((val 0 s.data.toList : Int), true) else (0, false) := by
  have hl := len_data s
  by_cases h : numL s.data.toList = true
  · rw [if_pos h]
    have hlt := num_lt h
    simp only [numL, Bool.and_eq_true, decide_eq_true_eq] at h
    have hp := can_parts h.1
    have hq : Lib.parseUintB 32 s.data.toList = .ok (val 0 s.data.toList) := by
      unfold Lib.parseUintB
      rw [if_neg (by intro e; rw [e] at hp; simp at hp)]
      exact parse_of (by decide) _ 0 hp.2.1 (by omega)
    unfold numV
    rw [hq]
    show (if _ then _ else _) = _
    rw [if_pos ⟨by omega, by rw [Lib.itoa_nonneg]; exact dec_val _ _ rfl h.1⟩]
  · rw [if_neg h]
    unfold numV
    cases hq : Lib.parseUintB 32 s.data.toList with
    | ok u =>
      show (if _ then _ else _) = _
      rw [if_neg]
      rintro ⟨h1, h2⟩
      rw [Lib.itoa_nonneg] at h2
      apply h
      simp only [numL, Bool.and_eq_true, decide_eq_true_eq]
      exact ⟨h2 ▸ dec_can u, by omega⟩
    | range => rfl
    | _ => rfl
theorem dec_len : ∀ (k u : Nat), u < 10 ^ (k + 1) → (Lib.decDigits u).length ≤ k + 1 := by
  intro k
  induction k with
  | zero =>
    intro u h
    rw [dec_eq, if_pos (by omega)]
    simp
  | succ k ih =>
    intro u h
    rw [dec_eq]
    split
    · simp
    · have := ih (u / 10) (by rw [Nat.pow_succ] at h; omega)
      rw [List.length_append]
      simp only [List.length_cons, List.length_nil]
      omega
end Go.Proofs.YtocpfgdajomjiaaDoor.PureR
