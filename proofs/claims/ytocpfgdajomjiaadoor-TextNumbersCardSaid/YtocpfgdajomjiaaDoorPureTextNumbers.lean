import Derived.Test.YtocpfgdajomjiaaDoorPureNum
import Derived.Test.YtocpfgdajomjiaaDoorPureShown
import Derived.Test.YtocpfgdajomjiaaDoorR7
/- TextNumbers, plain. -/
namespace Go.Proofs.YtocpfgdajomjiaaDoor.PureR
open Go.RowKit Go.Proofs.YtocpfgdajomjiaaDoor.R Go.Proofs.YtocpfgdajomjiaaDoor.Hand2 Go.Proofs.YtocpfgdajomjiaaDoorW.PrintWords Go.Proofs.YtocpfgdajomjiaaDoor.Spl
open Go.Proofs.YtocpfgdajomjiaaDoor.Hand hiding text_Lines.f text_Words.f text_Trim.f text_Join.f text_Path.f text_Quote.f text_Lines.calls text_Words.calls text_Trim.calls text_Join.calls text_Path.calls text_Quote.calls Glob
set_option linter.unusedVariables false
set_option linter.unusedSimpArgs false
theorem dec_step (m : Nat) : Lib.decDigits m = (if m / 10 = 0 then [] else Lib.decDigits (m / 10)) ++ [UInt8.ofNat (48 + m % 10)] := by
  rw [dec_eq]
  by_cases h : m < 10
  · rw [if_pos h, if_pos (by omega), show m % 10 = m by omega]
    rfl
  · rw [if_neg h, if_neg (by omega)]
theorem dig_ext (m : Nat) : ((⟨#[48, 49, 50, 51, 52, 53, 54, 55, 56, 57]⟩ : ByteArray).extract (m % 10) (m % 10 + 1)).data.toList = [UInt8.ofNat (48 + m % 10)] := by
  have h : ∀ r : Fin 10, ((⟨#[48, 49, 50, 51, 52, 53, 54, 55, 56, 57]⟩ : ByteArray).extract r.val (r.val + 1)).data.toList = [UInt8.ofNat (48 + r.val)] := by decide +kernel
  exact h ⟨m % 10, Nat.mod_lt _ (by decide)⟩
theorem numbers_end (n : Nat) (hn : n ≤ 999999999) (s d : ByteArray) (hs : s.size ≤ 50) (hd : d.data.toList = Lib.decDigits n) : Ev fun k => cooperagelaw1_TextNumbers.l0 k (n : Int) s d 0 = some true := by
  obtain ⟨hdig, hlen1, hhd, hval⟩ := dec_spec n
  have hcan := dec_can n
  have hlen9 := dec_len 8 n (by omega)
  have hdl := len_data d
  rw [hd] at hdl
  have z1 : ((⟨#[48]⟩ : ByteArray)).size = 1 := rfl
  have e1 : numV d = ((n : Int), true) := by
    rw [numV_eq, hd, if_pos, hval]
    simp only [numL, hcan, Bool.true_and, decide_eq_true_eq]
    omega
  have e2 : numV ((⟨#[48]⟩ : ByteArray) ++ d) = (0, false) := by
    rw [numV_eq, data_app2, hd, if_neg]
    intro h
    simp only [numL, Bool.and_eq_true] at h
    have := (can_parts h.1).2.2
    rcases this with h1 | h1
    · simp at h1
      rw [h1] at hlen1
      simp at hlen1
    · exact h1 rfl
  have e3 : numV (d ++ s) = (0, false) ∨ ∃ v : Nat, n ≤ v ∧ numV (d ++ s) = ((v : Int), true) := by
    rw [numV_eq, data_app2, hd]
    by_cases h : numL (Lib.decDigits n ++ s.data.toList) = true
    · rw [if_pos h]
      refine .inr ⟨_, ?_, rfl⟩
      rw [val_app, hval]
      exact val_le _ _
    · rw [if_neg h]
      exact .inl rfl
  refine Ev.up (Ev.of fun k => ?_)
  simp only [cooperagelaw1_TextNumbers.l0]
  have hne : ¬ d.toList = [] := by
    rw [tl, hd]
    intro e
    rw [e] at hlen1
    simp at hlen1
  rw [if_neg (by omega), if_neg hne, number_ok d (by omega), Option.bind_some, if_pos (by omega), number_ok _ (by rw [ByteArray.size_append, z1]; omega), Option.bind_some, if_pos (by omega),
    number_ok _ (by rw [ByteArray.size_append]; omega), Option.bind_some, e1, e2]
  rw [if_pos rfl, if_pos rfl, if_neg (by decide), if_pos rfl]
  rcases e3 with e3 | ⟨v, hv, e3⟩
  · rw [e3, if_neg (by decide), if_pos rfl]
  · rw [e3, if_pos rfl]
    congr 1
    exact decide_eq_true (by omega)
theorem numbers_loop (n : Nat) (hn : n ≤ 999999999) (s : ByteArray) (hs : s.size ≤ 50) : ∀ (m : Nat) (d : ByteArray), m ≤ n → d.size ≤ 20 + (999999999 - m) → (d.data.toList = [] ∧ m = n) ∨ (d.data.toList ≠ [] ∧ Lib.decDigits n = (if m = 0 then [] else Lib.decDigits m) ++ d.data.toList) →
    Ev fun k => cooperagelaw1_TextNumbers.l0 k (n : Int) s d (m : Int) = some true := by
  intro m
  induction m using Nat.strongRecOn with
  | ind m ih =>
    intro d hm hds hst
    by_cases hend : m = 0 ∧ d.data.toList ≠ []
    · obtain ⟨rfl, hne⟩ := hend
      refine numbers_end n hn s d hs ?_
      rcases hst with ⟨h, _⟩ | ⟨_, h⟩
      · exact absurd h hne
      · rw [h]
        rfl
    · have ht : Int.tmod (m : Int) 10 = ((m % 10 : Nat) : Int) := by rw [Int.tmod_eq_emod_of_nonneg (by omega)]; omega
      have hq : wrap64 (Int.tdiv (m : Int) 10) = ((m / 10 : Nat) : Int) := by
        rw [Int.tdiv_eq_ediv_of_nonneg (by omega), w64 (by omega) (by omega)]
        omega
      have hw : wrap64 (((m % 10 : Nat) : Int) + 1) = ((m % 10 + 1 : Nat) : Int) := w64s (m % 10) (by omega)
      have hdat : (((⟨#[48, 49, 50, 51, 52, 53, 54, 55, 56, 57]⟩ : ByteArray).extract (m % 10) (m % 10 + 1)) ++ d).data.toList = UInt8.ofNat (48 + m % 10) :: d.data.toList := by
        rw [data_app2, dig_ext]
        rfl
      have hsz : ((⟨#[48, 49, 50, 51, 52, 53, 54, 55, 56, 57]⟩ : ByteArray).extract (m % 10) (m % 10 + 1)).size = 1 := by
        rw [← len_data, dig_ext]
        rfl
      have key : Ev fun k => cooperagelaw1_TextNumbers.l0 k (n : Int) s (((⟨#[48, 49, 50, 51, 52, 53, 54, 55, 56, 57]⟩ : ByteArray).extract (m % 10) (m % 10 + 1)) ++ d) ((m / 10 : Nat) : Int) = some true := by
        by_cases h0 : m = 0
        · subst h0
          have hde : d.data.toList = [] := Classical.byContradiction fun h => hend ⟨rfl, h⟩
          have hn0 : 0 = n := by
            rcases hst with ⟨_, h⟩ | ⟨h, _⟩
            · exact h
            · exact absurd hde h
          refine numbers_end n hn s _ hs ?_
          rw [hdat, hde, ← hn0, dec_eq, if_pos (by omega)]
        · refine ih (m / 10) (by omega) _ (by omega) (by rw [ByteArray.size_append, hsz]; omega) (.inr ⟨by rw [hdat]; simp, ?_⟩)
          rw [hdat]
          rcases hst with ⟨h, e⟩ | ⟨h, e⟩
          · rw [h, ← e]
            exact dec_step m
          · rw [if_neg h0] at e
            rw [e, dec_step m, List.append_assoc]
            rfl
      refine Ev.up (key.mp fun k hk => ?_)
      simp only [cooperagelaw1_TextNumbers.l0]
      by_cases hp : (m : Int) > 0
      · rw [if_pos hp, ht, hw, hq, if_pos (by omega), if_pos (by omega), if_pos (by omega), Int.toNat_natCast, Int.toNat_natCast, if_pos (by rw [hsz]; omega)]
        exact hk
      · have hde : d.data.toList = [] := Classical.byContradiction fun h => hend ⟨by omega, h⟩
        rw [if_neg hp, if_pos (by rw [tl]; exact hde), ht, hw, hq, if_pos (by omega), if_pos (by omega), if_pos (by omega), Int.toNat_natCast, Int.toNat_natCast, if_pos (by rw [hsz]; omega)]
        exact hk
theorem TextNumbers : ∀ (n : Int), (Lit.int .i64 n).wf = true → ∀ (s : ByteArray), s.size ≤ 140737488351232 → ∃ k, cooperagelaw1_TextNumbers.f k n s = some true := by
  intro n _ s _
  have hj1 : Ev fun k => cooperagelaw1_TextNumbers.j0 k n s true true = some true := by
    refine Ev.up (Ev.of fun k => ?_)
    simp only [cooperagelaw1_TextNumbers.j0]
    rw [if_pos trivial]
  by_cases h0 : n < 0
  · refine ((shown_f.and hj1).mp fun k h => ?_).get
    unfold cooperagelaw1_TextNumbers.f
    rw [h.1, Option.bind_some, if_pos rfl, if_pos h0]
    exact h.2
  · by_cases h1 : n > 999999999
    · refine ((shown_f.and hj1).mp fun k h => ?_).get
      unfold cooperagelaw1_TextNumbers.f
      rw [h.1, Option.bind_some, if_pos rfl, if_neg h0, if_pos h1]
      exact h.2
    · by_cases h2 : s.size ≤ 50
      · obtain ⟨m, rfl⟩ := Int.eq_ofNat_of_zero_le (by omega : 0 ≤ n)
        have hj0 : Ev fun k => cooperagelaw1_TextNumbers.j0 k (m : Int) s true false = some true := by
          refine Ev.up ((numbers_loop m (by omega) s h2 m (⟨#[]⟩ : ByteArray) (Nat.le_refl _) (by show 0 ≤ _; omega) (.inl ⟨rfl, rfl⟩)).mp fun k hk => ?_)
          simp only [cooperagelaw1_TextNumbers.j0]
          rw [if_neg (by decide)]
          exact hk
        refine ((shown_f.and hj0).mp fun k h => ?_).get
        unfold cooperagelaw1_TextNumbers.f
        rw [h.1, Option.bind_some, if_pos rfl, if_neg h0, if_neg h1, show decide ((s.size : Int) > 50) = false from decide_eq_false (by omega)]
        exact h.2
      · refine ((shown_f.and hj1).mp fun k h => ?_).get
        unfold cooperagelaw1_TextNumbers.f
        rw [h.1, Option.bind_some, if_pos rfl, if_neg h0, if_neg h1, show decide ((s.size : Int) > 50) = true from decide_eq_true (by omega)]
        exact h.2
end Go.Proofs.YtocpfgdajomjiaaDoor.PureR
