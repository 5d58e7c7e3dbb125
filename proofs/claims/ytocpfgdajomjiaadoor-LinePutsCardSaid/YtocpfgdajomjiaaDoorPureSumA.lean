import Derived.Test.YtocpfgdajomjiaaDoorLineA
/- Plain facts of the sum. -/
namespace Go.Proofs.YtocpfgdajomjiaaDoor.PureL
open Go.RowKit Go.Proofs.YtocpfgdajomjiaaDoor.SumW Go.Proofs.YtocpfgdajomjiaaDoorW.PrintWords
set_option linter.unusedVariables false
set_option linter.unusedSimpArgs false
def addv (n : Nat) (s : ByteArray) : Nat := adlSum (adl (adlStart n) s.data.toList)
theorem adlSum_lt (p : Nat × Nat) (h1 : p.1 < 65521) (h2 : p.2 < 65521) : adlSum p < 4294967296 := by unfold adlSum; omega
theorem addv_lt (n : Nat) (s : ByteArray) : addv n s < 4294967296 := by
  have h := adlStart_lt n
  have h2 := adl_lt s.data.toList _ h.1 h.2
  exact adlSum_lt _ h2.1 h2.2
theorem hex8_data (n : Nat) (hn : n < 4294967296) : (hex8 n).data.toList = [hexd (n / 268435456 % 16), hexd (n / 16777216 % 16), hexd (n / 1048576 % 16), hexd (n / 65536 % 16), hexd (n / 4096 % 16), hexd (n / 256 % 16), hexd (n / 16 % 16), hexd (n % 16)] := by
  unfold hex8
  rw [hexList_ge (by omega), hexList_ge (by omega), hexList_ge (by omega), hexList_ge (by omega), hexList_ge (by omega), hexList_ge (by omega), hexList_ge (by omega), hexList_ge (by omega), hexList_lt (by omega)]
  simp only [List.cons_append, List.nil_append, List.drop_succ_cons, List.drop_zero, Nat.div_div_eq_div_mul]
  have e : ∀ a b : Nat, a = b → hexd a = hexd b := fun a b h => by rw [h]
  congr 1
  · exact e _ _ (by omega)
  congr 1
  · exact e _ _ (by omega)
  congr 1
  · exact e _ _ (by omega)
  congr 1
  · exact e _ _ (by omega)
  congr 1
  · exact e _ _ (by omega)
  congr 1
  · exact e _ _ (by omega)
  congr 1
  · exact e _ _ (by omega)
  congr 1
  exact e _ _ (by omega)

theorem adl_append (p : Nat × Nat) (l m : List UInt8) : adl p (l ++ m) = adl (adl p l) m := List.foldl_append
theorem adlStart_sum (p : Nat × Nat) (h1 : p.1 < 65521) (h2 : p.2 < 65521) : adlStart (adlSum p) = p := by
  unfold adlStart adlSum
  apply Prod.ext
  · show (p.2 * 65536 + p.1) % 65536 % 65521 = p.1
    omega
  · show (p.2 * 65536 + p.1) / 65536 % 65521 = p.2
    omega
theorem adl_fst : ∀ (l : List UInt8) (p : Nat × Nat), p.1 < 65521 → (adl p l).1 = (p.1 + (l.map UInt8.toNat).sum) % 65521 := by
  intro l
  induction l with
  | nil => intro p h; simp [adl, Nat.mod_eq_of_lt h]
  | cons c l ih =>
    intro p h
    show (adl (adlStep p c) l).1 = _
    rw [ih _ (Nat.mod_lt _ (by decide))]
    simp only [adlStep, List.map_cons, List.sum_cons]
    omega
theorem adlSum_inj (p q : Nat × Nat) (h1 : p.1 < 65521) (h3 : q.1 < 65521) (h : adlSum p = adlSum q) : p = q := by
  unfold adlSum at h
  apply Prod.ext <;> omega
theorem hexd_inj : ∀ a, a < 16 → ∀ b, b < 16 → hexd a = hexd b → a = b := by decide +kernel
theorem hex8_inj (a b : Nat) (ha : a < 4294967296) (hb : b < 4294967296) (h : hex8 a = hex8 b) : a = b := by
  have e : (hex8 a).data.toList = (hex8 b).data.toList := by rw [h]
  rw [hex8_data a ha, hex8_data b hb] at e
  simp only [List.cons.injEq, and_true] at e
  obtain ⟨e1, e2, e3, e4, e5, e6, e7, e8⟩ := e
  have f1 := hexd_inj _ (Nat.mod_lt _ (by decide)) _ (Nat.mod_lt _ (by decide)) e1
  have f2 := hexd_inj _ (Nat.mod_lt _ (by decide)) _ (Nat.mod_lt _ (by decide)) e2
  have f3 := hexd_inj _ (Nat.mod_lt _ (by decide)) _ (Nat.mod_lt _ (by decide)) e3
  have f4 := hexd_inj _ (Nat.mod_lt _ (by decide)) _ (Nat.mod_lt _ (by decide)) e4
  have f5 := hexd_inj _ (Nat.mod_lt _ (by decide)) _ (Nat.mod_lt _ (by decide)) e5
  have f6 := hexd_inj _ (Nat.mod_lt _ (by decide)) _ (Nat.mod_lt _ (by decide)) e6
  have f7 := hexd_inj _ (Nat.mod_lt _ (by decide)) _ (Nat.mod_lt _ (by decide)) e7
  have f8 := hexd_inj _ (Nat.mod_lt _ (by decide)) _ (Nat.mod_lt _ (by decide)) e8
  omega
theorem addv_changed (n : Nat) (u v : List UInt8) (c e : UInt8) (h : addv n ⟨(u ++ c :: v).toArray⟩ = addv n ⟨(u ++ e :: v).toArray⟩) : c = e := by
  have hst := adlStart_lt n
  have h1 := adl_lt (u ++ c :: v) _ hst.1 hst.2
  have h2 := adl_lt (u ++ e :: v) _ hst.1 hst.2
  have h3 : adl (adlStart n) (u ++ c :: v) = adl (adlStart n) (u ++ e :: v) := adlSum_inj _ _ h1.1 h2.1 h
  have h4 := congrArg Prod.fst h3
  rw [adl_fst _ _ hst.1, adl_fst _ _ hst.1] at h4
  simp only [List.map_append, List.sum_append, List.map_cons, List.sum_cons] at h4
  have hc : c.toNat < 256 := UInt8.toNat_lt _
  have he : e.toNat < 256 := UInt8.toNat_lt _
  exact UInt8.toNat_inj.1 (by omega)
end Go.Proofs.YtocpfgdajomjiaaDoor.PureL
