import Derived.Test.YtanclpdphlbeiaaDoorP1
namespace Go.Proofs.YtanclpdphlbeiaaDoor.Pure
open Go.RowKit Go.Proofs.YtanclpdphlbeiaaDoor.P Go.Proofs.YtanclpdphlbeiaaDoor.Hand Go.Proofs.YtanclpdphlbeiaaDoorW.PrintWords

theorem w64 {x : Int} (h0 : -9223372036854775808 ≤ x) (h1 : x ≤ 9223372036854775807) : wrap64 x = x := by unfold wrap64; omega
theorem bt_nat (s : ByteArray) (i : Nat) (h : i < s.size) : bt s (i : Int) = ((s.data.toList[i]'(by simpa using h)).toNat : Int) := by
  have h' : i < s.data.size := h
  unfold bt
  rw [dif_pos (by simpa using h)]
  simp [ByteArray.getElem_eq_getElem_data]
theorem drop_bt (s : ByteArray) (i : Nat) (h : i < s.size) : s.data.toList.drop i = (s.data.toList[i]'(by simpa using h)) :: s.data.toList.drop (i + 1) :=
  List.drop_eq_getElem_cons (by simpa using h)

theorem len_data (s : ByteArray) : s.data.toList.length = s.size := by rw [Array.length_toList]; rfl
theorem ext_list (s : ByteArray) (a b : Nat) : (s.extract a b).data.toList = (s.data.toList.drop a).take (b - a) := by
  rw [ByteArray.data_extract, Array.toList_extract, List.extract_eq_take_drop]
theorem ext_end (s : ByteArray) (a : Nat) : (s.extract a s.size).data.toList = s.data.toList.drop a := by
  rw [ext_list, List.take_of_length_le]
  rw [List.length_drop, len_data]
  exact Nat.le_refl _
theorem ext_start (s : ByteArray) (b : Nat) : (s.extract 0 b).data.toList = s.data.toList.take b := by
  rw [ext_list, List.drop_zero, Nat.sub_zero]
theorem eq_of_list {s t : ByteArray} (h : s.data.toList = t.data.toList) : s = t := ByteArray.ext (Array.toList_inj.1 h)
theorem app_list (s t : ByteArray) : (s ++ t).data.toList = s.data.toList ++ t.data.toList := by rw [ByteArray.data_append, Array.toList_append]

def addv (n : Nat) (s : ByteArray) : Nat := adlSum (adl (adlStart n) s.data.toList)
theorem adlSum_lt (p : Nat × Nat) (h1 : p.1 < 65521) (h2 : p.2 < 65521) : adlSum p < 4294967296 := by unfold adlSum; omega
theorem addv_lt (n : Nat) (s : ByteArray) : addv n s < 4294967296 := by
  have h := adlStart_lt n
  have h2 := adl_lt s.data.toList _ h.1 h.2
  exact adlSum_lt _ h2.1 h2.2
theorem add_f (n : Nat) (s : ByteArray) (hn : n < 4294967296) (hs : s.size ≤ 140737488351232) : sum_Add.f (n : Int) s = some ((addv n s : Nat) : Int) := by
  unfold sum_Add.f
  rw [if_pos ⟨by omega, by omega, hs⟩]
  simp [addv]
theorem of_f (s : ByteArray) (hs : s.size ≤ 140737488351232) : sum_Of.f s = some ((addv 1 s : Nat) : Int) := by
  unfold sum_Of.f
  rw [show (1 : Int) = ((1 : Nat) : Int) from rfl, add_f 1 s (by omega) hs]
  rfl
theorem hex_f (n : Nat) (hn : n < 4294967296) : sum_Hex.f (n : Int) = some (hex8 n) := by
  unfold sum_Hex.f
  rw [if_pos ⟨by omega, by omega⟩]
  simp

/-- Eight digits, one by one. -/
theorem hex8_data (n : Nat) (hn : n < 4294967296) : (hex8 n).data.toList = [hexd (n / 268435456 % 16), hexd (n / 16777216 % 16), hexd (n / 1048576 % 16), hexd (n / 65536 % 16), hexd (n / 4096 % 16), hexd (n / 256 % 16), hexd (n / 16 % 16), hexd (n % 16)] := by
  unfold hex8
  rw [hexList_ge (by omega), hexList_ge (by omega), hexList_ge (by omega), hexList_ge (by omega), hexList_ge (by omega), hexList_ge (by omega), hexList_ge (by omega), hexList_ge (by omega), hexList_lt (by omega)]
  simp only [List.cons_append, List.nil_append, List.drop_succ_cons, List.drop_zero, Nat.div_div_eq_div_mul]
  have e : ∀ a b : Nat, a = b → hexd a = hexd b := fun a b h => by rw [h]
  congr 1
  · exact e _ _ (by omega)
  congr 1
  · exact e _ _ (by omega)
  congr 1
  · exact e _ _ (by omega)
  congr 1
  · exact e _ _ (by omega)
  congr 1
  · exact e _ _ (by omega)
  congr 1
  · exact e _ _ (by omega)
  congr 1
  · exact e _ _ (by omega)
  congr 1
  exact e _ _ (by omega)

theorem shown_f : cooperagelaw3_shown.f = some true := by
  unfold cooperagelaw3_shown.f
  rw [of_f _ (by decide)]
  rw [show (addv 1 ⟨#[]⟩) = 1 from by decide +kernel]
  rw [Option.bind_some]
  rw [if_pos (by rfl), of_f _ (by decide)]
  rw [show (addv 1 ⟨#[87, 105, 107, 105, 112, 101, 100, 105, 97]⟩) = 300286872 from by decide +kernel]
  rw [Option.bind_some]
  rw [hex_f _ (by decide)]
  rw [Option.bind_some]
  have : (hex8 300286872).toList = [49, 49, 101, 54, 48, 51, 57, 56] := by
    rw [ByteArray.toList_eq]
    rw [hex8_data _ (by decide)]
    decide +kernel
  rw [this]
  rfl

/-! the references -/
theorem tmod_nat (a b : Nat) : Int.tmod (a : Int) (b : Int) = ((a % b : Nat) : Int) := rfl
theorem tdiv_nat (a b : Nat) : Int.tdiv (a : Int) (b : Int) = ((a / b : Nat) : Int) := rfl
theorem ref_loop (s : ByteArray) (hs : s.size ≤ 140737488351232) : ∀ (d k i a b : Nat), s.size - i = d → i ≤ s.size → d < k → a < 65521 → b < 65521 →
    cooperageref3_Add.l0 k s (a : Int) (b : Int) (i : Int) = some ((adlSum (adl (a, b) (s.data.toList.drop i)) : Nat) : Int) := by
  intro d
  induction d with
  | zero =>
    intro k i a b hd hi hk ha hb
    obtain ⟨k, rfl⟩ : ∃ m, k = m + 1 := ⟨k - 1, by omega⟩
    simp only [cooperageref3_Add.l0]
    rw [if_neg (by omega), List.drop_eq_nil_of_le (by simp; omega)]
    congr 1
    rw [w64 (x := (b : Int) * 65536) (by omega) (by omega), w64 (by omega) (by omega)]
    simp only [adl, List.foldl_nil, adlSum]
    omega
  | succ d ih =>
    intro k i a b hd hi hk ha hb
    obtain ⟨k, rfl⟩ : ∃ m, k = m + 1 := ⟨k - 1, by omega⟩
    have hlt : i < s.size := by omega
    simp only [cooperageref3_Add.l0]
    rw [if_pos (by omega), if_pos (by omega), bt_nat s i hlt]
    have hc : (s.data.toList[i]'(by simpa using hlt)).toNat < 256 := UInt8.toNat_lt _
    rw [drop_bt s i hlt]
    generalize hx : s.data.toList[i]'(by simpa using hlt) = x at hc ⊢
    rw [w64 (x := (x.toNat : Int)) (by omega) (by omega), w64 (x := (a : Int) + x.toNat) (by omega) (by omega), w64 (x := (i : Int) + 1) (by omega) (by omega)]
    rw [show (a : Int) + (x.toNat : Int) = ((a + x.toNat : Nat) : Int) by omega, show (65521 : Int) = ((65521 : Nat) : Int) from rfl, tmod_nat]
    have h1 : (a + x.toNat) % 65521 < 65521 := Nat.mod_lt _ (by decide)
    rw [w64 (x := (b : Int) + ((a + x.toNat) % 65521 : Nat)) (by omega) (by omega)]
    rw [show (b : Int) + (((a + x.toNat) % 65521 : Nat) : Int) = ((b + (a + x.toNat) % 65521 : Nat) : Int) by omega, tmod_nat, show (i : Int) + 1 = ((i + 1 : Nat) : Int) by omega]
    rw [ih k (i + 1) _ _ (by omega) (by omega) (by omega) h1 (Nat.mod_lt _ (by decide))]
    rfl
theorem refAdd_f (n : Nat) (s : ByteArray) (hn : n < 4294967296) (hs : s.size ≤ 140737488351232) (k : Nat) (hk : s.size < k) : cooperageref3_Add.f k (n : Int) s = some ((addv n s : Nat) : Int) := by
  unfold cooperageref3_Add.f
  rw [w64 (x := (n : Int)) (by omega) (by omega)]
  rw [show (65536 : Int) = ((65536 : Nat) : Int) from rfl, show (65521 : Int) = ((65521 : Nat) : Int) from rfl, tmod_nat, tmod_nat, tdiv_nat, w64 (by omega) (by omega), tmod_nat]
  have h := adlStart_lt n
  have := ref_loop s hs s.size k 0 (adlStart n).1 (adlStart n).2 (by omega) (by omega) hk h.1 h.2
  simpa [adlStart, addv] using this
theorem refOf_f (s : ByteArray) (hs : s.size ≤ 140737488351232) (k : Nat) (hk : s.size < k) : cooperageref3_Of.f k s = some ((addv 1 s : Nat) : Int) := by
  unfold cooperageref3_Of.f
  rw [show (1 : Int) = ((1 : Nat) : Int) from rfl, refAdd_f 1 s (by omega) hs k hk]
  rfl
theorem hexl_at : ∀ (m : Nat), m < 16 → ((⟨#[48, 49, 50, 51, 52, 53, 54, 55, 56, 57, 97, 98, 99, 100, 101, 102]⟩ : ByteArray).extract m (m + 1)) = ⟨#[hexd m]⟩ := by decide +kernel
theorem refHex_step (k v i : Nat) (x : ByteArray) (hv : v < 4294967296) (hi : i < 8) (hx : x.size ≤ 100) : cooperageref3_Hex.l0 (k + 1) (v : Int) x (i : Int) = cooperageref3_Hex.l0 k ((v / 16 : Nat) : Int) (⟨#[hexd (v % 16)]⟩ ++ x) ((i + 1 : Nat) : Int) := by
  have hm : v % 16 < 16 := Nat.mod_lt _ (by decide)
  simp only [cooperageref3_Hex.l0]
  rw [show (16 : Int) = ((16 : Nat) : Int) from rfl, tmod_nat, tdiv_nat, w64 (x := ((v % 16 : Nat) : Int)) (by omega) (by omega), w64 (x := ((v % 16 : Nat) : Int) + 1) (by omega) (by omega), w64 (x := (i : Int) + 1) (by omega) (by omega)]
  rw [if_pos (by omega), if_pos (by omega), if_pos (by omega), if_pos (by omega)]
  rw [show (((v % 16 : Nat) : Int) + 1).toNat = v % 16 + 1 by omega, Int.toNat_natCast, hexl_at _ hm]
  rw [if_pos (by show 1 + x.size ≤ _; omega)]
  rw [show (((v / 16 : Nat) : Int)) % 4294967296 = ((v / 16 : Nat) : Int) by omega, show (i : Int) + 1 = ((i + 1 : Nat) : Int) by omega]
theorem refHex_f (n : Nat) (hn : n < 4294967296) (k : Nat) (hk : 9 ≤ k) : cooperageref3_Hex.f k (n : Int) = some (hex8 n) := by
  obtain ⟨k, rfl⟩ : ∃ m, k = m + 9 := ⟨k - 9, by omega⟩
  unfold cooperageref3_Hex.f
  rw [show (0 : Int) = ((0 : Nat) : Int) from rfl]
  rw [refHex_step _ _ _ _ (by omega) (by omega) (by decide), refHex_step _ _ _ _ (by omega) (by omega) (by simp [ByteArray.size]), refHex_step _ _ _ _ (by omega) (by omega) (by simp [ByteArray.size]), refHex_step _ _ _ _ (by omega) (by omega) (by simp [ByteArray.size]),
    refHex_step _ _ _ _ (by omega) (by omega) (by simp [ByteArray.size]), refHex_step _ _ _ _ (by omega) (by omega) (by simp [ByteArray.size]), refHex_step _ _ _ _ (by omega) (by omega) (by simp [ByteArray.size]), refHex_step _ _ _ _ (by omega) (by omega) (by simp [ByteArray.size])]
  simp only [cooperageref3_Hex.l0]
  rw [if_neg (by decide)]
  congr 1
  apply ByteArray.ext
  apply Array.toList_inj.1
  rw [hex8_data n hn]
  simp [ByteArray.data_append, Nat.div_div_eq_div_mul]

/-! the theory -/
theorem wf32 {a : Int} (h : (Lit.int .u32 a).wf = true) : ∃ n : Nat, a = (n : Int) ∧ n < 4294967296 := by
  have : 0 ≤ a ∧ a ≤ 4294967295 := by simpa [Lit.wf, IntKind.min, IntKind.max, IntKind.signed, IntKind.bits] using h
  exact ⟨a.toNat, by omega, by omega⟩
theorem wf8 {a : Int} (h : (Lit.int .u8 a).wf = true) : ∃ n : Nat, a = (n : Int) ∧ n < 256 := by
  have : 0 ≤ a ∧ a ≤ 255 := by simpa [Lit.wf, IntKind.min, IntKind.max, IntKind.signed, IntKind.bits] using h
  exact ⟨a.toNat, by omega, by omega⟩
theorem adl_append (p : Nat × Nat) (l m : List UInt8) : adl p (l ++ m) = adl (adl p l) m := List.foldl_append
theorem adlStart_sum (p : Nat × Nat) (h1 : p.1 < 65521) (h2 : p.2 < 65521) : adlStart (adlSum p) = p := by
  unfold adlStart adlSum
  apply Prod.ext
  · show (p.2 * 65536 + p.1) % 65536 % 65521 = p.1
    omega
  · show (p.2 * 65536 + p.1) / 65536 % 65521 = p.2
    omega
theorem addv_join (n : Nat) (s t : ByteArray) : addv (addv n s) t = addv n (s ++ t) := by
  unfold addv
  have h := adlStart_lt n
  have h2 := adl_lt s.data.toList _ h.1 h.2
  rw [adlStart_sum _ h2.1 h2.2, ByteArray.data_append, Array.toList_append, adl_append]
theorem addv_empty (n : Nat) : addv n ⟨#[]⟩ = adlSum (adlStart n) := rfl
theorem addv_idem (n : Nat) (s : ByteArray) : addv (addv n s) ⟨#[]⟩ = addv n s := by
  rw [addv_join]
  congr 1
  apply ByteArray.ext
  simp
theorem adl_fst : ∀ (l : List UInt8) (p : Nat × Nat), p.1 < 65521 → (adl p l).1 = (p.1 + (l.map UInt8.toNat).sum) % 65521 := by
  intro l
  induction l with
  | nil => intro p h; simp [adl, Nat.mod_eq_of_lt h]
  | cons c l ih =>
    intro p h
    show (adl (adlStep p c) l).1 = _
    rw [ih _ (Nat.mod_lt _ (by decide))]
    simp only [adlStep, List.map_cons, List.sum_cons]
    omega
theorem adlSum_inj (p q : Nat × Nat) (h1 : p.1 < 65521) (h3 : q.1 < 65521) (h : adlSum p = adlSum q) : p = q := by
  unfold adlSum at h
  apply Prod.ext <;> omega
theorem hexd_inj : ∀ a, a < 16 → ∀ b, b < 16 → hexd a = hexd b → a = b := by decide +kernel
theorem hex8_inj (a b : Nat) (ha : a < 4294967296) (hb : b < 4294967296) (h : hex8 a = hex8 b) : a = b := by
  have e : (hex8 a).data.toList = (hex8 b).data.toList := by rw [h]
  rw [hex8_data a ha, hex8_data b hb] at e
  simp only [List.cons.injEq, and_true] at e
  obtain ⟨e1, e2, e3, e4, e5, e6, e7, e8⟩ := e
  have f1 := hexd_inj _ (Nat.mod_lt _ (by decide)) _ (Nat.mod_lt _ (by decide)) e1
  have f2 := hexd_inj _ (Nat.mod_lt _ (by decide)) _ (Nat.mod_lt _ (by decide)) e2
  have f3 := hexd_inj _ (Nat.mod_lt _ (by decide)) _ (Nat.mod_lt _ (by decide)) e3
  have f4 := hexd_inj _ (Nat.mod_lt _ (by decide)) _ (Nat.mod_lt _ (by decide)) e4
  have f5 := hexd_inj _ (Nat.mod_lt _ (by decide)) _ (Nat.mod_lt _ (by decide)) e5
  have f6 := hexd_inj _ (Nat.mod_lt _ (by decide)) _ (Nat.mod_lt _ (by decide)) e6
  have f7 := hexd_inj _ (Nat.mod_lt _ (by decide)) _ (Nat.mod_lt _ (by decide)) e7
  have f8 := hexd_inj _ (Nat.mod_lt _ (by decide)) _ (Nat.mod_lt _ (by decide)) e8
  omega
theorem toList_inj {a b : ByteArray} (h : a.toList = b.toList) : a = b := by
  rw [ByteArray.toList_eq, ByteArray.toList_eq] at h
  exact ByteArray.ext (Array.toList_inj.1 h)
theorem hex8_size (n : Nat) (h : n < 4294967296) : (hex8 n).size = 8 := by
  show (hex8 n).data.size = 8
  rw [← Array.length_toList, hex8_data n h]
  rfl
end Go.Proofs.YtanclpdphlbeiaaDoor.Pure
