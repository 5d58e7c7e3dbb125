import Derived.Test.YtocpfgdajomjiaaDoorPureSumA
import Derived.Test.YtocpfgdajomjiaaDoorPureG
import Derived.Test.YtocpfgdajomjiaaDoorL5
/- The reference's sum, plain. -/
namespace Go.Proofs.YtocpfgdajomjiaaDoor.PureL
open Go.RowKit Go.Proofs.YtocpfgdajomjiaaDoor.SumW Go.Proofs.YtocpfgdajomjiaaDoor.L Go.Proofs.YtocpfgdajomjiaaDoor.Hand3 Go.Proofs.YtocpfgdajomjiaaDoorW.PrintWords
set_option linter.unusedVariables false
set_option linter.unusedSimpArgs false
open Go.Proofs.YtocpfgdajomjiaaDoor.PureR (w64 len_data)
theorem bt_nat (s : ByteArray) (i : Nat) (h : i < s.size) : bt s (i : Int) = ((s.data.toList[i]'(by simpa using h)).toNat : Int) := by
  have h' : i < s.data.size := h
  unfold bt
  rw [dif_pos (by simpa using h)]
  simp [ByteArray.getElem_eq_getElem_data]
theorem drop_bt (s : ByteArray) (i : Nat) (h : i < s.size) : s.data.toList.drop i = (s.data.toList[i]'(by simpa using h)) :: s.data.toList.drop (i + 1) :=
  List.drop_eq_getElem_cons (by simpa using h)

theorem tmod_nat (a b : Nat) : Int.tmod (a : Int) (b : Int) = ((a % b : Nat) : Int) := rfl
theorem tdiv_nat (a b : Nat) : Int.tdiv (a : Int) (b : Int) = ((a / b : Nat) : Int) := rfl
theorem ref_loop (s : ByteArray) (hs : s.size ≤ 140737488351232) : ∀ (d k i a b : Nat), s.size - i = d → i ≤ s.size → d < k → a < 65521 → b < 65521 →
    cooperageref3_Add.l0 k s (a : Int) (b : Int) (i : Int) = some ((adlSum (adl (a, b) (s.data.toList.drop i)) : Nat) : Int) := by
  intro d
  induction d with
  | zero =>
    intro k i a b hd hi hk ha hb
    obtain ⟨k, rfl⟩ : ∃ m, k = m + 1 := ⟨k - 1, by omega⟩
    simp only [cooperageref3_Add.l0]
    rw [if_neg (by omega), List.drop_eq_nil_of_le (by simp; omega)]
    congr 1
    rw [w64 (x := (b : Int) * 65536) (by omega) (by omega), w64 (by omega) (by omega)]
    simp only [adl, List.foldl_nil, adlSum]
    omega
  | succ d ih =>
    intro k i a b hd hi hk ha hb
    obtain ⟨k, rfl⟩ : ∃ m, k = m + 1 := ⟨k - 1, by omega⟩
    have hlt : i < s.size := by omega
    simp only [cooperageref3_Add.l0]
    rw [if_pos (by omega), if_pos (by omega), bt_nat s i hlt]
    have hc : (s.data.toList[i]'(by simpa using hlt)).toNat < 256 := UInt8.toNat_lt _
    rw [drop_bt s i hlt]
    generalize hx : s.data.toList[i]'(by simpa using hlt) = x at hc ⊢
    rw [w64 (x := (x.toNat : Int)) (by omega) (by omega), w64 (x := (a : Int) + x.toNat) (by omega) (by omega), w64 (x := (i : Int) + 1) (by omega) (by omega)]
    rw [show (a : Int) + (x.toNat : Int) = ((a + x.toNat : Nat) : Int) by omega, show (65521 : Int) = ((65521 : Nat) : Int) from rfl, tmod_nat]
    have h1 : (a + x.toNat) % 65521 < 65521 := Nat.mod_lt _ (by decide)
    rw [w64 (x := (b : Int) + ((a + x.toNat) % 65521 : Nat)) (by omega) (by omega)]
    rw [show (b : Int) + (((a + x.toNat) % 65521 : Nat) : Int) = ((b + (a + x.toNat) % 65521 : Nat) : Int) by omega, tmod_nat, show (i : Int) + 1 = ((i + 1 : Nat) : Int) by omega]
    rw [ih k (i + 1) _ _ (by omega) (by omega) (by omega) h1 (Nat.mod_lt _ (by decide))]
    rfl
theorem refAdd_f (n : Nat) (s : ByteArray) (hn : n < 4294967296) (hs : s.size ≤ 140737488351232) (k : Nat) (hk : s.size < k) : cooperageref3_Add.f k (n : Int) s = some ((addv n s : Nat) : Int) := by
  unfold cooperageref3_Add.f
  rw [w64 (x := (n : Int)) (by omega) (by omega)]
  rw [show (65536 : Int) = ((65536 : Nat) : Int) from rfl, show (65521 : Int) = ((65521 : Nat) : Int) from rfl, tmod_nat, tmod_nat, tdiv_nat, w64 (by omega) (by omega), tmod_nat]
  have h := adlStart_lt n
  have := ref_loop s hs s.size k 0 (adlStart n).1 (adlStart n).2 (by omega) (by omega) hk h.1 h.2
  simpa [adlStart, addv] using this
theorem refOf_f (s : ByteArray) (hs : s.size ≤ 140737488351232) (k : Nat) (hk : s.size < k) : cooperageref3_Of.f k s = some ((addv 1 s : Nat) : Int) := by
  unfold cooperageref3_Of.f
  rw [show (1 : Int) = ((1 : Nat) : Int) from rfl, refAdd_f 1 s (by omega) hs k hk]
  rfl
theorem hexl_at : ∀ (m : Nat), m < 16 → ((⟨#[48, 49, 50, 51, 52, 53, 54, 55, 56, 57, 97, 98, 99, 100, 101, 102]⟩ : ByteArray).extract m (m + 1)) = ⟨#[hexd m]⟩ := by decide +kernel
theorem refHex_step (k v i : Nat) (x : ByteArray) (hv : v < 4294967296) (hi : i < 8) (hx : x.size ≤ 100) : cooperageref3_Hex.l0 (k + 1) (v : Int) x (i : Int) = cooperageref3_Hex.l0 k ((v / 16 : Nat) : Int) (⟨#[hexd (v % 16)]⟩ ++ x) ((i + 1 : Nat) : Int) := by
  have hm : v % 16 < 16 := Nat.mod_lt _ (by decide)
  simp only [cooperageref3_Hex.l0]
  rw [show (16 : Int) = ((16 : Nat) : Int) from rfl, tmod_nat, tdiv_nat, w64 (x := ((v % 16 : Nat) : Int)) (by omega) (by omega), w64 (x := ((v % 16 : Nat) : Int) + 1) (by omega) (by omega), w64 (x := (i : Int) + 1) (by omega) (by omega)]
  rw [if_pos (by omega), if_pos (by omega), if_pos (by omega), if_pos (by omega)]
  rw [show (((v % 16 : Nat) : Int) + 1).toNat = v % 16 + 1 by omega, Int.toNat_natCast, hexl_at _ hm]
  rw [if_pos (by show 1 + x.size ≤ _; omega)]
  rw [show (((v / 16 : Nat) : Int)) % 4294967296 = ((v / 16 : Nat) : Int) by omega, show (i : Int) + 1 = ((i + 1 : Nat) : Int) by omega]
theorem refHex_f (n : Nat) (hn : n < 4294967296) (k : Nat) (hk : 9 ≤ k) : cooperageref3_Hex.f k (n : Int) = some (hex8 n) := by
  obtain ⟨k, rfl⟩ : ∃ m, k = m + 9 := ⟨k - 9, by omega⟩
  unfold cooperageref3_Hex.f
  rw [show (0 : Int) = ((0 : Nat) : Int) from rfl]
  rw [refHex_step _ _ _ _ (by omega) (by omega) (by decide), refHex_step _ _ _ _ (by omega) (by omega) (by simp [ByteArray.size]), refHex_step _ _ _ _ (by omega) (by omega) (by simp [ByteArray.size]), refHex_step _ _ _ _ (by omega) (by omega) (by simp [ByteArray.size]),
    refHex_step _ _ _ _ (by omega) (by omega) (by simp [ByteArray.size]), refHex_step _ _ _ _ (by omega) (by omega) (by simp [ByteArray.size]), refHex_step _ _ _ _ (by omega) (by omega) (by simp [ByteArray.size]), refHex_step _ _ _ _ (by omega) (by omega) (by simp [ByteArray.size])]
  simp only [cooperageref3_Hex.l0]
  rw [if_neg (by decide)]
  congr 1
  apply ByteArray.ext
  apply Array.toList_inj.1
  rw [hex8_data n hn]
  simp [ByteArray.data_append, Nat.div_div_eq_div_mul]

end Go.Proofs.YtocpfgdajomjiaaDoor.PureL
