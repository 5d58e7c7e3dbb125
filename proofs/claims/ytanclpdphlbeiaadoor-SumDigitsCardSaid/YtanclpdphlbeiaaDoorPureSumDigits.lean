import Derived.Test.YtanclpdphlbeiaaDoorPureSum
import Derived.Test.YtanclpdphlbeiaaDoorP6
namespace Go.Proofs.YtanclpdphlbeiaaDoor.Pure
open Go.RowKit Go.Proofs.YtanclpdphlbeiaaDoor.P Go.Proofs.YtanclpdphlbeiaaDoor.Hand Go.Proofs.YtanclpdphlbeiaaDoorW.PrintWords

theorem hexl_bt : ∀ (m : Nat), m < 16 → bt (⟨#[48, 49, 50, 51, 52, 53, 54, 55, 56, 57, 97, 98, 99, 100, 101, 102]⟩ : ByteArray) (m : Int) = ((hexd m).toNat : Int) := by decide +kernel
theorem hexd_nat_inj (a b : Nat) (ha : a < 16) (hb : b < 16) (h : ((hexd a).toNat : Int) = ((hexd b).toNat : Int)) : a = b :=
  hexd_inj a ha b hb (UInt8.toNat_inj.1 (by omega))
/-- The digit is found: what is reckoned, up to the j-th sign that is asked. -/
theorem digit_loop (x0 x1 : Int) (b5 : Bool) (s : ByteArray) (hs : s.size = 8) (i v : Nat) (hi : i < 8) (hv : v < 16) (hd : bt s (i : Int) = ((hexd v).toNat : Int)) : ∀ (d j k n : Nat), 16 - j = d → j ≤ 16 → d < k → n < 4294967296 → (v < j ∨ 16 * n + v < 4294967296) →
    cooperagelaw3_SumDigits.l1 k x0 x1 b5 s (n : Int) (i : Int) (j : Int) = cooperagelaw3_SumDigits.l0 (k - 1 - d) x0 x1 b5 s ((if v < j then n else 16 * n + v : Nat) : Int) ((i + 1 : Nat) : Int) := by
  intro d
  induction d with
  | zero =>
    intro j k n hdj hj hk hn hb
    obtain ⟨k, rfl⟩ : ∃ m, k = m + 1 := ⟨k - 1, by omega⟩
    simp only [cooperagelaw3_SumDigits.l1]
    rw [if_neg (by omega), w64 (by omega) (by omega), if_pos (by omega), show (i : Int) + 1 = ((i + 1 : Nat) : Int) by omega]
    rfl
  | succ d ih =>
    intro j k n hdj hj hk hn hb
    obtain ⟨k, rfl⟩ : ∃ m, k = m + 1 := ⟨k - 1, by omega⟩
    simp only [cooperagelaw3_SumDigits.l1]
    rw [if_pos (by omega), if_pos (by omega), if_pos (by omega), if_pos (by omega), hd, hexl_bt j (by omega), w64 (x := (j : Int) + 1) (by omega) (by omega), show (j : Int) + 1 = ((j + 1 : Nat) : Int) by omega]
    rw [show k + 1 - 1 - (d + 1) = k - 1 - d by omega]
    by_cases e : v = j
    · subst e
      rw [if_pos rfl, w64 (x := 16 * (n : Int)) (by omega) (by omega), w64 (x := 16 * (n : Int) + v) (by omega) (by omega), show 16 * (n : Int) + v = ((16 * n + v : Nat) : Int) by omega]
      rw [ih (v + 1) k (16 * n + v) (by omega) (by omega) (by omega) (by omega) (by omega), if_pos (by omega), if_neg (by omega)]
    · rw [if_neg (fun h => e (hexd_nat_inj v j hv (by omega) h)), ih (j + 1) k n (by omega) (by omega) (by omega) hn (by omega)]
      by_cases h : v < j
      · rw [if_pos h, if_pos (by omega)]
      · rw [if_neg h, if_neg (by omega)]
theorem digits_step (x0 x1 : Int) (b5 : Bool) (s : ByteArray) (hs : s.size = 8) (i v k K n : Nat) (hK : K = k + 18) (hi : i < 8) (hv : v < 16) (hd : bt s (i : Int) = ((hexd v).toNat : Int)) (hb : 16 * n + v < 4294967296) :
    cooperagelaw3_SumDigits.l0 K x0 x1 b5 s (n : Int) (i : Int) = cooperagelaw3_SumDigits.l0 k x0 x1 b5 s ((16 * n + v : Nat) : Int) ((i + 1 : Nat) : Int) := by
  subst hK
  rw [cooperagelaw3_SumDigits.l0]
  rw [if_pos (by omega), show (0 : Int) = ((0 : Nat) : Int) from rfl, digit_loop x0 x1 b5 s hs i v hi hv hd 16 0 (k + 17) n (by omega) (by omega) (by omega) (by omega) (.inr hb), if_neg (by omega), show k + 17 - 1 - 16 = k by omega]
theorem hex8_bt (n : Nat) (hn : n < 4294967296) (i v : Nat) (hi : i < 8) (h : (hex8 n).data.toList[i]? = some (hexd v)) : bt (hex8 n) (i : Int) = ((hexd v).toNat : Int) := by
  rw [bt_nat _ i (by rw [hex8_size n hn]; exact hi)]
  obtain ⟨_, e⟩ := List.getElem?_eq_some_iff.1 h
  rw [e]
theorem SumDigits : ∀ (a0 : Int), (Lit.int .u32 a0).wf = true → ∀ (a1 : Int), (Lit.int .u32 a1).wf = true → ∃ k, cooperagelaw3_SumDigits.f k a0 a1 = some true := by
  intro a0 h0 a1 h1
  obtain ⟨n, rfl, hn⟩ := wf32 h0
  obtain ⟨m, rfl, hm⟩ := wf32 h1
  refine ⟨145, ?_⟩
  unfold cooperagelaw3_SumDigits.f
  rw [shown_f, hex_f n hn]
  rw [Option.bind_some, Option.bind_some]
  have hs := hex8_size n hn
  have hd := hex8_data n hn
  have at_ : ∀ i v : Nat, (hex8 n).data.toList[i]? = some (hexd v) → i < 8 → bt (hex8 n) (i : Int) = ((hexd v).toNat : Int) := fun i v h hi => hex8_bt n hn i v hi h
  rw [show (0 : Int) = ((0 : Nat) : Int) from rfl]
  rw [digits_step _ _ _ _ hs 0 (n / 268435456 % 16) 127 145 0 rfl (by omega) (by omega) (at_ _ _ (by rw [hd]; rfl) (by omega)) (by omega)]
  rw [digits_step _ _ _ _ hs 1 (n / 16777216 % 16) 109 127 _ rfl (by omega) (by omega) (at_ _ _ (by rw [hd]; rfl) (by omega)) (by omega)]
  rw [digits_step _ _ _ _ hs 2 (n / 1048576 % 16) 91 109 _ rfl (by omega) (by omega) (at_ _ _ (by rw [hd]; rfl) (by omega)) (by omega)]
  rw [digits_step _ _ _ _ hs 3 (n / 65536 % 16) 73 91 _ rfl (by omega) (by omega) (at_ _ _ (by rw [hd]; rfl) (by omega)) (by omega)]
  rw [digits_step _ _ _ _ hs 4 (n / 4096 % 16) 55 73 _ rfl (by omega) (by omega) (at_ _ _ (by rw [hd]; rfl) (by omega)) (by omega)]
  rw [digits_step _ _ _ _ hs 5 (n / 256 % 16) 37 55 _ rfl (by omega) (by omega) (at_ _ _ (by rw [hd]; rfl) (by omega)) (by omega)]
  rw [digits_step _ _ _ _ hs 6 (n / 16 % 16) 19 37 _ rfl (by omega) (by omega) (at_ _ _ (by rw [hd]; rfl) (by omega)) (by omega)]
  rw [digits_step _ _ _ _ hs 7 (n % 16) 1 19 _ rfl (by omega) (by omega) (at_ _ _ (by rw [hd]; rfl) (by omega)) (by omega)]
  rw [cooperagelaw3_SumDigits.l0]
  rw [if_neg (by omega), if_pos rfl, if_pos (by omega), w64 (x := (n : Int)) (by omega) (by omega), if_pos (by omega), hex_f m hm]
  rw [Option.bind_some]
  congr 1
  by_cases e : n = m
  · subst e; simp
  · have e1 : ((hex8 n).toList == (hex8 m).toList) = false := beq_eq_false_iff_ne.2 fun h => e (hex8_inj n m hn hm (toList_inj h))
    have e2 : ((n : Int) == (m : Int)) = false := beq_eq_false_iff_ne.2 (by omega)
    rw [e1, e2]
    rfl
end Go.Proofs.YtanclpdphlbeiaaDoor.Pure
