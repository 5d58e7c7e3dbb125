import Derived.Shelf.Pu.ParseUintPublic10
import Derived.Ground.MpProg
import Derived.Test.YtocpfgdajomjiaaDoorProg
import Derived.Test.YtocpfgdajomjiaaDoorShelf
import Derived.Lib.ParseIntBMem
import Derived.Lib.Hide
import Derived.Laws.Strings3
import Derived.Laws.Closers25
import Derived.Laws.Closers25b
import Derived.WalkKit
import Derived.BigCall
import Derived.BigGuard
import Derived.Test.YtocpfgdajomjiaaDoorTextA
import Derived.Lib.AppendIntMem
import Derived.Lib.ParseIntBCases
import Derived.Lib.SmallJoins
import Derived.Test.YtocpfgdajomjiaaDoorRows
import Derived.Stop.LaidErr
import Derived.LaidSub
import Derived.Lib.LaidTab
/- Several texts of this session in one (merge.py): the walks of the functions that the laws reach. -/
/-
  DERIVED: THE SHELF's CONTRACTS AT THIS DUMP, IN PLAIN WORDS (tools/lay-plain.mjs out of 'TrydMore.lean', which tools/lay-shelf.mjs wrote): THE SAME DECLARATIONS UNDER THE SAME NAMES: 'import', 'namespace', 'open', 'def', 'theorem' AND NOTHING ELSE: no command of the shelf's: FOR A HAND-IN. Each laying: the table of numbers ('.._ren') and one theorem, a field a fact of the dump's own or the kernel's comparison; each contract: ONE APPLICATION.
-/
namespace Go.Proofs
open Go.Shelf
def Tryd.laysPu14_ren : Go.Shelf.Ren := ⟨fun | 14 => 59 | 16 => 87 | 17 => 88 | 19 => 106 | 20 => 107 | 21 => 108 | 22 => 109 | 23 => 110 | 24 => 111 | 25 => 124 | 27 => 60 | 26 => 125 | 28 => 89 | 29 => 112 | 30 => 126 | 31 => 127 | 32 => 128 | 33 => 129 | 35 => 133 | 34 => 132 | 36 => 134 | 37 => 135 | 38 => 136 | 39 => 139 | 40 => 140 | n => n, fun | 9 => 9 | 3 => 3 | 22 => 67 | 24 => 61 | 25 => 68 | 4 => 4 | 34 => 106 | 5 => 5 | 36 => 63 | 37 => 48 | 0 => 0 | 39 => 108 | 21 => 21 | 44 => 119 | 47 => 84 | 50 => 132 | 48 => 130 | 2 => 2 | 52 => 121 | 55 => 124 | 59 => 134 | 60 => 77 | 20 => 20 | 61 => 135 | 65 => 140 | 66 => 141 | 67 => 64 | n => n, fun | 0 => 0 | 1 => 1 | 2 => 5 | 3 => 6 | 4 => 7 | n => n⟩
theorem Tryd.laysPu14 : Go.Proofs.LaysPu.n14 Tryd.prog Tryd.laysPu14_ren := {
  mixed := by kernel_rfl
  f14 := Tryd.func59.trans (congrArg some (by kernel_rfl))
  f16 := Tryd.func87.trans (congrArg some (by kernel_rfl))
  f17 := Tryd.func88.trans (congrArg some (by kernel_rfl))
  f19 := Tryd.func106.trans (congrArg some (by kernel_rfl))
  f20 := Tryd.func107.trans (congrArg some (by kernel_rfl))
  f21 := Tryd.func108.trans (congrArg some (by kernel_rfl))
  f22 := Tryd.func109.trans (congrArg some (by kernel_rfl))
  f23 := Tryd.func110.trans (congrArg some (by kernel_rfl))
  f24 := Tryd.func111.trans (congrArg some (by kernel_rfl))
  f25 := Tryd.func124.trans (congrArg some (by kernel_rfl))
  f26 := Tryd.func125.trans (congrArg some (by kernel_rfl))
  f27 := Tryd.func60.trans (congrArg some (by kernel_rfl))
  f28 := Tryd.func89.trans (congrArg some (by kernel_rfl))
  f29 := Tryd.func112.trans (congrArg some (by kernel_rfl))
  f30 := Tryd.func126.trans (congrArg some (by kernel_rfl))
  f31 := Tryd.func127.trans (congrArg some (by kernel_rfl))
  f32 := Tryd.func128.trans (congrArg some (by kernel_rfl))
  f33 := Tryd.func129.trans (congrArg some (by kernel_rfl))
  f34 := Tryd.func132.trans (congrArg some (by kernel_rfl))
  f35 := Tryd.func133.trans (congrArg some (by kernel_rfl))
  f36 := Tryd.func134.trans (congrArg some (by kernel_rfl))
  f37 := Tryd.func135.trans (congrArg some (by kernel_rfl))
  f38 := Tryd.func136.trans (congrArg some (by kernel_rfl))
  f39 := Tryd.func139.trans (congrArg some (by kernel_rfl))
  f40 := Tryd.func140.trans (congrArg some (by kernel_rfl))
  t0 := Tryd.underlying0
  a0 := Tryd.isAgg0
  z0 := Tryd.sizeOf0
  v0 := Tryd.zeroValue0
  i0 := by kernel_rfl
  t2 := Tryd.underlying2
  a2 := Tryd.isAgg2
  z2 := Tryd.sizeOf2
  v2 := Tryd.zeroValue2
  i2 := by kernel_rfl
  t3 := Tryd.underlying3
  a3 := Tryd.isAgg3
  z3 := Tryd.sizeOf3
  v3 := Tryd.zeroValue3
  i3 := by kernel_rfl
  t4 := Tryd.underlying4
  a4 := Tryd.isAgg4
  z4 := Tryd.sizeOf4
  v4 := Tryd.zeroValue4
  i4 := by kernel_rfl
  t5 := Tryd.underlying5
  a5 := Tryd.isAgg5
  z5 := Tryd.sizeOf5
  v5 := Tryd.zeroValue5
  i5 := by kernel_rfl
  t9 := Tryd.underlying9
  a9 := Tryd.isAgg9
  z9 := Tryd.sizeOf9
  v9 := Tryd.zeroValue9
  i9 := by kernel_rfl
  t20 := Tryd.underlying20
  a20 := Tryd.isAgg20
  z20 := Tryd.sizeOf20
  v20 := Tryd.zeroValue20
  i20 := by kernel_rfl
  t21 := Tryd.underlying21
  a21 := Tryd.isAgg21
  z21 := Tryd.sizeOf21
  v21 := Tryd.zeroValue21
  i21 := by kernel_rfl
  t22 := Tryd.underlying67
  a22 := Tryd.isAgg67
  z22 := Tryd.sizeOf67
  v22 := Tryd.zeroValue67
  i22 := by kernel_rfl
  t24 := Tryd.underlying61
  a24 := Tryd.isAgg61
  z24 := Tryd.sizeOf61
  v24 := Tryd.zeroValue61
  i24 := by kernel_rfl
  t25 := Tryd.underlying68
  a25 := Tryd.isAgg68
  z25 := Tryd.sizeOf68
  v25 := Tryd.zeroValue68
  i25 := by kernel_rfl
  t34 := Tryd.underlying106
  a34 := Tryd.isAgg106
  z34 := Tryd.sizeOf106
  v34 := Tryd.zeroValue106
  i34 := by kernel_rfl
  c34 := by kernel_rfl
  t36 := Tryd.underlying63
  a36 := Tryd.isAgg63
  z36 := Tryd.sizeOf63
  v36 := Tryd.zeroValue63
  i36 := by kernel_rfl
  t37 := Tryd.underlying48
  a37 := Tryd.isAgg48
  z37 := Tryd.sizeOf48
  v37 := Tryd.zeroValue48
  i37 := by kernel_rfl
  t39 := Tryd.underlying108
  a39 := Tryd.isAgg108
  z39 := Tryd.sizeOf108
  v39 := Tryd.zeroValue108
  i39 := by kernel_rfl
  t44 := Tryd.underlying119
  a44 := Tryd.isAgg119
  z44 := Tryd.sizeOf119
  v44 := Tryd.zeroValue119
  i44 := by kernel_rfl
  t47 := Tryd.underlying84
  a47 := Tryd.isAgg84
  z47 := Tryd.sizeOf84
  v47 := Tryd.zeroValue84
  i47 := by kernel_rfl
  t48 := Tryd.underlying130
  a48 := Tryd.isAgg130
  z48 := Tryd.sizeOf130
  v48 := Tryd.zeroValue130
  i48 := by kernel_rfl
  t50 := Tryd.underlying132
  a50 := Tryd.isAgg132
  z50 := Tryd.sizeOf132
  v50 := Tryd.zeroValue132
  i50 := by kernel_rfl
  t52 := Tryd.underlying121
  a52 := Tryd.isAgg121
  z52 := Tryd.sizeOf121
  v52 := Tryd.zeroValue121
  i52 := by kernel_rfl
  t55 := Tryd.underlying124
  a55 := Tryd.isAgg124
  z55 := Tryd.sizeOf124
  v55 := Tryd.zeroValue124
  i55 := by kernel_rfl
  t59 := Tryd.underlying134
  a59 := Tryd.isAgg134
  z59 := Tryd.sizeOf134
  v59 := Tryd.zeroValue134
  i59 := by kernel_rfl
  t60 := Tryd.underlying77
  a60 := Tryd.isAgg77
  z60 := Tryd.sizeOf77
  v60 := Tryd.zeroValue77
  i60 := by kernel_rfl
  t61 := Tryd.underlying135
  a61 := Tryd.isAgg135
  z61 := Tryd.sizeOf135
  t65 := Tryd.underlying140
  a65 := Tryd.isAgg140
  z65 := Tryd.sizeOf140
  v65 := Tryd.zeroValue140
  i65 := by kernel_rfl
  t66 := Tryd.underlying141
  a66 := Tryd.isAgg141
  z66 := Tryd.sizeOf141
  v66 := Tryd.zeroValue141
  i66 := by kernel_rfl
  t67 := Tryd.underlying64
  a67 := Tryd.isAgg64
  z67 := Tryd.sizeOf64
  v67 := Tryd.zeroValue64
  i67 := by kernel_rfl
  g0 := by kernel_rfl
  m0 := by kernel_rfl
  g1 := by kernel_rfl
  m1 := by kernel_rfl
  g2 := by kernel_rfl
  m2 := by kernel_rfl
  g3 := by kernel_rfl
  m3 := by kernel_rfl
  g4 := by kernel_rfl
  m4 := by kernel_rfl }
end Go.Proofs
/- strconv.ParseUint(s, 16, 8) at a text of two bytes. -/
namespace Go.Proofs.YtocpfgdajomjiaaDoor.Hand
open Go.Shelf Go.RowKit
set_option linter.unusedVariables false
set_option linter.unusedSimpArgs false
def lowN (n : Nat) : Nat := if n / 32 % 2 = 1 then n else n + 32
theorem low_bits : ∀ n : Fin 256, bits .or .u8 ((n.val : Nat) : Int) 32 = ((lowN n.val : Nat) : Int) := by decide +kernel
theorem low_lt : ∀ n : Fin 256, lowN n.val < 256 := by decide +kernel
def hexv (c : UInt8) : Option Nat := if 48 ≤ c.toNat ∧ c.toNat ≤ 57 then some (c.toNat - 48) else if 97 ≤ lowN c.toNat ∧ lowN c.toNat ≤ 102 then some (lowN c.toNat - 87) else none
def hexG : Nat → List UInt8 → Option Nat
  | acc, [] => some acc
  | acc, c :: t => match hexv c with
    | some d => hexG (acc * 16 + d) t
    | none => none
def hexOut : Option Nat → Value
  | some n => .tuple #[.int .u64 n, .nilIface]
  | none => .tuple #[.int .u64 0, .iface 106 (.int .i64 2)]
theorem lower_walk (n : Nat) (h : n < 256) (w : World) : Calls Tryd.prog 106 #[.int .u8 n] w fun e w' => e = .returned (.int .u8 (lowN n)) ∧ w = w' := by
  refine (Tryd.internal_strconv_lower n w).mono ?_
  rintro e w' ⟨rfl, rfl⟩
  exact ⟨by rw [low_bits ⟨n, h⟩], rfl⟩
set_option maxHeartbeats 8000000 in
set_option maxRecDepth 100000 in
theorem parse16_in (t : ByteArray) (h2 : t.size = 2) (w : World) :
    Calls Tryd.prog 87 #[.string t, .int .i64 16, .int .i64 8] w fun e w' => e = .returned (hexOut (hexG 0 t.data.toList)) ∧ w' = Lib.bytesWorld w 5 t := by
  have hemp : t.toList.isEmpty = false := by
    rw [← decide_eq_emptyBytes]
    exact decide_eq_false (fun h => by rw [h] at h2; exact absurd h2 (by decide))
  have hcv := Lib.run_convert_string_bytes (P := Tryd.prog) w 9 48 5 t (u := .string) Tryd.underlying9 Tryd.underlying48 Tryd.underlying5
  have hB : ∀ j, j < t.size → (Lib.bytesWorld w 5 t).cell? ⟨w.heap.size, j, none⟩ = some (.int .u8 (t.data.toList.getD j 0).toNat) := fun j hj => Lib.bytesWorld_cell w 5 t j hj
  obtain ⟨W1, hW1⟩ : ∃ W1, W1 = Lib.bytesWorld w 5 t := ⟨_, rfl⟩
  rw [← hW1] at hcv hB ⊢
  clear hW1
  obtain ⟨bs, hL⟩ : ∃ bs, bs = t.data.toList := ⟨_, rfl⟩
  have hLn : bs.length = t.size := by rw [hL, Lib.size_eq]
  rw [← hL] at hB ⊢
  clear hL
  have hmv : IntKind.u64.wrap (IntKind.u64.wrap 256 - 1) = 255 := by
    rw [IntKind.wrap_u64, IntKind.wrap_u64]
    decide
  have hmax : t.size ≤ 2 := by omega
  have H2 := Lib.hid h2
  have HLn := Lib.hid hLn
  clear h2 hLn
  go_enter Tryd.func87, Tryd.ntmps87
  go_wp2
  go_loop [12, 13, 101] (fun vu vn vi => ∃ (k acc : Nat) (a : Int), vu = .bool false ∧ vn = .int .u64 a ∧ vi = .int .i64 k ∧ k ≤ t.size ∧ Hid (a = (acc : Int) ∧ acc < 16 ^ k ∧ hexG 0 bs = hexG acc (bs.drop k)))
    (fun _ _ vi => t.size - (intOf vi).toNat)
  case atStart => exact ⟨0, 0, 0, rfl, rfl, rfl, by omega, rfl, by simp, rfl⟩
  case round =>
    obtain ⟨k, acc, a, rfl, rfl, rfl, hk, hh⟩ := hrel
    obtain ⟨ha, hacc, hdec⟩ := hh.out
    clear hh
    by_cases hkn : k < t.size
    · have hLn := HLn.out
      have hc := hB k hkn
      have hdrop : bs.drop k = bs[k]'(by omega) :: bs.drop (k + 1) := List.drop_eq_getElem_cons (by omega)
      have hget : bs.getD k 0 = bs[k]'(by omega) := by simp [List.getD, List.getElem?_eq_getElem (show k < bs.length by omega)]
      rw [hdrop] at hdec
      rw [hget] at hc
      generalize bs[k]'(by omega) = c at hc hdec
      have hc256 : c.toNat < 256 := c.toNat_lt
      clear hB hdrop hget hLn
      have hacc2 : acc ≤ 15 := by
        have : k ≤ 1 := by omega
        rcases Nat.le_one_iff_eq_zero_or_eq_one.1 this with e | e <;> subst e <;> omega
      have hp : 16 ^ (k + 1) = 16 ^ k * 16 := Nat.pow_succ 16 k
      have a0 : 0 ≤ a := by omega
      have a1 : a ≤ 15 := by omega
      have icut : a < 1152921504606846976 := by omega
      obtain ⟨H, hH⟩ : ∃ H, Hid (hexG 0 bs = H) := ⟨_, Lib.hid rfl⟩
      rw [hH.out] at hdec ⊢
      by_cases hdig : 48 ≤ c.toNat ∧ c.toNat ≤ 57
      · have hv : hexv c = some (c.toNat - 48) := by unfold hexv; rw [if_pos hdig]
        obtain ⟨hd0, hd1⟩ := hdig
        have HN : Hid (a * 16 + ((c.toNat : Int) - 48) = ((acc * 16 + (c.toNat - 48) : Nat) : Int) ∧ acc * 16 + (c.toNat - 48) < 16 ^ (k + 1) ∧ H = hexG (acc * 16 + (c.toNat - 48)) (bs.drop (k + 1))) :=
          Lib.hid ⟨by omega, by omega, by rw [hdec, hexG, hv]⟩
        have iov : a * 16 + ((c.toNat : Int) - 48) ≤ 255 := by omega
        clear hdec ha hv hacc hacc2 hp
        generalize c.toNat = n at *
        go_wp2
        refine ⟨⟨k + 1, acc * 16 + (n - 48), a * 16 + ((n : Int) - 48), rfl, (by first | rfl | (congr 1; omega)), (by first | rfl | (congr 1; omega)), by omega, HN⟩, by simp [intOf]; omega⟩
      · have hm := low_lt ⟨c.toNat, hc256⟩
        simp only at hm
        by_cases hlet : 97 ≤ lowN c.toNat ∧ lowN c.toNat ≤ 102
        · have hv : hexv c = some (lowN c.toNat - 87) := by unfold hexv; rw [if_neg hdig, if_pos hlet]
          obtain ⟨hl0, hl1⟩ := hlet
          have HN : Hid (a * 16 + ((lowN c.toNat : Int) - 97 + 10) = ((acc * 16 + (lowN c.toNat - 87) : Nat) : Int) ∧ acc * 16 + (lowN c.toNat - 87) < 16 ^ (k + 1) ∧ H = hexG (acc * 16 + (lowN c.toNat - 87)) (bs.drop (k + 1))) :=
            Lib.hid ⟨by omega, by omega, by rw [hdec, hexG, hv]⟩
          have h95 : ((c.toNat : Int) == 95) = false := by
            rw [beq_eq_false_iff_ne]
            intro e
            have : c.toNat = 95 := by omega
            rw [this] at hl1
            exact absurd hl1 (by decide)
          clear hdec ha hv hacc hacc2 hp
          have hlow := fun w => lower_walk c.toNat hc256 w
          generalize lowN c.toNat = m at *
          generalize c.toNat = n at *
          have iov : a * 16 + ((m : Int) - 97 + 10) ≤ 255 := by omega
          have hlow := Lib.hid hlow
          go_wp2_with (go_at_call 106; refine (hlow.out _).mono ?_; rintro e w' ⟨rfl, rfl⟩)
          all_goals
            refine ⟨⟨k + 1, acc * 16 + (m - 87), a * 16 + ((m : Int) - 97 + 10), rfl, (by first | rfl | (congr 1; omega)), (by first | rfl | (congr 1; omega)), by omega, HN⟩, by simp [intOf]; omega⟩
        · have hv : hexv c = none := by unfold hexv; rw [if_neg hdig, if_neg hlet]
          have hF : H = none := by rw [hdec, hexG, hv]
          subst hF
          clear hdec ha hv hacc hacc2 hp
          by_cases h95 : c.toNat = 95
          · rw [h95] at hc
            have hlow : ∀ w, Calls Tryd.prog 106 #[.int .u8 95] w fun e w' => e = .returned (.int .u8 127) ∧ w = w' := fun w => lower_walk 95 (by decide) w
            have hlow := Lib.hid hlow
            clear h95 hlet hdig
            go_wp2_with (go_at_call 106; refine (hlow.out _).mono ?_; rintro e w' ⟨rfl, rfl⟩)
            all_goals go_ret2
            all_goals exact ⟨by rw [hH.out]; rfl, rfl⟩
          have h95' : ((c.toNat : Int) == 95) = false := by
            rw [beq_eq_false_iff_ne]
            omega
          have hlow := Lib.hid (fun w => lower_walk c.toNat hc256 w)
          generalize lowN c.toNat = m at *
          generalize c.toNat = n at *
          by_cases hz : 97 ≤ m ∧ m ≤ 122
          · obtain ⟨hz0, hz1⟩ := hz
            have hz2 : 103 ≤ m := by omega
            clear hlet
            go_wp2_with (go_at_call 106; refine (hlow.out _).mono ?_; rintro e w' ⟨rfl, rfl⟩)
            all_goals go_ret2
            all_goals exact ⟨by rw [hH.out]; rfl, rfl⟩
          · clear hlet
            go_wp2_with (go_at_call 106; refine (hlow.out _).mono ?_; rintro e w' ⟨rfl, rfl⟩)
            all_goals go_ret2
            all_goals exact ⟨by rw [hH.out]; rfl, rfl⟩
    · have hkk : k = t.size := by omega
      subst hkk
      have hF : hexG acc (bs.drop t.size) = some acc := by rw [List.drop_eq_nil_of_le (by have := HLn.out; omega)]; rfl
      rw [hF] at hdec
      subst ha
      clear hacc hF
      go_wp2
      go_ret2
      exact ⟨by first | rfl | (rw [hdec]; rfl), rfl⟩
end Go.Proofs.YtocpfgdajomjiaaDoor.Hand
/- What a quoted word stands for, plain. -/
namespace Go.Proofs.YtocpfgdajomjiaaDoor.Hand
open Go.RowKit
set_option linter.unusedVariables false
set_option linter.unusedSimpArgs false
theorem index_one (c : UInt8) : ∀ l : List UInt8, (Lib.index l [c] = -1 ∧ c ∉ l) ∨ ∃ j : Nat, Lib.index l [c] = j ∧ j < l.length ∧ c ∉ l.take j ∧ l = l.take j ++ c :: l.drop (j + 1) := by
  intro l
  induction l with
  | nil => exact .inl ⟨by simp [Lib.index], by simp⟩
  | cons b t ih =>
    by_cases h : b = c
    · subst h
      exact .inr ⟨0, by rw [Lib.index]; simp [List.isPrefixOf], by simp, by simp, by simp⟩
    · have hp : ([c] : List UInt8).isPrefixOf (b :: t) = false := by simp [List.isPrefixOf, Ne.symm h]
      have hix : Lib.index (b :: t) [c] = if Lib.index t [c] == -1 then -1 else Lib.index t [c] + 1 := by rw [Lib.index, hp]; simp
      rcases ih with ⟨h1, h2⟩ | ⟨j, h1, h2, h3, h4⟩
      · exact .inl ⟨by rw [hix, h1]; rfl, by simp [h2, Ne.symm h]⟩
      · refine .inr ⟨j + 1, ?_, by simp; omega, ?_, ?_⟩
        · rw [hix, h1, if_neg (by simp)]
          omega
        · rw [List.take_succ_cons]
          simp [h3, Ne.symm h]
        · rw [List.take_succ_cons, List.drop_succ_cons, List.cons_append, ← h4]
theorem cut_one (c : UInt8) (l : List UInt8) : c ∉ (Lib.cut l [c]).1 ∧ (((Lib.cut l [c]).2.2 = true ∧ l = (Lib.cut l [c]).1 ++ c :: (Lib.cut l [c]).2.1) ∨ ((Lib.cut l [c]).2.2 = false ∧ l = (Lib.cut l [c]).1)) := by
  rcases index_one c l with ⟨h1, h2⟩ | ⟨j, h1, h2, h3, h4⟩
  · unfold Lib.cut
    rw [if_neg (by omega)]
    exact ⟨h2, .inr ⟨rfl, rfl⟩⟩
  · unfold Lib.cut
    rw [if_pos (by omega), h1]
    exact ⟨h3, .inl ⟨rfl, h4⟩⟩
def decG : List UInt8 → Option (List UInt8)
  | [] => some []
  | c :: t => if c = 37 then
      match t with
      | x :: y :: r => match hexG 0 [x, y] with
        | some v => (decG r).map (UInt8.ofNat v :: ·)
        | none => none
      | _ => none
    else (decG t).map (c :: ·)
termination_by l => l.length
decreasing_by all_goals simp <;> omega
theorem decG_nil : decG [] = some [] := by rw [decG.eq_def]
theorem decG_plain (c : UInt8) (t : List UInt8) (h : c ≠ 37) : decG (c :: t) = (decG t).map (c :: ·) := by rw [decG.eq_def]; exact if_neg h
theorem decG_pct (x y : UInt8) (r : List UInt8) : decG (37 :: x :: y :: r) = match hexG 0 [x, y] with
        | some v => (decG r).map (UInt8.ofNat v :: ·)
        | none => none := by rw [decG.eq_def]; exact if_pos rfl
theorem decG_short (t : List UInt8) (h : t.length < 2) : decG (37 :: t) = none := by
  rw [decG.eq_def]
  refine (if_pos rfl).trans ?_
  match t, h with
  | [], _ => rfl
  | [_], _ => rfl
  | _ :: _ :: _, h => simp at h; omega
theorem decG_app (r : List UInt8) : ∀ a : List UInt8, 37 ∉ a → decG (a ++ r) = (decG r).map (a ++ ·) := by
  intro a
  induction a with
  | nil => intro _; simp
  | cons c t ih =>
    intro h
    rw [List.mem_cons, not_or] at h
    rw [List.cons_append, decG_plain c _ (fun e => h.1 e.symm), ih h.2, Option.map_map]
    rfl
theorem hexv_le {c : UInt8} {d : Nat} (h : hexv c = some d) : d ≤ 15 := by
  unfold hexv at h
  split at h
  · injection h with h; omega
  · split at h
    · injection h with h; omega
    · cases h
theorem hexG2_le {x y : UInt8} {v : Nat} (h : hexG 0 [x, y] = some v) : v ≤ 255 := by
  simp only [hexG] at h
  cases hx : hexv x with
  | none => rw [hx] at h; cases h
  | some a =>
    rw [hx] at h
    simp only at h
    cases hy : hexv y with
    | none => rw [hy] at h; cases h
    | some b =>
      rw [hy] at h
      simp only at h
      injection h with h
      have := hexv_le hx
      have := hexv_le hy
      omega
def unqO (s : ByteArray) : Option (List UInt8) → Option ByteArray
  | some t => if t ≠ [] ∧ quoteV ⟨t.toArray⟩ = s then some ⟨t.toArray⟩ else none
  | none => none
def unqV (s : ByteArray) : Option ByteArray := if s.data.toList = [37] then some ⟨#[]⟩ else unqO s (decG s.data.toList)
def unqP : Option ByteArray → ByteArray × Int
  | some t => (t, 0)
  | none => (⟨#[]⟩, 2)
theorem unqV_of {s : ByteArray} {o : Option (List UInt8)} (h : s.data.toList ≠ [37]) (hd : decG s.data.toList = o) : unqV s = unqO s o := by
  unfold unqV
  rw [if_neg h, hd]
end Go.Proofs.YtocpfgdajomjiaaDoor.Hand
/- strconv.ParseUint(s, 16, 8) of two bytes, text.Number. -/
namespace Go.Proofs.YtocpfgdajomjiaaDoor.Hand
open Go.Sort Go.RowKit Go.Proofs.YtocpfgdajomjiaaDoorW.PrintWords
set_option linter.unusedVariables false
set_option linter.unusedSimpArgs false
theorem below_grow_trans {B : Nat} {w w1 w2 : World} {k : Nat} {os : Array Obj} (h : Below B w w1) (hB : B ≤ w1.heap.size) (e : w2 = grow (w1.drewN k) os) : Below B w w2 := by subst e; exact h.trans (Lib.below_grow B w1 hB k os)
theorem bytes_below (w : World) (s : ByteArray) : Below w.heap.size w (Lib.bytesWorld w 5 s) := ⟨rfl, rfl, rfl, by rw [Lib.bytesWorld_size]; omega, fun k hk => Lib.bytesWorld_at_old w 5 s k hk⟩
set_option maxHeartbeats 4000000 in
set_option maxRecDepth 100000 in
theorem parse16_ok (s : ByteArray) (h2 : s.size = 2) (n : Nat) (h : hexG 0 s.data.toList = some n) (w : World) :
    Calls Tryd.prog 59 #[.string s, .int .i64 16, .int .i64 8] w fun e w' => e = .returned (.tuple #[.int .u64 n, .nilIface]) ∧ Below w.heap.size w w' := by
  have hI := parse16_in s h2 w
  rw [h] at hI
  have hI : Hid (Calls Tryd.prog 87 #[.string s, .int .i64 16, .int .i64 8] w fun e w' => e = .returned (.tuple #[.int .u64 n, .nilIface]) ∧ w' = Lib.bytesWorld w 5 s) := hI
  clear h h2
  go_enter Tryd.func59, Tryd.ntmps59
  go_wp2_with (go_at_call 87; refine hI.out.mono ?_; rintro e W1 ⟨rfl, hW⟩)
  go_wp2
  go_ret2
  exact ⟨rfl, hW ▸ bytes_below w s⟩
set_option maxHeartbeats 4000000 in
set_option maxRecDepth 100000 in
theorem parse16_bad (s : ByteArray) (h2 : s.size = 2) (h : hexG 0 s.data.toList = none) (tp : TypeId) (pv : Value) (w : World) (hv : w.cell? ⟨0, 0, none⟩ = some (.iface tp pv)) :
    Calls Tryd.prog 59 #[.string s, .int .i64 16, .int .i64 8] w fun e w' => ∃ N : Nat, e = .returned (.tuple #[.int .u64 0, .iface 108 (.pointer (some ⟨N, 0, none⟩))]) ∧ Below w.heap.size w w' := by
  have hI := parse16_in s h2 w
  rw [h] at hI
  have hI : Hid (Calls Tryd.prog 87 #[.string s, .int .i64 16, .int .i64 8] w fun e w' => e = .returned (.tuple #[.int .u64 0, .iface 106 (.int .i64 2)]) ∧ w' = Lib.bytesWorld w 5 s) := hI
  have hs : s.size ≤ 281474976710656 := by omega
  have hG : (0 : Nat) < w.heap.size := cell_lt' hv
  have hb1 := bytes_below w s
  have hv1 : (Lib.bytesWorld w 5 s).cell? ⟨0, 0, none⟩ = some (.iface tp pv) := (hb1.cell (p := ⟨0, 0, none⟩) hG).trans hv
  clear h h2 hv
  have hv1 := Lib.hid hv1
  have hb1 := Lib.hid hb1
  go_enter Tryd.func59, Tryd.ntmps59
  go_wp2_with (go_at_call 87; refine hI.out.mono ?_)
  rintro e W1 ⟨rfl, hW⟩
  have hv2 : W1.cell? ⟨0, 0, none⟩ = some (.iface tp pv) := by rw [hW]; exact hv1.out
  have hb2 : Below w.heap.size w W1 := by rw [hW]; exact hb1.out
  clear hW
  go_wp2_with (go_at_call 88; refine (Tryd.strconv_toError_syntax ⟨#[80, 97, 114, 115, 101, 85, 105, 110, 116]⟩ s 16 8 (.iface tp pv) _ hs hv2 (.inr ⟨_, _, rfl⟩)).mono ?_; rintro e W2 ⟨N, rfl, h1, h2, h3⟩)
  go_wp2
  go_ret2
  exact ⟨N, rfl, hb2.trans (h3.mono hb2.size)⟩

theorem below_or {w W1 : World} {s : ByteArray} (h : W1 = w ∨ W1 = Lib.bytesWorld w 5 s) : Below w.heap.size w W1 := by
  rcases h with e | e
  · subst e; exact Below.refl _ _
  · subst e; exact bytes_below _ _
/-! #### Number -/
def numV (s : ByteArray) : Int × Bool := match Lib.parseUintB 32 s.data.toList with
  | .ok u => if s.size ≤ 9 ∧ Lib.itoa (u : Int) = s.data.toList then ((u : Int), true) else (0, false)
  | _ => (0, false)
set_option maxHeartbeats 4000000 in
set_option maxRecDepth 100000 in
theorem number_walk (s : ByteArray) (hs : s.size ≤ 100000) (w : World) (hp : Lib.TabIs Tryd.prog w "internal/strconv.uint64pow10" .u64 Lib.pow10Tab)
    (t0 t1 : TypeId) (p0 p1 : Value) (h0 : w.cell? ⟨0, 0, none⟩ = some (.iface t0 p0)) (h1 : w.cell? ⟨1, 0, none⟩ = some (.iface t1 p1)) :
    Calls Tryd.prog 32 #[.string s] w fun e w' => e = .returned (.tuple #[.int .i64 (numV s).1, .bool (numV s).2]) ∧ Below w.heap.size w w' := by
  have HP := Lib.hid (Lib.tabBelow_of_tabIs hp)
  have H0 := Lib.hid h0
  have H1 := Lib.hid h1
  clear hp h0 h1
  cases hq : Lib.parseUintB 32 s.data.toList with
  | ok u =>
    have hu : u ≤ 4294967295 := Lib.parseUintB_le hq
    have HQ := Lib.hid (Any.strconv_ParseUint_10_at32_ok Tryd.laysPu14 s (by omega) u hq w)
    have HV : numV s = if s.size ≤ 9 ∧ Lib.itoa (u : Int) = s.data.toList then ((u : Int), true) else (0, false) := by
      unfold numV
      rw [hq]
    obtain ⟨uI, hui⟩ : ∃ uI : Int, uI = (u : Int) := ⟨_, rfl⟩
    have hu0 : 0 ≤ uI := by omega
    have hu1 : uI ≤ 4294967295 := by omega
    rw [← hui] at HQ HV
    clear hq hui hu
    by_cases h9 : s.size ≤ 9
    · by_cases he : Lib.itoa uI = s.data.toList
      · rw [if_pos ⟨h9, he⟩] at HV
        have HV := Lib.hid HV
        obtain ⟨t, ht⟩ : ∃ t : ByteArray, t = ⟨(Lib.itoa uI).toArray⟩ := ⟨_, rfl⟩
        have hts : t = s := by rw [ht]; exact ba_ext he
        have HT := Lib.hid (ht.symm.trans hts)
        clear he ht hts
        go_enter Tryd.func32, Tryd.ntmps32
        go_wp2_with (go_at_call 59; refine HQ.out.mono ?_)
        rintro e W1 ⟨rfl, hW⟩
        have hb1 := below_or hW
        clear hW
        have hp1 := Lib.hid (HP.out _ hb1)
        have hb1 := Lib.hid hb1
        go_wp2_with (go_at_call 60; refine (Tryd.strconv_Itoa uI (by omega) (by omega) _ hp1.out).mono ?_)
        rw [HT.out]
        rintro e W2 ⟨rfl, kk, os, hW2⟩
        have hb2 := Lib.hid (below_grow_trans hb1.out hb1.out.size hW2)
        clear hW2
        go_wp2
        all_goals go_ret2
        all_goals exact ⟨by first | (rw [HV.out]; rfl) | rfl, hb2.out⟩
      · rw [if_neg (fun h => he h.2)] at HV
        have HV := Lib.hid HV
        obtain ⟨t, ht⟩ : ∃ t : ByteArray, t = ⟨(Lib.itoa uI).toArray⟩ := ⟨_, rfl⟩
        have hts : ¬ t.toList = s.toList := by
          rw [ht, ByteArray.toList_eq, ByteArray.toList_eq]
          exact he
        have hts : (t.toList == s.toList) = false := by simpa using hts
        have HT := Lib.hid ht.symm
        clear he ht
        go_enter Tryd.func32, Tryd.ntmps32
        go_wp2_with (go_at_call 59; refine HQ.out.mono ?_)
        rintro e W1 ⟨rfl, hW⟩
        have hb1 := below_or hW
        clear hW
        have hp1 := Lib.hid (HP.out _ hb1)
        have hb1 := Lib.hid hb1
        go_wp2_with (go_at_call 60; refine (Tryd.strconv_Itoa uI (by omega) (by omega) _ hp1.out).mono ?_)
        rw [HT.out]
        rintro e W2 ⟨rfl, kk, os, hW2⟩
        have hb2 := Lib.hid (below_grow_trans hb1.out hb1.out.size hW2)
        clear hW2
        go_wp2
        all_goals go_ret2
        all_goals exact ⟨by first | (rw [HV.out]; rfl) | rfl, hb2.out⟩
    · rw [if_neg (fun h => h9 h.1)] at HV
      have HV := Lib.hid HV
      go_enter Tryd.func32, Tryd.ntmps32
      go_wp2_with (go_at_call 59; refine HQ.out.mono ?_)
      rintro e W1 ⟨rfl, hW⟩
      have hb1 := below_or hW
      clear hW
      have hb1 := Lib.hid hb1
      go_wp2
      all_goals go_ret2
      all_goals exact ⟨by first | (rw [HV.out]; rfl) | rfl, hb1.out⟩
  | range =>
    have HQ := Lib.hid (Any.strconv_ParseUint_10_at32_range Tryd.laysPu14 s (by omega) hq (.iface t1 p1) w H1.out (.inr ⟨_, _, rfl⟩))
    have HV := Lib.hid (show numV s = (0, false) by unfold numV; rw [hq])
    clear hq
    go_enter Tryd.func32, Tryd.ntmps32
    go_wp2_with (go_at_call 59; refine HQ.out.mono ?_)
    rintro e W1 ⟨N, rfl, -, -, hb1⟩
    have hb1 := Lib.hid hb1
    go_wp2
    all_goals go_ret2
    all_goals exact ⟨by first | (rw [HV.out]; rfl) | rfl, hb1.out⟩
  | _ =>
    have HQ := Lib.hid (Any.strconv_ParseUint_10_at32_syntax Tryd.laysPu14 s (by omega) hq (.iface t0 p0) w H0.out (.inr ⟨_, _, rfl⟩))
    have HV := Lib.hid (show numV s = (0, false) by unfold numV; rw [hq])
    clear hq
    go_enter Tryd.func32, Tryd.ntmps32
    go_wp2_with (go_at_call 59; refine HQ.out.mono ?_)
    rintro e W1 ⟨N, rfl, -, -, hb1⟩
    have hb1 := Lib.hid hb1
    go_wp2
    all_goals go_ret2
    all_goals exact ⟨by first | (rw [HV.out]; rfl) | rfl, hb1.out⟩
end Go.Proofs.YtocpfgdajomjiaaDoor.Hand
/- text.Unquote. -/
namespace Go.Proofs.YtocpfgdajomjiaaDoor.Hand
open Go.RowKit Go.Proofs.YtocpfgdajomjiaaDoorW.PrintWords
set_option linter.unusedVariables false
set_option linter.unusedSimpArgs false
def uOut (p : ByteArray × Int) : Value := .tuple #[.string p.1, .int .i64 p.2]
theorem bld_below {b B1 : Nat} {bs : List Value} {w w' : World} (h : Bld b B1 bs w) (hb : Below w.heap.size w w') : Bld b B1 bs w' := by
  obtain ⟨h1, h2, p, v, hp, hc, hr⟩ := h
  refine ⟨h1, Nat.le_trans h2 hb.size, p, v, hp, (hb.block b (by omega)).trans hc, hr.kept (grown_of_below hb) ?_⟩
  cases v.ownBlock with
  | none => exact .inl rfl
  | some k => exact .inr (by simp)
theorem apart_of_below {b B1 : Nat} {w w' : World} (hb : Below w.heap.size w w') (h : B1 ≤ w.heap.size) : Apart b B1 w w' := ⟨hb.os, hb.tape, hb.output, hb.size, fun k hk _ => hb.block k (by omega)⟩
def sizeOf' (v : Value) : Nat := match v with
  | .string s => s.size
  | _ => 0
set_option maxHeartbeats 8000000 in
set_option maxRecDepth 100000 in
theorem unquote_walk (s : ByteArray) (hs : s.size ≤ 100000) (m : Int) (w : World) (hw : 2 < w.heap.size) (hm : w.cell? ⟨2, 0, none⟩ = some (.int .i64 m))
    (t0 : TypeId) (p0 : Value) (h0 : w.cell? ⟨0, 0, none⟩ = some (.iface t0 p0)) :
    Calls Tryd.prog 35 #[.string s] w fun e w' => e = .returned (uOut (unqP (unqV s))) ∧ Below w.heap.size w w' := by
  have HM := Lib.hid hm
  have H0 := Lib.hid h0
  clear hm h0
  by_cases e : s.data.toList = [37]
  · have e' : s = ⟨#[37]⟩ := ba_ext e
    subst e'
    clear e
    go_enter Tryd.func35, Tryd.ntmps35
    go_wp2
    go_ret2
    exact ⟨rfl, Below.refl _ _⟩
  · have hne : (s.toList == [37]) = false := by
      rw [ByteArray.toList_eq]
      simpa using e
    have HV : ∀ o, decG s.data.toList = o → unqV s = unqO s o := fun o h => unqV_of e h
    have HV := Lib.hid HV
    clear e
    go_enter Tryd.func35, Tryd.ntmps35
    go_wp2
    obtain ⟨w0, hw0⟩ : ∃ w0, w.alloc (Obj.cells #[Value.pointer none, Value.slice none 0 0] 59) = w0 := ⟨_, rfl⟩
    have hs0 : w0.heap.size = w.heap.size + 1 := by rw [← hw0]; simp
    have hB0 : Hid (Below w.heap.size w w0) := by
      rw [Hid, ← hw0]
      exact (Below.refl _ _).alloc (Nat.le_refl _) _
    have hbl0 : Hid (Bld w.heap.size (w.heap.size + 1) [] w0) := by
      refine ⟨by omega, by rw [hs0]; omega, _, _, .inl rfl, ?_, World.ownsRowF_nil _ _ _ _⟩
      rw [← hw0]
      exact World.alloc_heap_new w _
    have hm0 : Hid (w0.cell? ⟨2, 0, none⟩ = some (.int .i64 m)) := (hB0.out.cell (p := ⟨2, 0, none⟩) hw).trans HM.out
    have he0 : Hid (w0.cell? ⟨0, 0, none⟩ = some (.iface t0 p0)) := (hB0.out.cell (p := ⟨0, 0, none⟩) (cell_lt' H0.out)).trans H0.out
    rw [hw0]
    clear hw0
    go_loopw [5] (fun r wr => ∃ (acc : List UInt8) (u : ByteArray), r = .string u ∧ acc.length + u.size ≤ s.size ∧ Hid (decG s.data.toList = (decG u.data.toList).map (acc ++ ·)) ∧ Hid (Bld w.heap.size (w.heap.size + 1) (Lib.byteCells acc) wr) ∧ Hid (Apart w.heap.size (w.heap.size + 1) w0 wr))
      (fun r _ => sizeOf' r)
    case atStart => exact ⟨[], s, rfl, by simp, by simp [Hid], hbl0, Apart.refl _ _ _⟩
    case round =>
      obtain ⟨acc, u, rfl, hsz, hdec, hbl, hA⟩ := hrel
      by_cases e : u = ByteArray.empty
      · subst e
        have hfin : Hid (decG s.data.toList = some acc) := by
          rw [Hid, hdec.out, show (ByteArray.empty.data.toList : List UInt8) = [] from rfl, decG_nil]
          simp
        have HS := Lib.hid (bstring w.heap.size (w.heap.size + 1) acc wr hbl.out)
        have HT := Lib.hid ((hB0.out.trans (hA.out.below (by omega))))
        by_cases ha : acc = []
        · have HX : Hid (unqV s = none) := by rw [Hid, HV.out _ hfin.out, unqO, if_neg (fun h => h.1 ha)]
          rw [ha] at HS
          clear ha
          go_wp2_with (go_at_call 54; refine HS.out.mono ?_; rintro e W5 ⟨rfl, hb5⟩; have HB5 := Lib.hid (HT.out.trans hb5); clear hb5)
          go_ret2
          exact ⟨by rw [HX.out]; rfl, HB5.out⟩
        · obtain ⟨t, ht⟩ : ∃ t : ByteArray, Hid ((⟨(acc).toArray⟩ : ByteArray) = t) := ⟨_, Lib.hid rfl⟩
          have hdat : t.data.toList = acc := by rw [← ht.out]
          have hte : t.toList.isEmpty = false := by
            rw [ByteArray.toList_eq, hdat]
            simpa using ha
          have hts : t.size ≤ 100000 := by
            have h1 : t.data.toList.length = t.size := by rw [Array.length_toList]; rfl
            rw [hdat] at h1
            omega
          rw [ht.out] at HS
          by_cases hq : quoteV t = s
          · have HX : Hid (unqV s = some t) := by rw [Hid, HV.out _ hfin.out, unqO, ht.out, if_pos ⟨ha, hq⟩]
            have hqe : ((quoteV t).toList == s.toList) = true := by rw [hq]; simp
            clear hq ha hdat
            go_wp2_with (first | (go_at_call 54; refine HS.out.mono ?_; rintro e W5 ⟨rfl, hb5⟩; have HB5 := Lib.hid (HT.out.trans hb5); clear hb5) | (go_at_call 22; refine (quote_walk t hts _).mono ?_; rintro e W6 ⟨rfl, hb6⟩; have HB6 := Lib.hid (HB5.out.trans (hb6.mono HB5.out.size)); clear hb6))
            go_ret2
            exact ⟨by rw [HX.out]; rfl, HB6.out⟩
          · have HX : Hid (unqV s = none) := by rw [Hid, HV.out _ hfin.out, unqO, ht.out, if_neg (fun h => hq h.2)]
            have hqe : ((quoteV t).toList == s.toList) = false := by
              rw [ByteArray.toList_eq, ByteArray.toList_eq, beq_eq_false_iff_ne]
              exact fun h => hq (ba_ext h)
            clear hq ha hdat
            go_wp2_with (first | (go_at_call 54; refine HS.out.mono ?_; rintro e W5 ⟨rfl, hb5⟩; have HB5 := Lib.hid (HT.out.trans hb5); clear hb5) | (go_at_call 22; refine (quote_walk t hts _).mono ?_; rintro e W6 ⟨rfl, hb6⟩; have HB6 := Lib.hid (HB5.out.trans (hb6.mono HB5.out.size)); clear hb6))
            go_ret2
            exact ⟨by rw [HX.out]; rfl, HB6.out⟩
      · have hune : u.toList.isEmpty = false := ba_isEmpty e
        have hu0 : u.data.toList.length = u.size := by rw [Array.length_toList]; rfl
        clear e
        have hmu : wr.cell? ⟨2, 0, none⟩ = some (.int .i64 m) := (hA.out.cell (p := ⟨2, 0, none⟩) (by show 2 < _; omega) (by show 2 ≠ _; omega)).trans hm0.out
        have hcut := Lib.hid (Tryd.strings_Cut u ⟨#[37]⟩ m wr (by omega) hmu)
        clear hmu
        have hspec := cut_one 37 u.data.toList
        rw [show ((⟨#[37]⟩ : ByteArray).data.toList) = [37] from rfl] at hcut
        obtain ⟨ah, hah⟩ : ∃ ah : ByteArray, (⟨(Lib.cut u.data.toList [37]).1.toArray⟩ : ByteArray) = ah := ⟨_, rfl⟩
        obtain ⟨v, hv⟩ : ∃ v : ByteArray, (⟨(Lib.cut u.data.toList [37]).2.1.toArray⟩ : ByteArray) = v := ⟨_, rfl⟩
        have hahd : (Lib.cut u.data.toList [37]).1 = ah.data.toList := by rw [← hah]
        have hvd : (Lib.cut u.data.toList [37]).2.1 = v.data.toList := by rw [← hv]
        have hal : ah.data.toList.length = ah.size := by rw [Array.length_toList]; rfl
        have hvl : v.data.toList.length = v.size := by rw [Array.length_toList]; rfl
        rw [hah, hv] at hcut
        rw [hahd, hvd] at hspec
        clear hah hv hahd hvd
        obtain ⟨hno, hspec⟩ := hspec
        rcases hspec with ⟨hf, hu⟩ | ⟨hf, hu⟩
        · rw [hf] at hcut
          have hlen : ah.size + 1 + v.size = u.size := by
            rw [← hu0, ← hal, ← hvl, hu, List.length_append, List.length_cons]
            omega
          have hd2 : Hid (decG s.data.toList = (decG (37 :: v.data.toList)).map ((acc ++ ah.data.toList) ++ ·)) := by
            rw [Hid, hdec.out, hu, decG_app _ _ hno, Option.map_map]
            congr 1
            funext x
            simp
          have hwl : Hid ((Lib.byteCells acc).length + ah.size ≤ 100000000) := by
            rw [Hid, Lib.byteCells_length]
            omega
          clear hf hu hno hu0 hal hdec
          have hvl := Lib.hid hvl
          go_wp2_with (first | (go_at_call 63; refine hcut.out.mono ?_; rintro e W1 ⟨rfl, nd, rfl⟩) | (go_at_call 64; refine (writeString w.heap.size (w.heap.size + 1) _ ah _ (show Bld w.heap.size (w.heap.size + 1) (Lib.byteCells acc) (wr.drewN nd) from hbl.out) hwl.out).mono ?_))
          rintro e W2 ⟨rfl, hb2, hA2⟩
          have HL2 : Hid (Bld w.heap.size (w.heap.size + 1) (Lib.byteCells (acc ++ ah.data.toList)) W2) := by
            rw [Hid, Lib.byteCells_append]
            exact hb2
          have HA2 := Lib.hid ((hA.out.trans (apart_drewN _ _ wr nd)).trans hA2)
          clear hb2 hA2
          have HT2 := Lib.hid ((hB0.out.trans (HA2.out.below (by omega))))
          by_cases h2 : v.size < 2
          · have HX : Hid (unqV s = none) := by
              rw [Hid, HV.out none ?_]
              · rfl
              · rw [hd2.out, decG_short _ (by have := hvl.out; omega)]
                rfl
            go_wp2
            go_ret2
            exact ⟨by rw [HX.out]; rfl, HT2.out⟩
          · obtain ⟨x, y, r, hxy⟩ : ∃ x y r, v.data.toList = x :: y :: r := by
              have h3 := hvl.out
              match hm : v.data.toList with
              | [] => rw [hm] at h3; simp at h3; omega
              | [_] => rw [hm] at h3; simp at h3; omega
              | x :: y :: r => exact ⟨x, y, r, rfl⟩
            have hpd : (v.extract 0 2).data.toList = [x, y] := by
              rw [← ext_take]
              show (v.data.toList.take 2) = _
              rw [hxy]
              rfl
            have hps : (v.extract 0 2).size = 2 := by rw [ByteArray.size_extract]; omega
            have hrd : (v.extract 2 v.size).data.toList = r := by
              rw [← ext_drop]
              show (v.data.toList.drop 2) = _
              rw [hxy]
              rfl
            have hrs : (v.extract 2 v.size).size = v.size - 2 := by rw [ByteArray.size_extract]; omega
            have he2 : Hid (W2.cell? ⟨0, 0, none⟩ = some (.iface t0 p0)) := (HA2.out.cell (p := ⟨0, 0, none⟩) (by show 0 < _; omega) (by show 0 ≠ _; omega)).trans he0.out
            rw [hxy, decG_pct] at hd2
            cases hh : hexG 0 [x, y] with
            | none =>
              have HP := Lib.hid (parse16_bad (v.extract 0 2) hps (by rw [hpd, hh]) t0 p0 W2 he2.out)
              rw [hh] at hd2
              have HX : Hid (unqV s = none) := by
                rw [Hid, HV.out none ?_]
                · rfl
                · rw [hd2.out]
                  rfl
              clear hh hpd hps hrd hrs hxy
              go_wp2_with (go_at_call 59; refine HP.out.mono ?_; rintro e W3 ⟨N, rfl, hb3⟩; have HB3 := Lib.hid (HT2.out.trans (hb3.mono HT2.out.size)); clear hb3)
              go_ret2
              exact ⟨by rw [HX.out]; rfl, HB3.out⟩
            | some d =>
              have hd255 := hexG2_le hh
              have HP := Lib.hid (parse16_ok (v.extract 0 2) hps d (by rw [hpd, hh]) W2)
              rw [hh] at hd2
              have hn8 : (UInt8.ofNat d).toNat = d := by simp [UInt8.toNat_ofNat']; omega
              have hd3 : Hid (decG s.data.toList = (decG (v.extract 2 v.size).data.toList).map (((acc ++ ah.data.toList) ++ [UInt8.ofNat d]) ++ ·)) := by
                rw [Hid, hd2.out, hrd]
                show Option.map _ (Option.map _ (decG r)) = _
                rw [Option.map_map]
                congr 1
                funext x
                simp
              obtain ⟨dI, hdI⟩ : ∃ dI : Int, dI = (d : Int) := ⟨_, rfl⟩
              have hdI0 : 0 ≤ dI := by omega
              have hdI1 : dI ≤ 255 := by omega
              rw [← hdI] at HP
              have HDI := Lib.hid hdI
              have HN8 := Lib.hid hn8
              have hrs := Lib.hid hrs
              have hvl2 := Lib.hid hvl
              have hwl2 : Hid ((Lib.byteCells (acc ++ ah.data.toList)).length + 1 ≤ 100000000) := by
                have hal2 : ah.data.toList.length = ah.size := by rw [Array.length_toList]; rfl
                rw [Hid, Lib.byteCells_length, List.length_append, hal2]
                omega
              clear hh hpd hps hrd hxy hd255 hn8 hdI hd2
              go_wp2_with (go_at_call 59; refine HP.out.mono ?_)
              rintro e W3 ⟨rfl, hb3⟩
              have HL3 := Lib.hid (bld_below HL2.out hb3)
              have HA3 := Lib.hid (HA2.out.trans (apart_of_below hb3 HL2.out.2.1))
              clear hb3
              go_wp2_with (go_at_call 53; refine (writeByte w.heap.size (w.heap.size + 1) _ dI _ HL3.out hwl2.out).mono ?_)
              rintro e W4 ⟨rfl, hb4, hA4⟩
              have HL4 := Lib.hid hb4
              have HA4 := Lib.hid (HA3.out.trans hA4)
              clear hb4 hA4
              go_wp2
              go_roundw
              case rel =>
                refine ⟨(acc ++ ah.data.toList) ++ [UInt8.ofNat d], v.extract 2 v.size, rfl, ?_, hd3, ?_, HA4⟩
                · have hal2 : ah.data.toList.length = ah.size := by rw [Array.length_toList]; rfl
                  rw [List.length_append, List.length_append, hal2, hrs.out]
                  simp only [List.length_cons, List.length_nil]
                  omega
                · have h5 := HL4.out
                  rw [HDI.out] at h5
                  rw [Hid, Lib.byteCells_append]
                  simpa [Lib.byteCells, HN8.out] using h5
              case measure =>
                have h6 := hrs.out
                simp [sizeOf']
                omega
        · rw [hf] at hcut
          have hul : ah.size = u.size := by
            rw [← hu0, ← hal, hu]
          have hfin : Hid (decG s.data.toList = some (acc ++ ah.data.toList)) := by
            have h1 := decG_app [] ah.data.toList hno
            rw [List.append_nil, decG_nil] at h1
            rw [Hid, hdec.out, hu, h1]
            simp
          have hwl : Hid ((Lib.byteCells acc).length + ah.size ≤ 100000000) := by
            rw [Hid, Lib.byteCells_length]
            omega
          clear hf hu hno hu0 hdec hvl
          have hal := Lib.hid hal
          go_wp2_with (first | (go_at_call 63; refine hcut.out.mono ?_; rintro e W1 ⟨rfl, nd, rfl⟩) | (go_at_call 64; refine (writeString w.heap.size (w.heap.size + 1) _ ah _ (show Bld w.heap.size (w.heap.size + 1) (Lib.byteCells acc) (wr.drewN nd) from hbl.out) hwl.out).mono ?_))
          rintro e W2 ⟨rfl, hb2, hA2⟩
          have HL2 : Hid (Bld w.heap.size (w.heap.size + 1) (Lib.byteCells (acc ++ ah.data.toList)) W2) := by
            rw [Hid, Lib.byteCells_append]
            exact hb2
          have HA2 := Lib.hid ((hA.out.trans (apart_drewN _ _ wr nd)).trans hA2)
          clear hb2 hA2
          have HS := Lib.hid (bstring w.heap.size (w.heap.size + 1) (acc ++ ah.data.toList) W2 HL2.out)
          have HT := Lib.hid ((hB0.out.trans (HA2.out.below (by omega))))
          by_cases ha : (acc ++ ah.data.toList) = []
          · have HX : Hid (unqV s = none) := by rw [Hid, HV.out _ hfin.out, unqO, if_neg (fun h => h.1 ha)]
            rw [ha] at HS
            clear ha
            go_wp2_with (go_at_call 54; refine HS.out.mono ?_; rintro e W5 ⟨rfl, hb5⟩; have HB5 := Lib.hid (HT.out.trans hb5); clear hb5)
            go_ret2
            exact ⟨by rw [HX.out]; rfl, HB5.out⟩
          · obtain ⟨t, ht⟩ : ∃ t : ByteArray, Hid ((⟨((acc ++ ah.data.toList)).toArray⟩ : ByteArray) = t) := ⟨_, Lib.hid rfl⟩
            have hdat : t.data.toList = (acc ++ ah.data.toList) := by rw [← ht.out]
            have hte : t.toList.isEmpty = false := by
              rw [ByteArray.toList_eq, hdat]
              simpa using ha
            have hts : t.size ≤ 100000 := by
              have h1 : t.data.toList.length = t.size := by rw [Array.length_toList]; rfl
              rw [hdat] at h1
              rw [List.length_append, hal.out] at h1
              omega
            rw [ht.out] at HS
            by_cases hq : quoteV t = s
            · have HX : Hid (unqV s = some t) := by rw [Hid, HV.out _ hfin.out, unqO, ht.out, if_pos ⟨ha, hq⟩]
              have hqe : ((quoteV t).toList == s.toList) = true := by rw [hq]; simp
              clear hq ha hdat
              go_wp2_with (first | (go_at_call 54; refine HS.out.mono ?_; rintro e W5 ⟨rfl, hb5⟩; have HB5 := Lib.hid (HT.out.trans hb5); clear hb5) | (go_at_call 22; refine (quote_walk t hts _).mono ?_; rintro e W6 ⟨rfl, hb6⟩; have HB6 := Lib.hid (HB5.out.trans (hb6.mono HB5.out.size)); clear hb6))
              go_ret2
              exact ⟨by rw [HX.out]; rfl, HB6.out⟩
            · have HX : Hid (unqV s = none) := by rw [Hid, HV.out _ hfin.out, unqO, ht.out, if_neg (fun h => hq h.2)]
              have hqe : ((quoteV t).toList == s.toList) = false := by
                rw [ByteArray.toList_eq, ByteArray.toList_eq, beq_eq_false_iff_ne]
                exact fun h => hq (ba_ext h)
              clear hq ha hdat
              go_wp2_with (first | (go_at_call 54; refine HS.out.mono ?_; rintro e W5 ⟨rfl, hb5⟩; have HB5 := Lib.hid (HT.out.trans hb5); clear hb5) | (go_at_call 22; refine (quote_walk t hts _).mono ?_; rintro e W6 ⟨rfl, hb6⟩; have HB6 := Lib.hid (HB5.out.trans (hb6.mono HB5.out.size)); clear hb6))
              go_ret2
              exact ⟨by rw [HX.out]; rfl, HB6.out⟩
end Go.Proofs.YtocpfgdajomjiaaDoor.Hand
/- The contracts of the text package's functions, over what the rows list. -/
namespace Go.Proofs.YtocpfgdajomjiaaDoor.Hand2
open Go.RowKit Go.Proofs.YtocpfgdajomjiaaDoorW.PrintWords
set_option linter.unusedVariables false
/-- bytealg.MaxLen, the powers of ten, a row of bits' table, the two errors of strconv. -/
structure Glob (w : World) : Prop where
  g : Hand.Glob w
  pow : Lib.TabBelow Tryd.prog w.heap.size w "internal/strconv.uint64pow10" .u64 Lib.pow10Tab
  e0 : ∃ t p, w.cell? ⟨0, 0, none⟩ = some (.iface t p)
  e1 : ∃ t p, w.cell? ⟨1, 0, none⟩ = some (.iface t p)
  bru : w.cell? ⟨7, 15, none⟩ = some (.int .u8 4)
theorem Glob.below {w w' : World} (h : Glob w) (hb : Below w.heap.size w w') : Glob w' where
  g := h.g.below hb
  pow := fun w2 h2 => h.pow w2 (hb.trans (h2.mono hb.size))
  e0 := by obtain ⟨t, p, e⟩ := h.e0; exact ⟨t, p, (hb.cell (p := ⟨0, 0, none⟩) (Hand.cell_lt' e)).trans e⟩
  e1 := by obtain ⟨t, p, e⟩ := h.e1; exact ⟨t, p, (hb.cell (p := ⟨1, 0, none⟩) (Hand.cell_lt' e)).trans e⟩
  bru := (hb.cell (p := ⟨7, 15, none⟩) (Hand.cell_lt' h.bru)).trans h.bru
theorem gES : Tryd.prog.globalNamed "strconv.ErrSyntax" = some 0 := by kernel_rfl
theorem gEST : (Tryd.prog.globals[0]?).map (·.type) = some 61 := by kernel_rfl
theorem gER : Tryd.prog.globalNamed "strconv.ErrRange" = some 1 := by kernel_rfl
theorem gERT : (Tryd.prog.globals[1]?).map (·.type) = some 61 := by kernel_rfl
theorem cells132 : Tryd.prog.cellsOf 132 = 1 := by kernel_rfl
theorem cells9 : Tryd.prog.cellsOf 9 = 1 := by kernel_rfl
theorem gP : Tryd.prog.globalNamed "internal/strconv.uint64pow10" = some 5 := by kernel_rfl
theorem gPT : (Tryd.prog.globals[5]?).map (·.type) = some 134 := by kernel_rfl
theorem gB : Tryd.prog.globalNamed "math/bits.deBruijn64tab" = some 7 := by kernel_rfl
theorem gBT : (Tryd.prog.globals[7]?).map (·.type) = some 141 := by kernel_rfl
theorem cells134 : Tryd.prog.cellsOf 134 = 20 := by kernel_rfl
theorem cells67 : Tryd.prog.cellsOf 67 = 1 := by kernel_rfl
theorem cells141 : Tryd.prog.cellsOf 141 = 64 := by kernel_rfl
theorem cells5 : Tryd.prog.cellsOf 5 = 1 := by kernel_rfl
theorem star : "*" ++ "errors.errorString" = "*errors.errorString" := by decide
theorem row130 (u : TypeId) (h : Tryd.prog.typeName? 3 u = some "*errors.errorString") : u = 130 :=
  typeName_ptr_named (nm := "errors.errorString") (by rw [star]; kernel_rfl) (by kernel_rfl) (by decide) u (by rw [star]; exact h)
theorem err_of {W : World} {n : String} {g : Nat} {text : List UInt8} (hg : Tryd.prog.globalNamed n = some g) (ht : (Tryd.prog.globals[g]?).map (·.type) = some 61) (h : laidMet Tryd.prog [(n, .iface "*errors.errorString" (.ptr (.agg [.lit (.string text)])))] W) :
    ∃ t p, W.cell? ⟨g, 0, none⟩ = some (.iface t p) := by
  obtain ⟨a, s, hv, -, -, -⟩ := laid_sentinel h hg ht Tryd.underlying61 row130 Tryd.underlying130 Tryd.underlying132 rfl rfl Tryd.underlying9 cells132 cells9
  exact ⟨_, _, by have h0 := World.var?_cell hg hv 0; simpa using h0⟩
theorem pow_of {W : World} (h : laidMetH Tryd.prog [("internal/strconv.uint64pow10", Rows.laid_internal_strconv_uint64pow10)] W) : Lib.TabIs Tryd.prog W "internal/strconv.uint64pow10" .u64 Lib.pow10Tab :=
  Lib.tabIs_of_head (rest := []) gP gPT Tryd.underlying134 Tryd.underlying67 cells67 cells134 h
theorem bru_of {W : World} (h : laidMetH Tryd.prog [("math/bits.deBruijn64tab", Rows.laid_math_bits_deBruijn64tab)] W) : W.cell? ⟨7, 15, none⟩ = some (.int .u8 4) :=
  (Lib.tabIs_of_head (zs := [0, 1, 56, 2, 57, 49, 28, 3, 61, 58, 42, 50, 38, 29, 17, 4, 62, 47, 59, 36, 45, 43, 51, 22, 53, 39, 33, 30, 24, 18, 12, 5, 63, 55, 48, 27, 60, 41, 37, 16, 46, 35, 44, 21, 52, 32, 23, 11, 54, 26, 40, 15, 34, 20, 31, 10, 25, 14, 19, 9, 13, 8, 7, 6]) (rest := []) gB gBT Tryd.underlying141 Tryd.underlying5 cells5 cells141 h).cell gB 15 (by decide)
theorem glob_of {W : World} (hS : W.ShapedOpen Tryd.prog) (h1 : laidMetH Tryd.prog [("internal/strconv.uint64pow10", Rows.laid_internal_strconv_uint64pow10)] W) (h2 : laidMetH Tryd.prog [("math/bits.deBruijn64tab", Rows.laid_math_bits_deBruijn64tab)] W)
    (h3 : laidMetH Tryd.prog [("strconv.ErrRange", Rows.laid_strconv_ErrRange)] W) (h4 : laidMetH Tryd.prog [("strconv.ErrSyntax", Rows.laid_strconv_ErrSyntax)] W) : Glob W where
  g := Hand.glob_of_shaped hS
  pow := Lib.tabBelow_of_tabIs (pow_of h1)
  e0 := err_of gES gEST (laidMetH_iff.1 h4).1
  e1 := err_of gER gERT (laidMetH_iff.1 h3).1
  bru := bru_of h2

abbrev text_Lines.f := Hand.text_Lines.f
theorem text_Lines.calls (a0 : ByteArray) (r : List ByteArray) (w : World) (hG : Glob w) (h : text_Lines.f a0 = some r) :
    Calls Tryd.prog 20 #[.string a0] w fun e w' => ∃ v0_ : Value, e = .returned (v0_) ∧ Kd.R Kd.string 9 w' w.heap.size (fun _ => True) v0_ r ∧ Below w.heap.size w w' := Hand.text_Lines.calls a0 r w hG.g h
abbrev text_Words.f := Hand.text_Words.f
theorem text_Words.calls (a0 : ByteArray) (r : List ByteArray) (w : World) (h : text_Words.f a0 = some r) :
    Calls Tryd.prog 24 #[.string a0] w fun e w' => ∃ v0_ : Value, e = .returned (v0_) ∧ Kd.R Kd.string 9 w' w.heap.size (fun _ => True) v0_ r ∧ Below w.heap.size w w' := Hand.text_Words.calls a0 r w h
abbrev text_Trim.f := Hand.text_Trim.f
theorem text_Trim.calls (a0 : ByteArray) (r : ByteArray) (w : World) (h : text_Trim.f a0 = some r) :
    Calls Tryd.prog 30 #[.string a0] w fun e w' => e = .returned (.string r) ∧ Below w.heap.size w w' := Hand.text_Trim.calls a0 r w h
abbrev text_Join.f := Hand.text_Join.f
theorem text_Join.calls (A0 : Option Addr) (c0 : Nat) (l0 : List ByteArray) (r : ByteArray) (w : World) (hr0 : Kd.C Kd.string w A0 l0.length l0) (hc0 : l0.length ≤ c0) (h : text_Join.f l0 = some r) :
    Calls Tryd.prog 28 #[.slice A0 l0.length c0] w fun e w' => e = .returned (.string r) ∧ Below w.heap.size w w' := Hand.text_Join.calls A0 c0 l0 r w hr0 hc0 h
abbrev text_Path.f := Hand.text_Path.f
theorem text_Path.calls (a0 : ByteArray) (r : Bool) (w : World) (hG : Glob w) (h : text_Path.f a0 = some r) :
    Calls Tryd.prog 21 #[.string a0] w fun e w' => e = .returned (.bool r) ∧ Below w.heap.size w w' := Hand.text_Path.calls a0 r w hG.g h
abbrev text_Quote.f := Hand.text_Quote.f
theorem text_Quote.calls (a0 : ByteArray) (r : ByteArray) (w : World) (h : text_Quote.f a0 = some r) :
    Calls Tryd.prog 22 #[.string a0] w fun e w' => e = .returned (.string r) ∧ Below w.heap.size w w' := Hand.text_Quote.calls a0 r w h
def text_Number.f (a0 : ByteArray) : Option (Int × Bool) := if a0.size ≤ 100000 then some (Hand.numV a0) else none
theorem text_Number.calls (a0 : ByteArray) (r1 : Int) (r2 : Bool) (w : World) (hG : Glob w) (h : text_Number.f a0 = some (r1, r2)) :
    Calls Tryd.prog 32 #[.string a0] w fun e w' => e = .returned (.tuple #[.int .i64 r1, .bool r2]) ∧ Below w.heap.size w w' := by
  unfold text_Number.f at h
  split at h
  next hs =>
    injection h with h
    obtain ⟨t0, p0, e0⟩ := hG.e0
    obtain ⟨t1, p1, e1⟩ := hG.e1
    have := Hand.number_walk a0 hs w hG.pow.here t0 t1 p0 p1 e0 e1
    rw [h] at this
    exact this
  next => exact absurd h (by simp)
def text_Unquote.f (a0 : ByteArray) : Option (ByteArray × Int) := if a0.size ≤ 100000 then some (Hand.unqP (Hand.unqV a0)) else none
theorem text_Unquote.calls (a0 : ByteArray) (r1 : ByteArray) (r2 : Int) (w : World) (hG : Glob w) (h : text_Unquote.f a0 = some (r1, r2)) :
    Calls Tryd.prog 35 #[.string a0] w fun e w' => e = .returned (.tuple #[.string r1, .int .i64 r2]) ∧ Below w.heap.size w w' := by
  unfold text_Unquote.f at h
  split at h
  next hs =>
    injection h with h
    obtain ⟨t0, p0, e0⟩ := hG.e0
    obtain ⟨m, hm⟩ := hG.g.cell
    have := Hand.unquote_walk a0 hs m w hG.g.lt hm t0 p0 e0
    rw [h] at this
    exact this
  next => exact absurd h (by simp)
end Go.Proofs.YtocpfgdajomjiaaDoor.Hand2
