import Derived.Test.YtocpfgdajomjiaaDoorIdx1
import Derived.Scope
import Derived.Deep.RegionHeld3
import Derived.Deep.RegionWith
namespace Go.Proofs.YtocpfgdajomjiaaDoor.Hand
open Go.RowKit
set_option linter.unusedVariables false
set_option linter.unusedSimpArgs false
set_option maxHeartbeats 2000000 in
set_option maxRecDepth 1000000 in
theorem indexRune_bad (r : Int) (w : World) (h0 : 128 ≤ r) (hne : (r == 65533) = false) (hv : Lib.validRune r = false) :
    Calls Tryd.prog 99 #[.string blanksB, .int .i32 r] w fun e w' => e = .returned (.int .i64 (-1)) ∧ w' = w := by
  go_enter Tryd.func99, Tryd.ntmps99
  go_wp2_with (go_at_call 118; refine (Tryd.utf8_ValidRune _ _).mono ?_; rintro e w' ⟨rfl, rfl⟩; rw [hv])
  go_ret
  exact ⟨rfl, rfl⟩
set_option maxHeartbeats 2000000 in
set_option maxRecDepth 1000000 in
theorem indexRune_far (r : Int) (rs : ByteArray) (w : World) (h0 : 128 ≤ r) (hne : (r == 65533) = false) (hv : Lib.validRune r = true) (hrs : Utf8.encode r = rs) (h3 : (3 : Int) ≤ rs.size) (h4 : (rs.size : Int) ≤ 4) :
    Calls Tryd.prog 99 #[.string blanksB, .int .i32 r] w fun e w' => e = .returned (.int .i64 (-1)) ∧ w' = w := by
  go_enter Tryd.func99, Tryd.ntmps99
  go_wp2_with (go_at_call 118; refine (Tryd.utf8_ValidRune _ _).mono ?_; rintro e w' ⟨rfl, rfl⟩; rw [hv])
  refine wp_scope_straight ?_
  go_wp2
  go_loop [9] (fun i => i = .int .i64 ((rs.size : Int) - 1)) (fun _ => 0)
  case atStart => rfl
  case round =>
    subst hrel
    have hd : decide ((rs.size : Int) - 1 < (blanksB.size : Int)) = false := decide_eq_false (by show ¬ ((rs.size : Int) - 1 < 2); omega)
    go_wp2
    go_ret
    exact ⟨rfl, rfl⟩
set_option maxHeartbeats 2000000 in
set_option maxRecDepth 1000000 in
theorem indexRune_near (r : Int) (c0 c1 : UInt8) (w : World) (h0 : 128 ≤ r) (hne : (r == 65533) = false) (hv : Lib.validRune r = true) (hrs : Utf8.encode r = ⟨#[c0, c1]⟩) (hc : 128 ≤ c1.toNat) :
    Calls Tryd.prog 99 #[.string blanksB, .int .i32 r] w fun e w' => e = .returned (.int .i64 (-1)) ∧ Below w.heap.size w w' := by
  obtain ⟨rs, hr⟩ : ∃ rs : ByteArray, rs = ⟨#[c0, c1]⟩ := ⟨_, rfl⟩
  rw [← hr] at hrs
  have h2 : (rs.size : Int) = 2 := by rw [hr]; rfl
  have HR := Lib.hid hr
  clear hr
  obtain ⟨bl, hb⟩ : ∃ bl : ByteArray, blanksB = bl := ⟨_, rfl⟩
  rw [hb]
  have h3 : (bl.size : Int) = 2 := by rw [← hb]; rfl
  have HB := Lib.hid hb
  clear hb
  have h3' : bl.size = 2 := by omega
  have h2' : rs.size = 2 := by omega
  have hd2 : decide (Lib.indexByte [] (rs[1]'(by omega)) < 0) = true := rfl
  have hx : (((bl[1]'(by omega)).toNat : Int) != ((rs[1]'(by omega)).toNat : Int)) = true := by
    have e1 : bl[1]'(by omega) = 9 := by simp only [← HB.out]; rfl
    have e2 : rs[1]'(by omega) = c1 := by simp only [HR.out]; rfl
    rw [e1, e2]
    simp
    omega
  go_enter Tryd.func99, Tryd.ntmps99
  go_wp2_with (go_at_call 118; refine (Tryd.utf8_ValidRune _ _).mono ?_; rintro e w' ⟨rfl, rfl⟩; rw [hv])
  refine wp_scope_straight ?_
  go_wp2
  go_loop [9] (fun i => i = .int .i64 1) (fun _ => 0)
  case atStart => rfl
  case round =>
    subst hrel
    go_wp2
    refine wp_scope_straight ?_
    go_wp2
    go_region
    all_goals go_wp2_with fail
    go_region_with (go_at_call 117; refine (Tryd.strings_IndexByte _ _ _).mono ?_; rintro e w1 ⟨rfl, rfl⟩)
    all_goals go_wp2
    all_goals change bodyPost Tryd.prog Tryd.f99 (fun e w'_1 => e = .returned (.int .i64 (-1)) ∧ Below w'.heap.size w' w'_1) Exit.ret _ _
    all_goals go_ret
    all_goals exact ⟨rfl, ((Below.refl _ _).drew).drew⟩
open Go.Extern.FmtText in
theorem indexRune_high (r : Int) (w : World) (h0 : 128 ≤ r) (h1 : r ≤ 1114111) :
    Calls Tryd.prog 99 #[.string blanksB, .int .i32 r] w fun e w' => e = .returned (.int .i64 (-1)) ∧ Below w.heap.size w w' := by
  by_cases e : r = 65533
  · subst e
    exact indexRune_err w
  have hne : (r == 65533) = false := by simpa using e
  cases hv : Lib.validRune r with
  | false => exact (indexRune_bad r w h0 hne hv).mono (by rintro e w' ⟨h, rfl⟩; exact ⟨h, Below.refl _ _⟩)
  | true =>
    obtain ⟨n, rfl⟩ := Int.eq_ofNat_of_zero_le (show 0 ≤ r by omega)
    have hvn : n < 55296 ∨ 57344 ≤ n := by
      simp [Lib.validRune] at hv
      omega
    have hlen := Lib.size_eq (Utf8.encode (n : Int))
    by_cases h2 : n < 2048
    · have henc := enc2 n (by omega) h2
      refine indexRune_near n (UInt8.ofNat (192 + n / 64)) (UInt8.ofNat (128 + n % 64)) w h0 hne hv ?_ ?_
      · cases h : Utf8.encode (n : Int) with
        | mk d =>
          rw [h] at henc
          have : d = #[UInt8.ofNat (192 + n / 64), UInt8.ofNat (128 + n % 64)] := Array.ext' henc
          rw [this]
      · rw [UInt8.toNat_ofNat']
        omega
    · have hbig : 3 ≤ (Utf8.encode (n : Int)).size ∧ (Utf8.encode (n : Int)).size ≤ 4 := by
        rw [hlen]
        by_cases h6 : n < 65536
        · rw [enc3 n h2 h6 hvn]
          simp
        · rw [enc4 n h6 (by omega)]
          simp
      exact (indexRune_far n _ w h0 hne hv rfl (by omega) (by omega)).mono (by rintro e w' ⟨h, rfl⟩; exact ⟨h, Below.refl _ _⟩)
end Go.Proofs.YtocpfgdajomjiaaDoor.Hand
