import Derived.Test.YtocpfgdajomjiaaDoorIdx2
import Derived.RangeFuncRecord
import Derived.RangeFuncOwn
namespace Go.Proofs.YtocpfgdajomjiaaDoor.Hand
open Go.RowKit Go.Lib
set_option linter.unusedVariables false
set_option linter.unusedSimpArgs false
theorem next_more {P : Program} (wx : World) (k : Nat) (s : ByteArray) (pos : Nat) (ty : TypeId) (hk : wx.heap[k]? = some (.stringIter s pos)) (h : pos < s.size) :
    (Instr.next (.pointer (some ⟨k, 0, none⟩)) true ty).run P wx = .ok (.tuple #[.bool true, .int .i64 pos, .int .i32 (Utf8.decode s pos).1]) (wx.putObj k (.stringIter s (pos + (Utf8.decode s pos).2))) := by
  simp only [Instr.next, getObj, setObj, Sem.run_bind, Sem.run, hk, Result.andThen, h, if_true]
  simp [goInt, World.putObj, hk, Sem.run]
theorem next_end {P : Program} (wx : World) (k : Nat) (s : ByteArray) (pos : Nat) (ty : TypeId) (hk : wx.heap[k]? = some (.stringIter s pos)) (h : ¬ pos < s.size) :
    (Instr.next (.pointer (some ⟨k, 0, none⟩)) true ty).run P wx = .ok (.tuple #[.bool false]) wx := by
  simp [Instr.next, getObj, Sem.run, hk, h]
theorem below_put {w wx : World} {k : Nat} (o : Obj) (hb : Below w.heap.size w wx) (hk : w.heap.size ≤ k) (hl : k < wx.heap.size) : Below w.heap.size w (wx.putObj k o) :=
  hb.trans ((Below.refl _ wx).grown (grownBy_putObj' wx k o) (by have := hb.size; omega) (fun j e => by cases e; omega))
theorem decode_max' (s : ByteArray) (pos : Nat) : (Utf8.decode s pos).1 ≤ 1114111 := by
  have hb : ∀ k, (s.get! (pos + k)).toNat < 256 := fun k => (s.get! (pos + k)).toNat_lt
  have h0 := hb 0; have h1 := hb 1; have h2 := hb 2; have h3 := hb 3
  simp only [Utf8.decode]
  repeat' split
  all_goals simp_all [Utf8.runeError, Utf8.valid]
  all_goals omega
set_option maxHeartbeats 8000000 in
set_option maxRecDepth 1000000 in
theorem indexAny_near (s : ByteArray) (w : World) (h8 : s.size ≤ 8) :
    Calls Tryd.prog 78 #[.string s, .string blanksB] w fun e w' => e = .returned (.int .i64 (Lib.indexAny s.data.toList [32, 9])) ∧ Below w.heap.size w w' := by
  have hemp : blanksB.toList.isEmpty = false := by rw [Lib.toList_data]; rfl
  have hbl : blanksB.data.toList = [32, 9] := rfl
  obtain ⟨bl, hb⟩ : ∃ bl : ByteArray, blanksB = bl := ⟨_, rfl⟩
  have hih := Lib.hid indexRune_high
  rw [hb] at hemp hbl hih ⊢
  have hn1 : ((bl.size : Int) == 1) = false := by rw [← hb]; rfl
  have h8z : decide ((8 : Int) < (s.size : Int)) = false := decide_eq_false (by omega)
  have HB := Lib.hid hbl
  clear hbl hb
  go_enter Tryd.func78, Tryd.ntmps78
  go_wp2_with (go_at_call 100; refine (Tryd.strings_shouldUseASCIISet _ _).mono ?_; rintro e w' ⟨rfl, hw⟩; rw [hw, h8z])
  go_loopg [9, 10] s.size (fun g _ _ wx => ∃ i : Nat, i + g = s.size ∧ Hid (wx.heap[w.heap.size]? = some (.stringIter s i)) ∧ Hid (Below w.heap.size w wx) ∧ Hid (Lib.NoAny s.data.toList [32, 9] i))
  case atStart => exact ⟨0, by omega, World.iter_heap _ _ _, (Below.refl _ _).alloc (Nat.le_refl _) _, Lib.NoAny.zero _ _⟩
  case round =>
    obtain ⟨i, hig, hit, hB, HN⟩ := hrel
    cases gk with
    | zero =>
      obtain rfl : i = s.size := by omega
      have hnx := fun ty => next_end (P := Tryd.prog) wr w.heap.size s s.size ty hit.out (by omega)
      go_wp2
      go_ret
      exact ⟨by rw [Lib.indexAny_none (by rw [← Lib.size_eq]; exact HN.out)]; rfl, hB.out⟩
    | succ g =>
      have hi : i < s.size := by omega
      have hlt := (Array.getElem?_eq_some_iff.1 hit.out).1
      have hnx := fun ty => next_more (P := Tryd.prog) wr w.heap.size s i ty hit.out hi
      obtain ⟨x, hx⟩ : ∃ x : UInt8, s[i]'hi = x := ⟨_, rfl⟩
      have Hx : Hid (s.data.toList[i]? = some x) := by
        show s.data.toList[i]? = some x
        rw [← hx]
        exact Lib.data_getElem? s i hi
      by_cases ha : x.toNat < 128
      · have hd := decode_ascii s i hi (by rw [hx]; exact ha)
        rw [hd, hx] at hnx
        have hB2 : Hid (Below w.heap.size w (wr.putObj w.heap.size (.stringIter s (i + 1)))) := below_put _ hB.out (Nat.le_refl _) hlt
        have hit2 : Hid ((wr.putObj w.heap.size (.stringIter s (i + 1))).heap[w.heap.size]? = some (.stringIter s (i + 1))) := World.putObj_heap_same hlt
        generalize hW : wr.putObj w.heap.size (.stringIter s (i + 1)) = W at hnx hB2 hit2
        clear hW hd hx
        have hcon := Lib.contains_iff_indexByte [32, 9] x
        have hback : ((x.toNat : Int)).toNat.toUInt8 = x := by simp
        cases hin : List.contains [32, 9] x
        · rw [hin] at hcon
          have hlt : ¬ ((0 : Int) ≤ Lib.indexByte [32, 9] x) := of_decide_eq_false hcon.symm
          clear hcon
          go_wp2_with (go_at_call 99; refine (Tryd.strings_IndexRune_ascii _ _ _ (by omega) (by omega)).mono ?_; rintro e w' ⟨rfl, hw⟩; rw [hw, hback, HB.out])
          go_roundg g
          case measure => omega
          case rel => exact ⟨i + 1, by omega, hit2, hB2, HN.out.succ Hx.out hin⟩
        · rw [hin] at hcon
          have hge : (0 : Int) ≤ Lib.indexByte [32, 9] x := of_decide_eq_true hcon.symm
          clear hcon
          go_wp2_with (go_at_call 99; refine (Tryd.strings_IndexRune_ascii _ _ _ (by omega) (by omega)).mono ?_; rintro e w' ⟨rfl, hw⟩; rw [hw, hback, HB.out])
          go_ret
          exact ⟨by rw [Lib.indexAny_hit HN.out Hx.out hin]; rfl, hB2.out⟩
      · have hhigh := decode_high s i hi (by rw [hx]; omega)
        have hmax := decode_max' s i
        obtain ⟨hsp1, hsp2⟩ := decode_span s i hi (by rw [hx]; omega)
        generalize Utf8.decode s i = rw_ at hnx hhigh hmax hsp1 hsp2
        obtain ⟨r, wd⟩ := rw_
        simp only at hnx hhigh hmax hsp1 hsp2
        have hB2 : Hid (Below w.heap.size w (wr.putObj w.heap.size (.stringIter s (i + wd)))) := below_put _ hB.out (Nat.le_refl _) hlt
        have hit2 : Hid ((wr.putObj w.heap.size (.stringIter s (i + wd))).heap[w.heap.size]? = some (.stringIter s (i + wd))) := World.putObj_heap_same hlt
        generalize hW : wr.putObj w.heap.size (.stringIter s (i + wd)) = W at hnx hB2 hit2
        clear hW hx
        have hno : Hid (Lib.NoAny s.data.toList [32, 9] (i + wd)) := by
          intro j b hj hb
          by_cases hji : j < i
          · exact HN.out j b hji hb
          · obtain ⟨hjs, hge⟩ := hsp2 j (by omega) hj
            have h1 := Lib.data_getElem? s j hjs
            rw [h1] at hb
            have hb' : b = s[j] := (Option.some.inj hb).symm
            rw [← hb'] at hge
            have n1 : b ≠ 32 := by rintro rfl; revert hge; decide
            have n2 : b ≠ 9 := by rintro rfl; revert hge; decide
            simp [n1, n2]
        have hr0 : (128 : Int) ≤ (r : Int) := by omega
        have hr1 : (r : Int) ≤ 1114111 := by omega
        have HC := Lib.hid (hih.out (r : Int) W hr0 hr1)
        clear hsp2
        go_wp2_with (go_at_call 99; refine HC.out.mono ?_; rintro e w' ⟨rfl, hb⟩)
        have hB3 : Hid (Below w.heap.size w w') := hB2.out.trans (hb.mono hB2.out.size)
        have hit3 : Hid (w'.heap[w.heap.size]? = some (.stringIter s (i + wd))) := (hb.block _ (Array.getElem?_eq_some_iff.1 hit2.out).1).trans hit2.out
        clear hb
        go_roundg (s.size - (i + wd))
        case measure => omega
        case rel => exact ⟨i + wd, by omega, hit3, hB3, hno⟩
end Go.Proofs.YtocpfgdajomjiaaDoor.Hand
