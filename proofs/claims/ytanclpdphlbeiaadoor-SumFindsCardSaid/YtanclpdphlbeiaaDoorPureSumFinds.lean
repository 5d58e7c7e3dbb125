import Derived.Test.YtanclpdphlbeiaaDoorPureSum
import Derived.Test.YtanclpdphlbeiaaDoorP4
namespace Go.Proofs.YtanclpdphlbeiaaDoor.Pure
open Go.RowKit Go.Proofs.YtanclpdphlbeiaaDoor.P Go.Proofs.YtanclpdphlbeiaaDoor.Hand Go.Proofs.YtanclpdphlbeiaaDoorW.PrintWords

theorem addv_changed (n : Nat) (u v : List UInt8) (c e : UInt8) (h : addv n ⟨(u ++ c :: v).toArray⟩ = addv n ⟨(u ++ e :: v).toArray⟩) : c = e := by
  have hst := adlStart_lt n
  have h1 := adl_lt (u ++ c :: v) _ hst.1 hst.2
  have h2 := adl_lt (u ++ e :: v) _ hst.1 hst.2
  have h3 : adl (adlStart n) (u ++ c :: v) = adl (adlStart n) (u ++ e :: v) := adlSum_inj _ _ h1.1 h2.1 h
  have h4 := congrArg Prod.fst h3
  rw [adl_fst _ _ hst.1, adl_fst _ _ hst.1] at h4
  simp only [List.map_append, List.sum_append, List.map_cons, List.sum_cons] at h4
  have hc : c.toNat < 256 := UInt8.toNat_lt _
  have he : e.toNat < 256 := UInt8.toNat_lt _
  exact UInt8.toNat_inj.1 (by omega)
theorem SumFinds : ∀ (a0 : Int), (Lit.int .u32 a0).wf = true → ∀ (a1 : ByteArray), a1.size ≤ 140737488351232 → ∀ (a2 : Int), (Lit.int .i64 a2).wf = true → ∀ (a3 : Int), (Lit.int .u8 a3).wf = true → ∃ k, cooperagelaw3_SumFinds.f k a0 a1 a2 a3 = some true := by
  intro a0 h0 s hs a2 _ a3 h3
  obtain ⟨n, rfl, hn⟩ := wf32 h0
  obtain ⟨c, rfl, hc⟩ := wf8 h3
  refine ⟨1, ?_⟩
  unfold cooperagelaw3_SumFinds.f
  rw [shown_f]
  rw [Option.bind_some, if_pos rfl]
  by_cases hl : (s.size : Int) > 3000
  · rw [if_pos hl]
    simp [cooperagelaw3_SumFinds.j0]
  rw [if_neg hl]
  by_cases h2 : a2 < 0
  · rw [if_pos h2]
    simp [cooperagelaw3_SumFinds.j0]
  rw [if_neg h2]
  by_cases hge : a2 ≥ (s.size : Int)
  · rw [decide_eq_true hge]
    simp [cooperagelaw3_SumFinds.j0]
  rw [decide_eq_false hge]
  obtain ⟨i, rfl⟩ := Int.eq_ofNat_of_zero_le (Int.not_lt.1 h2)
  have hi : i < s.size := by omega
  simp only [cooperagelaw3_SumFinds.j0]
  rw [if_neg (by decide), if_pos (by omega), if_pos (by omega)]
  rw [Option.bind_some]
  have hz : (strOfNums [(c : Int)]).size = 1 := by simp [strOfNums, ByteArray.size]
  have e1 : (s.extract 0 (i : Int).toNat).size = i := by rw [ByteArray.size_extract]; omega
  rw [w64 (x := (i : Int) + 1) (by omega) (by omega)]
  have e2 : (s.extract ((i : Int) + 1).toNat s.size).size = s.size - (i + 1) := by rw [ByteArray.size_extract]; omega
  rw [ByteArray.size_append, e1, e2, hz, if_pos (by omega), if_pos (by omega), if_pos (by omega), if_pos (by omega)]
  have hlen : i < s.data.toList.length := by simpa using hi
  have et : (s.extract 0 (i : Int).toNat ++ strOfNums [(c : Int)]) ++ s.extract ((i : Int) + 1).toNat s.size = ⟨(s.data.toList.take i ++ UInt8.ofNat c :: s.data.toList.drop (i + 1)).toArray⟩ := by
    apply eq_of_list
    rw [show ((i : Int) + 1).toNat = i + 1 by omega, Int.toNat_natCast, app_list, app_list, ext_end, ext_start, List.append_assoc]
    rfl
  have es : s = ⟨(s.data.toList.take i ++ s.data.toList[i] :: s.data.toList.drop (i + 1)).toArray⟩ := by
    apply eq_of_list
    show _ = s.data.toList.take i ++ s.data.toList[i] :: s.data.toList.drop (i + 1)
    rw [← List.drop_eq_getElem_cons hlen, List.take_append_drop]
  rw [et]
  have htz : (⟨(s.data.toList.take i ++ UInt8.ofNat c :: s.data.toList.drop (i + 1)).toArray⟩ : ByteArray).size ≤ 140737488351232 := by
    show (s.data.toList.take i ++ UInt8.ofNat c :: s.data.toList.drop (i + 1)).toArray.size ≤ _
    have : s.data.toList.length = s.size := by simp
    rw [List.size_toArray, List.length_append, List.length_cons, List.length_take, List.length_drop]
    omega
  have key : ∀ m, addv m s = addv m ⟨(s.data.toList.take i ++ UInt8.ofNat c :: s.data.toList.drop (i + 1)).toArray⟩ → s = ⟨(s.data.toList.take i ++ UInt8.ofNat c :: s.data.toList.drop (i + 1)).toArray⟩ := by
    intro m h
    have h' : addv m ⟨(s.data.toList.take i ++ s.data.toList[i] :: s.data.toList.drop (i + 1)).toArray⟩ = addv m ⟨(s.data.toList.take i ++ UInt8.ofNat c :: s.data.toList.drop (i + 1)).toArray⟩ := by rw [← es]; exact h
    rw [addv_changed m _ _ _ _ h'] at es
    exact es
  clear es
  generalize (⟨(s.data.toList.take i ++ UInt8.ofNat c :: s.data.toList.drop (i + 1)).toArray⟩ : ByteArray) = t at *
  clear et
  have fA := add_f n s hn hs
  have fB := add_f n t hn htz
  have fC := of_f s hs
  have fD := of_f t htz
  have kn := key n
  have k1 := key 1
  have lC := addv_lt 1 s
  have lD := addv_lt 1 t
  have iC : s = t → addv 1 s = addv 1 t := fun h => by rw [h]
  have iA : s = t → addv n s = addv n t := fun h => by rw [h]
  clear key
  generalize addv n s = A at *
  generalize addv n t = B at *
  generalize addv 1 s = C at *
  generalize addv 1 t = D at *
  rw [fA, fB, fC, fD]
  rw [Option.bind_some, Option.bind_some, Option.bind_some]
  rw [hex_f _ lC, Option.bind_some, Option.bind_some, hex_f _ lD, Option.bind_some]
  by_cases e : s = t
  · have eA := iA e
    have eC := iC e
    subst e eA eC
    simp
  · have hst : (s.toList == t.toList) = false := by
      apply beq_eq_false_iff_ne.2
      intro h
      exact e (toList_inj h)
    have hx1 : (((A : Nat) : Int) == ((B : Nat) : Int)) = false := by
      apply beq_eq_false_iff_ne.2
      intro h
      exact e (kn (by omega))
    have hx2 : ((hex8 C).toList == (hex8 D).toList) = false := by
      apply beq_eq_false_iff_ne.2
      intro h
      exact e (k1 (hex8_inj _ _ lC lD (toList_inj h)))
    rw [hst, hx1, hx2]
    simp
end Go.Proofs.YtanclpdphlbeiaaDoor.Pure
