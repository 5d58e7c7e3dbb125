import Derived.Test.YtghbaehbgefpaaaGreatDoorQ12
import Derived.Shelf.Strings.SlTrimAscii
import Derived.Test.YtghbaehbgefpaaaGreatDoorQ11
import Derived.OwnWalkIn
import Derived.RangeFuncOwn
import Derived.RangeFuncWrites
import Derived.Maps.AppendAt
/- Several texts of this session in one: the walks of the functions that the laws reach, and what they tell. -/
set_option linter.unusedVariables false
set_option linter.unusedSimpArgs false
namespace Go.Proofs.YtghbaehbgefpaaaGreatDoor.Hand
open Go.Shelf Go.RowKit Go.Proofs.YtghbaehbgefpaaaGreatDoorW.PrintWords
theorem infoAS : (Tryz.prog.info? 200).map (fun i => (i.zero, i.size)) = some (some (.agg (Array.replicate 256 (.bool false))), 256) := by kernel_rfl
def hexB : ByteArray := ⟨#[48, 49, 50, 51, 52, 53, 54, 55, 56, 57, 97, 98, 99, 100, 101, 102]⟩
def hexL : List UInt8 := [48, 49, 50, 51, 52, 53, 54, 55, 56, 57, 97, 98, 99, 100, 101, 102]
theorem ascii_hex : ∀ (j : Nat) b, hexB.data.toList[j]? = some b → b.toNat < 128 := ascii_of_all (by decide)
theorem trim_hex (s : ByteArray) (hs : s.size ≤ 100000) (w : World) :
    Calls Tryz.prog 135 #[.string s, .string hexB] w fun e w' => e = .returned (.string ⟨(Lib.trimS s.data.toList hexL).toArray⟩) ∧ Below w.heap.size w w' :=
  Any.strings_Trim_laid Tryz.lays160 infoAS s hexB w (by omega) (by decide) ascii_hex
theorem dropWhile_nil {p : UInt8 → Bool} : ∀ l : List UInt8, l.dropWhile p = [] ↔ l.all p = true := by
  intro l
  induction l with
  | nil => simp
  | cons c t ih =>
    rw [List.dropWhile_cons, List.all_cons]
    by_cases h : p c = true
    · rw [if_pos h, h, ih]
      simp
    · rw [if_neg h]
      simp [h]
theorem mem_tw {p : UInt8 → Bool} : ∀ (l : List UInt8) (c : UInt8), c ∈ l.takeWhile p → p c = true := by
  intro l
  induction l with
  | nil => intro c h; simp at h
  | cons x t ih =>
    intro c h
    rw [List.takeWhile_cons] at h
    split at h
    next hx =>
      rcases List.mem_cons.1 h with e | e
      · subst e; exact hx
      · exact ih c e
    next => simp at h
theorem trimS_nil (l cs : List UInt8) : Lib.trimS l cs = [] ↔ l.all (fun c => cs.contains c) = true := by
  unfold Lib.trimS Lib.trimRightS Lib.trimLeftS
  rw [dropWhile_nil, List.all_reverse, List.all_eq_true]
  constructor
  · intro h
    rw [List.all_eq_true]
    intro c hc
    by_cases hm : c ∈ l.reverse.dropWhile fun c => cs.contains c
    · exact h c hm
    · have h2 : c ∈ l.reverse.takeWhile (fun c => cs.contains c) := by
        have := List.takeWhile_append_dropWhile (p := fun c => cs.contains c) (l := l.reverse)
        have hr : c ∈ l.reverse := by simpa using hc
        rw [← this] at hr
        rcases List.mem_append.1 hr with h | h
        · exact h
        · exact absurd h hm
      exact mem_tw _ c h2
  · intro h c hc
    rw [List.all_eq_true] at h
    exact h c (by
      have := (List.dropWhile_sublist (p := fun c => cs.contains c) (l := l.reverse)).mem hc
      simpa using this)
def formB (a : ByteArray) : Bool := decide (9 ≤ a.size) && decide (a.size < 13000) && decide (a.data.toList[a.size - 9]? = some 32) && (a.data.toList.drop (a.size - 8)).all (fun c => hexL.contains c)
def blankB : ByteArray := ⟨#[32]⟩
def wordsB (a : ByteArray) : List ByteArray := Lib.splitB blankB 0 (Lib.countB (a.extract 0 (a.size - 9)) blankB) (a.extract 0 (a.size - 9))
def takeB (a r : ByteArray) : List ByteArray × ByteArray × Int :=
  if formB a = false then ([], ⟨#[]⟩, 2) else if 40 < (wordsB a).length then ([], ⟨#[]⟩, 2) else if (wordsB a).all (fun x => (unqV x).isSome) = false then ([], ⟨#[]⟩, 2)
  else if SumW.hex8 (adlOf (a.data.toList.take (a.size - 8))) = a.extract (a.size - 8) a.size then ((wordsB a).map fun x => (unqV x).getD ⟨#[]⟩, r, 0) else ([], ⟨#[]⟩, 13)
def takeV (s : ByteArray) : List ByteArray × ByteArray × Int :=
  if (Lib.cut s.data.toList [10]).2.2 = false then ([], ⟨#[]⟩, 14) else takeB ⟨(Lib.cut s.data.toList [10]).1.toArray⟩ ⟨(Lib.cut s.data.toList [10]).2.1.toArray⟩
def TakeEnd (w : World) (p : List ByteArray × ByteArray × Int) (e : Ending) (w' : World) : Prop :=
  ∃ v : Value, e = .returned (.tuple #[v, .string p.2.1, .int .i64 p.2.2]) ∧ Kd.R Kd.string 9 w' w.heap.size (fun _ => True) v p.1 ∧ Below w.heap.size w w'
theorem TakeEnd.err {w w' : World} {p : List ByteArray × ByteArray × Int} {c : Int} (h : p = ([], ⟨#[]⟩, c)) (hb : Below w.heap.size w w') : TakeEnd w p (.returned (.tuple #[.slice none 0 0, .string ⟨#[]⟩, .int .i64 c])) w' := by
  subst h
  exact ⟨_, rfl, Kd.R_nil _ _ _ _ _, hb⟩
theorem splG_size (c : UInt8) : ∀ (l cur : List UInt8), ∀ x ∈ Spl.splG c cur l, x.length ≤ cur.length + l.length := by
  intro l
  induction l with
  | nil =>
    intro cur x hx
    rw [Spl.splG, List.mem_singleton] at hx
    subst hx
    simp
  | cons b t ih =>
    intro cur x hx
    rw [Spl.splG] at hx
    split at hx
    · rcases List.mem_cons.1 hx with e | e
      · subst e
        rw [List.length_reverse, List.length_cons]
        omega
      · have := ih [] x e
        simp only [List.length_nil, List.length_cons] at this ⊢
        omega
    · have := ih (b :: cur) x hx
      simp only [List.length_cons] at this ⊢
      omega
theorem words_data (a : ByteArray) : (wordsB a).map (·.data.toList) = Spl.splG 32 [] (a.extract 0 (a.size - 9)).data.toList := by
  unfold wordsB
  rw [Lib.splitB_data]
  exact Spl.splitK_G 32 _
theorem words_size (a : ByteArray) : ∀ x ∈ wordsB a, x.size ≤ a.size := by
  intro x hx
  have h1 : x.data.toList ∈ Spl.splG 32 [] (a.extract 0 (a.size - 9)).data.toList := by
    rw [← words_data]
    exact List.mem_map_of_mem hx
  have h2 := splG_size 32 _ _ _ h1
  have h3 : x.data.toList.length = x.size := by rw [Array.length_toList]; rfl
  have h4 : (a.extract 0 (a.size - 9)).data.toList.length = (a.extract 0 (a.size - 9)).size := by rw [Array.length_toList]; rfl
  rw [h3, h4, ByteArray.size_extract] at h2
  simp only [List.length_nil] at h2
  omega
theorem infoStr2 : (Tryz.prog.info? 9).map (fun i => (i.zero, i.size, i.bytes)) = some (some (.string ⟨#[]⟩), 1, 16) := by kernel_rfl
def uq (x : ByteArray) : ByteArray := (unqV x).getD ⟨#[]⟩
theorem glob_cell {w : World} (h : Hand2.Glob w) : ∃ m, w.cell? ⟨0, 0, none⟩ = some (.int .i64 m) := h.g.cell
set_option maxHeartbeats 8000000 in
set_option maxRecDepth 100000 in
theorem take_walk (s : ByteArray) (hs : s.size ≤ 2000000) (w : World) (hG : Hand2.Glob w) :
    Calls Tryz.prog 111 #[.string s] w (TakeEnd w (takeV s)) := by
  have HG := Lib.hid hG
  clear hG
  obtain ⟨m, hm⟩ := HG.out.g.cell
  have hcut := Lib.hid (Tryz.strings_Cut s ⟨#[10]⟩ m w (by omega) hm)
  clear hm
  rw [show ((⟨#[10]⟩ : ByteArray).data.toList) = [10] from rfl] at hcut
  obtain ⟨R, hR⟩ : ∃ R, takeV s = R := ⟨_, rfl⟩
  have hR' := hR
  unfold takeV at hR'
  have hspec := cut_one 10 s.data.toList
  have hsl : s.data.toList.length = s.size := by rw [Array.length_toList]; rfl
  obtain ⟨a, ha⟩ : ∃ a : ByteArray, (⟨(Lib.cut s.data.toList [10]).1.toArray⟩ : ByteArray) = a := ⟨_, rfl⟩
  obtain ⟨r, hr⟩ : ∃ r : ByteArray, (⟨(Lib.cut s.data.toList [10]).2.1.toArray⟩ : ByteArray) = r := ⟨_, rfl⟩
  have had : (Lib.cut s.data.toList [10]).1 = a.data.toList := by rw [← ha]
  rw [ha, hr] at hcut hR'
  rw [had] at hspec
  have hal : a.data.toList.length = a.size := by rw [Array.length_toList]; rfl
  have has : a.size ≤ s.size := by
    rcases hspec.2 with ⟨-, h⟩ | ⟨-, h⟩
    · have := congrArg List.length h
      rw [hsl, List.length_append, hal] at this
      omega
    · have := congrArg List.length h
      rw [hsl, hal] at this
      omega
  rw [hR]
  have HR := Lib.hid hR'
  clear hR hR' hspec hsl ha hr had
  generalize (Lib.cut s.data.toList [10]).2.2 = found at hcut HR
  cases found with
  | false =>
    have HX : Hid (R = ([], ⟨#[]⟩, 14)) := by rw [Hid, ← HR.out, if_pos rfl]
    clear HR
    go_enter Tryz.func111, Tryz.ntmps111
    go_wp2_with (go_at_call 134; refine hcut.out.mono ?_; rintro e W1 ⟨rfl, nd, rfl⟩)
    exact bodyPost_ret (v := .tuple #[.slice none 0 0, .string ⟨#[]⟩, .int .i64 14]) (by simp [results, Tryz.results111, go_sem]) rfl (TakeEnd.err HX.out (belowD _ _))
  | true =>
    have HX : Hid (R = takeB a r) := by rw [Hid, ← HR.out, if_neg (by decide)]
    clear HR
    have hcut2 : Hid (∀ e w', (e = Ending.returned (.tuple #[.string a, .string r, .bool true]) ∧ ∃ n, w' = w.drewN n) → Below w.heap.size w w') := by
      rintro e w' ⟨-, n, rfl⟩
      exact belowD _ _
    by_cases h9 : a.size < 9
    · have HY : Hid (R = ([], ⟨#[]⟩, 2)) := by
        rw [Hid, HX.out, takeB, if_pos]
        unfold formB
        rw [decide_eq_false (by omega : ¬ 9 ≤ a.size)]
        rfl
      go_enter Tryz.func111, Tryz.ntmps111
      go_wp2_with (go_at_call 134; refine hcut.out.mono ?_; rintro e W1 ⟨rfl, nd, rfl⟩)
      exact bodyPost_ret (v := .tuple #[.slice none 0 0, .string ⟨#[]⟩, .int .i64 2]) (by simp [results, Tryz.results111, go_sem]) rfl (TakeEnd.err HY.out (belowD _ _))
    · by_cases h13 : 13000 ≤ a.size
      · have HY : Hid (R = ([], ⟨#[]⟩, 2)) := by
          rw [Hid, HX.out, takeB, if_pos]
          unfold formB
          rw [decide_eq_false (by omega : ¬ a.size < 13000)]
          simp
        go_enter Tryz.func111, Tryz.ntmps111
        go_wp2_with (go_at_call 134; refine hcut.out.mono ?_; rintro e W1 ⟨rfl, nd, rfl⟩)
        exact bodyPost_ret (v := .tuple #[.slice none 0 0, .string ⟨#[]⟩, .int .i64 2]) (by simp [results, Tryz.results111, go_sem]) rfl (TakeEnd.err HY.out (belowD _ _))
      · obtain ⟨k, hk⟩ : ∃ k, a.size = k + 9 := ⟨a.size - 9, by omega⟩
        have hkl : k < a.size := by omega
        have hk13 : k < 12991 := by omega
        have e8 : (a.size : Int) - 8 = (k : Int) + 1 := by omega
        have hne : ¬ (k : Int) + 9 ≥ 13000 := by omega
        have hz : (a.size : Int) < 13000 := by omega
        by_cases hb : a[k] = 32
        · have hb32 : (a[k].toNat : Int) = 32 := by rw [hb]; rfl
          have h32 : decide (a.data.toList[k]? = some 32) = true := by
            apply decide_eq_true
            rw [List.getElem?_eq_getElem (by omega)]
            exact congrArg some hb
          have hk8 : a.size - 8 = k + 1 := by omega
          have hk9 : a.size - 9 = k := by omega
          have hform : formB a = (a.data.toList.drop (k + 1)).all (fun c => hexL.contains c) := by
            unfold formB
            rw [hk9, hk8, h32, decide_eq_true (by omega : 9 ≤ a.size), decide_eq_true (by omega : a.size < 13000)]
            rfl
          have e9 : (k : Int) + 1 - 1 = (k : Int) := by omega
          have hto : ((k : Int) + 1).toNat = k + 1 := by omega
          have htl : (a.extract (k + 1) a.size).size ≤ 100000 := by rw [ByteArray.size_extract]; omega
          have htd : (a.extract (k + 1) a.size).data.toList = a.data.toList.drop (k + 1) := by
            rw [← ext_drop]
          have HTR := Lib.hid fun W => trim_hex (a.extract (k + 1) a.size) htl W
          rw [htd] at HTR
          obtain ⟨T, hT⟩ : ∃ T : ByteArray, (⟨(Lib.trimS (a.data.toList.drop (k + 1)) hexL).toArray⟩ : ByteArray) = T := ⟨_, rfl⟩
          have hTd : T.toList = Lib.trimS (a.data.toList.drop (k + 1)) hexL := by rw [ByteArray.toList_eq, ← hT]
          rw [hT] at HTR
          have HK := Lib.hid hk
          have HK8 := Lib.hid hk8
          have HK9 := Lib.hid hk9
          have HFORM := Lib.hid hform
          have HTD := Lib.hid hTd
          clear hb hne h9 h13 hal hcut2 hk h32 hk8 hk9 hform htd hT hTd htl
          cases hTe : T.toList.isEmpty with
          | false =>
            have HY : Hid (R = ([], ⟨#[]⟩, 2)) := by
              rw [Hid, HX.out, takeB, if_pos]
              rw [HFORM.out]
              cases hall : (a.data.toList.drop (k + 1)).all (fun c => hexL.contains c) with
              | false => rfl
              | true =>
                rw [HTD.out, (trimS_nil _ _).2 hall] at hTe
                simp at hTe
            go_enter Tryz.func111, Tryz.ntmps111
            go_wp2_with (go_at_call 134; refine hcut.out.mono ?_)
            rintro e W1 ⟨rfl, nd, rfl⟩
            go_wp2_with (go_at_call 135; refine (HTR.out _).mono ?_)
            rintro e W2 ⟨rfl, hb2⟩
            have HB2 := Lib.hid ((belowD w nd).trans (hb2.mono (belowD w nd).size))
            clear hb2
            go_wp2
            exact bodyPost_ret (v := .tuple #[.slice none 0 0, .string ⟨#[]⟩, .int .i64 2]) (by simp [results, Tryz.results111, go_sem]) rfl (TakeEnd.err HY.out HB2.out)
          | true =>
            have HF : Hid (formB a = true) := by
              rw [Hid, HFORM.out, ← trimS_nil, ← HTD.out]
              exact List.isEmpty_iff.1 hTe
            go_enter Tryz.func111, Tryz.ntmps111
            go_wp2_with (go_at_call 134; refine hcut.out.mono ?_)
            rintro e W1 ⟨rfl, nd, rfl⟩
            go_wp2_with (go_at_call 135; refine (HTR.out _).mono ?_)
            rintro e W2 ⟨rfl, hb2⟩
            have HB2 := Lib.hid ((belowD w nd).trans (hb2.mono (belowD w nd).size))
            have HG2 := Lib.hid (HG.out.below HB2.out)
            clear hb2
            obtain ⟨m2, hm2⟩ := glob_cell HG2.out
            have hxs : (a.extract 0 k).size < 4294967281 := by rw [ByteArray.size_extract]; omega
            have HS := Lib.hid (Tryz.strings_Split (a.extract 0 k) blankB m2 W2 hxs hm2 (by decide))
            have hpl : (wordsB a).length = Lib.countB (a.extract 0 k) blankB + 1 := by
              unfold wordsB
              rw [HK9.out]
              exact Lib.splitB_all blankB (by decide) 0 _ _ rfl
            have hps : Lib.splitB blankB 0 (Lib.countB (a.extract 0 k) blankB) (a.extract 0 k) = wordsB a := by
              unfold wordsB
              rw [HK9.out]
            have HWS := Lib.hid (words_size a)
            rw [hps] at HS
            clear hm2 hps hxs
            obtain ⟨cn, hcn⟩ : ∃ cn, Lib.countB (a.extract 0 k) blankB = cn := ⟨_, rfl⟩
            rw [hcn] at HS hpl
            clear hcn
            obtain ⟨ws, hws⟩ : ∃ ws, wordsB a = ws := ⟨_, rfl⟩
            rw [hws] at HS hpl HWS
            have HPL := Lib.hid hpl
            have HTB : Hid (R = if 40 < ws.length then ([], ⟨#[]⟩, 2) else if ws.all (fun x => (unqV x).isSome) = false then ([], ⟨#[]⟩, 2) else if SumW.hex8 (adlOf (a.data.toList.take (k + 1))) = a.extract (k + 1) a.size then (ws.map uq, r, 0) else ([], ⟨#[]⟩, 13)) := by
              rw [Hid, HX.out]
              unfold takeB
              rw [if_neg (by rw [HF.out]; decide), hws, HK8.out]
              rfl
            clear hws
            obtain ⟨W3, hW3⟩ : ∃ W3, W2.alloc (.cells (ws.map Value.string).toArray 9) = W3 := ⟨_, rfl⟩
            rw [hW3] at HS
            have hpc : Hid (∀ j (h : j < ws.length), W3.cell? ⟨W2.heap.size, j, none⟩ = some (.string ws[j])) := by
              intro j h
              have hb := World.alloc_heap_new W2 (.cells (ws.map Value.string).toArray 9)
              rw [hW3] at hb
              rw [Lib.cell_of_heap hb]
              simp [h]
            have HB3 : Hid (Below w.heap.size w W3) := by
              rw [Hid, ← hW3]
              exact HB2.out.alloc HB2.out.size _
            have hs3 : W3.heap.size = W2.heap.size + 1 := by rw [← hW3]; simp
            have HG3 := Lib.hid (HG.out.below HB3.out)
            clear hW3 hpl
            go_wp2_with (go_at_call 67; refine HS.out.mono ?_)
            rintro e w1 ⟨rfl, rfl⟩
            by_cases h40 : 40 < cn + 1
            · have HY : Hid (R = ([], ⟨#[]⟩, 2)) := by rw [Hid, HTB.out, if_pos (by rw [HPL.out]; exact h40)]
              go_wp2
              exact bodyPost_ret (v := .tuple #[.slice none 0 0, .string ⟨#[]⟩, .int .i64 2]) (by simp [results, Tryz.results111, go_sem]) rfl (TakeEnd.err HY.out HB3.out)
            · have h40' : cn ≤ 39 := by omega
              have HTB2 : Hid (R = if ws.all (fun x => (unqV x).isSome) = false then ([], ⟨#[]⟩, 2) else if SumW.hex8 (adlOf (a.data.toList.take (k + 1))) = a.extract (k + 1) a.size then (ws.map uq, r, 0) else ([], ⟨#[]⟩, 13)) := by
                rw [Hid, HTB.out, if_neg (by rw [HPL.out]; exact h40)]
              clear h40
              go_wp2
              go_loopw [10, 57] (fun v i wr => ∃ j : Nat, j ≤ cn + 1 ∧ i = .int .i64 j ∧ Hid (Below w1.heap.size w1 wr) ∧ Hid (Kd.R Kd.string 9 wr w1.heap.size (fun _ => True) v ((ws.take j).map uq)) ∧ Hid ((ws.take j).all (fun x => (unqV x).isSome) = true))
                (fun _ i _ => cn + 1 - (intOf i).toNat)
              case atStart => exact ⟨0, Nat.zero_le _, rfl, Below.refl _ _, Kd.R_nil _ _ _ _ _, rfl⟩
              case round =>
                obtain ⟨j, hj, rfl, hbw, hrow, hall⟩ := hrel
                have HT := Lib.hid (HB3.out.trans (hbw.out.mono HB3.out.size))
                have HGr := Lib.hid (HG.out.below HT.out)
                by_cases hjn : j < cn + 1
                · have hjl : j < ws.length := by rw [HPL.out]; exact hjn
                  have hc : wr.cell? ⟨W2.heap.size, j, none⟩ = some (.string ws[j]) := (hbw.out.cell (p := ⟨W2.heap.size, j, none⟩) (by show W2.heap.size < _; omega)).trans (hpc.out j hjl)
                  have hst : Hid ((ws.take (j + 1)).map uq = (ws.take j).map uq ++ [uq ws[j]]) := by
                    rw [Hid, List.take_succ_eq_append_getElem hjl, List.map_append]
                    rfl
                  have hst2 : Hid ((ws.take (j + 1)).all (fun x => (unqV x).isSome) = (unqV ws[j]).isSome) := by
                    rw [Hid, List.take_succ_eq_append_getElem hjl, List.all_append, hall.out]
                    simp
                  have hmem : Hid (ws[j] ∈ ws) := List.getElem_mem hjl
                  have hxs : Hid (ws[j].size ≤ 100000) := by
                    have := HWS.out _ (List.getElem_mem hjl)
                    rw [Hid]
                    omega
                  generalize ws[j] = x at hc hst hst2 hmem hxs
                  have hf : Hand2.text_Unquote.f x = some ((unqP (unqV x)).1, (unqP (unqV x)).2) := by
                    unfold Hand2.text_Unquote.f
                    rw [if_pos hxs.out]
                  have HQ := Lib.hid (Hand2.text_Unquote.calls x _ _ wr HGr.out hf)
                  clear hf
                  cases hu : unqV x with
                  | none =>
                    rw [hu] at HQ
                    have HQ : Hid (Calls Tryz.prog 136 #[.string x] wr fun e w' => e = .returned (.tuple #[.string ⟨#[]⟩, .int .i64 2]) ∧ Below wr.heap.size wr w') := HQ
                    have HY : Hid (R = ([], ⟨#[]⟩, 2)) := by
                      rw [Hid, HTB2.out, if_pos]
                      rw [List.all_eq_false]
                      exact ⟨x, hmem.out, by rw [hu]; decide⟩
                    clear hu
                    go_wp2_with (go_at_call 136; refine HQ.out.mono ?_; rintro e W4 ⟨rfl, hb4⟩; have HB4 := Lib.hid (HT.out.trans (hb4.mono HT.out.size)); clear hb4)
                    exact bodyPost_ret (v := .tuple #[.slice none 0 0, .string ⟨#[]⟩, .int .i64 2]) (by simp [results, Tryz.results111, go_sem]) rfl (TakeEnd.err HY.out HB4.out)
                  | some t =>
                    rw [hu] at HQ hst2
                    have HQ : Hid (Calls Tryz.prog 136 #[.string x] wr fun e w' => e = .returned (.tuple #[.string t, .int .i64 0]) ∧ Below wr.heap.size wr w') := HQ
                    have hst : Hid ((ws.take (j + 1)).map uq = (ws.take j).map uq ++ [t]) := by
                      rw [Hid, hst.out]
                      unfold uq
                      rw [hu]
                      rfl
                    have hlen : Hid ((((ws.take j).map uq).length + 1) * 16 ≤ 140737488355328) := by
                      have : (ws.take j).length ≤ j := List.length_take_le _ _
                      rw [Hid, List.length_map]
                      omega
                    clear hu
                    go_wp2_with (go_at_call 136; refine HQ.out.mono ?_)
                    rintro e W4 ⟨rfl, hb4⟩
                    have hb5 := Lib.hid (hbw.out.trans (hb4.mono hbw.out.size))
                    have hr5 := Lib.hid (Kd.R_below hrow.out hb4)
                    clear hb4
                    go_wp2_with (at_builtin; refine Kd.R_append Kd.string (w0 := w1) (W := W4) w1.heap.size rfl (.tmp 68) (.tmp 70) 22 9 (.string ⟨#[]⟩) 16 rfl Tryz.underlying22 infoStr2 rfl (by decide) (by decide) u10 ((ws.take j).map uq) t [.string t] (fun _ => True) (fun _ => False) rfl rfl rfl (fun _ h => h.elim) (fun _ _ => trivial) hr5.out hb5.out hb5.out.size hlen.out ?_; intro v3 w3 hR3 hB3 hg3 hat3)
                    have hR3 := Lib.hid hR3
                    have hB3' := Lib.hid hB3
                    clear hB3 hg3 hat3
                    go_wp2
                    go_roundw
                    case rel => exact ⟨j + 1, by omega, by go_num, hB3', by rw [hst.out]; exact hR3, hst2⟩
                    case measure => simp [intOf]; omega
                · have hjn' : j = cn + 1 := by omega
                  subst hjn'
                  have htk : ws.take (cn + 1) = ws := List.take_of_length_le (by rw [HPL.out]; exact Nat.le_refl _)
                  rw [htk] at hrow hall
                  have HTB3 : Hid (R = if SumW.hex8 (adlOf (a.data.toList.take (k + 1))) = a.extract (k + 1) a.size then (ws.map uq, r, 0) else ([], ⟨#[]⟩, 13)) := by
                    rw [Hid, HTB2.out, if_neg (by rw [hall.out]; decide)]
                  have hbd : (a.extract 0 (k + 1)).data.toList = a.data.toList.take (k + 1) := by rw [← ext_take]
                  have hbs : (a.extract 0 (k + 1)).size ≤ 140737488351232 := by rw [ByteArray.size_extract]; omega
                  have hof : ∀ W, Below wr.heap.size wr W → Calls Tryz.prog 71 #[.string (a.extract 0 (k + 1))] W fun e w' => e = .returned (.int .u32 (adlOf (a.data.toList.take (k + 1)) : Nat)) ∧ Below wr.heap.size wr w' := by
                    intro W hW
                    rw [← hbd]
                    exact (of_walk _ hbs W).mono fun e w' h => ⟨h.1, hW.trans (h.2.mono hW.size)⟩
                  have hadl := adlOf_lt (a.data.toList.take (k + 1))
                  have hx8 : ∀ W, Below wr.heap.size wr W → Calls Tryz.prog 70 #[.int .u32 (adlOf (a.data.toList.take (k + 1)) : Nat)] W fun e w' => e = .returned (.string (SumW.hex8 (adlOf (a.data.toList.take (k + 1))))) ∧ Below wr.heap.size wr w' := by
                    intro W hW
                    have hg := HGr.out.below hW
                    exact (SumW.hex_walk _ W hadl hg.bru hg.big).mono fun e w' h => ⟨h.1, hW.trans (h.2.mono hW.size)⟩
                  have HOF := Lib.hid hof
                  have HX8 := Lib.hid hx8
                  clear htk hbd hbs hof hx8 hadl
                  generalize adlOf (a.data.toList.take (k + 1)) = ad at HOF HX8 HTB3
                  generalize SumW.hex8 ad = H8 at HX8 HTB3
                  have hrowE := Lib.hid fun W (hW : Below wr.heap.size wr W) => Kd.R_lower (Kd.R_below hrow.out hW) HB3.out.size
                  by_cases heq : H8 = a.extract (k + 1) a.size
                  · have HY : Hid (R = (ws.map uq, r, 0)) := by rw [Hid, HTB3.out, if_pos heq]
                    have hq : (H8.toList == (a.extract (k + 1) a.size).toList) = true := by rw [heq]; simp
                    have hq2 : (H8.toList != (a.extract (k + 1) a.size).toList) = false := by rw [heq]; simp
                    clear heq
                    go_wp2
                    go_region_with (first | (go_at_call 71; refine (HOF.out _ (by first | exact (Below.refl _ _).drew | assumption)).mono ?_; rintro e w5 ⟨rfl, hb5⟩) | (go_at_call 70; refine (HX8.out _ (by first | exact (Below.refl _ _).drew | assumption)).mono ?_; rintro e w6 ⟨rfl, hb6⟩))
                    all_goals go_wp2
                    all_goals exact bodyPost_ret (v := .tuple #[u10, .string r, .int .i64 0]) (by simp [results, Tryz.results111, go_sem]) rfl ⟨_, by rw [HY.out], by rw [HY.out]; exact hrowE.out _ hb6, HT.out.trans (hb6.mono HT.out.size)⟩
                  · have HY : Hid (R = ([], ⟨#[]⟩, 13)) := by rw [Hid, HTB3.out, if_neg heq]
                    have hq : (H8.toList == (a.extract (k + 1) a.size).toList) = false := by
                      rw [ByteArray.toList_eq, ByteArray.toList_eq, beq_eq_false_iff_ne]
                      exact fun h => heq (ba_ext h)
                    have hq2 : (H8.toList != (a.extract (k + 1) a.size).toList) = true := by
                      rw [bne, hq]
                      rfl
                    clear heq
                    go_wp2
                    go_region_with (first | (go_at_call 71; refine (HOF.out _ (by first | exact (Below.refl _ _).drew | assumption)).mono ?_; rintro e w5 ⟨rfl, hb5⟩) | (go_at_call 70; refine (HX8.out _ (by first | exact (Below.refl _ _).drew | assumption)).mono ?_; rintro e w6 ⟨rfl, hb6⟩))
                    all_goals go_wp2
                    all_goals exact bodyPost_ret (v := .tuple #[.slice none 0 0, .string ⟨#[]⟩, .int .i64 13]) (by simp [results, Tryz.results111, go_sem]) rfl (TakeEnd.err HY.out (HT.out.trans (hb6.mono HT.out.size)))
        · have hbn : ¬ (a[k].toNat : Int) = 32 := by
            intro e
            apply hb
            apply UInt8.toNat_inj.1
            show _ = 32
            omega
          have hbb : ((a[k].toNat : Int) == 32) = false := by simpa using hbn
          have HY : Hid (R = ([], ⟨#[]⟩, 2)) := by
            rw [Hid, HX.out, takeB, if_pos]
            unfold formB
            rw [show a.size - 9 = k by omega, show decide (a.data.toList[k]? = some 32) = false from ?_]
            · simp
            · rw [decide_eq_false_iff_not]
              intro e
              apply hb
              have h2 : a.data.toList[k]? = some a[k] := by
                rw [List.getElem?_eq_getElem (by omega)]
                rfl
              rw [h2] at e
              exact Option.some.inj e
          have HK := Lib.hid hk
          have hbm : ((a[k].toNat : Int) != 32) = true := by simpa using hbn
          have e9 : (k : Int) + 1 - 1 = (k : Int) := by omega
          clear hb hne h9 h13 hal hcut2 hk
          go_enter Tryz.func111, Tryz.ntmps111
          go_wp2_with (go_at_call 134; refine hcut.out.mono ?_; rintro e W1 ⟨rfl, nd, rfl⟩)
          exact bodyPost_ret (v := .tuple #[.slice none 0 0, .string ⟨#[]⟩, .int .i64 2]) (by simp [results, Tryz.results111, go_sem]) rfl (TakeEnd.err HY.out (belowD _ _))
end Go.Proofs.YtghbaehbgefpaaaGreatDoor.Hand
namespace Go.Proofs.YtghbaehbgefpaaaGreatDoor.Range2
open Go Go.RowKit
variable {α : Type}
theorem wpListIn_append_own_at {F : Fence} {n : Nat} {P : Program} (w : World) {ops : Array Oper} {rest : List Oper} {o : Oper} {a : Act} {Q : Exit → Act → World → Prop}
    (hg : o.guard = none) (s x : Operand) (t : TypeId) (hop : o.op = Op.call { callee := Callee.builtin Builtin.append, args := #[s, x], argTypes := #[t, t] })
    (base : Nat) (e : TypeId) (i : TypeInfo) (z : Value) (size bytes : Nat) (h1 : P.underlying t = some (.slice e)) (h2 : P.info? e = some i) (h3 : i.zero = some z) (h4 : i.size = size) (h5 : i.bytes = bytes) (h6 : z.cells.size = size) (h7 : 0 < size)
    (v : Value) (k : Nat) (xs : List Value) (hs : a.eval s = v) (hown : w.ownsRow base e size v k xs) (ad : Addr) (m c : Nat) (news : List Value) (hx : a.eval x = .slice (some ad) m c) (hn : news.length = m * size)
    (hc : ∀ j u, news[j]? = some u → w.cell? (ad.add j) = some u) (h1c : ∀ u ∈ news, u.oneCell' = true) (b1 : k + m ≤ maxLen) (b2 : (k + m) * bytes ≤ 140737488355328) (b3 : base ≤ w.heap.size)
    (hK : ∀ v' w', w'.ownsRow base e size v' (k + m) (xs ++ news) → w.grownBy w' v.ownBlock → (v'.ownBlock = v.ownBlock ∨ v'.ownBlock = some w.heap.size) → wpListIn F n P ops Q rest (a.put o.dst v') w') :
    wpListIn F n P ops Q (o :: rest) a w := by
  refine wpListIn_plain hg fun K hK' => ?_
  obtain ⟨v', w', hrun, r1, r2, -, r3⟩ := run_append_own_at (P := P) w base t o.type e i z size bytes h1 h2 h3 h4 h5 h6 h7 v k xs hown ad m c news hn hc h1c b1 b2 b3
  unfold Oper.wpIn
  refine ⟨?_, ?_⟩
  · simp [Oper.about, hop, resolve, Target.leads, Sem.run_pure]
  · rw [Oper.semAt_plain F _ _ (by rw [hop]; intro c hc'; cases hc')]
    simp [execOp, hop, resolve, invoke, builtin, hs, hx, hrun, Result.andThen]
    exact hK' _ _ (hK v' w' r1 r2 r3)
theorem putObj_size (w : World) (k : Nat) (o : Obj) : (w.putObj k o).heap.size = w.heap.size := by simp [World.putObj]
theorem below_putBoth {W W1 : World} {l : Nat} (o : Obj) (hb : Below W.heap.size W W1) (hl : l < W.heap.size) : Below (W.putObj l o).heap.size (W.putObj l o) (W1.putObj l o) where
  os := hb.os
  tape := hb.tape
  output := hb.output
  size := by rw [putObj_size, putObj_size]; exact hb.size
  block := by
    intro k hk
    rw [putObj_size] at hk
    by_cases e : k = l
    · subst e
      rw [World.putObj_heap_same hl, World.putObj_heap_same (Nat.lt_of_lt_of_le hl hb.size)]
    · rw [World.putObj_heap_other e, World.putObj_heap_other e]
      exact hb.block k hk
structure Kp (n₀ Bn : Nat) (W W' : World) : Prop where
  below : Below n₀ W W'
  box : Bn < W.heap.size → W'.heap[Bn]? = W.heap[Bn]?
theorem Kp.trans {n₀ Bn : Nat} {a b c : World} (h : Kp n₀ Bn a b) (k : Kp n₀ Bn b c) : Kp n₀ Bn a c := ⟨h.below.trans k.below, fun hb => (k.box (Nat.lt_of_lt_of_le hb h.below.size)).trans (h.box hb)⟩
theorem Kp.put {n₀ Bn : Nat} (W : World) (l : Nat) (o : Obj) (h1 : n₀ ≤ l) (h2 : Bn ≠ l) (h3 : l < W.heap.size) : Kp n₀ Bn W (W.putObj l o) :=
  ⟨(Below.refl _ W).grown (grownBy_putObj' W _ _) (by omega) (fun k e => by cases e; omega), fun _ => World.putObj_heap_other h2⟩
def goesOn (B n₀ Bn : Nat) (I : List α → World → Prop) (xs : List α) (W : World) : Exit → Act → World → Prop
  | .normal, _, W' => KeepsFrom B W W' ∧ Kp n₀ Bn W W' ∧ I xs W'
  | _, _, _ => False
def Gives (F : Fence) (n : Nat) (P : Program) (gf : Nat) (lb : Array Value) (Arg : Nat → α → Array Value → World → Prop) (n₀ Bn : Nat) (xs : List α) (w : World) : Prop :=
  ∀ (l : Nat) (J : List α → World → Prop) (W : World), Below w.heap.size w W →
    (∀ pre x vs W0 W1, J pre W0 → n₀ ≤ W0.heap.size → Bn < W0.heap.size → Below W0.heap.size W0 W1 → Arg W0.heap.size x vs W1 → (∃ t, pre ++ x :: t = xs) → YieldAt F (n - 1) P l vs W1 fun e W' => e = .returned (.bool true) ∧ J (pre ++ [x]) W' ∧ Kp n₀ Bn W1 W') →
    J [] W → CallsIn F n P gf (#[.func (.yield l) #[] #[]] ++ lb) W fun e W' => (∃ v, e = .returned v) ∧ ∃ W0, J xs W0 ∧ Below W0.heap.size W0 W'
theorem loop_all {F : Fence} {n : Nat} {P : Program} {g : Operand} {ps : Array Tmp} {assign body : Code} {Q : Exit → Act → World → Prop} {a : Act} {w : World} (hro : F.round = none) (h1 : 1 ≤ n) {gf : Nat} {lb : Array Value}
    (hg : a.eval g = .func (.func gf) #[] lb) (hFg : F.fn gf) (eg : ∀ args w, (callFunc gf args).run P w = .ok (.enter gf args) w) {Arg : Nat → α → Array Value → World → Prop} {n₀ Bn : Nat} {xs : List α} {w0 : World}
    (hseq : Gives F (n - 1) P gf lb Arg n₀ Bn xs w0) (hb0 : Below w0.heap.size w0 w) (hn : n₀ ≤ w.heap.size) (hBn : Bn < w.heap.size) (hps : ∀ b x vs W, Arg b x vs W → vs.size = ps.size)
    (hArg : ∀ b x vs W l o', Arg b x vs W → l < b → Arg b x vs (W.putObj l o')) (I : List α → World → Prop) (hI : ∀ s W W', I s W → Below W.heap.size W W' → I s W')
    (hput : ∀ s W l o o', I s W → w.heap.size ≤ l → W.heap[l]? = some o → Obj.isCells o = false → I s (W.putObj l o')) (h0 : I [] w) (a₁ : Array Value → Act)
    (hassign : ∀ (l b : Nat) (x : α) (vs : Array Value) (W : World) (K : Act → World → Prop), Arg b x vs W → K (a₁ vs) W → assign.wpIn (F.inRound l) (n - 1 - 1) P (Exit.then K (fun _ _ _ => False)) { tmps := (ps.zip vs).foldl (fun t (p, v) => t.setIfInBounds p v) a.tmps, defers := [] } W)
    (hbody : ∀ (l : Nat) (pre : List α) (x : α) (vs : Array Value) (W0 W : World), I pre W0 → n₀ ≤ W0.heap.size → Bn < W0.heap.size → Below W0.heap.size W0 W → Arg W0.heap.size x vs W → (∃ t, pre ++ x :: t = xs) → body.wpIn (F.inRound l) (n - 1 - 1) P (goesOn w.heap.size n₀ Bn I (pre ++ [x]) W) (a₁ vs) W)
    (hdone : ∀ (D : Nat) (W : World), w.heap.size ≤ D → I xs W → W.heap[D]? = some (.deferred (some [])) → Q .normal { a with defers := { target := .collected D, args := #[] } :: a.defers } W) :
    (Code.rangeFunc g ps assign body).wpIn F n P Q a w := by
  apply wpIn_rangeFunc
  intro fn hfn
  rw [hro]
  let rec_ : LoopState → Loop := fun st => { state := st, pending := none, fn := fn, tmps := a.tmps, params := ps, assign := assign, body := body, defers := w.heap.size }
  let V := w.alloc (.deferred (some []))
  have hVs : V.heap.size = w.heap.size + 1 := World.size_alloc _ _
  let U := V.alloc (.loop (rec_ .ready))
  have hUl : U.heap[w.heap.size + 1]? = some (.loop (rec_ .ready)) := by rw [← hVs]; exact World.alloc_heap_new V _
  have hVd : V.heap[w.heap.size]? = some (.deferred (some [])) := World.alloc_heap_new w _
  have hUd : U.heap[w.heap.size]? = some (.deferred (some [])) := (Below.heap_alloc V _ _ (by rw [hVs]; omega)).trans hVd
  have hwV : Below w.heap.size w V := (Below.refl _ w).alloc (Nat.le_refl _) _
  have hVU : Below V.heap.size V U := (Below.refl _ V).alloc (Nat.le_refl _) _
  have hIU : I [] U := hI _ _ _ (hI _ _ _ h0 hwV) hVU
  have hwU : Below w.heap.size w U := hwV.trans (hVU.mono (by rw [hVs]; omega))
  refine ⟨_, _, _, { target := .fn (.func gf) lb, args := #[.func (.yield (w.heap.size + 1)) #[] #[]] }, U, gf, #[.func (.yield (w.heap.size + 1)) #[] #[]] ++ lb, U, run_enterLoop_outer fn a.tmps ps assign body, ?_, ?_, ?_, fun _ => h1, ?_⟩
  · simp only [resolve, hg]
    simp [go_sem]
    rfl
  · intro f' hf'
    simp [Target.leads] at hf'
    subst hf'
    exact hFg
  · simp [invoke, go_sem, eg]
  refine (hseq (w.heap.size + 1) (fun pre W => I pre W ∧ W.heap[w.heap.size + 1]? = some (.loop (rec_ .ready)) ∧ W.heap[w.heap.size]? = some (.deferred (some []))) U (hb0.trans (hwU.mono hb0.size)) ?_ ⟨hIU, hUl, hUd⟩).mono ?_
  · rintro pre x vs W0 W1 ⟨h, hl0, hd0⟩ hn0 hBn0 hb01 hA hx
    have hlt0 := (Array.getElem?_eq_some_iff.1 hl0).1
    have hl := (hb01.block _ hlt0).trans hl0
    have hd := (hb01.block _ (Array.getElem?_eq_some_iff.1 hd0).1).trans hd0
    have hlt := (Array.getElem?_eq_some_iff.1 hl).1
    refine ⟨_, _, _, _, run_yield (P := P) (args := vs) hl (hps _ _ _ _ hA), roundIn_of_wpIn hfn ?_⟩
    refine hassign _ _ x vs W1 _ hA ?_
    refine ⟨_, run_beginRound hl rfl, ?_⟩
    let X := W1.putObj (w.heap.size + 1) (.loop (rec_ .busy))
    have hXl : X.heap[w.heap.size + 1]? = some (.loop (rec_ .busy)) := World.putObj_heap_same hlt
    have hXd : X.heap[w.heap.size]? = some (.deferred (some [])) := (World.putObj_heap_other (by omega)).trans hd
    have hXb : Kp n₀ Bn W1 X := Kp.put W1 _ _ (by omega) (by omega) hlt
    refine wpIn_mono (hbody (w.heap.size + 1) pre x vs (W0.putObj (w.heap.size + 1) (.loop (rec_ .busy))) X (hput _ _ _ _ _ h (by omega) hl0 rfl) (by rw [putObj_size]; exact hn0) (by rw [putObj_size]; exact hBn0) (below_putBoth _ hb01 hlt0)
      (by rw [putObj_size]; exact hArg _ _ _ _ _ _ hA hlt0) hx) ?_
    intro e a3 Y hY
    cases e with
    | normal =>
      obtain ⟨hk, hbY, hIY⟩ := hY
      have hYl := hk.same _ _ (by omega) hXl rfl
      have hYd := hk.same _ _ (Nat.le_refl _) hXd rfl
      have hlt2 := (Array.getElem?_eq_some_iff.1 hYl).1
      refine ⟨_, _, run_endRound none hYl, rfl, ⟨hput _ _ _ _ _ hIY (by omega) hYl rfl, World.putObj_heap_same hlt2, (World.putObj_heap_other (by omega)).trans hYd⟩, ?_⟩
      exact (hXb.trans hbY).trans (Kp.put Y _ _ (by omega) (by omega) hlt2)
    | _ => exact hY.elim
  · rintro e Y ⟨⟨v, rfl⟩, W0, ⟨hI0, hl0, hd0⟩, hb⟩
    have hIY := hI _ _ _ hI0 hb
    have hYl := (hb.block _ (Array.getElem?_eq_some_iff.1 hl0).1).trans hl0
    have hYd := (hb.block _ (Array.getElem?_eq_some_iff.1 hd0).1).trans hd0
    exact ⟨none, _, run_endLoop hYl (by simp [rec_]), hdone _ _ (Nat.le_refl _) (hput _ _ _ _ _ hIY (by omega) hYl rfl) ((World.putObj_heap_other (by omega)).trans hYd)⟩
end Go.Proofs.YtghbaehbgefpaaaGreatDoor.Range2
