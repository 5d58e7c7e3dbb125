import Derived.Test.YtocpfgdajomjiaaDoorPureScan
import Derived.Test.YtocpfgdajomjiaaDoorL3
/- The head of chapter 4's laws, plain. -/
namespace Go.Proofs.YtocpfgdajomjiaaDoor.PureL
open Go.RowKit Go.Proofs.YtocpfgdajomjiaaDoor.PureR Go.Proofs.YtocpfgdajomjiaaDoor.L Go.Proofs.YtocpfgdajomjiaaDoor.Hand3 Go.Proofs.YtocpfgdajomjiaaDoor.Spl Go.Proofs.YtocpfgdajomjiaaDoorW.PrintWords
open Go.Proofs.YtocpfgdajomjiaaDoor.Hand hiding text_Lines.f text_Words.f text_Trim.f text_Join.f text_Path.f text_Quote.f text_Lines.calls text_Words.calls text_Trim.calls text_Join.calls text_Path.calls text_Quote.calls Glob
set_option linter.unusedVariables false
set_option linter.unusedSimpArgs false
theorem put_okf (l : List ByteArray) (h : ∀ x ∈ l, x.size ≤ 100000) : line_Put.f l = some (putV l) := by
  unfold line_Put.f
  rw [if_pos]
  rw [List.all_eq_true]
  exact fun x hx => decide_eq_true (h x hx)
theorem take_okf (s : ByteArray) (h : s.size ≤ 100000) : line_Take.f s = some (takeV s) := by
  unfold line_Take.f
  rw [if_pos h]
theorem scan_okf (s : ByteArray) (h : s.size ≤ 100000) : line_Scan.f s = some (scanV s) := by
  unfold line_Scan.f
  rw [if_pos h]
theorem same4_loop (a : List ByteArray) (ha : a.length ≤ 100000) : ∀ (n i : Nat), i + n = a.length → Ev fun k => cooperagelaw4_same.l0 k a a (i : Int) = some true := by
  intro n
  induction n with
  | zero =>
    intro i hi
    refine Ev.up (Ev.of fun k => ?_)
    simp only [cooperagelaw4_same.l0]
    rw [if_neg (by omega)]
  | succ n ih =>
    intro i hi
    refine Ev.up ((ih (i + 1) (by omega)).mp fun k hk => ?_)
    simp only [cooperagelaw4_same.l0]
    rw [if_pos (by omega), if_pos (by omega), if_pos (by omega), if_pos trivial, w64s i (by omega)]
    exact hk
theorem same4_f (a : List ByteArray) (ha : a.length ≤ 100000) : Ev fun k => cooperagelaw4_same.f k a a = some true := by
  refine (same4_loop a ha a.length 0 (by omega)).mp fun k hk => ?_
  unfold cooperagelaw4_same.f
  rw [if_pos rfl]
  exact hk
theorem sameAll_loop (a : List (List ByteArray)) (ha : a.length ≤ 100000) (hx : ∀ l ∈ a, l.length ≤ 100000) : ∀ (n i : Nat), i + n = a.length → Ev fun k => cooperagelaw4_sameAll.l0 k a a (i : Int) = some true := by
  intro n
  induction n with
  | zero =>
    intro i hi
    refine Ev.up (Ev.of fun k => ?_)
    simp only [cooperagelaw4_sameAll.l0]
    rw [if_neg (by omega)]
  | succ n ih =>
    intro i hi
    have hlt : i < a.length := by omega
    have hr : (rd_L1 a (i : Int)).length ≤ 100000 := by
      have e : rd_L1 a (i : Int) = a[i] := by simp [rd_L1, List.getD_eq_getElem?_getD, List.getElem?_eq_getElem hlt]
      rw [e]
      exact hx _ (List.getElem_mem hlt)
    refine Ev.up (((same4_f _ hr).and (ih (i + 1) (by omega))).mp fun k hk => ?_)
    simp only [cooperagelaw4_sameAll.l0]
    rw [if_pos (by omega), if_pos (by omega), if_pos (by omega), hk.1, Option.bind_some, if_pos rfl, w64s i (by omega)]
    exact hk.2
theorem sameAll_f (a : List (List ByteArray)) (ha : a.length ≤ 100000) (hx : ∀ l ∈ a, l.length ≤ 100000) : Ev fun k => cooperagelaw4_sameAll.f k a a = some true := by
  refine (sameAll_loop a ha hx a.length 0 (by omega)).mp fun k hk => ?_
  unfold cooperagelaw4_sameAll.f
  rw [if_pos rfl]
  exact hk
theorem putA : (putV [(⟨#[97]⟩ : ByteArray)]).2 = 0 := by
  rw [put_of (by decide) (by decide) (by rw [line_len]; exact (by decide : (2 : Nat) + 9 ≤ 13000))]
theorem putB : (putV [(⟨#[98]⟩ : ByteArray)]).2 = 0 := by
  rw [put_of (by decide) (by decide) (by rw [line_len]; exact (by decide : (2 : Nat) + 9 ≤ 13000))]
theorem bodyAB : bodyL [(⟨#[97, 32, 98]⟩ : ByteArray)] = [97, 37, 50, 48, 98, 32] := by decide +kernel
theorem bodyA : bodyL [(⟨#[97]⟩ : ByteArray)] = [97, 32] := by decide +kernel
theorem bodyB : bodyL [(⟨#[98]⟩ : ByteArray)] = [98, 32] := by decide +kernel
theorem putAB : (putV [(⟨#[97, 32, 98]⟩ : ByteArray)]).2 = 0 := by
  rw [put_of (by decide) (by decide) (by rw [line_len, bodyAB]; decide)]
theorem shown4_f : Ev fun k => cooperagelaw4_shown.f k = some true := by
  have hab := putV_data putAB
  have ha := putV_data putA
  have hb := putV_data putB
  have sab := putV_size putAB
  have sa := putV_size putA
  have sb := putV_size putB
  rw [line_len, bodyAB] at sab
  rw [line_len, bodyA] at sa
  rw [line_len, bodyB] at sb
  have sab' : (putV [(⟨#[97, 32, 98]⟩ : ByteArray)]).1.size = 15 := sab
  have sa' : (putV [(⟨#[97]⟩ : ByteArray)]).1.size = 11 := sa
  have sb' : (putV [(⟨#[98]⟩ : ByteArray)]).1.size = 11 := sb
  have e6 : ((putV [(⟨#[97, 32, 98]⟩ : ByteArray)]).1.extract 0 6).toList = ([97, 37, 50, 48, 98, 32] : List UInt8) := by
    rw [tl, ← ext_take]
    show (putV [(⟨#[97, 32, 98]⟩ : ByteArray)]).1.data.toList.take 6 = _
    rw [hab]
    unfold lineL
    rw [bodyAB, List.append_assoc]
    rfl
  have hcut : (takeV ((putV [(⟨#[98]⟩ : ByteArray)]).1.extract 0 10)).2.2 ≠ 0 := by
    refine take_no10 fun c hc => ?_
    rw [← ext_take] at hc
    have hc' : c ∈ (putV [(⟨#[98]⟩ : ByteArray)]).1.data.toList.take 10 := hc
    obtain ⟨h1, h2⟩ := line_no10 [(⟨#[98]⟩ : ByteArray)]
    have h3 : (bodyL [(⟨#[98]⟩ : ByteArray)] ++ (SumW.hex8 (adlOf (bodyL [(⟨#[98]⟩ : ByteArray)]))).data.toList).length = 10 := by
      rw [List.length_append, hex8_len (adlOf_lt _), bodyB]
      rfl
    rw [hb, h1, ← h3, List.take_left] at hc'
    exact h2 c hc'
  have hscan : scanV ((putV [(⟨#[97]⟩ : ByteArray)]).1 ++ ((putV [(⟨#[98]⟩ : ByteArray)]).1.extract 0 10)) = ([[(⟨#[97]⟩ : ByteArray)]], 11) := by
    have := scanV_cat [[(⟨#[97]⟩ : ByteArray)]] ((putV [(⟨#[98]⟩ : ByteArray)]).1.extract 0 10) (by intro l hl; rw [List.mem_singleton.1 hl]; exact putA) hcut
    rw [show cat [[(⟨#[97]⟩ : ByteArray)]] ((putV [(⟨#[98]⟩ : ByteArray)]).1.extract 0 10) = (putV [(⟨#[97]⟩ : ByteArray)]).1 ++ ((putV [(⟨#[98]⟩ : ByteArray)]).1.extract 0 10) from rfl] at this
    rw [this]
    congr 1
    show (((putV [(⟨#[97]⟩ : ByteArray)]).1 ++ (⟨#[]⟩ : ByteArray)).size : Int) = 11
    rw [ByteArray.size_append, sa']
    rfl
  have hex : ((putV [(⟨#[98]⟩ : ByteArray)]).1.extract 0 10).size ≤ 11 := by rw [ByteArray.size_extract]; omega
  have hj : Ev fun k => cooperagelaw4_shown.j0 k (putV [(⟨#[97]⟩ : ByteArray)]).1 (putV [(⟨#[98]⟩ : ByteArray)]).1 false = some true := by
    refine Ev.up ((sameAll_f [[(⟨#[97]⟩ : ByteArray)]] (by simp) (by intro l hl; rw [List.mem_singleton.1 hl]; simp)).mp fun k hk => ?_)
    simp only [cooperagelaw4_shown.j0]
    rw [if_neg (by decide), if_pos (by decide), if_pos (by omega), if_pos (by omega), scan_okf _ (by rw [ByteArray.size_append]; omega), Option.bind_some, hscan, hk, Option.bind_some, if_pos rfl]
    rfl
  refine hj.mp fun k hk => ?_
  unfold cooperagelaw4_shown.f
  have one : ∀ b : ByteArray, b.size ≤ 10 → ∀ x ∈ [b], x.size ≤ 100000 := by
    intro b hb x hx
    rw [List.mem_singleton.1 hx]
    omega
  rw [put_okf _ (one _ (by decide)), Option.bind_some, put_okf _ (one _ (by decide)), Option.bind_some, put_okf _ (one _ (by decide)), Option.bind_some, if_neg (by omega), if_pos (by decide), if_pos (by omega), if_pos e6, if_pos putAB, if_pos (by omega), if_pos putA, if_pos (by omega), putB]
  exact hk
end Go.Proofs.YtocpfgdajomjiaaDoor.PureL
