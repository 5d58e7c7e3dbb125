import Derived.Test.YtghbaehbgefpaaaGreatDoorQ13
import Derived.RangeFuncBox
import Derived.RangeFuncNested
import Derived.RangeFuncLeaves
import Derived.RangeFuncCalls
import Derived.RegionIn
/- Several texts of this session in one: the walks of the functions that the laws reach, and what they tell. -/
set_option linter.unusedVariables false
set_option linter.unusedSimpArgs false
namespace Go.Proofs.YtghbaehbgefpaaaGreatDoor.Hand
open Go.RowKit Go.Shelf Go.Proofs.YtghbaehbgefpaaaGreatDoorW.PrintWords Go.Proofs.YtghbaehbgefpaaaGreatDoor.Range2
attribute [local go_sem] Oper.semAt_some
def scanG (tot : Nat) : Nat → ByteArray → List (List ByteArray × Int)
  | 0, _ => []
  | f + 1, u => if (takeV u).2.2 = 0 then ((takeV u).1, (tot : Int) - ((takeV u).2.1.size : Int)) :: scanG tot f (takeV u).2.1 else []
def scanP (s : ByteArray) : List (List ByteArray × Int) := scanG s.size (s.size + 1) s
def lastE (l : List (List ByteArray × Int)) : Int := (l.getLast?.map (·.2)).getD 0
theorem take_rest {u : ByteArray} (h : (takeV u).2.2 = 0) : (takeV u).2.1.size < u.size := by
  have hspec := (cut_one 10 u.data.toList).2
  have hul : u.data.toList.length = u.size := by rw [Array.length_toList]; rfl
  unfold takeV at h ⊢
  rcases hspec with ⟨hf, hu⟩ | ⟨hf, hu⟩
  · rw [hf, if_neg (by decide)] at h ⊢
    have hr : ∀ a r : ByteArray, (takeB a r).2.2 = 0 → (takeB a r).2.1 = r := by
      intro a r
      unfold takeB
      split
      · intro h; exact absurd h (by decide)
      · split
        · intro h; exact absurd h (by decide)
        · split
          · intro h; exact absurd h (by decide)
          · split
            · intro _; rfl
            · intro h; exact absurd h (by decide)
    rw [hr _ _ h]
    show (Lib.cut u.data.toList [10]).2.1.toArray.size < u.size
    have := congrArg List.length hu
    rw [hul, List.length_append, List.length_cons] at this
    rw [List.size_toArray]
    omega
  · rw [hf, if_pos rfl] at h
    exact absurd h (by decide)
theorem take_code (u : ByteArray) : 0 ≤ (takeV u).2.2 ∧ (takeV u).2.2 ≤ 14 := by
  unfold takeV
  split
  · decide
  · unfold takeB
    split
    · decide
    · split
      · decide
      · split
        · decide
        · split
          · exact ⟨Int.le_refl _, by show (0 : Int) ≤ 14; decide⟩
          · decide
def LArg (b : Nat) (x : List ByteArray × Int) (vs : Array Value) (W : World) : Prop := ∃ v, vs = #[v, .int .i64 x.2] ∧ Kd.R Kd.string 9 W b (fun _ => True) v x.1
set_option maxHeartbeats 4000000 in
set_option maxRecDepth 100000 in
theorem scan1_in (l Bn n₀ : Nat) (xs : List (List ByteArray × Int)) (J : List (List ByteArray × Int) → World → Prop) (s : ByteArray) (hs : s.size ≤ 2000000) (W wb : World) (hxs : scanP s = xs) (hGb : Hand2.Glob wb) (hwb : wb.heap.size ≤ n₀)
    (hY : ∀ pre x vs W0 W1, J pre W0 → n₀ ≤ W0.heap.size → Bn < W0.heap.size → Below W0.heap.size W0 W1 → LArg W0.heap.size x vs W1 → (∃ t, pre ++ x :: t = xs) → YieldAt Fence.wide (3 - 1) Tryz.prog l vs W1 fun e W' => e = .returned (.bool true) ∧ J (pre ++ [x]) W' ∧ Kp n₀ Bn W1 W')
    (hn0 : n₀ ≤ W.heap.size) (hbw : Below wb.heap.size wb W) (hBn : W.heap[Bn]? = some (.cells #[.string s] 9 (0, 0))) (h0 : J [] W) :
    CallsIn Fence.wide 3 Tryz.prog 110 #[.func (.yield l) #[] #[], .pointer (some ⟨Bn, 0, none⟩)] W fun e W' => (∃ v, e = .returned v) ∧ ∃ W0, J xs W0 ∧ Below W0.heap.size W0 W' := by
  have HY := Lib.hid hY
  have H0 := Lib.hid h0
  have HX := Lib.hid hxs
  have HGB := Lib.hid hGb
  have HBW := Lib.hid hbw
  have HB := Lib.hid hBn
  have hcB : W.cell? ⟨Bn, 0, none⟩ = some (.string s) := Boxed.cell hBn
  clear hY h0 hxs hGb hbw hBn
  refine callsIn_of_wp Tryz.func110 rfl trivial ?_ rfl
  simp only [Tryz.ntmps110, List.size_toArray, List.length_cons, List.length_nil, Nat.reduceAdd, Nat.reduceSub, Array.replicate_succ, Array.replicate_zero, List.push_toArray, List.append_toArray, List.nil_append, List.cons_append]
  gi_wp2
  clear hcB
  gi_loopw [3] (fun left wr => ∃ (pre : List (List ByteArray × Int)) (u : ByteArray) (W0 : World), left = .string u ∧ u.size ≤ s.size ∧ Hid (J pre W0) ∧ Hid (Below W0.heap.size W0 wr) ∧ n₀ ≤ W0.heap.size ∧ Bn < W0.heap.size ∧ Hid (∃ f, u.size < f ∧ pre ++ scanG s.size f u = xs) ∧ Hid (wr.heap[Bn]? = some (.cells #[.string s] 9 (0, 0))) ∧ Hid (Below wb.heap.size wb wr))
    (fun left wr => sizeOf' left)
  case atStart => exact ⟨[], s, W, rfl, Nat.le_refl _, H0, Below.refl _ _, hn0, Boxed.lt HB.out, ⟨s.size + 1, by omega, by simpa [scanP] using HX.out⟩, HB, HBW⟩
  case round =>
    obtain ⟨pre, u, W0, rfl, hus, hJ, hbw0, hn00, hBn0, hf, hbx, hbb⟩ := hrel
    have hGr := HGB.out.below hbb.out
    have HT := Lib.hid (take_walk u (by omega) wr hGr)
    clear hGr
    have hcode := take_code u
    have hrest : Hid ((takeV u).2.2 = 0 → (takeV u).2.1.size < u.size) := take_rest
    have hsc : Hid (∀ f, scanG s.size (f + 1) u = if (takeV u).2.2 = 0 then ((takeV u).1, (s.size : Int) - ((takeV u).2.1.size : Int)) :: scanG s.size f (takeV u).2.1 else []) := fun f => rfl
    generalize takeV u = p at HT hcode hrest hsc
    obtain ⟨ls, rest, c⟩ := p
    simp only at hcode
    by_cases hc : c = 0
    · subst hc
      have hlt := hrest.out rfl
      have hlt : Hid (rest.size < u.size) := hlt
      have hfx : Hid (∃ f, rest.size < f ∧ (pre ++ [(ls, (s.size : Int) - (rest.size : Int))]) ++ scanG s.size f rest = xs) := by
        obtain ⟨f, h1, h2⟩ := hf.out
        cases f with
        | zero => omega
        | succ f =>
          refine ⟨f, by have := hlt.out; omega, ?_⟩
          rw [hsc.out] at h2
          rw [← h2]
          simp
      have hrs : rest.size ≤ s.size := by have := hlt.out; omega
      clear hcode hrest hsc
      gi_wp2_with (refine ⟨trivial, ?_⟩; gi_at_call 111; refine (callsIn_wide.2 HT.out).mono ?_)
      rintro e w1 ⟨v, rfl, hR, hb⟩
      have hbx1 : w1.heap[Bn]? = some (.cells #[.string s] 9 (0, 0)) := (hb.block _ (Boxed.lt hbx.out)).trans hbx.out
      have hc1 : w1.cell? ⟨Bn, 0, none⟩ = some (.string s) := Boxed.cell hbx1
      have hb01 := hbw0.out.trans (hb.mono hbw0.out.size)
      have hbb1 := Lib.hid (hbb.out.trans (hb.mono hbb.out.size))
      have hA : LArg W0.heap.size (ls, (s.size : Int) - (rest.size : Int)) #[v, .int .i64 ((s.size : Int) - (rest.size : Int))] w1 := ⟨v, rfl, Kd.R_lower hR hbw0.out.size⟩
      have hyy := HY.out pre (ls, (s.size : Int) - (rest.size : Int)) _ W0 w1 hJ.out hn00 hBn0 hb01 hA (by
        obtain ⟨f, -, h2⟩ := hfx.out
        exact ⟨scanG s.size f rest, by rw [← h2]; simp⟩)
      obtain ⟨fn, tmps, assign, body, hy, hRd⟩ := hyy
      have HBX1 := Lib.hid hbx1
      have hb01s := hb01.size
      clear hbx1 hb01 hA hb hR
      gi_wp2
      refine hRd.mono ?_
      rintro e W3 ⟨rfl, hJ3, hk3⟩
      have hJ4 := Lib.hid hJ3
      have hbx3 := Lib.hid ((hk3.box (Boxed.lt HBX1.out)).trans HBX1.out)
      have hn3 : n₀ ≤ W3.heap.size := Nat.le_trans (Nat.le_trans hn00 hb01s) hk3.below.size
      have hbb3 := Lib.hid (hbb1.out.trans (hk3.below.mono hwb))
      clear hJ3 hk3 hy hRd
      gi_wp2
      go_roundw
      case rel => exact ⟨pre ++ [(ls, (s.size : Int) - (rest.size : Int))], rest, W3, rfl, hrs, hJ4, Below.refl _ _, hn3, Boxed.lt hbx3.out, hfx, hbx3, hbb3⟩
      case measure => exact hlt.out
    · have hcn : (c == 0) = false := by simpa using hc
      have hcm : (c != 0) = true := by simpa using hc
      have hfin : Hid (xs = pre) := by
        obtain ⟨f, h1, h2⟩ := hf.out
        cases f with
        | zero => omega
        | succ f =>
          rw [hsc.out, if_neg hc, List.append_nil] at h2
          exact h2.symm
      clear hrest hsc
      gi_wp2_with (refine ⟨trivial, ?_⟩; gi_at_call 111; refine (callsIn_wide.2 HT.out).mono ?_)
      rintro e w1 ⟨v, rfl, hR, hb⟩
      have hb01 := Lib.hid (hbw0.out.trans (hb.mono hbw0.out.size))
      clear hR hb
      gi_wp2
      refine ⟨(fun f h => by cases h), ?_⟩
      gi_wp2
      exact bodyPost_ret (v := .tuple #[]) (by simp [results, Tryz.results110, go_sem]) rfl ⟨⟨_, rfl⟩, W0, by rw [hfin.out]; exact hJ.out, hb01.out⟩
theorem scan_gives (Bn n₀ : Nat) (s : ByteArray) (hs : s.size ≤ 2000000) (w wb : World) (hGb : Hand2.Glob wb) (hwb : wb.heap.size ≤ n₀) (hn0 : n₀ ≤ w.heap.size) (hbw : Below wb.heap.size wb w) (hBn : w.heap[Bn]? = some (.cells #[.string s] 9 (0, 0))) :
    Gives Fence.wide 3 Tryz.prog 110 #[.pointer (some ⟨Bn, 0, none⟩)] LArg n₀ Bn (scanP s) w := by
  intro l J W hb hY h0
  exact scan1_in l Bn n₀ _ J s hs W wb rfl hGb hwb hY (Nat.le_trans hn0 hb.size) (hbw.trans (hb.mono hbw.size)) ((hb.block _ (Boxed.lt hBn)).trans hBn) h0
theorem linesP_mk (s : ByteArray) (w : World) : Calls Tryz.prog 98 #[.string s] w fun e w' => e = .returned (.func (.func 110) #[] #[.pointer (some ⟨w.heap.size, 0, none⟩)]) ∧ w' = w.alloc (.cells #[.string s] 9) := by
  go_enter Tryz.func98, Tryz.ntmps98
  go_wp2
  go_ret
  exact ⟨rfl, rfl⟩
theorem enters110 (args : Array Value) (w : World) : (callFunc 110 args).run Tryz.prog w = .ok (.enter 110 args) w := enters_of Tryz.func110 (by kernel_rfl) rfl args w
attribute [local go_sem] Oper.semAt_some
abbrev kLL : Kd (List ByteArray) := Kd.slice 9 Kd.string
theorem info23 : (Tryz.prog.info? 22).map (fun i => (i.zero, i.size, i.bytes)) = some (some (.slice none 0 0), 1, 24) := by kernel_rfl
theorem S_other {W W' : World} {b : Nat} {ok : Nat → Prop} {v : Value} {xs : List (List ByteArray)} (h : Kd.S kLL 22 W b ok v xs) {B : Nat} (hB : ∀ cells q, W.heap[B]? = some (.cells cells q (0, 0)) → q ≠ 22 ∧ q ≠ 9)
    (hblk : ∀ k, k ≠ B → k < W.heap.size → W'.heap[k]? = W.heap[k]?) : Kd.S kLL 22 W' b ok v xs := by
  refine Kd.S_mono (Kd.S_step (Kd.S_bound h) ?_) (fun k hk => hk.1)
  rintro k ⟨-, -, hlt, q, hq, cells, hc⟩ -
  refine hblk k ?_ hlt
  rintro rfl
  have h2 := hB cells q hc
  have hq' : q = 22 ∨ q = 9 := by
    have : q ∈ [22, 9] := hq
    simpa using this
  rcases hq' with e | e
  · exact h2.1 e
  · exact h2.2 e
theorem S_boxed {W : World} {b : Nat} {ok : Nat → Prop} {v : Value} {xs : List (List ByteArray)} (h : Kd.S kLL 22 W b ok v xs) {B t : Nat} {x u : Value} (hB : Boxed W B t x) (h1 : t ≠ 22) (h2 : t ≠ 9) : Kd.S kLL 22 (W.setCell ⟨B, 0, none⟩ u) b ok v xs := by
  refine S_other h (B := B) (fun cells q hc => ?_) (fun k hk _ => Below.heap_setCell _ _ _ _ (fun e => hk (by first | exact e | exact e.symm)))
  have hB' : W.heap[B]? = some (.cells #[x] t (0, 0)) := hB
  rw [hB'] at hc
  injection hc with hc
  injection hc with _ hc _
  subst hc
  exact ⟨h1, h2⟩
theorem S_put {W : World} {b : Nat} {ok : Nat → Prop} {v : Value} {xs : List (List ByteArray)} (h : Kd.S kLL 22 W b ok v xs) {l : Nat} {o : Obj} (o' : Obj) (hl : W.heap[l]? = some o) (ho : Obj.isCells o = false) : Kd.S kLL 22 (W.putObj l o') b ok v xs := by
  refine S_other h (B := l) (fun cells q hc => ?_) (fun k hk _ => World.putObj_heap_other hk)
  rw [hl] at hc
  injection hc with hc
  subst hc
  cases ho
theorem boxed_put {W : World} {B t l : Nat} {x : Value} {o : Obj} (o' : Obj) (h : Boxed W B t x) (hl : W.heap[l]? = some o) (ho : Obj.isCells o = false) : Boxed (W.putObj l o') B t x := by
  have hne : B ≠ l := by
    rintro rfl
    have hB' : W.heap[B]? = some (.cells #[x] t (0, 0)) := h
    rw [hB'] at hl
    injection hl with hl
    subst hl
    cases ho
  exact (World.putObj_heap_other hne).trans h
theorem boxed_below {W W' : World} {B t : Nat} {x : Value} (h : Boxed W B t x) (hb : Below W.heap.size W W') : Boxed W' B t x := (hb.block _ h.lt).trans h
def SInv (b : Nat) (s : ByteArray) (wb : World) (pre : List (List ByteArray × Int)) (W : World) : Prop :=
  (∃ v, Boxed W b 63 v ∧ Kd.S kLL 22 W b (fun _ => True) v (pre.map (·.1))) ∧ Boxed W (b + 1) 3 (.int .i64 (lastE pre)) ∧ Boxed W (b + 1 + 1) 9 (.string s) ∧ Below b wb W
theorem SInv.below {b : Nat} {s : ByteArray} {wb : World} {pre : List (List ByteArray × Int)} {W W' : World} (h : SInv b s wb pre W) (hb : Below W.heap.size W W') : SInv b s wb pre W' := by
  obtain ⟨⟨v, h1, h2⟩, h3, h5, h4⟩ := h
  exact ⟨⟨v, boxed_below h1 hb, Kd.S_below h2 hb⟩, boxed_below h3 hb, boxed_below h5 hb, h4.trans (hb.mono (by have := h1.lt; omega))⟩
theorem SInv.put {b : Nat} {s : ByteArray} {wb : World} {pre : List (List ByteArray × Int)} {W : World} (h : SInv b s wb pre W) (l : Nat) (o o' : Obj) (hl0 : b ≤ l) (hl : W.heap[l]? = some o) (ho : Obj.isCells o = false) : SInv b s wb pre (W.putObj l o') := by
  obtain ⟨⟨v, h1, h2⟩, h3, h5, h4⟩ := h
  refine ⟨⟨v, boxed_put o' h1 hl ho, S_put h2 o' hl ho⟩, boxed_put o' h3 hl ho, boxed_put o' h5 hl ho, h4.trans ?_⟩
  exact (Below.refl _ W).grown (grownBy_putObj' W _ _) (by have := h1.lt; omega) (fun k e => by cases e; omega)
theorem LArg_put {b : Nat} {x : List ByteArray × Int} {vs : Array Value} {W : World} {l : Nat} {o' : Obj} (h : LArg b x vs W) (hl : l < b) : LArg b x vs (W.putObj l o') := by
  obtain ⟨v, rfl, h⟩ := h
  refine ⟨v, rfl, Kd.R_mono (Kd.R_step (Kd.R_bound h) ?_) (fun _ hk => hk.1)⟩
  rintro k ⟨-, hb, -, -⟩ -
  exact World.putObj_heap_other (by omega)
theorem lastE_snoc (pre : List (List ByteArray × Int)) (x : List ByteArray × Int) : lastE (pre ++ [x]) = x.2 := by simp [lastE]
def scanV (s : ByteArray) : List (List ByteArray) × Int := ((scanP s).map (·.1), lastE (scanP s))
theorem scanG_len (tot : Nat) : ∀ (f : Nat) (u : ByteArray), (scanG tot f u).length ≤ f := by
  intro f
  induction f with
  | zero => intro u; exact Nat.le_refl _
  | succ f ih =>
    intro u
    rw [scanG]
    split
    · rw [List.length_cons]
      have := ih (takeV u).2.1
      omega
    · exact Nat.zero_le _
set_option maxHeartbeats 4000000 in
set_option maxRecDepth 100000 in
theorem scan_walk (s : ByteArray) (hs : s.size ≤ 2000000) (w : World) (hG : Hand2.Glob w) :
    Calls Tryz.prog 82 #[.string s] w fun e w' => ∃ v, e = .returned (.tuple #[v, .int .i64 (scanV s).2]) ∧ Kd.S kLL 22 w' w.heap.size (fun _ => True) v (scanV s).1 ∧ Below w.heap.size w w' := by
  have HG := Lib.hid hG
  have hlen : (scanP s).length ≤ 2000001 := Nat.le_trans (scanG_len _ _ _) (by omega)
  clear hG
  refine (callsIn_wide (n := 4)).1 ?_
  refine callsIn_of_wp_marks Tryz.func82 rfl trivial ?_ rfl
  simp only [Tryz.ntmps82, List.size_toArray, List.length_cons, List.length_nil, Nat.reduceAdd, Nat.reduceSub, Array.replicate_succ, Array.replicate_zero, List.push_toArray, List.append_toArray, List.nil_append, List.cons_append]
  gi_wp2_with (refine ⟨trivial, ?_⟩; gi_at_call 98; refine (callsIn_wide.2 (linesP_mk s _)).mono ?_; rintro e w' ⟨rfl, rfl⟩)
  have hsz : (((w.alloc (.cells #[.slice none 0 0] 63)).alloc (.cells #[.int .i64 0] 3)).alloc (.cells #[.string s] 9)).heap.size = w.heap.size + 3 := by simp
  have hbel : Below w.heap.size w (((w.alloc (.cells #[.slice none 0 0] 63)).alloc (.cells #[.int .i64 0] 3)).alloc (.cells #[.string s] 9)) :=
    (((Below.refl _ _).alloc (Nat.le_refl _) _).alloc (by simp) _).alloc (by simp; omega) _
  have hx0 : Boxed (((w.alloc (.cells #[.slice none 0 0] 63)).alloc (.cells #[.int .i64 0] 3)).alloc (.cells #[.string s] 9)) w.heap.size 63 (.slice none 0 0) := ((Boxed.new w 63 _).alloc _).alloc _
  have hx1 : Boxed (((w.alloc (.cells #[.slice none 0 0] 63)).alloc (.cells #[.int .i64 0] 3)).alloc (.cells #[.string s] 9)) (w.heap.size + 1) 3 (.int .i64 0) := by
    have := (Boxed.new (w.alloc (.cells #[.slice none 0 0] 63)) 3 (.int .i64 0)).alloc (.cells #[.string s] 9)
    simpa using this
  have hx2 : Boxed (((w.alloc (.cells #[.slice none 0 0] 63)).alloc (.cells #[.int .i64 0] 3)).alloc (.cells #[.string s] 9)) (w.heap.size + 1 + 1) 9 (.string s) := by
    have := Boxed.new ((w.alloc (.cells #[.slice none 0 0] 63)).alloc (.cells #[.int .i64 0] 3)) 9 (.string s)
    simpa using this
  generalize ((w.alloc (.cells #[.slice none 0 0] 63)).alloc (.cells #[.int .i64 0] 3)).alloc (.cells #[.string s] 9) = W1 at hsz hbel hx0 hx1 hx2 ⊢
  have HX0 := Lib.hid hx0
  have HX1 := Lib.hid hx1
  have HX2 := Lib.hid hx2
  have HBEL := Lib.hid hbel
  clear hx0 hx1 hx2 hbel
  refine loop_all (xs := scanP s) rfl (by omega) (gf := 110) (lb := #[.pointer (some ⟨w.heap.size + 1 + 1, 0, none⟩)]) rfl trivial enters110 (scan_gives (w.heap.size + 1 + 1) w.heap.size s hs W1 w HG.out (Nat.le_refl _) (by omega) HBEL.out HX2.out) (Below.refl _ _) (by omega) (by omega)
    (fun b x vs W h => by obtain ⟨v, rfl, -⟩ := h; rfl) (fun b x vs W l o' h hl => LArg_put h hl) (SInv w.heap.size s w) (fun _ _ _ h hb => h.below hb) (fun _ _ l o o' h hl ho hc => h.put l o o' (by omega) ho hc)
    ⟨⟨_, HX0.out, Kd.S_nil _ _ _ _ _⟩, HX1.out, HX2.out, HBEL.out⟩
    (fun vs => { tmps := #[.string s, undef, .slice none 0 0, .int .i64 0, .pointer (some ⟨w.heap.size, 0, none⟩), .pointer (some ⟨w.heap.size + 1, 0, none⟩), vs.getD 0 undef, vs.getD 1 undef, .string s,
      .func (.func 110) #[] #[.pointer (some ⟨w.heap.size + 1 + 1, 0, none⟩)], vs.getD 0 undef, vs.getD 1 undef, undef, undef, undef, undef, undef, undef, undef], defers := [] }) ?assign ?body ?done
  case assign =>
    rintro l b x vs W K ⟨v, rfl, hR⟩ hK
    gi_wp2
    exact hK
  case body =>
    rintro l pre x vs W0 W ⟨⟨va, hva0, hS0⟩, hat0, hbs0, hbw0⟩ hn0 hBn0 hb01 ⟨v, rfl, hR⟩ ⟨t, ht⟩
    obtain ⟨Ao, co, ev⟩ := Kd.R_slice hR
    obtain ⟨xn, hxn⟩ : ∃ xn, xn = x.1.length := ⟨_, rfl⟩
    rw [← hxn] at ev
    clear hxn
    subst ev
    have hpl : pre.length + 1 ≤ 2000001 := by
      have := congrArg List.length ht
      simp only [List.length_append, List.length_cons] at this
      omega
    have hva := boxed_below hva0 hb01
    have hat := boxed_below hat0 hb01
    have hS : Kd.S kLL 22 W w.heap.size (fun k => True ∧ ¬ W0.heap.size ≤ k) va (pre.map (·.1)) := Kd.S_below (Kd.S_mono (Kd.S_bound hS0) (fun k hk => ⟨trivial, Nat.not_le.2 hk.2.2.1⟩)) hb01
    have hvo : ∀ k, va.ownBlock = some k → k < W0.heap.size := by
      obtain ⟨f, h0, -⟩ := hS
      exact fun k hk => Nat.not_le.1 (h0 k hk).2
    obtain ⟨f, hf, hTR⟩ := Kd.S_tag hS (pre.map (·.1)).length (fun k => W0.heap.size ≤ k) (fun k hk h2 => h2.2 hk)
    obtain ⟨h0, inner, hown, hr⟩ := Kd.R_mono hTR (fun _ h => h.1)
    have hp : kLL.M W w.heap.size (fun k => W0.heap.size ≤ k) x.1 [.slice Ao xn co] := ⟨_, rfl, Kd.R_lower (Kd.R_mono (Kd.R_bound hR) (fun k hk => hk.2.1)) hn0⟩
    have hn : (pre.map (·.1)).zipIdx.length = pre.length := by rw [List.length_zipIdx, List.length_map]
    rw [hn] at hown
    have hnr1 := hva.not_row (by decide) hown
    have hnr2 := hat.not_row (by decide) hown
    have hbs := boxed_below hbs0 hb01
    have HN3 := Lib.hid (hbs.not_row (by decide) hown)
    have HBS := Lib.hid hbs
    have HVA := Lib.hid hva
    have HAT := Lib.hid hat
    have hcv := hva.cell
    have hsz01 := hb01.size
    have HS := Lib.hid hS
    have HVO := Lib.hid hvo
    have HF := Lib.hid hf
    have HH0 := Lib.hid h0
    have HRR := Lib.hid hr
    have HOWN := Lib.hid hown
    have HP := Lib.hid hp
    have HN1 := Lib.hid hnr1
    have HN2 := Lib.hid hnr2
    have HHN := Lib.hid hn
    have HB01 := Lib.hid hb01
    have HBW := Lib.hid (hbw0.trans (hb01.mono hn0))
    clear hbs0 hbs hva0 hS0 hat0 hbw0 hR ht hva hat hS hvo hTR h0 hr hown hp hn hnr1 hnr2 hf hb01
    obtain ⟨i0, hi, hz0, hz1, hz2⟩ := info_parts info23
    gi_wp2_with (gi_at_builtin; refine wpListIn_append_own_at _ rfl _ _ 63 rfl w.heap.size 22 i0 (.slice none 0 0) 1 24 Tryz.underlying63 hi hz0 hz1 hz2 rfl (by decide) va pre.length inner rfl (HOWN.out.alloc _) ⟨W.heap.size, 0, none⟩ 1 1 [.slice Ao xn co] rfl rfl (cell_one_new _ _ _) (by simp [Value.oneCell']) (by unfold maxLen; omega) (by omega) (by simp; omega) ?_)
    intro v' w2 hown' hgrow hat'
    obtain ⟨g', cap', ev'⟩ := ownsRow_succ hown'
    subst ev'
    have hg : W.grownBy w2 va.ownBlock := World.grownBy.trans (World.grownBy_alloc W _ _) hgrow
    have hat'' : (Value.slice (some ⟨g', 0, none⟩) (pre.length + 1) cap').ownBlock = va.ownBlock ∨ ∃ b, (Value.slice (some ⟨g', 0, none⟩) (pre.length + 1) cap').ownBlock = some b ∧ W.heap.size ≤ b := by
      rcases hat' with h | h
      · exact .inl h
      · exact .inr ⟨_, h, by simp⟩
    have hR2 := Kd.R_appended (d := Kd.tag f kLL) (p := (x.1, (pre.map (·.1)).length)) HH0.out HRR.out (kLL.M_mono (fun k hk => ⟨hk, HF.out k hk⟩) HP.out) (fun k hk => ⟨trivial, fun e => Nat.lt_irrefl _ (Nat.lt_of_lt_of_le (HVO.out k e.symm) hk)⟩) (fun _ _ => trivial) (by rw [HHN.out]; exact hown') hg hat''
    rw [← Kd.zip_snoc] at hR2
    have hS2 : Kd.S kLL 22 w2 w.heap.size (fun _ => True) (.slice (some ⟨g', 0, none⟩) (pre.length + 1) cap') ((pre ++ [x]).map (·.1)) := ⟨f, by rw [List.map_append]; exact hR2⟩
    have hva2 := HVA.out.kept hg HN1.out
    have hat2 := HAT.out.kept hg HN2.out
    have hat3 : Boxed (w2.setCell ⟨w.heap.size, 0, none⟩ (.slice (some ⟨g', 0, none⟩) (pre.length + 1) cap')) (w.heap.size + 1) 3 (.int .i64 (lastE pre)) := hat2.kept (grownBy_setCell' w2 w.heap.size (.slice (some ⟨g', 0, none⟩) (pre.length + 1) cap')) (by simp)
    have hva3 := hva2.set (.slice (some ⟨g', 0, none⟩) (pre.length + 1) cap')
    have hS3 := S_boxed (u := (.slice (some ⟨g', 0, none⟩) (pre.length + 1) cap')) hS2 hva2 (by decide) (by decide)
    have hS4 := Lib.hid (S_boxed (u := .int .i64 x.2) hS3 hat3 (by decide) (by decide))
    have hva4 := Lib.hid (hva3.kept (grownBy_setCell' _ (w.heap.size + 1) (.int .i64 x.2)) (by simp))
    have hat4 := Lib.hid (hat3.set (.int .i64 x.2))
    have hrowc : ∀ (j : Nat) (o : Obj), va.ownBlock = some j → W.heap[j]? = some o → o.isCells = true := by
      intro j o ej hj
      rcases HOWN.out.2 with ⟨rfl, _⟩ | ⟨g, cap, cur, rfl, _, hgb, _⟩
      · simp [Value.ownBlock] at ej
      · obtain rfl : g = j := by simpa [Value.ownBlock] using ej
        rw [hgb] at hj; cases hj; rfl
    have hrowb : ∀ j, va.ownBlock = some j → w.heap.size ≤ j := by
      intro j ej
      rcases HOWN.out.2 with ⟨rfl, _⟩ | ⟨g, cap, cur, rfl, hgb, _⟩
      · simp [Value.ownBlock] at ej
      · obtain rfl : g = j := by simpa [Value.ownBlock] using ej
        exact hgb
    have hKO := Lib.hid (((KeepsOthers.of_grownBy hg hrowc).trans (KeepsOthers.setCell w2 ⟨w.heap.size, 0, none⟩ (.slice (some ⟨g', 0, none⟩) (pre.length + 1) cap'))).trans (KeepsOthers.setCell _ ⟨w.heap.size + 1, 0, none⟩ (.int .i64 x.2)))
    have hlow := Lib.hid ((((Below.refl w.heap.size W).grown hg (by omega) hrowb).setCell (p := ⟨w.heap.size, 0, none⟩) (Nat.le_refl _) (.slice (some ⟨g', 0, none⟩) (pre.length + 1) cap')).setCell (p := ⟨w.heap.size + 1, 0, none⟩) (Nat.le_succ _) (.int .i64 x.2))
    have hc1 := hva2.cell
    have hf1 := hva2.frozen
    have hc2 := hat3.cell
    have hf2 := hat3.frozen
    have hbs2 := Lib.hid (((HBS.out.kept hg HN3.out).kept (grownBy_setCell' w2 w.heap.size (.slice (some ⟨g', 0, none⟩) (pre.length + 1) cap')) (by intro e; injection e with e; omega)).kept (grownBy_setCell' _ (w.heap.size + 1) (.int .i64 x.2)) (by intro e; injection e with e; omega))
    have hgs := Lib.hid hg
    clear hown' hgrow hat' hg hat'' hR2 hS2 hva2 hat2 hat3 hva3 hS3 hrowc hrowb hcv
    gi_wp2
    refine ⟨hKO.out.from _, ⟨hlow.out, fun hlt => ?_⟩, ⟨⟨_, hva4.out, hS4.out⟩, by rw [lastE_snoc]; exact hat4.out, hbs2.out, HBW.out.trans hlow.out⟩⟩
    have h1 : W.heap[w.heap.size + 1 + 1]? = some (.cells #[.string s] 9 (0, 0)) := HBS.out
    rw [h1]
    exact hbs2.out
  case done =>
    rintro D W hD ⟨⟨v, hv, hS⟩, hat, hbs, hb⟩ hK
    obtain ⟨Ao, co, ev⟩ := Kd.R_slice (Kd.S_R hS)
    obtain ⟨xn, hxn⟩ : ∃ xn, xn = ((scanP s).map (·.1)).length := ⟨_, rfl⟩
    rw [← hxn] at ev
    clear hxn
    subst ev
    have hc := hv.cell
    have hc2 := hat.cell
    have hlt := hv.lt
    have HS := Lib.hid hS
    have HBb := Lib.hid hb
    have HK := Lib.hid hK
    obtain ⟨le, hle⟩ : ∃ le, Hid (lastE (scanP s) = le) := ⟨_, Lib.hid rfl⟩
    rw [hle.out] at hc2
    clear hv hat hbs hS hb hK
    gi_wp2
    gi_region
    all_goals gi_wp2
    have hK2 : W.drew.heap[D]? = some (.deferred (some [])) := HK.out
    have hS2 := Kd.S_below HS.out (show Below W.heap.size W W.drew from (Below.refl _ _).drew)
    have hB2 : Below w.heap.size w W.drew := HBb.out.drew
    refine ⟨by simp, .inl ⟨_, _, rfl, run_takeDeferred hK2, ?_⟩⟩
    rw [show (scanV s).2 = le from hle.out]
    refine ⟨_, results_tmp2 (fn := Tryz.f82) rfl _ _ _, _, rfl, S_put hS2 _ hK2 rfl, ?_⟩
    exact hB2.trans ((Below.refl _ _).grown (grownBy_putObj' _ _ _) (by simp; omega) (fun k e => by cases e; omega))
end Go.Proofs.YtghbaehbgefpaaaGreatDoor.Hand
namespace Go.Proofs.YtghbaehbgefpaaaGreatDoor.PureR
open Go.RowKit Go.Proofs.YtghbaehbgefpaaaGreatDoorW.PrintWords
open Go.Proofs.YtghbaehbgefpaaaGreatDoor.Hand
open Go.Proofs.YtghbaehbgefpaaaGreatDoor.Fr (plainI)
theorem len_data (s : ByteArray) : s.data.toList.length = s.size := by rw [Array.length_toList]; rfl
def sign (c : UInt8) : Prop := plainI c.toNat = true ∨ c = 37
theorem hexD_sign (m : Nat) (h : m < 16) : plainI (hexD m).toNat = true := by
  have : ∀ m : Fin 16, plainI (hexD m.1).toNat = true := by decide
  exact this ⟨m, h⟩
theorem quoteB_sign (c : UInt8) : ∀ d ∈ quoteB c, sign d := by
  intro d hd
  unfold quoteB at hd
  have hl := UInt8.toNat_lt c
  split at hd
  · next h =>
    rw [List.mem_singleton.1 hd]
    exact .inl h
  · simp only [List.mem_cons, List.not_mem_nil, or_false] at hd
    rcases hd with rfl | rfl | rfl
    · exact .inr rfl
    · exact .inl (hexD_sign _ (by omega))
    · exact .inl (hexD_sign _ (by omega))
theorem quoteB_pos (c : UInt8) : 1 ≤ (quoteB c).length := by
  unfold quoteB
  split <;> simp
theorem data_app2 (s t : ByteArray) : (s ++ t).data.toList = s.data.toList ++ t.data.toList := by
  simp [ByteArray.data_append, Array.toList_append]
theorem ofNat_to (n : Nat) (h : n < 256) : (UInt8.ofNat n).toNat = n := by simp [UInt8.toNat_ofNat']; omega
theorem hexv_hexD : ∀ r : Fin 16, hexv (hexD r.val) = some r.val := by decide +kernel
theorem plain_no37 {c : UInt8} (h : plainI c.toNat = true) : c ≠ 37 := by
  intro e
  subst e
  exact absurd h (by decide)
theorem ofNat_back (c : UInt8) : UInt8.ofNat (16 * (c.toNat / 16) + c.toNat % 16) = c := by
  apply UInt8.toNat_inj.1
  rw [ofNat_to _ (by have := UInt8.toNat_lt c; omega)]
  omega
theorem decG_quote : ∀ t : List UInt8, decG (t.flatMap quoteB) = some t := by
  intro t
  induction t with
  | nil => exact decG_nil
  | cons c t ih =>
    rw [List.flatMap_cons, quoteB]
    have hc := UInt8.toNat_lt c
    by_cases hp : plainI c.toNat = true
    · rw [if_pos hp, List.singleton_append, decG_plain c _ (plain_no37 hp), ih]
      rfl
    · have h1 := hexv_hexD ⟨c.toNat / 16, by omega⟩
      have h2 := hexv_hexD ⟨c.toNat % 16, by omega⟩
      simp only at h1 h2
      have h3 : hexG 0 [hexD (c.toNat / 16), hexD (c.toNat % 16)] = some (16 * (c.toNat / 16) + c.toNat % 16) := by
        simp only [hexG, h1, h2]
        congr 1
        omega
      rw [if_neg hp]
      simp only [List.cons_append, List.nil_append]
      rw [decG_pct, h3, ih]
      show some (UInt8.ofNat _ :: t) = _
      rw [ofNat_back]
theorem quoteV_data {t : List UInt8} (h : t ≠ []) : (quoteV ⟨t.toArray⟩).data.toList = t.flatMap quoteB := by
  unfold quoteV
  rw [if_neg]
  show ¬ t.toArray.size = 0
  rw [List.size_toArray]
  intro e
  exact h (List.eq_nil_of_length_eq_zero e)
end Go.Proofs.YtghbaehbgefpaaaGreatDoor.PureR
