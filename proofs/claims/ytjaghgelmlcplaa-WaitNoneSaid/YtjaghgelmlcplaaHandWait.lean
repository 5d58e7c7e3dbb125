import Derived.Test.YtjaghgelmlcplaaHandRings
import Derived.Test.YtjaghgelmlcplaaHandBorn
import Derived.Laws.EntriesVeiled
namespace Go.Proofs.Ytjaghgelmlcplaa.Hand
open Go.RowKit Go.Proofs.YtjaghgelmlcplaaW.PrintWords Go.Proofs.YtjaghgelmlcplaaW.PrintLast Go.Proofs.YtjaghgelmlcplaaW.PrintMore Go.Proofs.Ytjaghgelmlcplaa.P Go.Proofs.Ytjaghgelmlcplaa.Way
attribute [local instance] Classical.propDecidable
set_option linter.unusedVariables false
set_option linter.unusedSimpArgs false

theorem rings_len (l : List S43) : (rings l).length ≤ l.length := by
  unfold rings
  refine Nat.le_trans (Lib.compact_length_le _) ?_
  rw [List.length_mergeSort]
  exact picked_len l l.length
/-- The greatest by age and number. -/
def victim (l1 : List S40) : List Int → Int
  | [] => 0
  | x :: t => maxFrom l1 x t
set_option maxHeartbeats 1000000 in
theorem victim_walk (A0 : Option Addr) (c0 : Nat) (l0 : List S43) (A1 : Option Addr) (c1 : Nat) (l1 : List S40) (w : World) (hr0 : Kd.C k43 w A0 l0.length l0) (hc0 : l0.length ≤ c0) (hwf : Wf l0) (hlen : l0.length ≤ 1000)
    (hr1 : Kd.C k40 w A1 l1.length l1) (hc1 : l1.length ≤ c1) (hlen1 : l1.length ≤ 1000) :
    Calls Try.prog 15 #[.slice A0 l0.length c0, .slice A1 l1.length c1] w fun e w' => e = .returned (.int .i64 (victim l1 (rings l0))) ∧ Below w.heap.size w w' := by
  have hB1 : Hid (Below w.heap.size w (w.alloc (.cells #[.slice A1 l1.length c1] 23))) := (Below.refl _ _).alloc (Nat.le_refl _) _
  have HR : Hid (Kd.C k43 (w.alloc (.cells #[.slice A1 l1.length c1] 23)) A0 l0.length l0) := Kd.C_below hr0 hB1.out
  have HR1 : Hid (Kd.C k40 (w.alloc (.cells #[.slice A1 l1.length c1] 23)) A1 l1.length l1) := Kd.C_below hr1 hB1.out
  have HWf := Lib.hid hwf
  have hrl := rings_len l0
  have hcw : Hid ((w.alloc (.cells #[.slice A1 l1.length c1] 23)).cell? ⟨w.heap.size, 0, none⟩ = some (.slice A1 l1.length c1)) := by simp [Hid]
  clear hr0 hr1 hwf
  go_enter Try.func15, Try.ntmps15
  go_wp2_with fail
  refine (rings_walk A0 c0 l0 _ HR.out hc0 HWf.out hlen).mono ?_
  rintro e w1 ⟨v0, rfl, hv, hb1⟩
  have HB1 : Hid (Below w.heap.size w w1) := hB1.out.trans (hb1.mono hB1.out.size)
  have HC1 : Hid (w1.cell? ⟨w.heap.size, 0, none⟩ = some (.slice A1 l1.length c1)) := (hb1.cell (p := ⟨w.heap.size, 0, none⟩) (cell_lt hcw.out)).trans hcw.out
  have HK1 : Hid (Kd.C k40 w1 A1 l1.length l1) := Kd.C_below HR1.out hb1
  clear hb1
  obtain ⟨Ao, co, eo⟩ := Kd.R_slice hv
  subst eo
  have HV := Lib.hid (Kd.R_reads' hv).2.2
  clear hv
  obtain ⟨xs, hxs⟩ : ∃ xs, Hid (rings l0 = xs) := ⟨_, Lib.hid rfl⟩
  rw [hxs.out] at HV hrl ⊢
  cases xs with
  | nil =>
    simp only [List.length_nil]
    go_wp2
    go_ret
    exact ⟨by rw [hxs.out]; rfl, HB1.out⟩
  | cons x xs =>
    have hx : xs.length ≤ 1000 := by simp only [List.length_cons] at hrl; omega
    have hBB : Hid (Below w1.heap.size w1 (w1.alloc (.cells #[.func (.func 22) #[] #[.pointer (some ⟨w.heap.size, 0, none⟩)]] 56))) := (Below.refl _ _).alloc (Nat.le_refl _) _
    have h1 : Hid (Kd.C k40 (w1.alloc (.cells #[.func (.func 22) #[] #[.pointer (some ⟨w.heap.size, 0, none⟩)]] 56)) A1 l1.length l1) := Kd.C_below HK1.out hBB.out
    have h2 : Hid (Kd.C (Kd.int .i64) (w1.alloc (.cells #[.func (.func 22) #[] #[.pointer (some ⟨w.heap.size, 0, none⟩)]] 56)) Ao (x :: xs).length (x :: xs)) := Kd.C_below HV.out hBB.out
    have h3 : Hid ((w1.alloc (.cells #[.func (.func 22) #[] #[.pointer (some ⟨w.heap.size, 0, none⟩)]] 56)).cell? ⟨w.heap.size, 0, none⟩ = some (.slice A1 l1.length c1)) := (hBB.out.cell (p := ⟨w.heap.size, 0, none⟩) (cell_lt HC1.out)).trans HC1.out
    have h4 : Hid ((w1.alloc (.cells #[.func (.func 22) #[] #[.pointer (some ⟨w.heap.size, 0, none⟩)]] 56)).cell? ⟨w1.heap.size, 0, none⟩ = some (.func (.func 22) #[] #[.pointer (some ⟨w.heap.size, 0, none⟩)])) := by simp [Hid]
    have hn : (x :: xs).length = xs.length + 1 := rfl
    have hMW := Lib.hid (max_walk A1 c1 l1 Ao co x xs w.heap.size w1.heap.size _ h1.out hc1 hlen1 h2.out hx h3.out h4.out)
    clear hrl
    rw [hn] at hMW ⊢
    clear hn h1 h2 HV
    generalize hn : xs.length + 1 = n at hMW ⊢
    have hn1 : (n : Int) ≤ 1001 := by omega
    have hn0 : (0 : Int) < n := by omega
    have hb : ((n : Int) == 0) = false := by simp; omega
    clear hn
    go_wp2_with fail
    refine hMW.out.mono ?_
    rintro e w2 ⟨rfl, hb2⟩
    go_wp2
    go_ret
    exact ⟨by rw [hxs.out]; rfl, HB1.out.trans (hBB.out.trans (hb2.mono hBB.out.size) |>.mono HB1.out.size)⟩

/-- Reaches: whether a way leads there (guard: well-formed, at most 1000). -/
noncomputable def wait_Reaches.f (l0 : List S43) (a1 a2 : Int) : Option Bool := if Wf l0 ∧ l0.length ≤ 1000 then some (decide (Leads (es l0) a1 a2)) else none
theorem wait_Reaches.calls (A0 : Option Addr) (c0 : Nat) (l0 : List S43) (a1 a2 : Int) (r : Bool) (w : World) (hr0 : Kd.C k43 w A0 l0.length l0) (hc0 : l0.length ≤ c0) (h : wait_Reaches.f l0 a1 a2 = some r) :
    Calls Try.prog 10 #[.slice A0 l0.length c0, .int .i64 a1, .int .i64 a2] w fun e w' => e = .returned (.bool r) ∧ Below w.heap.size w w' := by
  unfold wait_Reaches.f at h
  split at h
  next hg =>
    injection h with h
    refine (reaches_walk A0 c0 l0 a1 a2 w hr0 hc0 hg.1 hg.2).mono ?_
    rintro e w' ⟨⟨b, rfl, hb⟩, hB⟩
    refine ⟨?_, hB⟩
    rw [← h]
    congr 3
    cases b with
    | true => exact (decide_eq_true (hb.1 rfl)).symm
    | false => exact (decide_eq_false fun hh => Bool.false_ne_true (hb.2 hh)).symm
  next => exact absurd h (by simp)
noncomputable def wait_Rings.f (l0 : List S43) : Option (List Int) := if Wf l0 ∧ l0.length ≤ 1000 then some (rings l0) else none
theorem wait_Rings.calls (A0 : Option Addr) (c0 : Nat) (l0 : List S43) (r : List Int) (w : World) (hr0 : Kd.C k43 w A0 l0.length l0) (hc0 : l0.length ≤ c0) (h : wait_Rings.f l0 = some r) :
    Calls Try.prog 13 #[.slice A0 l0.length c0] w fun e w' => ∃ v0_ : Value, e = .returned (v0_) ∧ Kd.R (Kd.int .i64) 3 w' w.heap.size (fun _ => True) v0_ r ∧ Below w.heap.size w w' := by
  unfold wait_Rings.f at h
  split at h
  next hg =>
    injection h with h
    subst h
    exact rings_walk A0 c0 l0 w hr0 hc0 hg.1 hg.2
  next => exact absurd h (by simp)
noncomputable def wait_Victim.f (l0 : List S43) (l1 : List S40) : Option Int := if (Wf l0 ∧ l0.length ≤ 1000) ∧ l1.length ≤ 1000 then some (victim l1 (rings l0)) else none
theorem wait_Victim.calls (A0 : Option Addr) (c0 : Nat) (l0 : List S43) (A1 : Option Addr) (c1 : Nat) (l1 : List S40) (r : Int) (w : World) (hr0 : Kd.C k43 w A0 l0.length l0) (hc0 : l0.length ≤ c0) (hr1 : Kd.C k40 w A1 l1.length l1) (hc1 : l1.length ≤ c1) (h : wait_Victim.f l0 l1 = some r) :
    Calls Try.prog 15 #[.slice A0 l0.length c0, .slice A1 l1.length c1] w fun e w' => e = .returned (.int .i64 r) ∧ Below w.heap.size w w' := by
  unfold wait_Victim.f at h
  split at h
  next hg =>
    injection h with h
    subst h
    exact victim_walk A0 c0 l0 A1 c1 l1 w hr0 hc0 hg.1.1 hg.1.2 hr1 hc1 hg.2
  next => exact absurd h (by simp)
end Go.Proofs.Ytjaghgelmlcplaa.Hand
