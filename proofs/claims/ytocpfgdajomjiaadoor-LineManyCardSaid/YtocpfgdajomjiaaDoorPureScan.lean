import Derived.Test.YtocpfgdajomjiaaDoorPureLine
/- Plain facts of lines one behind the other. -/
namespace Go.Proofs.YtocpfgdajomjiaaDoor.PureL
open Go.RowKit Go.Proofs.YtocpfgdajomjiaaDoor.PureR Go.Proofs.YtocpfgdajomjiaaDoor.Spl
open Go.Proofs.YtocpfgdajomjiaaDoor.Hand hiding text_Lines.f text_Words.f text_Trim.f text_Join.f text_Path.f text_Quote.f text_Lines.calls text_Words.calls text_Trim.calls text_Join.calls text_Path.calls text_Quote.calls Glob
set_option linter.unusedVariables false
set_option linter.unusedSimpArgs false
/-- Lines put one behind the other, and what is behind. -/
def cat : List (List ByteArray) → ByteArray → ByteArray
  | [], r => r
  | l :: t, r => (putV l).1 ++ cat t r
theorem ba_assoc (a b c : ByteArray) : (a ++ b) ++ c = a ++ (b ++ c) := by
  apply ba_ext
  simp [ByteArray.data_append, Array.toList_append]
theorem cat_app (xs ys : List (List ByteArray)) (r : ByteArray) : cat (xs ++ ys) r = cat xs (cat ys r) := by
  induction xs with
  | nil => rfl
  | cons l t ih => show (putV l).1 ++ cat (t ++ ys) r = _; rw [ih]; rfl
theorem cat_behind (xs : List (List ByteArray)) (r q : ByteArray) : cat xs r ++ q = cat xs (r ++ q) := by
  induction xs with
  | nil => rfl
  | cons l t ih => show ((putV l).1 ++ cat t r) ++ q = (putV l).1 ++ cat t (r ++ q); rw [ba_assoc, ih]
theorem scan_step {l : List ByteArray} (h : (putV l).2 = 0) (r : ByteArray) (tot f : Nat) : scanG tot (f + 1) ((putV l).1 ++ r) = (l, (tot : Int) - (r.size : Int)) :: scanG tot f r := by
  rw [scanG, take_line h r, if_pos rfl]
theorem scan_stop {u : ByteArray} (h : (takeV u).2.2 ≠ 0) (tot : Nat) : ∀ f, scanG tot f u = [] := by
  intro f
  cases f with
  | zero => rfl
  | succ f => rw [scanG, if_neg h]
theorem cat_size (xs : List (List ByteArray)) (r : ByteArray) : (cat xs r).size = (cat xs ⟨#[]⟩).size + r.size := by
  have := cat_behind xs ⟨#[]⟩ r
  have e : (⟨#[]⟩ : ByteArray) ++ r = r := ba_ext (by simp [ByteArray.data_append, Array.toList_append])
  rw [e] at this
  rw [← this, ByteArray.size_append]
theorem scan_cat (tot : Nat) (r : ByteArray) (hr : (takeV r).2.2 ≠ 0) : ∀ (xs : List (List ByteArray)) (f : Nat), (∀ l ∈ xs, (putV l).2 = 0) → xs.length ≤ f →
    (scanG tot f (cat xs r)).map (·.1) = xs ∧ (xs ≠ [] → lastE (scanG tot f (cat xs r)) = (tot : Int) - (r.size : Int)) := by
  intro xs
  induction xs with
  | nil =>
    intro f _ _
    rw [cat, scan_stop hr]
    exact ⟨rfl, fun h => absurd rfl h⟩
  | cons l t ih =>
    intro f hx hf
    obtain ⟨f, rfl⟩ : ∃ g, f = g + 1 := ⟨f - 1, by simp at hf; omega⟩
    have hl := hx l (by simp)
    obtain ⟨i1, i2⟩ := ih f (fun y hy => hx y (by simp [hy])) (by simpa using hf)
    rw [cat, scan_step hl]
    refine ⟨by rw [List.map_cons, i1], fun _ => ?_⟩
    cases t with
    | nil =>
      rw [cat, scan_stop hr]
      rfl
    | cons m t' =>
      have i3 := i2 (by simp)
      rw [← i3]
      unfold lastE
      cases hs : scanG tot f (cat (m :: t') r) with
      | nil => rw [hs] at i1; simp at i1
      | cons a b => rw [List.getLast?_cons_cons]
theorem scanV_cat (xs : List (List ByteArray)) (r : ByteArray) (hx : ∀ l ∈ xs, (putV l).2 = 0) (hr : (takeV r).2.2 ≠ 0) : scanV (cat xs r) = (xs, ((cat xs ⟨#[]⟩).size : Int)) := by
  have hsz := cat_size xs r
  have hlen : xs.length ≤ (cat xs r).size + 1 := by
    have : ∀ ys : List (List ByteArray), (∀ l ∈ ys, (putV l).2 = 0) → ys.length ≤ (cat ys ⟨#[]⟩).size := by
      intro ys
      induction ys with
      | nil => intro _; exact Nat.zero_le _
      | cons l t ih =>
        intro h
        have h1 := ih fun y hy => h y (by simp [hy])
        obtain ⟨-, -, -, h4⟩ := put_ok (h l (by simp))
        have h5 : 1 ≤ (putV l).1.size := by
          rw [h4]
          show 1 ≤ (lineL l).toArray.size
          rw [List.size_toArray, line_len]
          omega
        show t.length + 1 ≤ ((putV l).1 ++ cat t ⟨#[]⟩).size
        rw [ByteArray.size_append]
        omega
    have := this xs hx
    omega
  obtain ⟨h1, h2⟩ := scan_cat (cat xs r).size r hr xs ((cat xs r).size + 1) hx hlen
  unfold scanV scanP
  rw [h1]
  congr 1
  cases xs with
  | nil =>
    rw [cat, scan_stop hr]
    rfl
  | cons l t =>
    rw [h2 (by simp), hsz]
    omega
theorem take_no10 {u : ByteArray} (h : ∀ c ∈ u.data.toList, c ≠ 10) : (takeV u).2.2 ≠ 0 := by
  rcases cut_one 10 u.data.toList with ⟨h1, ⟨h2, h3⟩ | ⟨h2, h3⟩⟩
  · exfalso
    rw [h3] at h
    exact h 10 (by simp) rfl
  · unfold takeV
    rw [h2, if_pos rfl]
    decide
theorem putV_size {l : List ByteArray} (h : (putV l).2 = 0) : (putV l).1.size = (lineL l).length := by
  rw [(put_ok h).2.2.2]
  exact List.size_toArray
theorem putV_data {l : List ByteArray} (h : (putV l).2 = 0) : (putV l).1.data.toList = lineL l := by
  rw [(put_ok h).2.2.2]
/-- A part of a line that is put has no line feed, but at its end. -/
theorem line_no10 (l : List ByteArray) : lineL l = (bodyL l ++ (SumW.hex8 (adlOf (bodyL l))).data.toList) ++ [10] ∧ ∀ c ∈ bodyL l ++ (SumW.hex8 (adlOf (bodyL l))).data.toList, c ≠ 10 := by
  refine ⟨rfl, fun c hc => ?_⟩
  rcases List.mem_append.1 hc with h | h
  · exact body_no10 l c h
  · exact hex_no10 (hex8_hex _ c h)
end Go.Proofs.YtocpfgdajomjiaaDoor.PureL
