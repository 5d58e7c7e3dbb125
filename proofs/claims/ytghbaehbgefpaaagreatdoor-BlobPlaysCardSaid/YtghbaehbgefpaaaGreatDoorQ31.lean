import Derived.Test.YtghbaehbgefpaaaGreatDoorQ30
import Derived.Test.YtghbaehbgefpaaaGreatDoorQ11
import Derived.Laws.ResultCell
/- Several texts of this session in one: the walks of the functions that the laws reach, and what they tell. -/
set_option linter.unusedVariables false
set_option linter.unusedSimpArgs false
namespace Go.Proofs.YtghbaehbgefpaaaGreatDoor.Fr
open Go.RowKit Go.Proofs.YtghbaehbgefpaaaGreatDoor.F Go.Proofs.YtghbaehbgefpaaaGreatDoorW.PrintWords
structure StsAt (K : Nat → Prop) (L : List (Nat × TS)) (m : Nat) (Tm : TS) (W : World) (φ : Phi) (F : Nat → Nat → Prop) (B : Nat → Prop) : Prop where
  kb : ∀ k, K k → k < W.heap.size
  rf : Rf W m Tm B
  bk : ∀ k, B k → ¬ K k
  nm : ¬ K m
  fl : FilesOK W φ
  fm : ∀ k, φ k ≠ none → k ≠ m
  tr : ∀ i p T, L[i]? = some (p, T) → Tr W φ p T (F i)
  fk : ∀ i, i < L.length → ∀ k, F i k → ¬ K k ∧ k ≠ m ∧ ¬ B k
  dis : ∀ i j, i < L.length → j < L.length → i ≠ j → ∀ k, F i k → ¬ F j k
def Sts (K : Nat → Prop) (L : List (Nat × TS)) (m : Nat) (Tm : TS) (W : World) : Prop := ∃ φ F B, StsAt K L m Tm W φ F B
abbrev Kp (K : Nat → Prop) (W W' : World) : Prop := Chg (fun k => ¬ K k) W W'
section
variable {K : Nat → Prop} {L : List (Nat × TS)} {m p : Nat} {T Tm : TS} {W W' : World} {φ : Phi} {F : Nat → Nat → Prop} {B : Nat → Prop}
theorem Kp.block (h : Kp K W W') {k : Nat} (hk : K k) (hl : k < W.heap.size) : W'.heap[k]? = W.heap[k]? := Chg.block h k hl fun e => e hk
theorem Kp.trans {W2 : World} (h : Kp K W W') (k : Kp K W' W2) : Kp K W W2 := Chg.trans h k fun _ _ e => e
theorem Kp.below {B : Nat} (h : Kp K W W') (hB : B ≤ W.heap.size) (hK : ∀ k, k < B → K k) : Below B W W' := Chg.to_below h hB fun k hk => by
  by_cases e : B ≤ k
  · exact e
  · exact absurd (hK k (by omega)) hk
theorem Kp.of (hb : Below W.heap.size W W') : Kp K W W' := Chg.of_below hb _
theorem Kp.mono {K' : Nat → Prop} (h : Kp K W W') (hK : ∀ k, K' k → K k) : Kp K' W W' := Chg.mono h fun k _ e h' => e (hK k h')
theorem StsAt.lt {i : Nat} (h : StsAt K L m Tm W φ F B) (hi : L[i]? = some (p, T)) : ∀ k, F i k → k < W.heap.size := fun k hk => ((h.tr i p T hi).free hk).1
theorem idx_lt {i : Nat} {x : Nat × TS} (hi : L[i]? = some x) : i < L.length := (List.getElem?_eq_some_iff.1 hi).1
theorem StsAt.op {i : Nat} {T' : TS} (h : StsAt K L m Tm W φ F B) (hi : L[i]? = some (p, T)) (he : TrEnd W φ p (F i) T' W') : Sts K (L.set i (p, T')) m Tm W' ∧ Kp K W W' := by
  obtain ⟨φ', A', h1, h2, h3, h4⟩ := he
  have hil := idx_lt hi
  have hml := h.rf.lt
  have hlen : (L.set i (p, T')).length = L.length := List.length_set
  refine ⟨⟨φ', fun j => if j = i then A' else F j, B, ?_⟩, h3.mono fun k _ hk => (h.fk i hil k hk).1⟩
  exact {
    kb := fun k hk => Nat.lt_of_lt_of_le (h.kb k hk) h3.size
    rf := h.rf.chg h3 (fun e => (h.fk i hil m e).2.1 rfl) fun k hk e => (h.fk i hil k e).2.2 hk
    bk := h.bk
    nm := h.nm
    fl := h1.files
    fm := fun k hk => (h2.new k hk).elim (h.fm k) fun e => by omega
    tr := fun j q U hj => by
      by_cases e : j = i
      · subst e
        rw [List.getElem?_set_self hil] at hj
        cases hj
        simpa using h1
      · rw [List.getElem?_set_ne (Ne.symm e)] at hj
        simp only [if_neg e]
        exact (h.tr j q U hj).chg h3 (fun k hk hk' => h.dis j i (idx_lt hj) hil e k hk hk') h2 h1.files
    fk := fun j hj k hk => by
      rw [hlen] at hj
      by_cases e : j = i
      · subst e
        simp only [if_pos rfl] at hk
        rcases h4 k hk with h5 | h5
        · exact h.fk j hj k h5
        · exact ⟨fun e => by have := h.kb k e; omega, by omega, fun e => by have := (h.rf.free e).1; omega⟩
      · simp only [if_neg e] at hk
        exact h.fk j hj k hk
    dis := fun a b ha hb hab k hka hkb => by
      rw [hlen] at ha hb
      have lt : ∀ j, j < L.length → ∀ k, F j k → k < W.heap.size := fun j hj k hk => by
        have e : L[j]? = some (L[j].1, L[j].2) := List.getElem?_eq_getElem hj
        exact h.lt e k hk
      by_cases ea : a = i
      · subst ea
        have eb : b ≠ a := Ne.symm hab
        simp only [if_pos rfl] at hka
        simp only [if_neg eb] at hkb
        rcases h4 k hka with h5 | h5
        · exact h.dis a b ha hb hab k h5 hkb
        · have := lt b hb k hkb
          omega
      · simp only [if_neg ea] at hka
        by_cases eb : b = i
        · subst eb
          simp only [if_pos rfl] at hkb
          rcases h4 k hkb with h5 | h5
          · exact h.dis a b ha hb hab k hka h5
          · have := lt a ha k hka
            omega
        · simp only [if_neg eb] at hkb
          exact h.dis a b ha hb hab k hka hkb }
theorem StsAt.below (h : StsAt K L m Tm W φ F B) (hb : Below W.heap.size W W') : StsAt K L m Tm W' φ F B where
  kb := fun k hk => Nat.lt_of_lt_of_le (h.kb k hk) hb.size
  rf := h.rf.below hb
  bk := h.bk
  nm := h.nm
  fl := h.fl.below hb
  fm := h.fm
  tr := fun i p T hi => (h.tr i p T hi).below hb
  fk := h.fk
  dis := h.dis
theorem Sts.below (h : Sts K L m Tm W) (hb : Below W.heap.size W W') : Sts K L m Tm W' := by
  obtain ⟨φ, F, B, h⟩ := h
  exact ⟨φ, F, B, h.below hb⟩
theorem Sts.kept {K' : Nat → Prop} (h : Sts K L m Tm W) (hb : Below W.heap.size W W') (hK : ∀ k, K' k → K k ∨ (W.heap.size ≤ k ∧ k < W'.heap.size)) : Sts K' L m Tm W' := by
  obtain ⟨φ, F, B, h⟩ := h
  have hml := h.rf.lt
  refine ⟨φ, F, B, { h.below hb with
    kb := fun k hk => (hK k hk).elim (fun e => Nat.lt_of_lt_of_le (h.kb k e) hb.size) fun e => e.2
    bk := fun k hk e => (hK k e).elim (h.bk k hk) fun e => by have := (h.rf.free hk).1; omega
    nm := fun e => (hK m e).elim h.nm fun e => by omega
    fk := fun i hi k hk => ⟨fun e => (hK k e).elim (h.fk i hi k hk).1 fun e => by
      have e2 : L[i]? = some (L[i].1, L[i].2) := List.getElem?_eq_getElem hi
      have := h.lt e2 k hk
      omega, (h.fk i hi k hk).2⟩ }⟩
theorem Sts.drop {K' : Nat → Prop} (h : Sts K L m Tm W) (hK : ∀ k, K' k → K k) : Sts K' L m Tm W := h.kept (Below.refl _ _) fun k hk => .inl (hK k hk)
theorem Sts.kb (h : Sts K L m Tm W) : ∀ k, K k → k < W.heap.size := by
  obtain ⟨φ, F, B, h⟩ := h
  exact h.kb
theorem StsAt.rop {Tm' : TS} (h : StsAt K L m Tm W φ F B) (he : RfEnd W m B Tm' W') : Sts K L m Tm' W' ∧ Kp K W W' := by
  obtain ⟨B', h1, h2, h3⟩ := he
  have hkm : ∀ k, k = m → ¬ K k := fun k e => e ▸ h.nm
  have lt : ∀ j, j < L.length → ∀ k, F j k → k < W.heap.size := fun j hj k hk => by
    have e : L[j]? = some (L[j].1, L[j].2) := List.getElem?_eq_getElem hj
    exact h.lt e k hk
  refine ⟨⟨φ, F, B', ?_⟩, h2.mono fun k _ hk => hkm k hk⟩
  exact {
    kb := fun k hk => Nat.lt_of_lt_of_le (h.kb k hk) h2.size
    rf := h1
    bk := fun k hk => (h3 k hk).elim (h.bk k) fun e e2 => by have := h.kb k e2; omega
    nm := h.nm
    fl := h.fl.chg h2 fun q hq e => h.fm q hq e
    fm := h.fm
    tr := fun i p T hi => (h.tr i p T hi).chg h2 (fun k hk e => (h.fk i (idx_lt hi) k hk).2.1 e) (Ext.refl _ _) (h.fl.chg h2 fun q hq e => h.fm q hq e)
    fk := fun i hi k hk => ⟨(h.fk i hi k hk).1, (h.fk i hi k hk).2.1, fun e => (h3 k e).elim (h.fk i hi k hk).2.2 fun e => by have := lt i hi k hk; omega⟩
    dis := h.dis }
theorem StsAt.chg {K' S : Nat → Prop} (h : StsAt K L m Tm W φ F B) (hc : Chg S W W') (hS : ∀ k, S k → K k) (hf : ∀ q, φ q ≠ none → ¬ S q)
    (hK : ∀ k, K' k → K k ∨ (W.heap.size ≤ k ∧ k < W'.heap.size)) : StsAt K' L m Tm W' φ F B where
  kb := fun k hk => (hK k hk).elim (fun e => Nat.lt_of_lt_of_le (h.kb k e) hc.size) fun e => e.2
  rf := h.rf.chg hc (fun e => h.nm (hS m e)) fun k hk e => h.bk k hk (hS k e)
  bk := fun k hk e => (hK k e).elim (h.bk k hk) fun e => by have := (h.rf.free hk).1; omega
  nm := fun e => (hK m e).elim h.nm fun e => by have := h.rf.lt; omega
  fl := h.fl.chg hc hf
  fm := h.fm
  tr := fun i p T hi => (h.tr i p T hi).chg hc (fun k hk e => (h.fk i (idx_lt hi) k hk).1 (hS k e)) (Ext.refl _ _) (h.fl.chg hc hf)
  fk := fun i hi k hk => ⟨fun e => (hK k e).elim (h.fk i hi k hk).1 fun e => by
    have e2 : L[i]? = some (L[i].1, L[i].2) := List.getElem?_eq_getElem hi
    have := h.lt e2 k hk
    omega, (h.fk i hi k hk).2⟩
  dis := h.dis
theorem Pr.sts {A : Nat → Prop} (h : Pr W φ p A m B T) (hK : ∀ k, K k → k < W.heap.size) (hA : ∀ k, A k → ¬ K k) (hB : ∀ k, B k → ¬ K k) (hm : ¬ K m) : Sts K [(p, T)] m T W := by
  refine ⟨φ, fun _ => A, B, hK, h.rf, hB, hm, h.tr.files, h.fm, fun i q U hi => ?_, fun i hi k hk => ⟨hA k hk, h.am k hk⟩, fun i j hi hj hij => ?_⟩
  · cases i with
    | zero =>
      cases hi
      exact h.tr
    | succ i => cases hi
  · have h1 : i < 1 := hi
    have h2 : j < 1 := hj
    omega
end
def StEnd (K : Nat → Prop) (L : List (Nat × TS)) (m : Nat) (Tm : TS) (W : World) (v : Value) (e : Ending) (w' : World) : Prop := e = .returned v ∧ Sts K L m Tm w' ∧ Kp K W w'
section
variable {K : Nat → Prop} {L : List (Nat × TS)} {m p i n : Nat} {T Tm : TS} {W : World}
theorem Sts.tr (h : Sts K L m Tm W) (hi : L[i]? = some (p, T)) : ∃ φ A, Tr W φ p T A := by
  obtain ⟨φ, F, B, h⟩ := h
  exact ⟨φ, F i, h.tr i p T hi⟩
theorem Sts.rf (h : Sts K L m Tm W) : ∃ B, Rf W m Tm B := by
  obtain ⟨φ, F, B, h⟩ := h
  exact ⟨B, h.rf⟩
theorem Inv.runs2 (h : Inv n T) : ∀ k, k ≤ T.ch.length → (foldF T.last (T.ch.take k)).length ≤ 100000 ∧ ∀ f ∈ foldF T.last (T.ch.take k), f.f1.size ≤ 1000000000000 :=
  fun k hk => ⟨Nat.le_trans (h.runs k hk).many (by decide), fun f hf => Nat.le_trans ((h.runs k hk).texts f hf) (by decide)⟩
theorem Sts.Write (h : Sts K L m Tm W) (hi : L[i]? = some (p, T)) (hG : Glob W) (hI : Inv n T) (hn : n ≤ 1000000) (q s : ByteArray) (hq : q.size ≤ 100000) (hs : s.size ≤ 1000000000) :
    Calls Tryz.prog 52 #[.pointer (some ⟨p, 0, none⟩), .string q, .string s] W (StEnd K (L.set i (p, writeT T false q s)) m Tm W (.int .i64 (writeE T false q s))) := by
  obtain ⟨φ, F, B, h⟩ := h
  refine (Write_call W (h.tr i p T hi) hG (hI.tok hn) q s hq hs).mono ?_
  rintro e w' ⟨rfl, he⟩
  exact ⟨rfl, h.op hi he⟩
theorem Sts.Append (h : Sts K L m Tm W) (hi : L[i]? = some (p, T)) (hG : Glob W) (hI : Inv n T) (hn : n ≤ 1000000) (q s : ByteArray) (hq : q.size ≤ 100000) (hs : s.size ≤ 1000000000) :
    Calls Tryz.prog 45 #[.pointer (some ⟨p, 0, none⟩), .string q, .string s] W (StEnd K (L.set i (p, writeT T true q s)) m Tm W (.int .i64 (writeE T true q s))) := by
  obtain ⟨φ, F, B, h⟩ := h
  refine (Append_call W (h.tr i p T hi) hG (hI.tok hn) q s hq hs).mono ?_
  rintro e w' ⟨rfl, he⟩
  exact ⟨rfl, h.op hi he⟩
theorem Sts.Remove (h : Sts K L m Tm W) (hi : L[i]? = some (p, T)) (hG : Glob W) (hI : Inv n T) (hn : n ≤ 1000000) (q : ByteArray) (hq : q.size ≤ 100000) :
    Calls Tryz.prog 49 #[.pointer (some ⟨p, 0, none⟩), .string q] W (StEnd K (L.set i (p, removeT T q)) m Tm W (.int .i64 (removeE T q))) := by
  obtain ⟨φ, F, B, h⟩ := h
  refine (Remove_call W (h.tr i p T hi) (hI.tok hn) q hq).mono ?_
  rintro e w' ⟨rfl, he⟩
  exact ⟨rfl, h.op hi he⟩
theorem Sts.Rename (h : Sts K L m Tm W) (hi : L[i]? = some (p, T)) (hG : Glob W) (hI : Inv n T) (hn : n ≤ 1000000) (q r : ByteArray) (hq : q.size ≤ 100000) (hr : r.size ≤ 100000) :
    Calls Tryz.prog 53 #[.pointer (some ⟨p, 0, none⟩), .string q, .string r] W (StEnd K (L.set i (p, renameT T q r)) m Tm W (.int .i64 (renameE T q r))) := by
  obtain ⟨φ, F, B, h⟩ := h
  refine (Rename_call W (h.tr i p T hi) hG (hI.tok hn) q r hq hr).mono ?_
  rintro e w' ⟨rfl, he⟩
  exact ⟨rfl, h.op hi he⟩
theorem Sts.Sync (h : Sts K L m Tm W) (hi : L[i]? = some (p, T)) (hG : Glob W) (hI : Inv n T) (hn : n ≤ 1000000)  :
    Calls Tryz.prog 16 #[.pointer (some ⟨p, 0, none⟩)] W (StEnd K (L.set i (p, syncT T)) m Tm W (.tuple #[])) := by
  obtain ⟨φ, F, B, h⟩ := h
  refine (sync_call W (h.tr i p T hi)).mono ?_
  rintro e w' ⟨rfl, he⟩
  exact ⟨rfl, h.op hi he⟩
theorem Sts.Crash (h : Sts K L m Tm W) (hi : L[i]? = some (p, T)) (hG : Glob W) (hI : Inv n T) (hn : n ≤ 1000000) (many part : Int) (hp : part ≤ 9223372036854775807) :
    Calls Tryz.prog 17 #[.pointer (some ⟨p, 0, none⟩), .int .i64 many, .int .i64 part] W (StEnd K (L.set i (p, crashT T many part)) m Tm W (.tuple #[])) := by
  obtain ⟨φ, F, B, h⟩ := h
  refine (crash_call W (h.tr i p T hi) many part (hI.tok hn).chs hp (fun c hc => (hI.cin c hc).ok) hI.runs2).mono ?_
  rintro e w' ⟨rfl, he⟩
  exact ⟨rfl, h.op hi he⟩
theorem Sts.Read (h : Sts K L m Tm W) (hi : L[i]? = some (p, T)) (q : ByteArray) (hq : q.size ≤ 100000) : Calls Tryz.prog 81 #[.pointer (some ⟨p, 0, none⟩), .string q] W fun e w' => e = .returned (.tuple #[.string (readT T q).1, .int .i64 (readT T q).2]) ∧ W = w' := by
  obtain ⟨φ, A, ht⟩ := h.tr hi
  exact read_call W ht q hq
theorem Sts.rRead (h : Sts K L m Tm W) (hI : Inv n Tm) (q : ByteArray) : Calls Tryz.prog 85 #[.pointer (some ⟨m, 0, none⟩), .string q] W fun e w' => e = .returned (.tuple #[.string (readT Tm q).1, .int .i64 (readT Tm q).2]) ∧ Below W.heap.size W w' := by
  obtain ⟨B, ht⟩ := h.rf
  exact rRead_call W ht (Nat.le_trans hI.good.many (by decide)) q
theorem Sts.rSync (h : Sts K L m Tm W) : Calls Tryz.prog 57 #[.pointer (some ⟨m, 0, none⟩)] W (StEnd K L m (syncT Tm) W (.tuple #[])) := by
  obtain ⟨φ, F, B, h⟩ := h
  refine (rSync_call W h.rf).mono ?_
  rintro e w' ⟨rfl, he⟩
  exact ⟨rfl, h.rop he⟩
theorem Sts.rCrash (h : Sts K L m Tm W) (hI : Inv n Tm) (hn : n ≤ 1000000) (many part : Int) : Calls Tryz.prog 22 #[.pointer (some ⟨m, 0, none⟩), .int .i64 many, .int .i64 part] W (StEnd K L m (crashT Tm many part) W (.tuple #[])) := by
  obtain ⟨φ, F, B, h⟩ := h
  refine (rCrash_call W h.rf many part (hI.tok hn).chs (fun c hc => (hI.cin c hc).ok) hI.runs2).mono ?_
  rintro e w' ⟨rfl, he⟩
  exact ⟨rfl, h.rop he⟩
theorem Sts.rWrite (h : Sts K L m Tm W) (hI : Inv n Tm) (hn : n ≤ 1000000) (q s : ByteArray) (hq : q.size ≤ 100000) (hs : s.size ≤ 1000000000) : Calls Tryz.prog 58 #[.pointer (some ⟨m, 0, none⟩), .string q, .string s] W (StEnd K L m (writeT Tm false q s) W (.int .i64 (writeE Tm false q s))) := by
  obtain ⟨φ, F, B, h⟩ := h
  refine (rWrite_call W h.rf (hI.tok hn) hI.good.srt hI.good.pth q s hq hs).mono ?_
  rintro e w' ⟨rfl, he⟩
  exact ⟨rfl, h.rop he⟩
theorem Sts.rAppend (h : Sts K L m Tm W) (hI : Inv n Tm) (hn : n ≤ 1000000) (q s : ByteArray) (hq : q.size ≤ 100000) (hs : s.size ≤ 1000000000) : Calls Tryz.prog 48 #[.pointer (some ⟨m, 0, none⟩), .string q, .string s] W (StEnd K L m (writeT Tm true q s) W (.int .i64 (writeE Tm true q s))) := by
  obtain ⟨φ, F, B, h⟩ := h
  refine (rAppend_call W h.rf (hI.tok hn) hI.good.srt hI.good.pth q s hq hs).mono ?_
  rintro e w' ⟨rfl, he⟩
  exact ⟨rfl, h.rop he⟩
theorem Sts.rRemove (h : Sts K L m Tm W) (hI : Inv n Tm) (hn : n ≤ 1000000) (q : ByteArray) (hq : q.size ≤ 100000) : Calls Tryz.prog 55 #[.pointer (some ⟨m, 0, none⟩), .string q] W (StEnd K L m (removeT Tm q) W (.int .i64 (removeE Tm q))) := by
  obtain ⟨φ, F, B, h⟩ := h
  refine (rRemove_call W h.rf (hI.tok hn) q hq).mono ?_
  rintro e w' ⟨rfl, he⟩
  exact ⟨rfl, h.rop he⟩
theorem Sts.rRename (h : Sts K L m Tm W) (hI : Inv n Tm) (hn : n ≤ 1000000) (q r : ByteArray) (hq : q.size ≤ 100000) (hr : r.size ≤ 100000) : Calls Tryz.prog 59 #[.pointer (some ⟨m, 0, none⟩), .string q, .string r] W (StEnd K L m (renameT Tm q r) W (.int .i64 (renameE Tm q r))) := by
  obtain ⟨φ, F, B, h⟩ := h
  refine (rRename_call W h.rf (hI.tok hn) q r hq hr).mono ?_
  rintro e w' ⟨rfl, he⟩
  exact ⟨rfl, h.rop he⟩
end
abbrev Vw := World → Prop
structure Law (w : World) (K : Nat → Prop) (m : Nat) (L : List (Nat × TS)) (Tm : TS) (V : List Vw) (W : World) : Prop where
  g0 : Hand2.Glob w
  sts : Sts K L m Tm W
  bel : Below w.heap.size w W
  kw : ∀ k, k < w.heap.size → K k
  vs : ∀ P ∈ V, P W ∧ ∀ W1 W2, Kp K W1 W2 → P W1 → P W2
theorem Sts.boxed {W : World} {K : Nat → Prop} {m : Nat} {L : List (Nat × TS)} {Tm : TS} (h : Sts K L m Tm W) (o : Obj) : Sts (fun k => K k ∨ k = W.heap.size) L m Tm (W.alloc o) :=
  h.kept (newBelow W o) fun k hk => hk.imp id fun e => ⟨by omega, by rw [World.size_alloc]; omega⟩
section
variable {w W W' : World} {K : Nat → Prop} {m : Nat} {L L' : List (Nat × TS)} {Tm Tm' : TS} {V V' : List Vw}
theorem Law.glob (h : Law w K m L Tm V W) : Hand2.Glob W := h.g0.below h.bel
theorem Law.step (h : Law w K m L Tm V W) (hs : Sts K L' m Tm' W') (hk : Kp K W W') : Law w K m L' Tm' V W' where
  g0 := h.g0
  sts := hs
  bel := h.bel.trans (hk.below h.bel.size h.kw)
  kw := h.kw
  vs := fun x hx => ⟨(h.vs x hx).2 _ _ hk (h.vs x hx).1, (h.vs x hx).2⟩
theorem Law.below (h : Law w K m L Tm V W) (hb : Below W.heap.size W W') : Law w K m L Tm V W' := h.step (h.sts.below hb) (Kp.of hb)
theorem Law.keep (h : Law w K m L Tm V W) (o : Obj) : Law w (fun k => K k ∨ k = W.heap.size) m L Tm V (W.alloc o) :=
  { h.below (newBelow W o) with
    sts := h.sts.boxed o
    kw := fun k hk => .inl (h.kw k hk)
    vs := fun x hx => ⟨((h.below (newBelow W o)).vs x hx).1, fun W1 W2 hk => (h.vs x hx).2 W1 W2 (hk.mono fun k e => .inl e)⟩ }
theorem Law.box1 (h : Law w K m L Tm V W) (o : Obj) : Law w (fun k => K k ∨ k = W.heap.size) m L Tm ((fun W' => W'.heap[W.heap.size]? = some o) :: V) (W.alloc o) :=
  { h.keep o with
    vs := fun x hx => by
      rcases List.mem_cons.1 hx with rfl | hx
      · exact ⟨World.alloc_heap_new W o, fun W1 W2 hk h1 => (hk.block (.inr rfl) (Array.getElem?_eq_some_iff.1 h1).1).trans h1⟩
      · exact (h.keep o).vs x hx }
theorem Law.drop {K0 : Nat → Prop} {V0 : List Vw} {L0 : List (Nat × TS)} {T0 : TS} {W0 : World} (h : Law w K m L Tm V W) (h0 : Law w K0 m L0 T0 V0 W0) (hK : ∀ k, K0 k → K k) (hV : ∀ x ∈ V0, x ∈ V) : Law w K0 m L Tm V0 W where
  g0 := h.g0
  sts := h.sts.drop hK
  bel := h.bel
  kw := h0.kw
  vs := fun x hx => ⟨(h.vs x (hV x hx)).1, (h0.vs x hx).2⟩
theorem Law.va (h : Law w K m L Tm V W) (i : Nat) {P : Vw} (hi : V[i]? = some P) : P W := (h.vs _ (List.mem_of_getElem? hi)).1
theorem cell_box {W : World} {u : Nat} {cs : Array Value} {ty : TypeId} {fr : Nat × Nat} (h : W.heap[u]? = some (.cells cs ty fr)) (j : Nat) {v : Value} (hj : cs[j]? = some v) : W.cell? ⟨u, j, none⟩ = some v := by
  simp [World.cell?, h, hj]
end
def Begun7End (w : World) (φ : Phi) (room : Int) (e : Ending) (w' : World) : Prop :=
  ∃ p A m B, e = .returned (.tuple #[.agg #[.pointer (some ⟨p, 0, none⟩), .pointer (some ⟨m, 0, none⟩)], .bool true]) ∧ Pr w' φ p A m B (newT room) ∧ Below w.heap.size w w' ∧ (∀ k, A k → w.heap.size ≤ k) ∧ (∀ k, B k → w.heap.size ≤ k) ∧ w.heap.size ≤ m
set_option maxHeartbeats 2000000 in
set_option maxRecDepth 100000 in
theorem begun7_call (w : World) (φ : Phi) (hF : FilesOK w φ) (room : Int) (h1 : 1 ≤ room) (h2 : room ≤ 1073741824) : Calls Tryz.prog 9 #[.int .i64 room] w (Begun7End w φ room) := by
  have HF := Lib.hid hF
  clear hF
  go_enter Tryz.func9, Tryz.ntmps9
  go_wp2_with (first
    | (go_at_call 27; refine (new_call _ φ (HF.out.below (newBelow w _)) room h1 h2).mono ?_; rintro e w1 ⟨p, A, rfl, ht, hb, ha⟩; have HT := Lib.hid ht; have HB := Lib.hid ((newBelow w _).trans (hb.mono (by rw [World.size_alloc]; omega))); have HA := Lib.hid ha; have HAT1 := Lib.hid ((hb.block w.heap.size (by rw [World.size_alloc]; omega)).trans (World.alloc_heap_new w _)); clear ht hb ha)
    | (go_at_call 28; refine (rNew_call _ room h1 h2).mono ?_; rintro e w2 ⟨m, B, rfl, hr, hb2, hm, hB2⟩; have HR := Lib.hid hr; have HB2 := Lib.hid hb2; have HM := Lib.hid hm; have HBB := Lib.hid hB2; have hat2 := (hb2.block w.heap.size (Array.getElem?_eq_some_iff.1 HAT1.out).1).trans HAT1.out; have HAT2 := Lib.hid hat2; have d0 : w2.cell? ⟨w.heap.size, 0, none⟩ = some (.pointer none) := (by simp [World.cell?, hat2]); have d1 : w2.cell? ⟨w.heap.size, 1, none⟩ = some (.pointer none) := (by simp [World.cell?, hat2]); have g0 : w2.frozen? ⟨w.heap.size, 0, none⟩ = false := (by simp [World.frozen?, hat2]); have g1 : w2.frozen? ⟨w.heap.size, 1, none⟩ = false := (by simp [World.frozen?, hat2]); clear hat2 hr hb2 hm hB2))
  have hlt2 : w.heap.size < w2.heap.size := (Array.getElem?_eq_some_iff.1 HAT2.out).1
  have HEND : Hid (Begun7End w φ room (.returned (.tuple #[.agg #[.pointer (some ⟨p, 0, none⟩), .pointer (some ⟨m, 0, none⟩)], .bool true])) ((w2.setCell ⟨w.heap.size, 0, none⟩ (.pointer (some ⟨p, 0, none⟩))).setCell ⟨w.heap.size, 1, none⟩ (.pointer (some ⟨m, 0, none⟩)))) := by
    have hC : Chg (fun k => k = w.heap.size) w2 ((w2.setCell ⟨w.heap.size, 0, none⟩ (.pointer (some ⟨p, 0, none⟩))).setCell ⟨w.heap.size, 1, none⟩ (.pointer (some ⟨m, 0, none⟩))) := ((Chg.refl (fun k => k = w.heap.size) w2).setCell (p := ⟨w.heap.size, 0, none⟩) (fun _ => rfl) _).setCell (p := ⟨w.heap.size, 1, none⟩) (fun _ => rfl) _
    have hA := HA.out
    have hM := HM.out
    have hBB := HBB.out
    have hs1 : w.heap.size + 1 ≤ w1.heap.size := (Array.getElem?_eq_some_iff.1 HAT1.out).1
    have hT2 := HT.out.below HB2.out
    have hsz : (w.alloc (.cells #[.pointer none, .pointer none] 27)).heap.size = w.heap.size + 1 := World.size_alloc _ _
    have hA' : ∀ k, A k → w.heap.size + 1 ≤ k := fun k hk => by have := hA k hk; omega
    refine ⟨p, A, m, B, rfl, ⟨hT2.chg hC (fun k hk e => by have := hA' k hk; omega) (Ext.refl _ _) (hT2.files.chg hC fun q hq e => ?_), HR.out.chg hC (fun e => by omega) (fun k hk e => by have := hBB k hk; omega), fun k hk => ⟨fun e => ?_, fun e => ?_⟩, fun k hk e => ?_⟩, ?_, fun k hk => (by have := hA' k hk; omega), fun k hk => (by have := hBB k hk; omega), by omega⟩
    · have := HF.out.lt hq
      omega
    · have := (HT.out.free hk).1
      omega
    · have h1 := (HT.out.free hk).1
      have h2 := hBB k e
      omega
    · have := HF.out.lt hk
      omega
    · exact ((Chg.of_below (HB.out.trans (HB2.out.mono HB.out.size)) (fun _ => False)).trans hC fun k hk e => by omega).to_below (Nat.le_refl _) fun k hk => hk.elim
  refine bodyPost_ret (v := .tuple #[.agg #[.pointer (some ⟨p, 0, none⟩), .pointer (some ⟨m, 0, none⟩)], .bool true]) ?_ rfl HEND.out
  rw [results_cell_tmp rfl]
  go_simp
theorem VA_at {w : World} {ok : Nat → Prop} {v : Value} {l : List Fl} (h : VA w ok v (l.map af)) {i : Nat} (hi : i < l.length) : ∃ ad c, v = .slice (some ad) l.length c ∧ l.length ≤ c ∧ w.cell? (ad.add (i * 2)) = some (.string l[i].f0) ∧ w.cell? ⟨(ad.add (i * 2)).block, (ad.add (i * 2)).off + 1, none⟩ = some (.string l[i].f1) := by
  obtain ⟨A, c, rfl⟩ := Kd.V_slice h
  obtain ⟨_, hc, hC⟩ := Kd.V_reads' h
  have hlen : (l.map af).length = l.length := List.length_map _
  have := at_A hC (i : Int) (by omega) (by omega)
  have e : rd_A (l.map af) (i : Int) = af l[i] := by
    unfold rd_A
    rw [Int.toNat_natCast, List.getD_eq_getElem?_getD, List.getElem?_eq_getElem (by omega), Option.getD_some, List.getElem_map]
  rw [e, Int.toNat_natCast] at this
  obtain ⟨ad, rfl, h1, h2⟩ := this
  rw [hlen] at hc ⊢
  exact ⟨ad, c, rfl, hc, h1, h2⟩
theorem VA.slice {w : World} {ok : Nat → Prop} {v : Value} {l : List Fl} (h : VA w ok v (l.map af)) : ∃ A c, v = .slice A l.length c := by
  obtain ⟨A, c, rfl⟩ := Kd.V_slice h
  exact ⟨A, c, by rw [List.length_map]⟩
def PBox7 (p m b : Nat) (W : World) : Prop := W.heap[b]? = some (.cells #[.pointer (some ⟨p, 0, none⟩), .pointer (some ⟨m, 0, none⟩)] 27)
theorem PBox7.cells {W : World} {p m b : Nat} (h : PBox7 p m b W) : W.cell? ⟨b, 0, none⟩ = some (.pointer (some ⟨p, 0, none⟩)) ∧ W.cell? ⟨b, 1, none⟩ = some (.pointer (some ⟨m, 0, none⟩)) := by
  have h : W.heap[b]? = _ := h
  constructor <;> simp [World.cell?, h]
theorem PBox7.chg {W W' : World} {p m b : Nat} {S : Nat → Prop} (h : PBox7 p m b W) (hc : Chg S W W') (hs : ¬ S b) : PBox7 p m b W' := (hc.block _ (Array.getElem?_eq_some_iff.1 h).1 hs).trans h
theorem PBox7.below {W W' : World} {p m b : Nat} (h : PBox7 p m b W) (hb : Below W.heap.size W W') : PBox7 p m b W' := h.chg (Chg.of_below hb fun _ => False) fun e => e
theorem Rf.slices {w : World} {m : Nat} {T : TS} {B : Nat → Prop} (h : Rf w m T B) : ∃ Al cl As cs Ac cc, RfAt w m T B (.slice Al T.l.length cl) (.slice As T.last.length cs) (.slice Ac T.ch.length cc) := by
  obtain ⟨vl, vs, vc, h⟩ := h
  obtain ⟨Al, cl, e1⟩ := Kd.V_slice h.now
  obtain ⟨As, cs, e2⟩ := Kd.V_slice h.last
  obtain ⟨Ac, cc, e3⟩ := Kd.V_slice h.row
  subst e1
  subst e2
  subst e3
  exact ⟨Al, cl, As, cs, Ac, cc, h⟩
section
variable {w : World} {φ : Phi} {p m : Nat} {A B : Nat → Prop} {T : TS} {n : Nat}
set_option maxHeartbeats 4000000 in
set_option maxRecDepth 100000 in
theorem alike7_call (hP : Pr w φ p A m B T) (hI : Inv n T) (hn : n ≤ 1000000) :
    Calls Tryz.prog 20 #[.agg #[.pointer (some ⟨p, 0, none⟩), .pointer (some ⟨m, 0, none⟩)]] w fun e w' => e = .returned (.bool true) ∧ Below w.heap.size w w' := by
  have HP := Lib.hid hP
  have HI := Lib.hid hI
  have HO := Lib.hid (hI.tok hn)
  have HU : Hid (usedF T.l ≤ 1000000000000000 ∧ usedF T.l ≤ 10000000000000000 ∧ T.l.length ≤ 100000 ∧ T.ch.length ≤ 1000000) := by
    have h1 := hI.good.used
    have h2 := hI.room
    have h3 := hI.good.many
    have h4 := hI.chs
    exact ⟨by omega, by omega, by omega, by omega⟩
  clear hP hI
  go_enter Tryz.func20, Tryz.ntmps20
  go_upto_region 2 with (first | (go_at_call 36; refine (all_view (HP.out.tr.below (newBelow w _)) HI.out).mono ?_; rintro e w1 ⟨v, rfl, hv, hb⟩; have HB1 := Lib.hid ((newBelow w _).trans (hb.mono (by rw [World.size_alloc]; omega))); have HX1 : Hid (PBox7 p m w.heap.size w1) := PBox7.below (World.alloc_heap_new w _) hb; have HV := Lib.hid hv; clear hv hb))
  obtain ⟨A1, k1, rfl⟩ := HV.out.slice
  obtain ⟨Al, cl, As, cs, Ac, cc, hrf⟩ := (HP.out.rf.below HB1.out).slices
  have HRF := Lib.hid hrf
  have HS : Hid (∀ W, Below w1.heap.size w1 W → (W.cell? ⟨w.heap.size, 0, none⟩ = some (.pointer (some ⟨p, 0, none⟩)) ∧ W.cell? ⟨w.heap.size, 1, none⟩ = some (.pointer (some ⟨m, 0, none⟩)) ∧ W.cell? ⟨m, 2, none⟩ = some (.slice Al T.l.length cl) ∧ W.cell? ⟨m, 4, none⟩ = some (.slice Ac T.ch.length cc)) ∧ Hid (Below w1.heap.size w1 W)) := fun W hW => by
    have h1 := (HX1.out.below hW).cells
    have h2 := HRF.out.below hW
    exact ⟨⟨h1.1, h1.2, h2.c2, h2.c4⟩, hW⟩
  have HB0 : Hid (Below w1.heap.size w1 w1.drew) := (Below.refl _ w1).drew
  obtain ⟨c0, c1⟩ := HX1.out.cells
  have c2 := hrf.c2
  have c4 := hrf.c4
  clear hrf
  have HPW : Hid (∀ W, Below w1.heap.size w1 W → Pr W φ p A m B T) := fun W hW => (HP.out.below HB1.out).below hW
  (go_region_held3 (fun W => (W.cell? ⟨w.heap.size, 0, none⟩ = some (.pointer (some ⟨p, 0, none⟩)) ∧ W.cell? ⟨w.heap.size, 1, none⟩ = some (.pointer (some ⟨m, 0, none⟩)) ∧ W.cell? ⟨m, 2, none⟩ = some (.slice Al T.l.length cl) ∧ W.cell? ⟨m, 4, none⟩ = some (.slice Ac T.ch.length cc)) ∧ Hid (Below w1.heap.size w1 W)) (first | exact HS.out _ HB3.out | exact HS.out _ HB2.out | exact HS.out _ HB0.out) (first
    | (go_at_call 37; refine (used_call _ (HPW.out _ HB0.out).tr HU.out.1).mono ?_; rintro e w2 ⟨rfl, hb⟩; have HB2 := Lib.hid (HB0.out.trans hb); clear hb)
    | (go_at_call 38; refine (rUsed_call _ (HPW.out _ HB2.out).rf HU.out.2.2.1 HU.out.2.1).mono ?_; rintro e w3 ⟨rfl, hb⟩; have HB3 := Lib.hid (HB2.out.trans (hb.mono HB2.out.size)); clear hb)
    | (go_at_call 39; refine (pending_call _ (HPW.out _ HB3.out).tr).mono ?_; rintro e w4 ⟨rfl, rfl⟩)))
  go_wp2_with fail
  clear c0 c1 c2 c4 HB2 HB0
  have hn1 := HU.out.2.2.1
  go_loopw [4] (fun i wr => ∃ (k : Nat), k ≤ T.l.length ∧ i = .int .i64 k ∧ Hid (Below w1.heap.size w1 wr))
    (fun i _ => T.l.length - (intOf i).toNat)
  case atStart => exact ⟨0, Nat.zero_le _, rfl, HB3.out⟩
  case round =>
    obtain ⟨k, hk, rfl, HB⟩ := hrel
    by_cases hlk : k < T.l.length
    · obtain ⟨⟨c0, c1, c2, c4⟩, _⟩ := HS.out _ HB.out
      obtain ⟨ad, cx, e, hcx, q0, q1, q2⟩ := VF_at (HRF.out.below HB.out).now hlk
      cases e
      obtain ⟨ad1, cx1, e, hcx1, r0, r1⟩ := VA_at (HV.out.below HB.out) hlk
      cases e
      have hfind := Lib.hid (find_of_srt HI.out.good.srt (List.getElem_mem hlk))
      have hpth := Lib.hid (HI.out.good.pth _ (List.getElem_mem hlk))
      generalize T.l[k] = f at q0 q1 q2 r0 r1 hfind hpth
      have HST : Hid (statT T f.f0 = ((f.f1.size : Int), f.f2, 0)) := by unfold Hid statT; rw [hfind.out]
      have HPS : Hid (f.f0.size ≤ 100000) := Nat.le_trans (path_size hpth.out) (by decide)
      have hl0 := cell_lt c0
      have hl2 := cell_lt q0
      have hl3 := cell_lt r0
      go_upto_region 9 with (first
        | (go_at_call 40; refine (stat_call _ ((HPW.out _ HB.out).below (newBelow _ _)).tr f.f0 HPS.out).mono ?_; rintro e w4 ⟨rfl, hb⟩; rw [HST.out]; have HB4 := Lib.hid hb; clear hb))
      have hB5 : Hid (Below wr.heap.size wr (w4.alloc (.cells #[.int .i64 f.f1.size, .int .i64 f.f2] 91))) := ((newBelow wr _).trans (HB4.out.mono (by rw [World.size_alloc]; omega))).alloc (Nat.le_trans (by rw [World.size_alloc]; omega) HB4.out.size) _
      have hfb : (w4.alloc (.cells #[.int .i64 f.f1.size, .int .i64 f.f2] 91)).heap[wr.heap.size]? = some (.cells #[.string f.f0, .string f.f1, .int .i64 f.f2] 89 (0, 0)) := by
        have hlt4 : wr.heap.size < w4.heap.size := Nat.lt_of_lt_of_le (by rw [World.size_alloc]; omega) HB4.out.size
        rw [Below.heap_alloc _ _ _ hlt4]
        exact (HB4.out.block wr.heap.size (by rw [World.size_alloc]; omega)).trans (World.alloc_heap_new wr _)
      have hib : (w4.alloc (.cells #[.int .i64 f.f1.size, .int .i64 f.f2] 91)).heap[w4.heap.size]? = some (.cells #[.int .i64 f.f1.size, .int .i64 f.f2] 91 (0, 0)) := World.alloc_heap_new w4 _
      have s0 := (hB5.out.cell (p := ad1.add (k * 2)) hl3).trans r0
      have s1 := (hB5.out.cell (p := ⟨(ad1.add (k * 2)).block, (ad1.add (k * 2)).off + 1, none⟩) hl3).trans r1
      generalize w4.alloc (.cells #[.int .i64 f.f1.size, .int .i64 f.f2] 91) = w5 at hB5 hfb hib s0 s1
      have t0 : w5.cell? ⟨wr.heap.size, 0, none⟩ = some (.string f.f0) := by simp [World.cell?, hfb]
      have t1 : w5.cell? ⟨wr.heap.size, 1, none⟩ = some (.string f.f1) := by simp [World.cell?, hfb]
      have t2 : w5.cell? ⟨wr.heap.size, 2, none⟩ = some (.int .i64 f.f2) := by simp [World.cell?, hfb]
      have u0 : w5.cell? ⟨w4.heap.size, 0, none⟩ = some (.int .i64 f.f1.size) := by simp [World.cell?, hib]
      have u1 : w5.cell? ⟨w4.heap.size, 1, none⟩ = some (.int .i64 f.f2) := by simp [World.cell?, hib]
      clear hfb hib q0 q1 q2 r0 r1 c0 c1 c2 c4
      go_quiet (fail)
      go_wp2_with fail
      go_roundw
      case rel => exact ⟨k + 1, by omega, by go_num, pw_below_drewN (HB.out.trans (hB5.out.mono HB.out.size)) _⟩
      case measure => simp [intOf]; omega
    · go_wp2_with fail
      go_ret
      exact ⟨rfl, HB1.out.trans (HB.out.mono HB1.out.size)⟩
end
theorem StsAt.pr7 {K : Nat → Prop} {L : List (Nat × TS)} {m p : Nat} {T : TS} {W : World} {φ : Phi} {F : Nat → Nat → Prop} {B : Nat → Prop} (h : StsAt K ((p, T) :: L) m T W φ F B) : Pr W φ p (F 0) m B T :=
  ⟨h.tr 0 p T rfl, h.rf, fun k hk => (h.fk 0 (Nat.zero_lt_succ _) k hk).2, h.fm⟩
theorem Sts.Alike7 {K : Nat → Prop} {L : List (Nat × TS)} {m p n : Nat} {T : TS} {W : World} (h : Sts K ((p, T) :: L) m T W) (hI : Inv n T) (hn : n ≤ 1000000) :
    Calls Tryz.prog 20 #[.agg #[.pointer (some ⟨p, 0, none⟩), .pointer (some ⟨m, 0, none⟩)]] W fun e w' => e = .returned (.bool true) ∧ Below W.heap.size W w' := by
  obtain ⟨φ, F, B, h⟩ := h
  exact alike7_call h.pr7 hI hn
def BegEnd7 (W : World) (room : Int) (e : Ending) (w' : World) : Prop := ∃ p m, e = .returned (.tuple #[.agg #[.pointer (some ⟨p, 0, none⟩), .pointer (some ⟨m, 0, none⟩)], .bool true]) ∧ Sts (fun k => k < W.heap.size) [(p, newT room)] m (newT room) w' ∧ Below W.heap.size W w'
theorem begun7_sts (W : World) (room : Int) (h1 : 1 ≤ room) (h2 : room ≤ 1073741824) : Calls Tryz.prog 9 #[.int .i64 room] W (BegEnd7 W room) := by
  refine (begun7_call W (fun _ => none) (fun q f e => by cases e) room h1 h2).mono ?_
  rintro e w' ⟨p, A, m, B, rfl, hP, hb, hA, hB, hm⟩
  exact ⟨p, m, rfl, hP.sts (fun k hk => Nat.lt_of_lt_of_le hk hb.size) (fun k hk e => by have := hA k hk; omega) (fun k hk e => by have := hB k hk; omega) (by omega), hb⟩
theorem law_begun7 {w W W1 : World} {p m : Nat} {room : Int} (hG : Hand2.Glob w) (hb0 : Below w.heap.size w W) (hs : Sts (fun k => k < W.heap.size) [(p, newT room)] m (newT room) W1) (hb : Below W.heap.size W W1) :
    Law w (fun k => k < W.heap.size ∨ k = W1.heap.size) m [(p, newT room)] (newT room) [fun W' => W'.heap[W1.heap.size]? = some (.cells #[.pointer (some ⟨p, 0, none⟩), .pointer (some ⟨m, 0, none⟩)] 27)] (W1.alloc (.cells #[.pointer (some ⟨p, 0, none⟩), .pointer (some ⟨m, 0, none⟩)] 27)) :=
  Law.box1 (K := fun k => k < W.heap.size) { g0 := hG, sts := hs, bel := hb0.trans (hb.mono hb0.size), kw := fun k hk => Nat.lt_of_lt_of_le hk hb0.size, vs := fun x hx => by cases hx } _
end Go.Proofs.YtghbaehbgefpaaaGreatDoor.Fr
