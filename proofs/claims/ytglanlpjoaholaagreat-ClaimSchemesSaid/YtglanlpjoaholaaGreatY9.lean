/- Contract: Check (crop), where all is right. -/
import Derived.Test.YtglanlpjoaholaaGreatY8
namespace Go.Proofs.YtglanlpjoaholaaGreat
open Go.RowKit Go.Shelf
set_option linter.unusedVariables false
set_option linter.unusedSimpArgs false

/-- A crop. -/
structure Cp where
  nm : ByteArray
  fam : Int
  mks : Int
def kCells (l : List Cp) : List Value := l.flatMap fun x => [.string x.nm, .int .i64 x.fam, .int .i64 x.mks]
theorem kCells_len (l : List Cp) : (kCells l).length = l.length * 3 := by
  induction l with
  | nil => rfl
  | cons o r ih => simp [kCells] at *; omega
theorem kCells_at (l : List Cp) (i : Nat) (h : i < l.length) : (kCells l)[i * 3]? = some (.string l[i].nm) ∧ (kCells l)[i * 3 + 1]? = some (.int .i64 l[i].fam) ∧ (kCells l)[i * 3 + 2]? = some (.int .i64 l[i].mks) := by
  induction l generalizing i with
  | nil => simp at h
  | cons o r ih =>
    have hc : kCells (o :: r) = [.string o.nm, .int .i64 o.fam, .int .i64 o.mks] ++ kCells r := by simp [kCells]
    rw [hc]
    rcases i with _ | i
    · simp
    · have := ih i (by simpa using h)
      refine ⟨?_, ?_, ?_⟩ <;> rw [List.getElem?_append_right (by simp; omega)]
      · rw [show (i + 1) * 3 - ([Value.string o.nm, .int .i64 o.fam, .int .i64 o.mks] : List Value).length = i * 3 from by simp; omega]; exact this.1
      · rw [show (i + 1) * 3 + 1 - ([Value.string o.nm, .int .i64 o.fam, .int .i64 o.mks] : List Value).length = i * 3 + 1 from by simp; omega]; exact this.2.1
      · rw [show (i + 1) * 3 + 2 - ([Value.string o.nm, .int .i64 o.fam, .int .i64 o.mks] : List Value).length = i * 3 + 2 from by simp; omega]; exact this.2.2
/-- A slice of crops. -/
structure SlC (w : World) (A : Option Addr) (n c : Nat) (l : List Cp) : Prop where
  len : l.length = n
  cap : n ≤ c
  top : c ≤ maxLen
  lies : Lies w A n (kCells l)
theorem SlC.below {w w' : World} {A : Option Addr} {n c : Nat} {l : List Cp} (h : SlC w A n c l) (hb : Below w.heap.size w w') : SlC w' A n c l := ⟨h.len, h.cap, h.top, h.lies.below hb⟩
theorem SlC.at {w : World} {A : Option Addr} {n c : Nat} {l : List Cp} (h : SlC w A n c l) (i : Nat) (hi : i < l.length) :
    ∃ b off, A = some ⟨b, off, none⟩ ∧ b < w.heap.size ∧ w.cell? ⟨b, off + i * 3, none⟩ = some (.string l[i].nm) ∧ w.cell? ⟨b, off + i * 3 + 1, none⟩ = some (.int .i64 l[i].fam) ∧ w.cell? ⟨b, off + i * 3 + 2, none⟩ = some (.int .i64 l[i].mks) := by
  obtain ⟨b, off, e, hb, hc⟩ := h.lies.resolve_left (by have := h.len; omega)
  obtain ⟨h0, h1, h2⟩ := kCells_at l i hi
  exact ⟨b, off, e, hb, hc _ _ h0, hc _ _ h1, hc _ _ h2⟩
/-- Whether a text comes not behind another one. -/
def leqS (a b : ByteArray) : Bool := Go.Op.bytesLess a.toList b.toList || a.toList == b.toList
/-- A catalogue that is right. -/
def cropsB (l : List Cp) : Prop := l.length ≤ 40 ∧ (∀ x ∈ l, lettersB x.nm = true ∧ (0 ≤ x.fam ∧ x.fam ≤ 40) ∧ 0 ≤ x.mks ∧ x.mks ≤ 31) ∧ ∀ i (h : i + 1 < l.length), leqS l[i + 1].nm l[i].nm = false

set_option maxHeartbeats 4000000 in
set_option maxRecDepth 100000 in
theorem cropCheck_any (A : Option Addr) (n c : Nat) (l : List Cp) (w : World) (hA : SlC w A n c l) (hok : cropsB l) :
    Calls Tryz.prog 102 #[.slice A n c] w fun e w' => e = .returned (.int .i64 0) ∧ Below w.heap.size w w' := by
  have HA := Lib.hid hA
  have Hn := Lib.hid hA.len
  have Hok := Lib.hid hok
  have hn40 : n ≤ 40 := by have := hok.1; have := hA.len; omega
  clear hA hok
  have hbig : ¬ (40 : Int) < (n : Int) := by omega
  go_enter Tryz.func102, Tryz.ntmps102
  go_wp2_with fail
  go_loopw [3, 10] (fun _ iv wr => ∃ k : Nat, k ≤ n ∧ iv = .int .i64 (k : Int) ∧ Below w.heap.size w wr) (fun _ iv _ => n - (intOf iv).toNat)
  case atStart => exact ⟨0, Nat.zero_le _, rfl, Below.refl _ _⟩
  case round =>
    obtain ⟨k, hk, rfl, hbw⟩ := hrel
    have Hbw := Lib.hid hbw
    have hsw := hbw.size
    clear hbw
    by_cases hkn : k < n
    · have hkn' : (k : Int) < (n : Int) := by omega
      have hkl : k < l.length := by have := Hn.out; omega
      obtain ⟨b, off, rfl, hb, c0, c1, c2⟩ := (HA.out.below Hbw.out).at k hkl
      obtain ⟨hnm, hfam, hmk⟩ := Hok.out.2.1 l[k] (List.getElem_mem hkl)
      have Hord : Hid (∀ j (hj : j < l.length), k = j + 1 → leqS l[k].nm l[j].nm = false) := Lib.hid (fun j hj e => by subst e; exact Hok.out.2.2 j hkl)
      generalize l[k] = y at *
      obtain ⟨nm, fam, mk⟩ := y
      dsimp only at *
      have Hnm := Lib.hid (fun W => name_any nm W hnm)
      have f1 : ¬ fam < 0 := by omega
      have f2 : ¬ 40 < fam := by omega
      have f3 : ¬ mk < 0 := by omega
      have f4 : ¬ 31 < mk := by omega
      have hrow := heap_alloc_new wr (.cells #[.string nm, .int .i64 fam, .int .i64 mk] 57)
      have Hba : Hid (Below wr.heap.size wr (wr.alloc (.cells #[.string nm, .int .i64 fam, .int .i64 mk] 57))) := Lib.hid (by repeat' (first | with_reducible exact Below.refl _ _ | with_reducible refine below_drewN ?_ _ | with_reducible refine Below.drew ?_ | with_reducible refine Below.alloc ?_ ?_ _ | with_reducible refine Below.setCell ?_ ?_ _ | with_reducible refine Below.trans ?_ (Below.mono (by with_reducible assumption) ?_) | (simp; done) | (simp; omega) | omega))
      have hla : wr.heap.size < (wr.alloc (.cells #[.string nm, .int .i64 fam, .int .i64 mk] 57)).heap.size := by simp
      go_upto_block 2 with fail
      obtain ⟨T, hT⟩ : ∃ T, wr.heap.size = T := ⟨_, rfl⟩
      rw [hT] at hrow hla ⊢
      generalize wr.alloc (.cells #[.string nm, .int .i64 fam, .int .i64 mk] 57) = wa at *
      have Hbwa : Hid (Below w.heap.size w wa) := Lib.hid (Hbw.out.trans (Hba.out.mono hsw))
      have a0 := cell_of_row wa T 0 _ _ _ hrow
      have a1 := cell_of_row wa T 1 _ _ _ hrow
      have a2 := cell_of_row wa T 2 _ _ _ hrow
      clear c0 c1 c2 hrow hT
      by_cases hk0 : 0 < k
      · have hk0' : (0 : Int) < (k : Int) := by omega
        have hk0d : decide ((0 : Int) < (k : Int)) = true := decide_eq_true hk0'
        obtain ⟨j, hj⟩ : ∃ j, k = j + 1 := ⟨k - 1, by omega⟩
        have hjl : j < l.length := by omega
        obtain ⟨b', off', e', hb', d0, -, -⟩ := (HA.out.below Hbwa.out).at j hjl
        injection e' with e'
        injection e' with e1 e2
        subst e1 e2
        have hlq := Hord.out j hjl hj
        generalize l[j].nm = pn at *
        have hwk : IntKind.i64.wrap ((k : Int) - 1) = (j : Int) := by rw [show (k : Int) - 1 = (j : Int) by omega]; exact IntWalk.i64_in _ (by omega)
        have hjn : (j : Int) < (n : Int) := by omega
        have Hj := Lib.hid hj
        clear hj
        unfold leqS at hlq
        go_wp2_with (first | (go_at_call 115; refine (Hnm.out _).mono ?_; rintro e w' ⟨rfl, rfl⟩) | fail)
        go_quiet (fail)
        go_wp2
        go_roundw
        case rel => exact ⟨k + 1, by omega, by go_num, below_drewN Hbwa.out _⟩
        case measure => simp [intOf]; omega
      · obtain rfl : k = 0 := by omega
        have hk0d : decide ((0 : Int) < ((0 : Nat) : Int)) = false := rfl
        go_wp2_with (first | (go_at_call 115; refine (Hnm.out _).mono ?_; rintro e w' ⟨rfl, rfl⟩) | fail)
        go_quiet (fail)
        go_wp2
        go_roundw
        case rel => exact ⟨1, by omega, by go_num, below_drewN Hbwa.out _⟩
        case measure => simp [intOf]; omega
    · have hkn' : ¬ (k : Int) < (n : Int) := by omega
      go_wp2
      go_ret
      exact ⟨rfl, Hbw.out⟩
end Go.Proofs.YtglanlpjoaholaaGreat
