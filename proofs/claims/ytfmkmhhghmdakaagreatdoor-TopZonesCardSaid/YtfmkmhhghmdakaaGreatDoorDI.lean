/- Contract: Add of ref09, at layers and features that are right: the walk. (Printed by genNE.py.) -/
import Derived.Test.YtfmkmhhghmdakaaGreatDoorDA
import Derived.Test.YtfmkmhhghmdakaaGreatDoorDC
import Derived.Test.YtfmkmhhghmdakaaGreatDoorDH
namespace Go.Proofs.YtfmkmhhghmdakaaGreatDoor
open Go.RowKit
set_option linter.unusedVariables false
set_option linter.unusedSimpArgs false

structure Ft where
  num : Int
  kd : Int
  fr : Int
  un : Int
  rg : List R4
abbrev FtL := List (Ft × LV)
def ftC (x : Ft × LV) : List Value := [.int .i64 x.1.num, .int .i64 x.1.kd, .int .i64 x.1.fr, .int .i64 x.1.un, .slice x.2.a x.1.rg.length x.2.c]
def ftCells (l : FtL) : List Value := l.flatMap ftC
theorem ftCells_snoc (l : FtL) (x : Ft × LV) : ftCells (l ++ [x]) = ftCells l ++ [.int .i64 x.1.num, .int .i64 x.1.kd, .int .i64 x.1.fr, .int .i64 x.1.un, .slice x.2.a x.1.rg.length x.2.c] := by simp [ftCells, ftC]
theorem ftCells_app (l m : FtL) : ftCells (l ++ m) = ftCells l ++ ftCells m := by simp [ftCells]
theorem ftCells_len (l : FtL) : (ftCells l).length = l.length * 5 := by
  induction l with
  | nil => rfl
  | cons o r ih => simp [ftCells, ftC] at *; omega
theorem ftCells_at (l : FtL) (i : Nat) (h : i < l.length) : (ftCells l)[i * 5]? = some (.int .i64 l[i].1.num) ∧ (ftCells l)[i * 5 + 1]? = some (.int .i64 l[i].1.kd) ∧ (ftCells l)[i * 5 + 2]? = some (.int .i64 l[i].1.fr) ∧ (ftCells l)[i * 5 + 3]? = some (.int .i64 l[i].1.un) ∧ (ftCells l)[i * 5 + 4]? = some (.slice l[i].2.a l[i].1.rg.length l[i].2.c) := by
  induction l generalizing i with
  | nil => simp at h
  | cons o r ih =>
    have hc : ftCells (o :: r) = ftC o ++ ftCells r := by simp [ftCells]
    have hl : (ftC o).length = 5 := rfl
    rw [hc]
    rcases i with _ | i
    · simp [ftC]
    · have := ih i (by simpa using h)
      refine ⟨?_, ?_, ?_, ?_, ?_⟩ <;> (rw [List.getElem?_append_right (by rw [hl]; omega), hl])
      · rw [show (i + 1) * 5 - 5 = i * 5 from by omega]; exact this.1
      · rw [show (i + 1) * 5 + 1 - 5 = i * 5 + 1 from by omega]; exact this.2.1
      · rw [show (i + 1) * 5 + 2 - 5 = i * 5 + 2 from by omega]; exact this.2.2.1
      · rw [show (i + 1) * 5 + 3 - 5 = i * 5 + 3 from by omega]; exact this.2.2.2.1
      · rw [show (i + 1) * 5 + 4 - 5 = i * 5 + 4 from by omega]; exact this.2.2.2.2
theorem ftCells_one (l : FtL) : ∀ u ∈ ftCells l, u.oneCell' = true := by
  intro u hu
  simp only [ftCells, List.mem_flatMap] at hu
  obtain ⟨o, _, hu⟩ := hu
  simp [ftC] at hu
  rcases hu with rfl | rfl | rfl | rfl | rfl <;> rfl
structure SlFt (w : World) (A : Option Addr) (n c : Nat) (l : FtL) : Prop where
  len : l.length = n
  cap : n ≤ c
  top : c ≤ maxLen
  lies : Lies w A n (ftCells l)
  fits : ∀ x ∈ l, SlR w x.2.a x.1.rg.length x.2.c x.1.rg
theorem SlFt.below {w w' : World} {A : Option Addr} {n c : Nat} {l : FtL} (h : SlFt w A n c l) (hb : Below w.heap.size w w') : SlFt w' A n c l := ⟨h.len, h.cap, h.top, h.lies.below hb, fun x hx => (h.fits x hx).below hb⟩
theorem SlFt.at {w : World} {A : Option Addr} {n c : Nat} {l : FtL} (h : SlFt w A n c l) (i : Nat) (hi : i < l.length) :
    ∃ b off, A = some ⟨b, off, none⟩ ∧ b < w.heap.size ∧ w.cell? ⟨b, off + i * 5, none⟩ = some (.int .i64 l[i].1.num) ∧ w.cell? ⟨b, off + i * 5 + 1, none⟩ = some (.int .i64 l[i].1.kd) ∧ w.cell? ⟨b, off + i * 5 + 2, none⟩ = some (.int .i64 l[i].1.fr) ∧ w.cell? ⟨b, off + i * 5 + 3, none⟩ = some (.int .i64 l[i].1.un) ∧ w.cell? ⟨b, off + i * 5 + 4, none⟩ = some (.slice l[i].2.a l[i].1.rg.length l[i].2.c) ∧ SlR w l[i].2.a l[i].1.rg.length l[i].2.c l[i].1.rg := by
  obtain ⟨b, off, e, hb, hc⟩ := h.lies.resolve_left (by have := h.len; omega)
  obtain ⟨h0, h1, h2, h3, h4⟩ := ftCells_at l i hi
  exact ⟨b, off, e, hb, hc _ _ h0, hc _ _ h1, hc _ _ h2, hc _ _ h3, hc _ _ h4, h.fits _ (List.getElem_mem hi)⟩
def fts (l : FtL) : List Ft := l.map (·.1)
theorem fts_len (l : FtL) : (fts l).length = l.length := by simp [fts]
theorem Tryz.infoFt : (Tryz.prog.info? 54).map (fun i => (i.zero, i.size, i.bytes)) = some (some (.agg #[.int .i64 0, .int .i64 0, .int .i64 0, .int .i64 0, .slice none 0 0]), 5, 56) := by kernel_rfl
/-- A row of lines, their rectangles in rows of their own. -/
structure FtOwn (w : World) (base : Nat) (v : Value) (l : FtL) : Prop where
  o : w.ownsRow base 54 5 v l.length (ftCells l)
  fs : ∀ x ∈ l, w.ownsRow base 68 4 (.slice x.2.a x.1.rg.length x.2.c) x.1.rg.length (rCells x.1.rg)
  ap : ∀ x ∈ l, ∀ g, v.ownBlock = some g → (Value.slice x.2.a x.1.rg.length x.2.c).ownBlock ≠ some g
section
variable {w w' : World} {base : Nat} {v : Value} {l : FtL}
theorem FtOwn.nil (w : World) (base : Nat) : FtOwn w base (.slice none 0 0) [] := ⟨World.ownsRow_nil _ _ _ _, fun _ h => by simp at h, fun _ h => by simp at h⟩
theorem FtOwn.keep (h : FtOwn w base v l) (hk : ∀ b, b < w.heap.size → base ≤ b → w'.heap[b]? = w.heap[b]?) : FtOwn w' base v l := ⟨own_keepY h.o hk, fun x hx => own_keepY (h.fs x hx) hk, h.ap⟩
theorem FtOwn.below (h : FtOwn w base v l) (hb : Below w.heap.size w w') : FtOwn w' base v l := h.keep fun b hlt _ => hb.block b hlt
theorem FtOwn.only {g : Nat} (h : FtOwn w base v l) (hg : w.grownBy w' (some g)) (hlt : g < base) : FtOwn w' base v l := h.keep fun b hb hB => hg.block b hb (fun e => by injection e; omega)
theorem FtOwn.rebase {base' : Nat} (h : FtOwn w base v l) (hb : base' ≤ base) : FtOwn w base' v l := ⟨own_rebase h.o hb, fun x hx => own_rebase (h.fs x hx) hb, h.ap⟩
theorem FtOwn.sl {A : Option Addr} {c : Nat} (h : FtOwn w base (.slice A l.length c) l) : SlFt w A l.length c l := by
  obtain ⟨A', c', e, h1, h2, h3⟩ := own_slice h.o
  injection e with e1 e2 e3
  subst e1 e3
  refine ⟨rfl, h2, h3, h1, fun x hx => ?_⟩
  obtain ⟨A2, c2, e, h4⟩ := SlR.of_own (h.fs x hx)
  injection e with e1 e2 e3
  rw [e1, e3]
  exact h4
theorem FtOwn.push {wa w5 : World} (h : FtOwn w base v l) (x : Ft × LV) (hx : w.ownsRow base 68 4 (.slice x.2.a x.1.rg.length x.2.c) x.1.rg.length (rCells x.1.rg)) (hxa : ∀ g, v.ownBlock = some g → (Value.slice x.2.a x.1.rg.length x.2.c).ownBlock ≠ some g) {v5 : Value}
    (ha : Below w.heap.size w wa) (hg : wa.grownBy w5 v.ownBlock) (hown : w5.ownsRow base 54 5 v5 (l.length + 1) (ftCells l ++ [.int .i64 x.1.num, .int .i64 x.1.kd, .int .i64 x.1.fr, .int .i64 x.1.un, .slice x.2.a x.1.rg.length x.2.c])) (hat : v5.ownBlock = v.ownBlock ∨ v5.ownBlock = some wa.heap.size) : FtOwn w5 base v5 (l ++ [x]) := by
  have hall : ∀ y ∈ l ++ [x], w.ownsRow base 68 4 (.slice y.2.a y.1.rg.length y.2.c) y.1.rg.length (rCells y.1.rg) ∧ ∀ g, v.ownBlock = some g → (Value.slice y.2.a y.1.rg.length y.2.c).ownBlock ≠ some g := by
    intro y hy
    rcases List.mem_append.1 hy with h1 | h1
    · exact ⟨h.fs y h1, h.ap y h1⟩
    · rw [List.mem_singleton] at h1
      subst h1
      exact ⟨hx, hxa⟩
  refine ⟨by rw [List.length_append, ftCells_snoc]; exact hown, fun y hy => own_grownY (ownsRow_below (hall y hy).1 ha) hg (fun g hg2 e => (hall y hy).2 g e hg2), fun y hy g hg2 e => ?_⟩
  rcases hat with h0 | h0
  · exact (hall y hy).2 g (by rw [← h0]; exact hg2) e
  · rw [h0] at hg2
    injection hg2 with hg2
    have := own_ltY (hall y hy).1 g e
    have := ha.size
    omega
end
end Go.Proofs.YtfmkmhhghmdakaaGreatDoor
namespace Go.Proofs.YtfmkmhhghmdakaaGreatDoor
open Go.RowKit
set_option linter.unusedVariables false
set_option linter.unusedSimpArgs false

/-- A feature that is right. -/
structure FtOk (x : Ft) : Prop where
  num : 1 ≤ x.num ∧ x.num ≤ 1073741824
  kd : 0 ≤ x.kd ∧ x.kd ≤ 15
  day : 0 ≤ x.fr ∧ x.fr < x.un ∧ x.un ≤ 36865
  rg : validP x.rg = true
  ne : 0 < x.rg.length
set_option maxHeartbeats 2000000 in
theorem one9_any (x : Ft) (v : LV) (w : World) (h : FtOk x) (hx : SlR w v.a x.rg.length v.c x.rg) :
    Calls Tryz.prog 173 #[.agg #[.int .i64 x.num, .int .i64 x.kd, .int .i64 x.fr, .int .i64 x.un, .slice v.a x.rg.length v.c]] w fun e w' => e = .returned (.int .i64 0) ∧ Below w.heap.size w w' := by
  obtain ⟨⟨a1, a2⟩, ⟨b1, b2⟩, ⟨d1, d2, d3⟩, hv, hn⟩ := h
  have HV := Lib.hid (fun W (h : SlR W v.a x.rg.length v.c x.rg) => validR_any v.a x.rg.length v.c x.rg W h)
  rw [hv] at HV
  have n1 : ¬ x.num < 1 := by omega
  have n2 : ¬ (1073741824 : Int) < x.num := by omega
  have n3 : ¬ x.kd < 0 := by omega
  have n4 : ¬ (15 : Int) < x.kd := by omega
  have n5 : ¬ x.fr < 0 := by omega
  have n6 : ¬ x.un ≤ x.fr := by omega
  have n7 : ¬ (36865 : Int) < x.un := by omega
  have n8 : ¬ (x.rg.length = 0) := by omega
  have n9 : ¬ ((x.rg.length : Int) = 0) := by omega
  have n10 : ¬ x.num ≤ 0 := by omega
  have Hx := Lib.hid hx
  clear hx hv
  obtain ⟨n, hne⟩ : ∃ n, x.rg.length = n := ⟨_, rfl⟩
  rw [hne] at HV Hx n8 n9 ⊢
  clear hne
  go_enter Tryz.func173, Tryz.ntmps173
  go_upto_region 1 with fail
  obtain ⟨w1, hw1⟩ : ∃ w1 : World, w1 = w.alloc (.cells #[.int .i64 x.num, .int .i64 x.kd, .int .i64 x.fr, .int .i64 x.un, .slice v.a n v.c] 54) := ⟨_, rfl⟩
  rw [← hw1]
  have hr1 : w1.heap[w.heap.size]? = some (.cells #[.int .i64 x.num, .int .i64 x.kd, .int .i64 x.fr, .int .i64 x.un, .slice v.a n v.c] 54 (0, 0)) := by rw [hw1]; exact heap_alloc_new w _
  have Hb1 : Hid (Below w.heap.size w w1) := Lib.hid (by rw [hw1]; exact (by repeat' (first | with_reducible exact Below.refl _ _ | with_reducible refine below_drewN ?_ _ | with_reducible refine Below.drew ?_ | with_reducible refine Below.alloc ?_ ?_ _ | with_reducible refine Below.setCell ?_ ?_ _ | with_reducible refine Below.trans ?_ (Below.mono (by with_reducible assumption) ?_) | (simp; done) | (simp; omega) | omega)))
  have hs1 : w.heap.size < w1.heap.size := by rw [hw1]; simp
  have Hx1 := Lib.hid (Hx.out.below Hb1.out)
  have Hr1 := Lib.hid hr1
  have c0 := cell_of_row _ _ 0 _ _ _ hr1
  have c1 := cell_of_row _ _ 1 _ _ _ hr1
  have c2 := cell_of_row _ _ 2 _ _ _ hr1
  have c3 := cell_of_row _ _ 3 _ _ _ hr1
  have c4 := cell_of_row _ _ 4 _ _ _ hr1
  clear hw1 hr1
  go_wp2_with (first
    | (go_at_call 120; refine (HV.out _ Hx1.out).mono ?_; rintro e w2 ⟨rfl, hb2⟩; have Hb2 := Lib.hid hb2; have d4 := cell_of_row _ _ 4 _ _ _ ((hb2.block _ hs1).trans Hr1.out); clear hb2)
    | fail)
  go_ret
  exact ⟨rfl, Hb1.out.trans (Hb2.out.mono (by omega))⟩
set_option maxHeartbeats 2000000 in
theorem single_any (x : Ft) (v : LV) (w : World) (h : FtOk x) (hx : SlR w v.a x.rg.length v.c x.rg) :
    Calls Tryz.prog 249 #[.agg #[.int .i64 x.num, .int .i64 x.kd, .int .i64 x.fr, .int .i64 x.un, .slice v.a x.rg.length v.c]] w fun e w' => e = .returned (.int .i64 0) ∧ Below w.heap.size w w' := by
  obtain ⟨⟨a1, a2⟩, ⟨b1, b2⟩, ⟨d1, d2, d3⟩, hv, hn⟩ := h
  have HV := Lib.hid (fun W (h : SlR W v.a x.rg.length v.c x.rg) => valid_any v.a x.rg.length v.c x.rg W h)
  rw [hv] at HV
  have n1 : ¬ x.num < 1 := by omega
  have n2 : ¬ (1073741824 : Int) < x.num := by omega
  have n3 : ¬ x.kd < 0 := by omega
  have n4 : ¬ (15 : Int) < x.kd := by omega
  have n5 : ¬ x.fr < 0 := by omega
  have n6 : ¬ x.un ≤ x.fr := by omega
  have n7 : ¬ (36865 : Int) < x.un := by omega
  have n8 : ¬ (x.rg.length = 0) := by omega
  have n9 : ¬ ((x.rg.length : Int) = 0) := by omega
  have n10 : ¬ x.num ≤ 0 := by omega
  have Hx := Lib.hid hx
  clear hx hv
  obtain ⟨n, hne⟩ : ∃ n, x.rg.length = n := ⟨_, rfl⟩
  rw [hne] at HV Hx n8 n9 ⊢
  clear hne
  go_enter Tryz.func249, Tryz.ntmps249
  go_upto_region 1 with fail
  obtain ⟨w1, hw1⟩ : ∃ w1 : World, w1 = w.alloc (.cells #[.int .i64 x.num, .int .i64 x.kd, .int .i64 x.fr, .int .i64 x.un, .slice v.a n v.c] 54) := ⟨_, rfl⟩
  rw [← hw1]
  have hr1 : w1.heap[w.heap.size]? = some (.cells #[.int .i64 x.num, .int .i64 x.kd, .int .i64 x.fr, .int .i64 x.un, .slice v.a n v.c] 54 (0, 0)) := by rw [hw1]; exact heap_alloc_new w _
  have Hb1 : Hid (Below w.heap.size w w1) := Lib.hid (by rw [hw1]; exact (by repeat' (first | with_reducible exact Below.refl _ _ | with_reducible refine below_drewN ?_ _ | with_reducible refine Below.drew ?_ | with_reducible refine Below.alloc ?_ ?_ _ | with_reducible refine Below.setCell ?_ ?_ _ | with_reducible refine Below.trans ?_ (Below.mono (by with_reducible assumption) ?_) | (simp; done) | (simp; omega) | omega)))
  have hs1 : w.heap.size < w1.heap.size := by rw [hw1]; simp
  have Hx1 := Lib.hid (Hx.out.below Hb1.out)
  have Hr1 := Lib.hid hr1
  have c0 := cell_of_row _ _ 0 _ _ _ hr1
  have c1 := cell_of_row _ _ 1 _ _ _ hr1
  have c2 := cell_of_row _ _ 2 _ _ _ hr1
  have c3 := cell_of_row _ _ 3 _ _ _ hr1
  have c4 := cell_of_row _ _ 4 _ _ _ hr1
  clear hw1 hr1
  go_wp2_with (first
    | (go_at_call 48; refine (HV.out _ Hx1.out).mono ?_; rintro e w2 ⟨rfl, hb2⟩; have Hb2 := Lib.hid hb2; have d4 := cell_of_row _ _ 4 _ _ _ ((hb2.block _ hs1).trans Hr1.out); clear hb2)
    | fail)
  go_ret
  exact ⟨rfl, Hb1.out.trans (Hb2.out.mono (by omega))⟩
end Go.Proofs.YtfmkmhhghmdakaaGreatDoor
namespace Go.Proofs.YtfmkmhhghmdakaaGreatDoor
open Go.RowKit
set_option linter.unusedVariables false
set_option linter.unusedSimpArgs false

/-- A layer that is right. -/
structure LyOk (l : List Ft) : Prop where
  ok : ∀ x ∈ l, FtOk x
  up : l.Pairwise fun a b => a.num < b.num
  len : l.length ≤ 60
theorem fts_get (l : FtL) (i : Nat) (h : i < l.length) : (fts l)[i]'(by rw [fts_len]; exact h) = l[i].1 := by simp [fts]
theorem LyOk.step {l : FtL} (h : LyOk (fts l)) (i : Nat) (hi : i + 1 < l.length) : (l[i]'(by omega)).1.num < l[i + 1].1.num := by
  have := List.pairwise_iff_getElem.1 h.up i (i + 1) (by rw [fts_len]; omega) (by rw [fts_len]; omega) (by omega)
  rw [fts_get l i (by omega), fts_get l (i + 1) hi] at this
  exact this
set_option maxHeartbeats 8000000 in
theorem check9_any (A : Option Addr) (n c : Nat) (l : FtL) (w : World) (hA : SlFt w A n c l) (hl : LyOk (fts l)) :
    Calls Tryz.prog 172 #[.slice A n c] w fun e w' => e = .returned (.int .i64 0) ∧ Below w.heap.size w w' := by
  have hln := hA.len
  have hn60 : n ≤ 60 := by have := hl.len; rw [fts_len] at this; omega
  have hn60' : ¬ (60 : Int) < (n : Int) := by omega
  have HA := Lib.hid hA
  have HL := Lib.hid hl
  have Hln := Lib.hid hln
  clear hA hl hln
  go_enter Tryz.func172, Tryz.ntmps172
  go_wp2
  go_loopw [11] (fun iv wr => ∃ i : Nat, i ≤ n ∧ iv = .int .i64 (i : Int) ∧ Below w.heap.size w wr) (fun iv _ => n - (intOf iv).toNat)
  case atStart => exact ⟨0, Nat.zero_le _, rfl, Below.refl _ _⟩
  case round =>
    obtain ⟨i, hi, rfl, hbw⟩ := hrel
    obtain ⟨wo, rfl⟩ : ∃ wo : World, wo = wr := ⟨_, rfl⟩
    have Hbw := Lib.hid hbw
    have hsw := hbw.size
    clear hbw
    by_cases hin : i < n
    · have hin' : (i : Int) < (n : Int) := by omega
      have hil : i < l.length := by rw [Hln.out]; exact hin
      obtain ⟨b, off, rfl, hbl, c0, c1, c2, c3, c4, hS⟩ := (HA.out.below Hbw.out).at i hil
      have hok := HL.out.ok l[i].1 (List.mem_map_of_mem (List.getElem_mem hil))
      have hnum := hok.num
      have HO := Lib.hid (fun W (h : SlR W l[i].2.a l[i].1.rg.length l[i].2.c l[i].1.rg) => one9_any l[i].1 l[i].2 W hok h)
      have hup := HL.out.step (i - 1)
      obtain ⟨x, hx⟩ : ∃ x, x = l[i] := ⟨_, rfl⟩
      rw [← hx] at c0 c1 c2 c3 c4 hS HO hnum
      have HS := Lib.hid hS
      have Hx := Lib.hid hx
      have Hup := Lib.hid hup
      clear hS hok hx hup
      go_upto_region 6 with fail
      obtain ⟨w1, hw1⟩ : ∃ w1 : World, w1 = wo.alloc (.cells #[.int .i64 x.1.num, .int .i64 x.1.kd, .int .i64 x.1.fr, .int .i64 x.1.un, .slice x.2.a x.1.rg.length x.2.c] 54) := ⟨_, rfl⟩
      rw [← hw1]
      have hr1 : w1.heap[wo.heap.size]? = some (.cells #[.int .i64 x.1.num, .int .i64 x.1.kd, .int .i64 x.1.fr, .int .i64 x.1.un, .slice x.2.a x.1.rg.length x.2.c] 54 (0, 0)) := by rw [hw1]; exact heap_alloc_new wo _
      have Hb1 : Hid (Below wo.heap.size wo w1) := Lib.hid (by rw [hw1]; exact (by repeat' (first | with_reducible exact Below.refl _ _ | with_reducible refine below_drewN ?_ _ | with_reducible refine Below.drew ?_ | with_reducible refine Below.alloc ?_ ?_ _ | with_reducible refine Below.setCell ?_ ?_ _ | with_reducible refine Below.trans ?_ (Below.mono (by with_reducible assumption) ?_) | (simp; done) | (simp; omega) | omega)))
      have hs1 : wo.heap.size < w1.heap.size := by rw [hw1]; simp
      have Hr1 := Lib.hid hr1
      have HS1 := Lib.hid (HS.out.below Hb1.out)
      have d0 := cell_of_row _ _ 0 _ _ _ hr1
      have d1 := cell_of_row _ _ 1 _ _ _ hr1
      have d2 := cell_of_row _ _ 2 _ _ _ hr1
      have d3 := cell_of_row _ _ 3 _ _ _ hr1
      have d4 := cell_of_row _ _ 4 _ _ _ hr1
      clear hw1 hr1 c0 c1 c2 c3 c4
      go_upto_region 9 with (first
        | (go_at_call 173
           refine (HO.out _ HS1.out).mono ?_
           rintro e w2 ⟨rfl, hb2⟩
           have Hb2 := Lib.hid (Hb1.out.trans (hb2.mono (by omega)))
           have e0 := cell_of_row _ _ 0 _ _ _ ((hb2.block _ hs1).trans Hr1.out)
           have hs2 := hb2.size
           clear hb2 d0 d1 d2 d3 d4)
        | fail)
      have Hb3 := Lib.hid (Hbw.out.trans (Hb2.out.mono hsw))
      rcases Nat.eq_zero_or_pos i with h0 | h0
      · subst h0
        go_quiet (fail)
        go_wp2
        go_roundw
        case rel => exact ⟨1, by omega, by go_num, ⟨Hb3.out.os, Hb3.out.tape, Hb3.out.output, Hb3.out.size, Hb3.out.block⟩⟩
        case measure => simp [intOf]; omega
      · have h0' : (0 : Int) < (i : Int) := by omega
        obtain ⟨b', off', hbe, _, f0, _⟩ := (HA.out.below Hb3.out).at (i - 1) (by omega)
        injection hbe with hbe
        injection hbe with hb1 hb2
        subst hb1 hb2
        have hlt := Hup.out (by omega)
        have hx2 : (l[i - 1 + 1]'(by omega)).1.num = x.1.num := by
          rw [Hx.out]
          congr 2
          congr 1
          omega
        rw [hx2] at hlt
        obtain ⟨m, hm⟩ : ∃ m, m = (l[i - 1]'(by omega)).1.num := ⟨_, rfl⟩
        rw [← hm] at f0 hlt
        obtain ⟨j, hj⟩ : ∃ j : Nat, j = i - 1 := ⟨_, rfl⟩
        rw [← hj] at f0
        have hwr : IntKind.i64.wrap ((i : Int) - 1) = (j : Int) := by rw [IntWalk.i64_in _ (by omega)]; omega
        have hle : ¬ x.1.num ≤ m := by omega
        have hj1 : j < n := by omega
        have hj2 : (j : Int) < (n : Int) := by omega
        have hj0 : (0 : Int) ≤ (j : Int) := by omega
        clear hm hx2 hj
        go_quiet (fail)
        go_wp2
        go_roundw
        case rel => exact ⟨i + 1, by omega, by go_num, ⟨Hb3.out.os, Hb3.out.tape, Hb3.out.output, Hb3.out.size, Hb3.out.block⟩⟩
        case measure => simp [intOf]; omega
    · have hin' : ¬ (i : Int) < (n : Int) := by omega
      go_wp2
      go_ret
      exact ⟨rfl, Hbw.out⟩
set_option maxHeartbeats 8000000 in
theorem checkFt_any (A : Option Addr) (n c : Nat) (l : FtL) (w : World) (hA : SlFt w A n c l) (hl : LyOk (fts l)) :
    Calls Tryz.prog 174 #[.slice A n c] w fun e w' => e = .returned (.int .i64 0) ∧ Below w.heap.size w w' := by
  have hln := hA.len
  have hn60 : n ≤ 60 := by have := hl.len; rw [fts_len] at this; omega
  have hn60' : ¬ (60 : Int) < (n : Int) := by omega
  have HA := Lib.hid hA
  have HL := Lib.hid hl
  have Hln := Lib.hid hln
  clear hA hl hln
  go_enter Tryz.func174, Tryz.ntmps174
  go_wp2
  go_loopw [11] (fun iv wr => ∃ i : Nat, i ≤ n ∧ iv = .int .i64 (i : Int) ∧ Below w.heap.size w wr) (fun iv _ => n - (intOf iv).toNat)
  case atStart => exact ⟨0, Nat.zero_le _, rfl, Below.refl _ _⟩
  case round =>
    obtain ⟨i, hi, rfl, hbw⟩ := hrel
    obtain ⟨wo, rfl⟩ : ∃ wo : World, wo = wr := ⟨_, rfl⟩
    have Hbw := Lib.hid hbw
    have hsw := hbw.size
    clear hbw
    by_cases hin : i < n
    · have hin' : (i : Int) < (n : Int) := by omega
      have hil : i < l.length := by rw [Hln.out]; exact hin
      obtain ⟨b, off, rfl, hbl, c0, c1, c2, c3, c4, hS⟩ := (HA.out.below Hbw.out).at i hil
      have hok := HL.out.ok l[i].1 (List.mem_map_of_mem (List.getElem_mem hil))
      have hnum := hok.num
      have HO := Lib.hid (fun W (h : SlR W l[i].2.a l[i].1.rg.length l[i].2.c l[i].1.rg) => single_any l[i].1 l[i].2 W hok h)
      have hup := HL.out.step (i - 1)
      obtain ⟨x, hx⟩ : ∃ x, x = l[i] := ⟨_, rfl⟩
      rw [← hx] at c0 c1 c2 c3 c4 hS HO hnum
      have HS := Lib.hid hS
      have Hx := Lib.hid hx
      have Hup := Lib.hid hup
      clear hS hok hx hup
      go_upto_region 6 with fail
      obtain ⟨w1, hw1⟩ : ∃ w1 : World, w1 = wo.alloc (.cells #[.int .i64 x.1.num, .int .i64 x.1.kd, .int .i64 x.1.fr, .int .i64 x.1.un, .slice x.2.a x.1.rg.length x.2.c] 54) := ⟨_, rfl⟩
      rw [← hw1]
      have hr1 : w1.heap[wo.heap.size]? = some (.cells #[.int .i64 x.1.num, .int .i64 x.1.kd, .int .i64 x.1.fr, .int .i64 x.1.un, .slice x.2.a x.1.rg.length x.2.c] 54 (0, 0)) := by rw [hw1]; exact heap_alloc_new wo _
      have Hb1 : Hid (Below wo.heap.size wo w1) := Lib.hid (by rw [hw1]; exact (by repeat' (first | with_reducible exact Below.refl _ _ | with_reducible refine below_drewN ?_ _ | with_reducible refine Below.drew ?_ | with_reducible refine Below.alloc ?_ ?_ _ | with_reducible refine Below.setCell ?_ ?_ _ | with_reducible refine Below.trans ?_ (Below.mono (by with_reducible assumption) ?_) | (simp; done) | (simp; omega) | omega)))
      have hs1 : wo.heap.size < w1.heap.size := by rw [hw1]; simp
      have Hr1 := Lib.hid hr1
      have HS1 := Lib.hid (HS.out.below Hb1.out)
      have d0 := cell_of_row _ _ 0 _ _ _ hr1
      have d1 := cell_of_row _ _ 1 _ _ _ hr1
      have d2 := cell_of_row _ _ 2 _ _ _ hr1
      have d3 := cell_of_row _ _ 3 _ _ _ hr1
      have d4 := cell_of_row _ _ 4 _ _ _ hr1
      clear hw1 hr1 c0 c1 c2 c3 c4
      go_upto_region 9 with (first
        | (go_at_call 249
           refine (HO.out _ HS1.out).mono ?_
           rintro e w2 ⟨rfl, hb2⟩
           have Hb2 := Lib.hid (Hb1.out.trans (hb2.mono (by omega)))
           have e0 := cell_of_row _ _ 0 _ _ _ ((hb2.block _ hs1).trans Hr1.out)
           have hs2 := hb2.size
           clear hb2 d0 d1 d2 d3 d4)
        | fail)
      have Hb3 := Lib.hid (Hbw.out.trans (Hb2.out.mono hsw))
      rcases Nat.eq_zero_or_pos i with h0 | h0
      · subst h0
        go_quiet (fail)
        go_wp2
        go_roundw
        case rel => exact ⟨1, by omega, by go_num, ⟨Hb3.out.os, Hb3.out.tape, Hb3.out.output, Hb3.out.size, Hb3.out.block⟩⟩
        case measure => simp [intOf]; omega
      · have h0' : (0 : Int) < (i : Int) := by omega
        obtain ⟨b', off', hbe, _, f0, _⟩ := (HA.out.below Hb3.out).at (i - 1) (by omega)
        injection hbe with hbe
        injection hbe with hb1 hb2
        subst hb1 hb2
        have hlt := Hup.out (by omega)
        have hx2 : (l[i - 1 + 1]'(by omega)).1.num = x.1.num := by
          rw [Hx.out]
          congr 2
          congr 1
          omega
        rw [hx2] at hlt
        obtain ⟨m, hm⟩ : ∃ m, m = (l[i - 1]'(by omega)).1.num := ⟨_, rfl⟩
        rw [← hm] at f0 hlt
        obtain ⟨j, hj⟩ : ∃ j : Nat, j = i - 1 := ⟨_, rfl⟩
        rw [← hj] at f0
        have hwr : IntKind.i64.wrap ((i : Int) - 1) = (j : Int) := by rw [IntWalk.i64_in _ (by omega)]; omega
        have hle : ¬ x.1.num ≤ m := by omega
        have hj1 : j < n := by omega
        have hj2 : (j : Int) < (n : Int) := by omega
        have hj0 : (0 : Int) ≤ (j : Int) := by omega
        clear hm hx2 hj
        go_quiet (fail)
        go_wp2
        go_roundw
        case rel => exact ⟨i + 1, by omega, by go_num, ⟨Hb3.out.os, Hb3.out.tape, Hb3.out.output, Hb3.out.size, Hb3.out.block⟩⟩
        case measure => simp [intOf]; omega
    · have hin' : ¬ (i : Int) < (n : Int) := by omega
      go_wp2
      go_ret
      exact ⟨rfl, Hbw.out⟩
end Go.Proofs.YtfmkmhhghmdakaaGreatDoor
namespace Go.Proofs.YtfmkmhhghmdakaaGreatDoor
open Go.RowKit
set_option linter.unusedVariables false
set_option linter.unusedSimpArgs false

/-- The number whose bits these are. -/
def maskL : List Bool → Nat
  | [] => 0
  | b :: t => b.toNat + 2 * maskL t
theorem maskL_lt : ∀ l : List Bool, maskL l < 2 ^ l.length
  | [] => by simp [maskL]
  | b :: t => by
    have := maskL_lt t
    rw [maskL, List.length_cons, Nat.pow_succ]
    cases b <;> simp <;> omega
theorem maskL_snoc (b : Bool) : ∀ l : List Bool, maskL (l ++ [b]) = maskL l + b.toNat * 2 ^ l.length
  | [] => by simp [maskL]
  | c :: t => by
    rw [List.cons_append, maskL, maskL, maskL_snoc b t, List.length_cons, Nat.pow_succ, Nat.mul_add]
    rw [show b.toNat * (2 ^ t.length * 2) = 2 * (b.toNat * 2 ^ t.length) by rw [Nat.mul_comm (2 ^ t.length) 2, Nat.mul_left_comm]]
    omega
theorem maskL_zero : ∀ l : List Bool, maskL l = 0 ↔ ∀ b ∈ l, b = false
  | [] => by simp [maskL]
  | c :: t => by
    have := maskL_zero t
    rw [maskL]
    cases c
    · rw [show (false.toNat + 2 * maskL t = 0) = (maskL t = 0) from by simp; omega, this]; simp
    · simp
theorem maskL_bit : ∀ (l : List Bool) (i : Nat), (maskL l).testBit i = l.getD i false
  | [], i => by simp [maskL]
  | a :: t, 0 => by
    rw [maskL, Nat.testBit_zero]
    cases a <;> simp <;> omega
  | a :: t, i + 1 => by
    rw [maskL, Nat.testBit_succ, show (a.toNat + 2 * maskL t) / 2 = maskL t by cases a <;> simp <;> omega, maskL_bit t i]
    simp
/-- Which regions have a square. -/
def setAt (m : List (List R4)) (x y : Int) : Nat := maskL (m.map fun a => inL a x y)
def endsP (rows : List (List (Sg Unit))) : List Int := asc (rows.flatMap fun r => r.flatMap fun s => [s.1, s.2.1])
def withinSP (rows : List (List (Sg Unit))) (x : Int) : Nat := maskL (rows.map fun r => inR r x)
def onePc (rows : List (List (Sg Unit))) (lo hi : Int) (E : List Int) (k : Nat) : List (Nat × R4) :=
  if withinSP rows (E.getD k 0) = 0 then [] else [(withinSP rows (E.getD k 0), ⟨E.getD k 0, lo, E.getD (k + 1) 0, hi⟩)]
def rowPcs (rows : List (List (Sg Unit))) (lo hi : Int) : List (Nat × R4) := (List.range ((endsP rows).length - 1)).flatMap (onePc rows lo hi (endsP rows))
def bandPcs (m : List (List R4)) (C : List Int) (i : Nat) : List (Nat × R4) := rowPcs (m.map fun a => rowP a (C.getD i 0)) (C.getD i 0) (C.getD (i + 1) 0)
def piecesP (m : List (List R4)) : List (Nat × R4) := (List.range ((cutsP m.flatten).length - 1)).flatMap (bandPcs m (cutsP m.flatten))

/-- Between two neighbours of an ascending list. -/
theorem asc_between {C : List Int} (hp : C.Pairwise (· < ·)) {i : Nat} (hi : i + 1 < C.length) {x : Int} (h1 : C.getD i 0 ≤ x) (h2 : x < C.getD (i + 1) 0) : ∀ k ∈ C, k ≤ C.getD i 0 ∨ x < k := by
  intro k hk
  obtain ⟨j, hj, rfl⟩ := List.getElem_of_mem hk
  have e1 : C.getD i 0 = C[i] := by simp [List.getD, List.getElem?_eq_getElem (show i < C.length by omega)]
  have e2 : C.getD (i + 1) 0 = C[i + 1] := by simp [List.getD, List.getElem?_eq_getElem hi]
  rw [e1] at h1 ⊢
  rw [e2] at h2
  rcases Nat.lt_trichotomy j i with h | h | h
  · have := List.pairwise_iff_getElem.1 hp j i hj (by omega) h; omega
  · subst h; left; omega
  · rcases Nat.lt_or_ge j (i + 2) with h3 | h3
    · obtain rfl : j = i + 1 := by omega
      right; exact h2
    · have := List.pairwise_iff_getElem.1 hp (i + 1) j hi hj (by omega); right; omega
theorem getD_mem {C : List Int} {i : Nat} (h : i < C.length) : C.getD i 0 ∈ C := by
  simp [List.getD, List.getElem?_eq_getElem h]
theorem getD_lt {C : List Int} (hp : C.Pairwise (· < ·)) {i : Nat} (h : i + 1 < C.length) : C.getD i 0 < C.getD (i + 1) 0 := by
  have e1 : C.getD i 0 = C[i] := by simp [List.getD, List.getElem?_eq_getElem (show i < C.length by omega)]
  have e2 : C.getD (i + 1) 0 = C[i + 1] := by simp [List.getD, List.getElem?_eq_getElem h]
  rw [e1, e2]
  exact List.pairwise_iff_getElem.1 hp i (i + 1) (by omega) h (by omega)
theorem asc_place (C : List Int) (x : Int) : (∀ k ∈ C, x < k) ∨ (∀ k ∈ C, k ≤ x) ∨ (∃ i, i + 1 < C.length ∧ C.getD i 0 ≤ x ∧ x < C.getD (i + 1) 0) ∨ ¬ C.Pairwise (· < ·) := by
  induction C with
  | nil => left; simp
  | cons a t ih =>
    by_cases hp : (a :: t).Pairwise (· < ·)
    · obtain ⟨h1, h2⟩ := List.pairwise_cons.1 hp
      rcases Int.lt_or_le x a with h | h
      · left
        intro k hk
        rcases List.mem_cons.1 hk with rfl | hk
        · exact h
        · have := h1 k hk; omega
      · rcases ih with h3 | h3 | ⟨i, hi, h3, h4⟩ | h3
        · cases t with
          | nil => right; left; intro k hk; simp at hk; omega
          | cons b t =>
            right; right; left
            exact ⟨0, by simp, by simpa using h, by simpa using h3 b (by simp)⟩
        · right; left
          intro k hk
          rcases List.mem_cons.1 hk with rfl | hk
          · exact h
          · exact h3 k hk
        · right; right; left
          exact ⟨i + 1, by simp; omega, by simpa using h3, by simpa using h4⟩
        · exact absurd h2 h3
    · right; right; right; exact hp
theorem map_congr' {α β : Type} {l : List α} {f g : α → β} (h : ∀ x ∈ l, f x = g x) : l.map f = l.map g := List.map_congr_left h
/-- A square lies in just the piece that its set tells. -/
theorem pieces_mem {m : List (List R4)} (hm : ∀ a ∈ m, ∀ q ∈ a, q.l < q.r) (x y : Int) (s : Nat) (hs : s ≠ 0) : (∃ p ∈ piecesP m, p.1 = s ∧ p.2.has x y = true) ↔ setAt m x y = s := by
  have hpC : (cutsP m.flatten).Pairwise (· < ·) := (asc_all _).1
  have hin : ∀ a ∈ m, ∀ q ∈ a, q.b ∈ cutsP m.flatten ∧ q.t ∈ cutsP m.flatten := fun a ha q hq => cutsP_mem (List.mem_flatten.2 ⟨a, ha, hq⟩)
  have key : ∀ i k, i + 1 < (cutsP m.flatten).length → (cutsP m.flatten).getD i 0 ≤ y → y < (cutsP m.flatten).getD (i + 1) 0 → ∀ rows, rows = (m.map fun a => rowP a ((cutsP m.flatten).getD i 0)) → k + 1 < (endsP rows).length → (endsP rows).getD k 0 ≤ x → x < (endsP rows).getD (k + 1) 0 → withinSP rows ((endsP rows).getD k 0) = setAt m x y := by
    intro i k hi h1 h2 rows hr hk h3 h4
    have hpE : (endsP rows).Pairwise (· < ·) := (asc_all _).1
    unfold withinSP setAt
    rw [hr, List.map_map]
    refine congrArg maskL (map_congr' fun a ha => ?_)
    have hst := inR_steady (rowP a ((cutsP m.flatten).getD i 0)) (endsP rows) (fun sg hsg => by
      have hmem : ∀ z ∈ [sg.1, sg.2.1], z ∈ endsP rows := fun z hz => ((asc_all _).2.1 z).2 (List.mem_flatMap.2 ⟨rowP a ((cutsP m.flatten).getD i 0), by rw [hr]; exact List.mem_map.2 ⟨a, ha, rfl⟩, List.mem_flatMap.2 ⟨sg, hsg, hz⟩⟩)
      exact ⟨hmem _ (by simp), hmem _ (by simp)⟩) ((endsP rows).getD k 0) x (getD_mem (by omega)) h3 (asc_between hpE hk h3 h4)
    have hsy := inL_steady_y a x (cutsP m.flatten) (hin a ha) ((cutsP m.flatten).getD i 0) y (getD_mem (by omega)) h1 (asc_between hpC hi h1 h2)
    dsimp only [Function.comp] at hst hsy ⊢
    rw [← hr, ← hst, inR_row _ _ _ (hm a ha), hsy]
  constructor
  · rintro ⟨p, hp, rfl, hh⟩
    obtain ⟨i, hi, hp⟩ := List.mem_flatMap.1 hp
    obtain ⟨k, hk, hp⟩ := List.mem_flatMap.1 hp
    rw [List.mem_range] at hi hk
    unfold onePc at hp
    split at hp
    · simp at hp
    · rw [List.mem_singleton] at hp
      subst hp
      simp only [R4.has, Bool.and_eq_true, decide_eq_true_eq] at hh
      exact (key i k (by omega) hh.1.2 hh.2 _ rfl (by omega) hh.1.1.1 hh.1.1.2).symm
  · intro he
    have hne : ∃ a ∈ m, inL a x y = true := by
      by_cases hx : ∃ a ∈ m, inL a x y = true
      · exact hx
      · exfalso
        apply hs
        rw [← he]
        unfold setAt
        rw [maskL_zero]
        intro b hb
        obtain ⟨a, ha, rfl⟩ := List.mem_map.1 hb
        cases hq : inL a x y with
        | false => rfl
        | true => exact absurd ⟨a, ha, hq⟩ hx
    obtain ⟨a, ha, hax⟩ := hne
    rcases asc_place (cutsP m.flatten) y with h | h | ⟨i, hi, h1, h2⟩ | h
    · rw [inL_out_y a x _ (hin a ha) y (.inl h)] at hax; cases hax
    · rw [inL_out_y a x _ (hin a ha) y (.inr h)] at hax; cases hax
    · obtain ⟨rows, hr⟩ : ∃ rows, rows = (m.map fun a => rowP a ((cutsP m.flatten).getD i 0)) := ⟨_, rfl⟩
      have hsy := inL_steady_y a x (cutsP m.flatten) (hin a ha) ((cutsP m.flatten).getD i 0) y (getD_mem (by omega)) h1 (asc_between hpC hi h1 h2)
      dsimp only at hsy
      rw [hsy, ← inR_row _ _ _ (hm a ha)] at hax
      have hE : ∀ sg ∈ rowP a ((cutsP m.flatten).getD i 0), sg.1 ∈ endsP rows ∧ sg.2.1 ∈ endsP rows := fun sg hsg => by
        have hmem : ∀ z ∈ [sg.1, sg.2.1], z ∈ endsP rows := fun z hz => ((asc_all _).2.1 z).2 (List.mem_flatMap.2 ⟨rowP a ((cutsP m.flatten).getD i 0), by rw [hr]; exact List.mem_map.2 ⟨a, ha, rfl⟩, List.mem_flatMap.2 ⟨sg, hsg, hz⟩⟩)
        exact ⟨hmem _ (by simp), hmem _ (by simp)⟩
      rcases asc_place (endsP rows) x with h | h | ⟨k, hk, h3, h4⟩ | h
      · rw [inR_out _ _ hE x (.inl h)] at hax; cases hax
      · rw [inR_out _ _ hE x (.inr h)] at hax; cases hax
      · have hw := key i k hi h1 h2 rows hr hk h3 h4
        rw [he] at hw
        refine ⟨(s, ⟨(endsP rows).getD k 0, (cutsP m.flatten).getD i 0, (endsP rows).getD (k + 1) 0, (cutsP m.flatten).getD (i + 1) 0⟩), List.mem_flatMap.2 ⟨i, List.mem_range.2 (by omega), List.mem_flatMap.2 ⟨k, List.mem_range.2 (by rw [← hr]; omega), ?_⟩⟩, rfl, ?_⟩
        · unfold onePc
          rw [← hr, hw, if_neg hs]
          simp
        · simp only [R4.has, Bool.and_eq_true, decide_eq_true_eq]
          exact ⟨⟨⟨h3, h4⟩, h1⟩, h2⟩
      · exact absurd (asc_all _).1 h
    · exact absurd hpC h
theorem pieces_pos {m : List (List R4)} : ∀ p ∈ piecesP m, p.1 ≠ 0 ∧ p.2.l < p.2.r ∧ p.2.b < p.2.t := by
  intro p hp
  obtain ⟨i, hi, hp⟩ := List.mem_flatMap.1 hp
  obtain ⟨k, hk, hp⟩ := List.mem_flatMap.1 hp
  rw [List.mem_range] at hi hk
  unfold onePc at hp
  split at hp
  · simp at hp
  · rename_i h
    rw [List.mem_singleton] at hp
    subst hp
    exact ⟨h, getD_lt (C := endsP _) (asc_all _).1 (by omega), getD_lt (C := cutsP _) (asc_all _).1 (by omega)⟩
theorem pieces_lt {m : List (List R4)} : ∀ p ∈ piecesP m, p.1 < 2 ^ m.length := by
  intro p hp
  obtain ⟨i, hi, hp⟩ := List.mem_flatMap.1 hp
  obtain ⟨k, hk, hp⟩ := List.mem_flatMap.1 hp
  unfold onePc at hp
  split at hp
  · simp at hp
  · rw [List.mem_singleton] at hp
    subst hp
    have := maskL_lt ((m.map fun a => rowP a ((cutsP m.flatten).getD i 0)).map fun r => inR r ((endsP (m.map fun a => rowP a ((cutsP m.flatten).getD i 0))).getD k 0))
    rwa [List.length_map, List.length_map] at this
/-- The rectangles with a set. -/
def ofPc (l : List (Nat × R4)) (s : Nat) : List R4 := (l.filter fun p => p.1 == s).map (·.2)
theorem ofPc_snoc (l : List (Nat × R4)) (p : Nat × R4) (s : Nat) : ofPc (l ++ [p]) s = if p.1 = s then ofPc l s ++ [p.2] else ofPc l s := by
  unfold ofPc
  rw [List.filter_append, List.map_append]
  by_cases h : p.1 = s <;> simp [h]
theorem ofPc_in {m : List (List R4)} (hm : ∀ a ∈ m, ∀ q ∈ a, q.l < q.r) (x y : Int) {s : Nat} (hs : s ≠ 0) : inL (ofPc (piecesP m) s) x y = decide (setAt m x y = s) := by
  rw [Bool.eq_iff_iff, decide_eq_true_iff, ← pieces_mem hm x y s hs]
  unfold inL ofPc
  rw [List.any_eq_true]
  constructor
  · rintro ⟨q, hq, hh⟩
    obtain ⟨p, hp, rfl⟩ := List.mem_map.1 hq
    obtain ⟨h1, h2⟩ := List.mem_filter.1 hp
    exact ⟨p, h1, by simpa using h2, hh⟩
  · rintro ⟨p, hp, h1, h2⟩
    exact ⟨p.2, List.mem_map.2 ⟨p, List.mem_filter.2 ⟨hp, by simp [h1]⟩, rfl⟩, h2⟩
theorem ofPc_pos {m : List (List R4)} {s : Nat} : ∀ q ∈ ofPc (piecesP m) s, q.l < q.r := by
  intro q hq
  obtain ⟨p, hp, rfl⟩ := List.mem_map.1 hq
  exact (pieces_pos p (List.mem_filter.1 hp).1).2.1
/-- A face. -/
structure Fc where
  set : Int
  rg : List R4
def keysPc (l : List (Nat × R4)) : List Int := asc (l.map fun p => (p.1 : Int))
def bigF (m : List (List R4)) (s : Int) : Bool := decide (120 < (canonP (ofPc (piecesP m) s.toNat)).length)
def faceOf (m : List (List R4)) (s : Int) : Fc := ⟨s, canonP (ofPc (piecesP m) s.toNat)⟩
def facesP (m : List (List R4)) : List Fc × Int :=
  if 12 < m.length then ([], 1) else if m.all validP then (if (keysPc (piecesP m)).any (bigF m) then ([], 1) else ((keysPc (piecesP m)).map (faceOf m), 0)) else ([], 7)
theorem keysPc_mem {m : List (List R4)} (s : Int) : s ∈ keysPc (piecesP m) ↔ ∃ p ∈ piecesP m, (p.1 : Int) = s := by
  unfold keysPc
  rw [(asc_all _).2.1, List.mem_map]
end Go.Proofs.YtfmkmhhghmdakaaGreatDoor

namespace Go.Proofs.YtfmkmhhghmdakaaGreatDoor
open Go.RowKit
set_option linter.unusedVariables false
set_option linter.unusedSimpArgs false

theorem canonP_or (l : List R4) (hl : ∀ q ∈ l, q.l < q.r) : canonP l = chooseP orB l [] := by
  refine Canon.uniq (canonP_canon l hl) ((choose_canon orB rfl l [] hl (by simp)).congr fun x y => ?_)
  simp [orB, inL]
theorem canonP_side {s : Nat} {l : List R4} (h : InS s l) : (canonP l).length ≤ s * s := by
  rw [canonP_or l h.pos]
  exact choose_len orB s l [] h (by intro q hq; cases hq)
theorem pieces_in {s : Int} {m : List (List R4)} (hm : ∀ a ∈ m, InS s a) : InS s ((piecesP m).map (·.2)) := by
  intro q hq
  obtain ⟨p, hp, rfl⟩ := List.mem_map.1 hq
  have hpos := pieces_pos p hp
  obtain ⟨i, hi, hp⟩ := List.mem_flatMap.1 hp
  obtain ⟨k, hk, hp⟩ := List.mem_flatMap.1 hp
  rw [List.mem_range] at hi hk
  have hC : ∀ z ∈ cutsP m.flatten, 0 ≤ z ∧ z ≤ s := by
    intro z hz
    have h1 := ((asc_all _).2.1 z).1 hz
    obtain ⟨q, hq, hz⟩ := List.mem_flatMap.1 h1
    obtain ⟨a, ha, hq⟩ := List.mem_flatten.1 hq
    have := hm a ha q hq
    simp only [List.mem_cons, List.not_mem_nil, or_false] at hz
    rcases hz with rfl | rfl <;> omega
  have hE : ∀ y, ∀ z ∈ endsP (m.map fun a => rowP a y), 0 ≤ z ∧ z ≤ s := by
    intro y z hz
    have h1 := ((asc_all _).2.1 z).1 hz
    obtain ⟨r, hr, hz⟩ := List.mem_flatMap.1 h1
    obtain ⟨a, ha, rfl⟩ := List.mem_map.1 hr
    obtain ⟨sg, hsg, hz⟩ := List.mem_flatMap.1 hz
    have := row_in (hm a ha) y sg hsg
    simp only [List.mem_cons, List.not_mem_nil, or_false] at hz
    rcases hz with rfl | rfl <;> omega
  unfold onePc at hp
  split at hp
  · simp at hp
  · rw [List.mem_singleton] at hp
    subst hp
    have h1 := hC _ (getD_mem (C := cutsP m.flatten) (i := i) (by omega))
    have h2 := hC _ (getD_mem (C := cutsP m.flatten) (i := i + 1) (by omega))
    have h3 := hE _ _ (getD_mem (C := endsP (m.map fun a => rowP a ((cutsP m.flatten).getD i 0))) (i := k) (by omega))
    have h4 := hE _ _ (getD_mem (C := endsP (m.map fun a => rowP a ((cutsP m.flatten).getD i 0))) (i := k + 1) (by omega))
    exact ⟨h3.1, hpos.2.1, h4.2, h1.1, hpos.2.2, h2.2⟩
theorem ofPc_ins {s : Int} {m : List (List R4)} (hm : ∀ a ∈ m, InS s a) (t : Nat) : InS s (ofPc (piecesP m) t) := by
  intro q hq
  obtain ⟨p, hp, rfl⟩ := List.mem_map.1 hq
  exact pieces_in hm _ (List.mem_map.2 ⟨p, (List.mem_filter.1 hp).1, rfl⟩)
theorem setAt_bit (m : List (List R4)) (x y : Int) (i : Nat) : (setAt m x y).testBit i = ((m[i]?).map fun a => inL a x y).getD false := by
  unfold setAt
  rw [maskL_bit, List.getD_eq_getElem?_getD, List.getElem?_map]
/-- What the faces of regions are. -/
structure FacesOk (s : Nat) (m : List (List R4)) (F : List Fc) : Prop where
  up : (F.map Fc.set).Pairwise (· < ·)
  pos : ∀ f ∈ F, 0 < f.set ∧ f.set < 2 ^ m.length
  at' : ∀ f ∈ F, ∀ x y, inL f.rg x y = decide ((setAt m x y : Int) = f.set)
  reg : ∀ f ∈ F, Reg s (s * s) f.rg
  ne : ∀ f ∈ F, ∃ x y, (setAt m x y : Int) = f.set
  all : ∀ x y, setAt m x y ≠ 0 → ∃ f ∈ F, f.set = setAt m x y
theorem faceOf_ok {s : Nat} {m : List (List R4)} (hm : ∀ a ∈ m, InS s a) {t : Int} (ht : t ∈ keysPc (piecesP m)) : 0 < t ∧ t < 2 ^ m.length ∧ (∀ x y, inL (faceOf m t).rg x y = decide ((setAt m x y : Int) = t)) ∧ Reg s (s * s) (faceOf m t).rg ∧ ∃ x y, (setAt m x y : Int) = t := by
  obtain ⟨p, hp, rfl⟩ := (keysPc_mem t).1 ht
  have h1 := pieces_pos p hp
  have h2 := pieces_lt p hp
  have hpos : ∀ a ∈ m, ∀ q ∈ a, q.l < q.r := fun a ha => (hm a ha).pos
  have hi := ofPc_ins hm p.1
  have hat : ∀ x y, inL (canonP (ofPc (piecesP m) p.1)) x y = decide (setAt m x y = p.1) := fun x y => by
    rw [(canonP_canon _ hi.pos).mem x y]
    exact ofPc_in hpos x y h1.1
  refine ⟨by omega, by exact_mod_cast h2, fun x y => ?_, ⟨canonP_in hi, canonP_idem hi, canonP_side hi⟩, p.2.l, p.2.b, ?_⟩
  · show inL (canonP (ofPc (piecesP m) ((p.1 : Int)).toNat)) x y = _
    rw [Int.toNat_natCast, hat x y, Bool.eq_iff_iff, decide_eq_true_iff, decide_eq_true_iff]
    omega
  · have := (pieces_mem hpos p.2.l p.2.b p.1 h1.1).1 ⟨p, hp, rfl, by simp only [R4.has, Bool.and_eq_true, decide_eq_true_eq]; omega⟩
    omega
theorem facesP_ok {s : Nat} {m : List (List R4)} (hs : s ≤ 10) (hl : m.length ≤ 12) (hm : ∀ a ∈ m, InS s a) (hv : m.all validP = true) : ∃ F, facesP m = (F, 0) ∧ FacesOk s m F := by
  have hk : (keysPc (piecesP m)).any (bigF m) = false := by
    rw [List.any_eq_false]
    intro t ht
    have h1 := (faceOf_ok hm ht).2.2.2.1.len
    have h2 : s * s ≤ 10 * 10 := Nat.mul_le_mul hs hs
    show ¬ decide (120 < (faceOf m t).rg.length) = true
    simp only [decide_eq_true_eq]
    omega
  refine ⟨(keysPc (piecesP m)).map (faceOf m), by unfold facesP; rw [if_neg (by omega), if_pos hv, if_neg (by rw [hk]; simp)], ?_, ?_, ?_, ?_, ?_, ?_⟩
  · rw [List.map_map]
    have : (Fc.set ∘ faceOf m) = id := by funext t; rfl
    rw [this, List.map_id]
    exact (asc_all _).1
  · intro f hf
    obtain ⟨t, ht, rfl⟩ := List.mem_map.1 hf
    have := faceOf_ok hm ht
    exact ⟨this.1, this.2.1⟩
  · intro f hf
    obtain ⟨t, ht, rfl⟩ := List.mem_map.1 hf
    exact (faceOf_ok hm ht).2.2.1
  · intro f hf
    obtain ⟨t, ht, rfl⟩ := List.mem_map.1 hf
    exact (faceOf_ok hm ht).2.2.2.1
  · intro f hf
    obtain ⟨t, ht, rfl⟩ := List.mem_map.1 hf
    exact (faceOf_ok hm ht).2.2.2.2
  · intro x y h
    have hpos : ∀ a ∈ m, ∀ q ∈ a, q.l < q.r := fun a ha => (hm a ha).pos
    obtain ⟨p, hp, he, _⟩ := (pieces_mem hpos x y _ h).2 rfl
    exact ⟨faceOf m (p.1 : Int), List.mem_map.2 ⟨p.1, (keysPc_mem _).2 ⟨p, hp, rfl⟩, rfl⟩, by show (p.1 : Int) = _; rw [he]⟩
end Go.Proofs.YtfmkmhhghmdakaaGreatDoor

namespace Go.Proofs.YtfmkmhhghmdakaaGreatDoor
open Go.RowKit
set_option linter.unusedVariables false
set_option linter.unusedSimpArgs false

theorem wrap_nat63 (n : Nat) (h : n < 9223372036854775808) : IntKind.i64.wrap (n : Int) = (n : Int) := by
  have e : (n : Int) % 2 ^ 64 = n := Int.emod_eq_of_lt (by omega) (by omega)
  simp only [IntKind.wrap, IntKind.bits, IntKind.signed, e]
  rw [if_neg]
  simp
  omega
theorem ofInt_nat64 (a : Nat) (h : a < 18446744073709551616) : (BitVec.ofInt 64 (a : Int)).toNat = a := by
  rw [BitVec.ofInt_natCast, BitVec.toNat_ofNat]
  exact Nat.mod_eq_of_lt (by omega)
theorem or_i64n (a b : Nat) (ha : a < 2 ^ 62) (hb : b < 2 ^ 62) : bits .or .i64 (a : Int) (b : Int) = ((a ||| b : Nat) : Int) := by
  have hx : a ||| b < 2 ^ 62 := Nat.or_lt_two_pow ha hb
  show IntKind.i64.wrap ((BitVec.ofInt 64 (a : Int) ||| BitVec.ofInt 64 (b : Int)).toNat : Int) = _
  rw [BitVec.toNat_or, ofInt_nat64 a (by omega), ofInt_nat64 b (by omega)]
  exact wrap_nat63 _ (by omega)
theorem and_i64n (a b : Nat) (ha : a < 2 ^ 62) (hb : b < 2 ^ 62) : bits .and .i64 (a : Int) (b : Int) = ((a &&& b : Nat) : Int) := by
  have hx : a &&& b < 2 ^ 62 := Nat.and_lt_two_pow _ hb
  show IntKind.i64.wrap ((BitVec.ofInt 64 (a : Int) &&& BitVec.ofInt 64 (b : Int)).toNat : Int) = _
  rw [BitVec.toNat_and, ofInt_nat64 a (by omega), ofInt_nat64 b (by omega)]
  exact wrap_nat63 _ (by omega)
/-- A number without the bits of another one. -/
def minusN (a b : Nat) : Nat := a ^^^ (a &&& b)
theorem minusN_bit (a b i : Nat) : (minusN a b).testBit i = (a.testBit i && !b.testBit i) := by
  unfold minusN
  rw [Nat.testBit_xor, Nat.testBit_and]
  cases a.testBit i <;> cases b.testBit i <;> rfl
theorem maskL_or (l : List Bool) (b : Bool) : maskL l ||| (b.toNat * 2 ^ l.length) = maskL (l ++ [b]) := by
  rw [maskL_snoc, Nat.add_comm]
  cases b
  · simp
  · rw [Bool.toNat_true, Nat.one_mul, Nat.or_comm]
    have h := Nat.two_pow_add_eq_or_of_lt (maskL_lt l) 1
    rw [Nat.mul_one] at h
    exact h.symm
/-! ## Squares -/
end Go.Proofs.YtfmkmhhghmdakaaGreatDoor

namespace Go.Proofs.YtfmkmhhghmdakaaGreatDoor
open Go.RowKit
set_option linter.unusedVariables false
set_option linter.unusedSimpArgs false

theorem FacesOk.set_iff {s : Nat} {m : List (List R4)} {F : List Fc} (h : FacesOk s m F) (t : Int) : t ∈ F.map Fc.set ↔ 0 < t ∧ ∃ x y, (setAt m x y : Int) = t := by
  constructor
  · intro ht
    obtain ⟨f, hf, rfl⟩ := List.mem_map.1 ht
    exact ⟨(h.pos f hf).1, h.ne f hf⟩
  · rintro ⟨h0, x, y, rfl⟩
    obtain ⟨f, hf, he⟩ := h.all x y (by omega)
    exact List.mem_map.2 ⟨f, hf, he⟩
/-! ## Turns -/
/-! ## A further region -/
theorem strip_bit (m : List (List R4)) (e : List R4) (x y : Int) : minusN (setAt (m ++ [e]) x y) (2 ^ m.length) = setAt m x y := by
  refine Nat.eq_of_testBit_eq fun i => ?_
  rw [minusN_bit, setAt_bit, setAt_bit, Nat.testBit_two_pow]
  by_cases h : m.length = i
  · subst h
    simp
  · rw [decide_eq_false h]
    simp only [Bool.not_false, Bool.and_true]
    by_cases h2 : i < m.length
    · rw [List.getElem?_append_left h2]
    · rw [List.getElem?_eq_none (by simp; omega), List.getElem?_eq_none (by omega)]
theorem more_law {s : Nat} {m : List (List R4)} {e : List R4} {F G : List Fc} (hs : s ≤ 10) (hF : FacesOk s m F) (hG : FacesOk s (m ++ [e]) G) :
    F.length ≤ G.length ∧ ∀ g ∈ G, minusN g.set.toNat (2 ^ m.length) = 0 ∨ ∃ f ∈ F, f.set = ((minusN g.set.toNat (2 ^ m.length) : Nat) : Int) ∧ withinP g.rg f.rg = true := by
  have hk : s * s ≤ 120 := by
    have := Nat.mul_le_mul hs hs
    omega
  refine ⟨?_, fun g hg => ?_⟩
  · have h1 : (F.map Fc.set).length ≤ ((G.map Fc.set).map fun t => ((minusN t.toNat (2 ^ m.length) : Nat) : Int)).length := by
      refine sub_lenO _ _ hF.up fun t ht => ?_
      obtain ⟨h0, x, y, rfl⟩ := (hF.set_iff t).1 ht
      have hn := strip_bit m e x y
      refine List.mem_map.2 ⟨(setAt (m ++ [e]) x y : Int), (hG.set_iff _).2 ⟨?_, x, y, rfl⟩, by rw [Int.toNat_natCast, hn]⟩
      rcases Nat.eq_zero_or_pos (setAt (m ++ [e]) x y) with z | z
      · rw [z] at hn
        simp [minusN] at hn
        omega
      · omega
    simpa using h1
  · obtain ⟨x, y, hxy⟩ := hG.ne g hg
    have hp := (hG.pos g hg).1
    have hn := strip_bit m e x y
    have hx : setAt (m ++ [e]) x y = g.set.toNat := by omega
    rw [hx] at hn
    rcases Nat.eq_zero_or_pos (setAt m x y) with z | z
    · left; rw [hn, z]
    · right
      obtain ⟨f, hf, he⟩ := hF.all x y (by omega)
      refine ⟨f, hf, by rw [he, hn], (within_iff s (s * s) (s * s) hs hk hk (hG.reg g hg) (hF.reg f hf)).2 fun u v huv => ?_⟩
      rw [hG.at' g hg, decide_eq_true_iff] at huv
      rw [hF.at' f hf, decide_eq_true_iff, he]
      have h3 := strip_bit m e u v
      have h4 : setAt (m ++ [e]) u v = g.set.toNat := by omega
      rw [h4, hn] at h3
      rw [h3]
where sub_lenO : ∀ (E X : List Int), E.Pairwise (· < ·) → (∀ e ∈ E, e ∈ X) → E.length ≤ X.length
  | [], X, _, _ => Nat.zero_le _
  | a :: t, X, hp, h => by
    obtain ⟨h1, h2⟩ := List.pairwise_cons.1 hp
    have hm := h a (by simp)
    have ih := sub_lenO t (X.erase a) h2 (fun e he => (List.mem_erase_of_ne (by have := h1 e he; omega)).2 (h e (by simp [he])))
    have hl := List.length_erase_of_mem hm
    have hpos : 0 < X.length := List.length_pos_of_mem hm
    rw [List.length_cons]
    omega
end Go.Proofs.YtfmkmhhghmdakaaGreatDoor
namespace Go.Proofs.YtfmkmhhghmdakaaGreatDoor
open Go.RowKit
set_option linter.unusedVariables false
set_option linter.unusedSimpArgs false

/-- A kind of kinds: hard. -/
def adjK (k : Int) : Int := if 8 ≤ k ∧ k ≤ 11 then k - 8 else k
/-- The features that are there on a day. -/
def isThere (d : Int) (f : Ft) : Bool := decide (f.fr ≤ d) && decide (d < f.un)
def onP (l : List Ft) (d : Int) : List Ft := l.filter (isThere d)
/-- Whether a set has a bit. -/
def bitAt (s : Int) (i : Nat) : Bool := s.toNat.testBit i
/-- The kinds that a set names, and whether one is hard, of the first k features. -/
def kindsTo (m : List Ft) (s : Int) (k : Nat) : List Int := (List.range k).foldl (fun a i => if bitAt s i then putL a ((m.map Ft.kd).getD i 0) else a) []
def hardTo (m : List Ft) (s : Int) (k : Nat) : Bool := (List.range k).any fun i => bitAt s i && decide ((m.map Ft.kd).getD i 0 < 8)
theorem kindsTo_succ (m : List Ft) (s : Int) (k : Nat) : kindsTo m s (k + 1) = if bitAt s k then putL (kindsTo m s k) ((m.map Ft.kd).getD k 0) else kindsTo m s k := by
  unfold kindsTo
  rw [List.range_succ, List.foldl_append]
  rfl
theorem hardTo_succ (m : List Ft) (s : Int) (k : Nat) : hardTo m s (k + 1) = (hardTo m s k || (bitAt s k && decide ((m.map Ft.kd).getD k 0 < 8))) := by
  unfold hardTo
  rw [List.range_succ, List.any_append]
  simp
theorem kindsTo_mem (m : List Ft) (s : Int) (k : Nat) (y : Int) : y ∈ kindsTo m s k ↔ ∃ i, i < k ∧ bitAt s i = true ∧ (m.map Ft.kd).getD i 0 = y := by
  induction k with
  | zero => simp [kindsTo]
  | succ k ih =>
    rw [kindsTo_succ]
    by_cases h : bitAt s k = true
    · rw [if_pos h, putL_mem, ih]
      constructor
      · rintro (rfl | ⟨i, h1, h2, h3⟩)
        · exact ⟨k, Nat.lt_succ_self k, h, rfl⟩
        · exact ⟨i, by omega, h2, h3⟩
      · rintro ⟨i, h1, h2, h3⟩
        by_cases hik : i = k
        · subst hik; exact .inl h3.symm
        · exact .inr ⟨i, by omega, h2, h3⟩
    · rw [if_neg h, ih]
      constructor
      · rintro ⟨i, h1, h2, h3⟩; exact ⟨i, by omega, h2, h3⟩
      · rintro ⟨i, h1, h2, h3⟩
        by_cases hik : i = k
        · subst hik; exact absurd h2 h
        · exact ⟨i, by omega, h2, h3⟩
theorem kindsTo_asc (m : List Ft) (s : Int) (k : Nat) : (kindsTo m s k).Pairwise (· < ·) := by
  induction k with
  | zero => exact List.Pairwise.nil
  | succ k ih =>
    rw [kindsTo_succ]
    split
    · exact putL_lt _ _ ih
    · exact ih
theorem kindsTo_len (m : List Ft) (s : Int) (k : Nat) : (kindsTo m s k).length ≤ k := by
  induction k with
  | zero => simp [kindsTo]
  | succ k ih =>
    rw [kindsTo_succ]
    split
    · have : ∀ (l : List Int) (v : Int), (putL l v).length ≤ l.length + 1 := by
        intro l v
        induction l with
        | nil => simp [putL]
        | cons a t ih2 =>
          unfold putL
          split
          · simp; omega
          · split <;> simp
      have := this (kindsTo m s k) ((m.map Ft.kd).getD k 0)
      omega
    · omega
/-- Two ascending lists with the same numbers are one. -/
theorem asc_uniq {l m : List Int} (hl : l.Pairwise (· < ·)) (hm : m.Pairwise (· < ·)) (h : ∀ y, y ∈ l ↔ y ∈ m) : l = m := by
  have h1 : l.Perm m := (List.perm_ext_iff_of_nodup (hl.imp fun {a b} hab e => by omega) (hm.imp fun {a b} hab e => by omega)).2 h
  exact h1.eq_of_pairwise (fun a b _ _ h1 h2 => by omega) hl hm
/-- The kinds of the features that have a square. -/
def zonesP (m : List Ft) (x y : Int) : List Int := asc ((m.filter fun f => inL f.rg x y).map Ft.kd)
theorem zones_kinds (m : List Ft) (x y : Int) : zonesP m x y = kindsTo m (setAt (m.map Ft.rg) x y) m.length := by
  obtain ⟨h1, h2, _⟩ := asc_all ((m.filter fun f => inL f.rg x y).map Ft.kd)
  refine asc_uniq h1 (kindsTo_asc _ _ _) fun k => ?_
  unfold zonesP
  rw [h2, kindsTo_mem, List.mem_map]
  constructor
  · rintro ⟨f, hf, rfl⟩
    obtain ⟨hf, hh⟩ := List.mem_filter.1 hf
    obtain ⟨i, hi, rfl⟩ := List.mem_iff_getElem.1 hf
    refine ⟨i, hi, ?_, by simp [List.getD_eq_getElem?_getD, List.getElem?_eq_getElem hi]⟩
    unfold bitAt
    rw [Int.toNat_natCast, setAt_bit]
    simpa [List.getElem?_eq_getElem hi] using hh
  · rintro ⟨i, hi, hb, rfl⟩
    unfold bitAt at hb
    rw [Int.toNat_natCast, setAt_bit] at hb
    refine ⟨m[i], List.mem_filter.2 ⟨List.getElem_mem hi, by simpa [List.getElem?_eq_getElem hi] using hb⟩, by simp [List.getD_eq_getElem?_getD, List.getElem?_eq_getElem hi]⟩
theorem hard_iff (m : List Ft) (x y : Int) : hardTo m (setAt (m.map Ft.rg) x y) m.length = true ↔ ∃ f ∈ m, f.kd < 8 ∧ inL f.rg x y = true := by
  unfold hardTo
  rw [List.any_eq_true]
  constructor
  · rintro ⟨i, hi, h⟩
    have hi := List.mem_range.1 hi
    rw [Bool.and_eq_true] at h
    obtain ⟨hb, hk⟩ := h
    unfold bitAt at hb
    rw [Int.toNat_natCast, setAt_bit] at hb
    exact ⟨m[i], List.getElem_mem hi, by simpa [List.getD_eq_getElem?_getD, List.getElem?_eq_getElem hi] using hk, by simpa [List.getElem?_eq_getElem hi] using hb⟩
  · rintro ⟨f, hf, hk, hh⟩
    obtain ⟨i, hi, rfl⟩ := List.mem_iff_getElem.1 hf
    refine ⟨i, List.mem_range.2 hi, ?_⟩
    rw [Bool.and_eq_true]
    refine ⟨?_, by simpa [List.getD_eq_getElem?_getD, List.getElem?_eq_getElem hi] using hk⟩
    unfold bitAt
    rw [Int.toNat_natCast, setAt_bit]
    simpa [List.getElem?_eq_getElem hi] using hh
/-- The rectangles of the hard features; their squares; what is eligible. -/
def hardR (m : List Ft) : List R4 := (m.filter fun f => decide (f.kd < 8)).flatMap Ft.rg
theorem hardR_in (m : List Ft) (x y : Int) : inL (hardR m) x y = true ↔ ∃ f ∈ m, f.kd < 8 ∧ inL f.rg x y = true := by
  unfold hardR inL
  rw [List.any_eq_true]
  constructor
  · rintro ⟨q, hq, h⟩
    obtain ⟨f, hf, hq⟩ := List.mem_flatMap.1 hq
    obtain ⟨hf, hk⟩ := List.mem_filter.1 hf
    exact ⟨f, hf, by simpa using hk, List.any_eq_true.2 ⟨q, hq, h⟩⟩
  · rintro ⟨f, hf, hk, h⟩
    obtain ⟨q, hq, h⟩ := List.any_eq_true.1 h
    exact ⟨q, List.mem_flatMap.2 ⟨f, List.mem_filter.2 ⟨hf, by simpa using hk⟩, hq⟩, h⟩
theorem hardR_ins {s : Int} {m : List Ft} (hm : ∀ f ∈ m, InS s f.rg) : InS s (hardR m) := by
  intro q hq
  obtain ⟨f, hf, hq⟩ := List.mem_flatMap.1 hq
  exact hm f (List.mem_filter.1 hf).1 q hq
def fineP (a : List R4) (m : List Ft) : List R4 := chooseP notB a (canonP (hardR m) ++ [])
/-- The law of zones: what a face says, its first square tells; and what is eligible of it. -/
theorem zones_law {m : List Ft} {F : List Fc} {a : List R4} {k : Nat} (hm : ∀ f ∈ m, InS 9 f.rg) (hF : FacesOk 9 (m.map Ft.rg) F) (ha : Reg 9 k a) (hk : k ≤ 120) (f : Fc) (hf : f ∈ F) :
    (∃ q t, f.rg = q :: t ∧ zonesP m q.l q.b = kindsTo m f.set m.length) ∧ combineP andB a f.rg = (chooseP andB a f.rg, 0) ∧
    (hardTo m f.set m.length = true → meetsP (chooseP andB a f.rg) (fineP a m) = false) ∧
    (hardTo m f.set m.length = false → withinP (chooseP andB a f.rg) (fineP a m) = true) := by
  have hat := hF.at' f hf
  have hr := hF.reg f hf
  have hins := hardR_ins hm
  have hch : InS 9 (canonP (hardR m) ++ []) := by rw [List.append_nil]; exact canonP_in hins
  have hpart := choose_reg andB rfl 9 ha.ins hr.ins
  have hfine := choose_reg notB rfl 9 ha.ins hch
  have hfm : ∀ x y, inL (fineP a m) x y = (inL a x y && !inL (hardR m) x y) := fun x y => by
    unfold fineP
    rw [choose_mem notB rfl ha.ins.pos hch.pos, List.append_nil, (canonP_canon _ hins.pos).mem]
    rfl
  have hpm : ∀ x y, inL (chooseP andB a f.rg) x y = (inL a x y && inL f.rg x y) := fun x y => choose_mem andB rfl ha.ins.pos hr.ins.pos x y
  have hset : ∀ x y, inL f.rg x y = true → ((setAt (m.map Ft.rg) x y : Nat) : Int) = f.set := fun x y h => by
    rw [hat] at h; exact of_decide_eq_true h
  have hhard : ∀ x y, inL f.rg x y = true → hardTo m f.set m.length = inL (hardR m) x y := fun x y h => by
    rw [← hset x y h]
    exact bool_eq ((hard_iff m x y).trans (hardR_in m x y).symm)
  refine ⟨?_, combine_reg andB rfl 9 k 81 (by omega) hk (by omega) ha hr, fun h => ?_, fun h => ?_⟩
  · cases hq : f.rg with
    | nil =>
      obtain ⟨x, y, h⟩ := hF.ne f hf
      have := hat x y
      rw [hq, decide_eq_true h] at this
      cases this
    | cons q t =>
      have hq2 := hr.ins q (by rw [hq]; simp)
      have h1 := inL_of (l := f.rg) (q := q) (by rw [hq]; simp) (by omega)
      exact ⟨q, t, rfl, by rw [zones_kinds, hset _ _ h1]⟩
  · unfold meetsP
    have h0 : ((chooseP andB a f.rg).any fun p => (fineP a m).any fun q => overP p q) = false := by
      rw [Bool.eq_false_iff]
      intro hc
      obtain ⟨x, y, hxy⟩ := (over_some hpart.ins hfine.ins).1 hc
      rw [Bool.and_eq_true] at hxy
      obtain ⟨h1, h2⟩ := hxy
      have h3 : inL (fineP a m) x y = true := h2
      rw [hpm, Bool.and_eq_true] at h1
      rw [hfm, Bool.and_eq_true, ← hhard x y h1.2, h] at h3
      simp at h3
    rw [h0, Bool.and_false]
  · refine (within_iff 9 (9 * 9) (9 * 9) (by omega) (by omega) (by omega) hpart hfine).2 fun x y hx => ?_
    show inL (fineP a m) x y = true
    rw [hpm, Bool.and_eq_true] at hx
    rw [hfm, hx.1, ← hhard x y hx.2, h]
    rfl
/-- A rectangle alone is canonical. -/
theorem canon_one (q : R4) (h1 : q.l < q.r) (h2 : q.b < q.t) : canonP [q] = [q] := by
  refine Canon.own (P := fun x y => inL [q] x y) ⟨fun y => if q.b ≤ y ∧ y < q.t then [(q.l, q.r, ())] else [], [(q.b, q.t, [(q.l, q.r, ())])], fun y => ?_, ?_, rfl⟩ (fun p hp => by rw [List.mem_singleton] at hp; subst hp; exact h1)
  · refine ⟨q.l, fun x hx => ?_, ?_⟩
    · simp [inL, R4.has, opt]; omega
    · by_cases hy : q.b ≤ y ∧ y < q.t
      · dsimp only
        rw [if_pos hy]
        refine ⟨Int.le_refl _, h1, fun x ha hb => ?_, fun x ha hb => ?_, ?_, fun x hx => ?_⟩
        · dsimp only at hb; omega
        · dsimp only at ha hb
          simp [inL, R4.has, opt]; omega
        · simp [inL, R4.has, opt]
        · dsimp only at hx
          simp [inL, R4.has, opt]; omega
      · dsimp only
        rw [if_neg hy]
        intro x hx
        simp [inL, R4.has, opt]; omega
  · refine ⟨q.b, fun y hy => ?_, Int.le_refl _, h2, fun y ha hb => ?_, fun y ha hb => ?_, ?_, fun y hy => ?_⟩
    · dsimp only
      rw [if_neg (by omega)]; rfl
    · dsimp only at hb; omega
    · dsimp only at ha hb
      dsimp only
      rw [if_pos ⟨ha, hb⟩]; rfl
    · dsimp only
      rw [if_neg (by omega)]; simp [nz]
    · dsimp only at hy ⊢
      rw [if_neg (by omega)]; rfl
/-- A land of the tape: canonical, few rectangles. -/
theorem one_reg (q : R4) (h : 0 ≤ q.l ∧ q.l < q.r ∧ q.r ≤ 9 ∧ 0 ≤ q.b ∧ q.b < q.t ∧ q.t ≤ 9) : Reg 9 6 [q] :=
  ⟨fun p hp => by rw [List.mem_singleton] at hp; subst hp; exact h, canon_one q h.2.1 h.2.2.2.2.1, by simp⟩
/-- The layer with its kinds turned. -/
def adjF (x : Ft) : Ft := { x with kd := adjK x.kd }
theorem adjK_bd (k : Int) (h : 0 ≤ k ∧ k ≤ 15) : 0 ≤ adjK k ∧ adjK k ≤ 15 ∧ ¬ (8 ≤ adjK k ∧ adjK k ≤ 11) := by
  unfold adjK
  split <;> omega
theorem LyOk.adj {l : List Ft} (h : LyOk l) : LyOk (l.map adjF) := by
  refine ⟨fun y hy => ?_, ?_, by rw [List.length_map]; exact h.len⟩
  · obtain ⟨x, hx, rfl⟩ := List.mem_map.1 hy
    have := h.ok x hx
    have h2 := adjK_bd x.kd this.kd
    exact ⟨this.num, ⟨h2.1, h2.2.1⟩, this.day, this.rg, this.ne⟩
  · exact List.pairwise_map.2 h.up
end Go.Proofs.YtfmkmhhghmdakaaGreatDoor
namespace Go.Proofs.YtfmkmhhghmdakaaGreatDoor
open Go.RowKit Go.Shelf
set_option linter.unusedVariables false
set_option linter.unusedSimpArgs false

theorem land9_reg (r : List Int) : Reg 9 6 (mkReg r 9 2).1 := mkReg_reg r 9 2 (by omega) (by omega) (by omega) (by omega)
/-- What Land leaves, canonical. -/
def LandPost9 (w : World) (g : Nat) (e : Ending) (w' : World) : Prop :=
  ∃ (v : LV) (a : List R4) (r : List Int), e = .returned (.agg #[.slice v.a a.length v.c]) ∧ w'.ownsRow w.heap.size 68 4 (.slice v.a a.length v.c) a.length (rCells a) ∧ TapeAt w' g r ∧ w.grownBy w' (some g) ∧ Reg 9 6 a ∧ 0 < a.length

set_option maxHeartbeats 4000000 in
set_option maxRecDepth 100000 in
theorem land9_any (g : Nat) (r : List Int) (w : World) (ht : TapeAt w g r) :
    Calls Tryz.prog 45 #[.pointer (some ⟨g, 0, none⟩), .int .i64 9, .int .i64 2] w (LandPost9 w g) := by
  have hlt := ht.lt
  have Hr := Lib.hid (region_any g r 9 2 (w.alloc (.cells #[.slice none 0 0] 33)) (ht.alloc _) (by omega) (by omega))
  have Hok := Lib.hid (land9_reg r)
  generalize mkReg r 9 2 = rr at *
  obtain ⟨a, r1⟩ := rr
  dsimp only at Hok
  clear ht
  go_enter Tryz.func45, Tryz.ntmps45
  go_upto_region 2 with (first
    | (go_at_call 21
       refine Hr.out.mono ?_
       rintro e w1 ⟨v1, rfl, hown1, ht1, hg1⟩
       dsimp only at hown1 ht1
       obtain ⟨A, c, rfl, _, _, _⟩ := own_slice hown1
       have Hown1 := Lib.hid hown1
       have Ht1 := Lib.hid ht1
       have Hg1 := Lib.hid hg1
       have hs1 := hg1.size
       clear hown1 ht1 hg1)
    | fail)
  simp at hs1
  have hg1 := Ht1.out.lt
  have hr1 : w1.heap[w.heap.size]? = some (.cells #[.slice none 0 0] 33 (0, 0)) := (Hg1.out.block w.heap.size (by simp) (by intro e; injection e; omega)).trans (heap_alloc_new w _)
  have Hg : Hid (w.grownBy w1 (some g)) := Lib.hid ⟨Hg1.out.os, Hg1.out.tape, Hg1.out.output, by omega, fun i hi hne => (Hg1.out.block i (by simp; omega) hne).trans (Below.heap_alloc w _ i hi)⟩
  obtain ⟨wb, hwb⟩ : ∃ wb : World, wb = w1.alloc (.cells #[.slice A a.length c] 33) := ⟨_, rfl⟩
  rw [← hwb]
  have HX : Hid (wb.heap[w1.heap.size]? = some (.cells #[.slice A a.length c] 33 (0, 0))) := Lib.hid (by rw [hwb]; exact heap_alloc_new w1 _)
  have HG : Hid (wb.heap[w.heap.size]? = some (.cells #[.slice none 0 0] 33 (0, 0))) := Lib.hid (by rw [hwb]; exact (Below.heap_alloc w1 _ _ (by omega)).trans hr1)
  have Hgb : Hid (w.grownBy wb (some g)) := Lib.hid (by rw [hwb]; exact only_alloc Hg.out _)
  have Htb : Hid (TapeAt wb g r1) := Lib.hid (by rw [hwb]; exact Ht1.out.alloc _)
  have hlow := own_ltY Hown1.out
  have Hownb : Hid (wb.ownsRow (w.heap.size + 1) 68 4 (.slice A a.length c) a.length (rCells a)) := Lib.hid (by rw [hwb]; have := Hown1.out.alloc (.cells #[.slice A a.length c] 33); simpa using this)
  have Hlow : Hid (∀ k, (Value.slice A a.length c).ownBlock = some k → w.heap.size + 1 ≤ k ∧ k < w1.heap.size) := Lib.hid (fun k hk => ⟨own_base Hownb.out k hk, hlow k hk⟩)
  have hXb : w1.heap.size < wb.heap.size := by rw [hwb]; simp
  have hGb : w.heap.size < w1.heap.size := by omega
  obtain ⟨X, hX⟩ : ∃ X, w1.heap.size = X := ⟨_, rfl⟩
  rw [hX] at HX hXb hGb Hlow ⊢
  clear hwb hr1 Hg Ht1 Hown1 Hg1 hs1 hg1 Hr hlow hX
  have x0 := cell_of_row wb X 0 _ _ _ HX.out
  by_cases h0 : a.length = 0
  · have h0' : (a.length : Int) = 0 := by omega
    have h0d : decide ((a.length : Int) = 0) = true := decide_eq_true h0'
    have hgb := Htb.out.lt
    have HRe := Lib.hid (rect_any g r1 9 wb Htb.out (by omega))
    have Hqo := Lib.hid (one_reg (mkRect r1 9) (mkRect_in r1 9 (by omega)))
    generalize mkRect r1 9 = q at *
    go_upto_region 3 with fail
    go_upto_region 4 with (first
      | (go_at_call 77
         refine HRe.out.mono ?_
         rintro e w2 ⟨rfl, ht2, hg2⟩
         have Ht2 := Lib.hid ht2
         have Hg2 := Lib.hid hg2
         have hs2 := hg2.size
         have hrX := (hg2.block X hXb (by intro e; injection e; omega)).trans HX.out
         have hrG := (hg2.block w.heap.size (by omega) (by intro e; injection e; omega)).trans HG.out
         have hlX2 : X < w2.heap.size := by omega
         have xc2 : ∀ o, (w2.alloc o).cell? ⟨X, 0, none⟩ = some (.slice A a.length c) := fun o => by rw [World.cell?_alloc_lt w2 o _ hlX2]; exact cell_of_row w2 X 0 _ _ _ hrX
         have xf2 : ∀ o, (w2.alloc o).frozen? ⟨X, 0, none⟩ = false := fun o => frozen_of_row (w2.alloc o) X 0 _ _ ((Below.heap_alloc w2 o _ hlX2).trans hrX)
         have HrX := Lib.hid hrX
         have HrG := Lib.hid hrG
         clear ht2 hg2 hrX hrG)
      | fail)
    obtain ⟨wc, hwc⟩ : ∃ wc : World, wc = (w2.setCell ⟨X, 0, none⟩ (.slice (some ⟨w2.heap.size, 0, none⟩) 1 1)).alloc (.cells #[.int .i64 q.l, .int .i64 q.b, .int .i64 q.r, .int .i64 q.t] 68) := ⟨_, rfl⟩
    rw [← hwc]
    have hrX : wc.heap[X]? = some (.cells #[.slice (some ⟨w2.heap.size, 0, none⟩) 1 1] 33 (0, 0)) := by
      rw [hwc]
      have h := heap_setCell_same w2 X 0 _ _ (.slice (some ⟨w2.heap.size, 0, none⟩) 1 1) HrX.out
      exact (Below.heap_alloc _ _ _ (by simpa using hlX2)).trans (by simpa using h)
    have hr : wc.heap[w.heap.size]? = some (.cells #[.slice none 0 0] 33 (0, 0)) := by
      rw [hwc]
      exact (Below.heap_alloc _ _ _ (by simp; omega)).trans ((Below.heap_setCell _ _ _ _ (by show w.heap.size ≠ X; omega)).trans HrG.out)
    have Ho : Hid (wc.ownsRow w2.heap.size 68 4 (.slice (some ⟨w2.heap.size, 0, none⟩) 1 1) 1 (rCells [q])) := Lib.hid (by
      rw [hwc]
      have h := own_lit (w2.setCell ⟨X, 0, none⟩ (.slice (some ⟨w2.heap.size, 0, none⟩) 1 1)) 68 4 1 #[.int .i64 q.l, .int .i64 q.b, .int .i64 q.r, .int .i64 q.t] (rCells [q]) rfl (by rfl) (by unfold maxLen; omega)
      simpa using h)
    have Htc : Hid (TapeAt wc g r1.tail.tail.tail.tail) := Lib.hid (by rw [hwc]; exact (Ht2.out.setCell (by show g < X; omega) _).alloc _)
    have Hgc : Hid (w.grownBy wc (some g)) := Lib.hid (by rw [hwc]; exact only_alloc (only_setCell (only_trans Hgb.out Hg2.out) (.inr (by show w.heap.size ≤ X; omega)) _) _)
    have hlow := own_base Ho.out
    have xc := cell_of_row wc X 0 _ _ _ hrX
    have cr := cell_of_row wc w.heap.size 0 _ _ _ hr
    have fr := frozen_of_row wc w.heap.size 0 _ _ hr
    have cs : (wc.setCell ⟨w.heap.size, 0, none⟩ (.slice (some ⟨w2.heap.size, 0, none⟩) 1 1)).cell? ⟨w.heap.size, 0, none⟩ = some (.slice (some ⟨w2.heap.size, 0, none⟩) 1 1) := by
      rw [cell_of_row _ w.heap.size 0 _ _ _ (heap_setCell_same wc w.heap.size 0 _ _ _ hr)]
      simp
    have hwq : w.heap.size < w2.heap.size := by omega
    clear hr hrX hwc xc2 xf2
    go_wp2
    refine bodyPost_ret (v := .agg #[.slice (some ⟨w2.heap.size, 0, none⟩) 1 1]) (by simp [results, Tryz.results45, go_sem, *]) rfl ?_
    refine ⟨⟨some ⟨w2.heap.size, 0, none⟩, 1⟩, [q], r1.tail.tail.tail.tail, rfl, ?_, Htc.out.setCell (by show g < w.heap.size; exact hlt) _, only_setCell Hgc.out (.inr (Nat.le_refl _)) _, Hqo.out, by simp⟩
    exact own_other (own_rebase Ho.out (by omega)) (only_setCell (g := w.heap.size) (World.grownBy.refl _ _) (.inl rfl) _) (fun k hk e => by injection e with e; have := hlow k hk; omega)
  · have h0' : ¬ (a.length : Int) = 0 := by omega
    have h0d : decide ((a.length : Int) = 0) = false := decide_eq_false h0'
    have hr := HG.out
    have cr := cell_of_row wb w.heap.size 0 _ _ _ hr
    have fr := frozen_of_row wb w.heap.size 0 _ _ hr
    have cs : (wb.setCell ⟨w.heap.size, 0, none⟩ (.slice A a.length c)).cell? ⟨w.heap.size, 0, none⟩ = some (.slice A a.length c) := by
      rw [cell_of_row _ w.heap.size 0 _ _ _ (heap_setCell_same wb w.heap.size 0 _ _ _ hr)]
      simp
    clear hr
    go_wp2
    refine bodyPost_ret (v := .agg #[.slice A a.length c]) (by simp [results, Tryz.results45, go_sem, *]) rfl ?_
    refine ⟨⟨A, c⟩, a, r1, rfl, ?_, Htb.out.setCell (by show g < w.heap.size; exact hlt) _, only_setCell Hgb.out (.inr (Nat.le_refl _)) _, Hok.out, by omega⟩
    exact own_other (own_rebase Hownb.out (by omega)) (only_setCell (g := w.heap.size) (World.grownBy.refl _ _) (.inl rfl) _) (fun k hk e => by injection e with e; have := Hlow.out k hk; omega)
end Go.Proofs.YtfmkmhhghmdakaaGreatDoor
namespace Go.Proofs.YtfmkmhhghmdakaaGreatDoor
open Go.RowKit Go.Shelf
set_option linter.unusedVariables false
set_option linter.unusedSimpArgs false

theorem ft5 {w : World} {g : Nat} {t : TypeId} {a b c d e x y z u v : Value} (h : w.heap[g]? = some (.cells #[a, b, c, d, e] t (0, 0))) : (((((w.setCell ⟨g, 0, none⟩ x).setCell ⟨g, 1, none⟩ y).setCell ⟨g, 2, none⟩ z).setCell ⟨g, 3, none⟩ u).setCell ⟨g, 4, none⟩ v).heap[g]? = some (.cells #[x, y, z, u, v] t (0, 0)) := by
  have h1 := heap_setCell_same w g 0 _ _ x h
  have h2 := heap_setCell_same _ g 1 _ _ y h1
  have h3 := heap_setCell_same _ g 2 _ _ z h2
  have h4 := heap_setCell_same _ g 3 _ _ u h3
  have h5 := heap_setCell_same _ g 4 _ _ v h4
  rw [h5]
  simp
theorem ft5_only {w : World} {g : Nat} {x y z u v : Value} : w.grownBy (((((w.setCell ⟨g, 0, none⟩ x).setCell ⟨g, 1, none⟩ y).setCell ⟨g, 2, none⟩ z).setCell ⟨g, 3, none⟩ u).setCell ⟨g, 4, none⟩ v) (some g) :=
  only_setCell (only_setCell (only_setCell (only_setCell (only_setCell (World.grownBy.refl _ (some g)) (.inl rfl) _) (.inl rfl) _) (.inl rfl) _) (.inl rfl) _) (.inl rfl) _
theorem ft5_new {W w : World} {g o : Nat} {x y z u v : Value} (h : W.grownBy w (some o)) (hg : W.heap.size ≤ g) : W.grownBy (((((w.setCell ⟨g, 0, none⟩ x).setCell ⟨g, 1, none⟩ y).setCell ⟨g, 2, none⟩ z).setCell ⟨g, 3, none⟩ u).setCell ⟨g, 4, none⟩ v) (some o) :=
  only_setCell (only_setCell (only_setCell (only_setCell (only_setCell h (.inr hg) _) (.inr hg) _) (.inr hg) _) (.inr hg) _) (.inr hg) _
theorem SlR.ofR {w : World} {base c : Nat} {A : Option Addr} {l : List R4} (h : w.ownsRow base 68 4 (.slice A l.length c) l.length (rCells l)) : SlR w A l.length c l := by
  obtain ⟨A2, c2, e, h4⟩ := SlR.of_own h
  injection e with e1 e2 e3
  rw [e1, e3]
  exact h4
/-- What Feature leaves. -/
def FtPost (w : World) (g : Nat) (num : Int) (e : Ending) (w' : World) : Prop :=
  ∃ (x : Ft × LV) (r : List Int), e = .returned (.agg #[.int .i64 x.1.num, .int .i64 x.1.kd, .int .i64 x.1.fr, .int .i64 x.1.un, .slice x.2.a x.1.rg.length x.2.c]) ∧ FtOk x.1 ∧ x.1.num = num ∧ Reg 9 6 x.1.rg ∧
    w'.ownsRow w.heap.size 68 4 (.slice x.2.a x.1.rg.length x.2.c) x.1.rg.length (rCells x.1.rg) ∧ TapeAt w' g r ∧ w.grownBy w' (some g)

set_option maxHeartbeats 4000000 in
set_option maxRecDepth 100000 in
theorem feature_any (g : Nat) (r : List Int) (num : Int) (w : World) (ht : TapeAt w g r) (hn : 1 ≤ num ∧ num ≤ 1073741824) :
    Calls Tryz.prog 65 #[.pointer (some ⟨g, 0, none⟩), .int .i64 num] w (FtPost w g num) := by
  have hlt := ht.lt
  have Ht := Lib.hid ht
  clear ht
  go_enter Tryz.func65, Tryz.ntmps65
  go_upto_region 1 with fail
  obtain ⟨w0, hw0⟩ : ∃ w0 : World, w0 = w.alloc (.cells #[.int .i64 0, .int .i64 0, .int .i64 0, .int .i64 0, .slice none 0 0] 54) := ⟨_, rfl⟩
  rw [← hw0]
  have Hz0 : Hid (w0.heap[w.heap.size]? = some (.cells #[.int .i64 0, .int .i64 0, .int .i64 0, .int .i64 0, .slice none 0 0] 54 (0, 0))) := Lib.hid (by rw [hw0]; exact heap_alloc_new w _)
  have Ht0 : Hid (TapeAt w0 g r) := Lib.hid (by rw [hw0]; exact Ht.out.alloc _)
  have Hg0 : Hid (w.grownBy w0 (some g)) := Lib.hid (by rw [hw0]; exact only_alloc (World.grownBy.refl _ _) _)
  have hs0 : w.heap.size < w0.heap.size := by rw [hw0]; simp
  clear hw0
  go_upto_region 2 with (first
    | (go_at_call 44
       refine (next_any g r 20 _ Ht0.out (by omega)).mono ?_
       rintro e w1 ⟨rfl, ht1, hg1⟩
       have hk1 := nx_bd r 20 (by omega)
       generalize nx r 20 = fr at *
       have Ht1 := Lib.hid ht1
       have Hz1 := Lib.hid ((hg1.block w.heap.size hs0 (by intro e; injection e; omega)).trans Hz0.out)
       have hs1 : w.heap.size < w1.heap.size := Nat.lt_of_lt_of_le hs0 hg1.size
       have Hg1 := Lib.hid (only_trans Hg0.out hg1)
       clear ht1 hg1)
    | fail)
  go_wp2_with (first
    | (go_at_call 45
       refine (land9_any g _ _ Ht3.out).mono ?_
       rintro e w4 ⟨v, a, r4, rfl, hown4, ht4, hg4, hreg, hne⟩
       have Ht4 := Lib.hid ht4
       have hz4 := (hg4.block w.heap.size hs3 (by intro e; injection e; omega)).trans Hz3.out
       have Hz4 := Lib.hid hz4
       have hs4 : w.heap.size < w4.heap.size := Nat.lt_of_lt_of_le hs3 hg4.size
       have Hg4 := Lib.hid (only_trans Hg3.out hg4)
       have Hown4 := Lib.hid (own_rebase (base' := w.heap.size + 1) hown4 (by omega))
       have Hreg := Lib.hid hreg
       have z0 := cell_of_row _ _ 0 _ _ _ hz4
       have z1 := cell_of_row _ _ 1 _ _ _ hz4
       have z2 := cell_of_row _ _ 2 _ _ _ hz4
       have z3 := cell_of_row _ _ 3 _ _ _ hz4
       have z4 := cell_of_row _ _ 4 _ _ _ hz4
       have g0 := frozen_of_row _ _ 0 _ _ hz4
       have g1 := frozen_of_row _ _ 1 _ _ hz4
       have g2 := frozen_of_row _ _ 2 _ _ hz4
       have g3 := frozen_of_row _ _ 3 _ _ hz4
       have g4 := frozen_of_row _ _ 4 _ _ hz4
       clear ht4 hg4 hz4 hown4 hreg)
    | (go_at_call 43
       refine (range_any g _ 1 30 _ Ht2.out (by omega) (by omega) (by omega)).mono ?_
       rintro e w3 ⟨rfl, ht3, hg3⟩
       have hk3 := nx_bd r.tail.tail (30 - 1 + 1) (by omega)
       generalize nx r.tail.tail (30 - 1 + 1) = un at *
       have hun : IntKind.i64.wrap (fr + (1 + un)) = fr + (1 + un) := IntWalk.i64_in _ (by omega)
       have Ht3 := Lib.hid ht3
       have Hz3 := Lib.hid ((hg3.block w.heap.size hs2 (by intro e; injection e; omega)).trans Hz2.out)
       have hs3 : w.heap.size < w3.heap.size := Nat.lt_of_lt_of_le hs2 hg3.size
       have Hg3 := Lib.hid (only_trans Hg2.out hg3)
       clear ht3 hg3)
    | (go_at_call 44
       refine (next_any g _ 16 _ Ht1.out (by omega)).mono ?_
       rintro e w2 ⟨rfl, ht2, hg2⟩
       have hk2 := nx_bd r.tail 16 (by omega)
       generalize nx r.tail 16 = kd at *
       have Ht2 := Lib.hid ht2
       have Hz2 := Lib.hid ((hg2.block w.heap.size hs1 (by intro e; injection e; omega)).trans Hz1.out)
       have hs2 : w.heap.size < w2.heap.size := Nat.lt_of_lt_of_le hs1 hg2.size
       have Hg2 := Lib.hid (only_trans Hg1.out hg2)
       clear ht2 hg2)
    | fail)
  have hz5 := ft5 (x := .int .i64 num) (y := .int .i64 kd) (z := .int .i64 fr) (u := .int .i64 (fr + (1 + un))) (v := .slice v.a a.length v.c) Hz4.out
  have y0 := cell_of_row _ _ 0 _ _ _ hz5
  have y1 := cell_of_row _ _ 1 _ _ _ hz5
  have y2 := cell_of_row _ _ 2 _ _ _ hz5
  have y3 := cell_of_row _ _ 3 _ _ _ hz5
  have y4 := cell_of_row _ _ 4 _ _ _ hz5
  refine bodyPost_ret (v := .agg #[.int .i64 num, .int .i64 kd, .int .i64 fr, .int .i64 (fr + (1 + un)), .slice v.a a.length v.c]) (by simp only [results, Tryz.results65, go_sem, y0, y1, y2, y3, y4]; first | rfl | simp [go_sem, *]) rfl ?_
  refine ⟨(⟨num, kd, fr, fr + (1 + un), a⟩, v), r4, rfl, ⟨hn, by dsimp only; omega, by dsimp only; omega, Hreg.out.valid (by omega) (by omega), hne⟩, rfl, Hreg.out, ?_, ?_, ?_⟩
  · exact own_rebase (own_other Hown4.out ft5_only (fun k hk e => by injection e with e; have := own_base Hown4.out k hk; omega)) (Nat.le_succ _)
  · exact Ht4.out.grown ft5_only (fun k hk => by injection hk with hk; omega)
  · exact ft5_new Hg4.out (Nat.le_refl _)
end Go.Proofs.YtfmkmhhghmdakaaGreatDoor
namespace Go.Proofs.YtfmkmhhghmdakaaGreatDoor
open Go.RowKit Go.Shelf
set_option linter.unusedVariables false
set_option linter.unusedSimpArgs false

def insL (l : FtL) (k : Nat) (x : Ft × LV) : FtL := l.take k ++ [x] ++ l.drop k
/-- What Add hands back: the error that the number is there, or a row of one's own. -/
def AddPost (w : World) (l : FtL) (x : Ft × LV) (e : Ending) (w' : World) : Prop :=
  Below w.heap.size w w' ∧ (e = .returned (.tuple #[.slice none 0 0, .int .i64 6]) ∨
    ∃ k v, k ≤ l.length ∧ e = .returned (.tuple #[v, .int .i64 0]) ∧ w'.ownsRow w.heap.size 54 5 v (l.length + 1) (ftCells (insL l k x)) ∧ LyOk (fts (insL l k x)))
theorem LyOk.ins {l : FtL} {x : Ft × LV} (h : LyOk (fts l)) (hx : FtOk x.1) (hl : l.length < 60) (k : Nat) (hk : k ≤ l.length) (h1 : ∀ i (hi : i < l.length), i < k → l[i].1.num < x.1.num) (h2 : ∀ i (hi : i < l.length), k ≤ i → x.1.num < l[i].1.num) : LyOk (fts (insL l k x)) := by
  have e : fts (insL l k x) = (fts l).take k ++ ([x.1] ++ (fts l).drop k) := by simp [fts, insL]
  rw [e]
  have hT : ∀ y ∈ (fts l).take k, y ∈ fts l ∧ y.num < x.1.num := fun y hy => by
    obtain ⟨i, hi, rfl⟩ := List.mem_take_iff_getElem.1 hy
    have hil : i < l.length := by rw [fts_len] at hi; omega
    refine ⟨List.getElem_mem _, ?_⟩
    rw [fts_get l i hil]
    exact h1 i hil (by omega)
  have hD : ∀ y ∈ (fts l).drop k, y ∈ fts l ∧ x.1.num < y.num := fun y hy => by
    obtain ⟨i, hi, rfl⟩ := List.mem_drop_iff_getElem.1 hy
    have hil : k + i < l.length := by rw [fts_len] at hi; omega
    refine ⟨List.getElem_mem _, ?_⟩
    rw [fts_get l (k + i) hil]
    exact h2 _ hil (by omega)
  refine ⟨fun y hy => ?_, ?_, ?_⟩
  · rcases List.mem_append.1 hy with hy | hy
    · exact h.ok y (hT y hy).1
    · rcases List.mem_append.1 hy with hy | hy
      · rw [List.mem_singleton] at hy; subst hy; exact hx
      · exact h.ok y (hD y hy).1
  · refine List.pairwise_append.2 ⟨h.up.take, List.pairwise_append.2 ⟨List.pairwise_singleton _ _, h.up.drop, fun a ha b hb => ?_⟩, fun a ha b hb => ?_⟩
    · rw [List.mem_singleton] at ha; subst ha; exact (hD b hb).2
    · rcases List.mem_append.1 hb with hb | hb
      · rw [List.mem_singleton] at hb; subst hb; exact (hT a ha).2
      · have := (hT a ha).2; have := (hD b hb).2; omega
  · simp [fts_len]; omega
end Go.Proofs.YtfmkmhhghmdakaaGreatDoor
namespace Go.Proofs.YtfmkmhhghmdakaaGreatDoor
open Go.RowKit Go.Shelf
set_option linter.unusedVariables false
set_option linter.unusedSimpArgs false

theorem ftCells_cons5 (y : Ft × LV) (s : FtL) : ftCells (y :: s) = .int .i64 y.1.num :: .int .i64 y.1.kd :: .int .i64 y.1.fr :: .int .i64 y.1.un :: .slice y.2.a y.1.rg.length y.2.c :: ftCells s := by simp [ftCells, ftC]
theorem ftCells_take : ∀ (l : FtL) (k : Nat), ftCells (l.take k) = (ftCells l).take (k * 5)
  | [], k => by simp [ftCells]
  | x :: t, 0 => by simp [ftCells]
  | x :: t, k + 1 => by
    rw [List.take_succ_cons, ftCells_cons5, ftCells_cons5, ftCells_take t k, show (k + 1) * 5 = k * 5 + 1 + 1 + 1 + 1 + 1 from by omega]
    rfl
theorem ftCells_drop : ∀ (l : FtL) (k : Nat), ftCells (l.drop k) = (ftCells l).drop (k * 5)
  | [], k => by simp [ftCells]
  | x :: t, 0 => by simp [ftCells]
  | x :: t, k + 1 => by
    rw [List.drop_succ_cons, ftCells_cons5, ftCells_drop t k, show (k + 1) * 5 = k * 5 + 1 + 1 + 1 + 1 + 1 from by omega]
    rfl
theorem SlFt.reads {w : World} {A : Option Addr} {n c : Nat} {l : FtL} (h : SlFt w A n c l) : Reads w w.heap.size 5 A n (ftCells l) := h.lies.reads (size := 5) (by rw [ftCells_len, h.len])
theorem SlFt.reads_take {w : World} {A : Option Addr} {n c : Nat} {l : FtL} (h : SlFt w A n c l) (k : Nat) (hk : k ≤ n) : Reads w w.heap.size 5 A k (ftCells (l.take k)) := by
  have h0 := h.reads
  have hln := h.len
  refine ⟨by rw [ftCells_len, List.length_take]; omega, fun hk0 => ?_⟩
  obtain ⟨ad, e, h1, h2⟩ := h0.2 (by omega)
  refine ⟨ad, e, h1, fun j u hu => h2 j u ?_⟩
  rw [ftCells_take, List.getElem?_take] at hu
  split at hu
  · exact hu
  · cases hu
theorem SlFt.reads_drop {w : World} {b off n c : Nat} {l : FtL} (h : SlFt w (some ⟨b, off, none⟩) n c l) (k : Nat) (hk : k ≤ n) (hc : ¬ c = k) : Reads w w.heap.size 5 (some ⟨b, off + k * 5, none⟩) (n - k) (ftCells (l.drop k)) := by
  have h1 := h.reads.cut (k := k) (cap := c) hk h.cap
  rw [if_neg hc] at h1
  simp only [Option.map_some, add_none] at h1
  rw [ftCells_drop]
  exact h1
end Go.Proofs.YtfmkmhhghmdakaaGreatDoor
namespace Go.Proofs.YtfmkmhhghmdakaaGreatDoor
open Go.RowKit Go.Shelf
set_option linter.unusedVariables false
set_option linter.unusedSimpArgs false

set_option maxHeartbeats 8000000 in
set_option maxRecDepth 100000 in
theorem add9_any (A : Option Addr) (n c : Nat) (l : FtL) (x : Ft × LV) (w : World) (hA : SlFt w A n c l) (hl : LyOk (fts l)) (hn : n < 50) (h0 : n = 0 → A = none ∧ c = 0) (hx : FtOk x.1) (hr : SlR w x.2.a x.1.rg.length x.2.c x.1.rg) :
    Calls Tryz.prog 64 #[.slice A n c, .agg #[.int .i64 x.1.num, .int .i64 x.1.kd, .int .i64 x.1.fr, .int .i64 x.1.un, .slice x.2.a x.1.rg.length x.2.c]] w (AddPost w l x) := by
  obtain ⟨i0, hi, hz0, hz1, hz2⟩ := info_parts Tryz.infoFt
  have HL := Lib.hid hl
  have HA := Lib.hid hA
  have HR := Lib.hid hr
  have HX := Lib.hid hx
  have H0 := Lib.hid h0
  have Hln := Lib.hid hA.len
  have hcap := hA.cap
  have htop := hA.top
  unfold maxLen at htop
  have hln2 : l.length < 50 := by rw [hA.len]; exact hn
  have HC := Lib.hid (fun W (h : SlFt W A n c l) => check9_any A n c l W h hl)
  have HO := Lib.hid (fun W (h : SlR W x.2.a x.1.rg.length x.2.c x.1.rg) => one9_any x.1 x.2 W hx h)
  have hn60 : ¬ (n = 60) := by omega
  clear hA hl hr hx h0
  go_enter Tryz.func64, Tryz.ntmps64
  go_upto_region 1 with fail
  obtain ⟨w1, hw1⟩ : ∃ w1 : World, w1 = w.alloc (.cells #[.int .i64 x.1.num, .int .i64 x.1.kd, .int .i64 x.1.fr, .int .i64 x.1.un, .slice x.2.a x.1.rg.length x.2.c] 54) := ⟨_, rfl⟩
  rw [← hw1]
  have hr1 : w1.heap[w.heap.size]? = some (.cells #[.int .i64 x.1.num, .int .i64 x.1.kd, .int .i64 x.1.fr, .int .i64 x.1.un, .slice x.2.a x.1.rg.length x.2.c] 54 (0, 0)) := by rw [hw1]; exact heap_alloc_new w _
  have Hb1 : Hid (Below w.heap.size w w1) := Lib.hid (by rw [hw1]; exact (by repeat' (first | with_reducible exact Below.refl _ _ | with_reducible refine below_drewN ?_ _ | with_reducible refine Below.drew ?_ | with_reducible refine Below.alloc ?_ ?_ _ | with_reducible refine Below.setCell ?_ ?_ _ | with_reducible refine Below.trans ?_ (Below.mono (by with_reducible assumption) ?_) | (simp; done) | (simp; omega) | omega)))
  have hs1 : w1.heap.size = w.heap.size + 1 := by rw [hw1]; simp
  have Hr1 := Lib.hid hr1
  have HA1 := Lib.hid (HA.out.below Hb1.out)
  have HR1 := Lib.hid (HR.out.below Hb1.out)
  clear hw1 hr1
  go_upto_region 4 with (first
    | (go_at_call 172; refine (HC.out _ HA1.out).mono ?_; rintro e w2 ⟨rfl, hb2⟩; have Hb2 := Lib.hid hb2; have hs2 := hb2.size; have hr2 := (hb2.block w.heap.size (by omega)).trans Hr1.out; have Hr2 := Lib.hid hr2; have HR2 := Lib.hid (HR1.out.below hb2); have c0 := cell_of_row _ _ 0 _ _ _ hr2; have c1 := cell_of_row _ _ 1 _ _ _ hr2; have c2 := cell_of_row _ _ 2 _ _ _ hr2; have c3 := cell_of_row _ _ 3 _ _ _ hr2; have c4 := cell_of_row _ _ 4 _ _ _ hr2; clear hb2 hr2)
    | fail)
  go_upto_region 7 with (first
    | (go_at_call 173; refine (HO.out _ HR2.out).mono ?_; rintro e w3 ⟨rfl, hb3⟩; have Hb3 := Lib.hid (Hb1.out.trans ((Hb2.out.trans (hb3.mono hs2)).mono (by omega))); have hr3 := (hb3.block w.heap.size (by omega)).trans Hr2.out; have Hr3 := Lib.hid hr3; have hs3 := hb3.size; clear hb3 hr3 c0 c1 c2 c3 c4)
    | fail)
  have HA3 := Lib.hid (HA.out.below Hb3.out)
  go_wp2
  go_loopw [8] (fun iv wr => ∃ i : Nat, i ≤ n ∧ iv = .int .i64 (i : Int) ∧ (∀ j (hj : j < l.length), j < i → l[j].1.num < x.1.num) ∧ Below w3.heap.size w3 wr) (fun iv _ => n - (intOf iv).toNat)
  case atStart => exact ⟨0, Nat.zero_le _, rfl, fun j _ h => by omega, Below.refl _ _⟩
  case round =>
    obtain ⟨i, hi', rfl, hlt, hbw⟩ := hrel
    obtain ⟨wo, rfl⟩ : ∃ wo : World, wo = wr := ⟨_, rfl⟩
    have Hbw := Lib.hid hbw
    have Hlt := Lib.hid hlt
    have c0 := cell_of_row _ _ 0 _ _ _ ((hbw.block w.heap.size (by omega)).trans Hr3.out)
    clear hbw hlt
    by_cases hin : i < n
    · have hin' : (i : Int) < (n : Int) := by omega
      have hil : i < l.length := by rw [Hln.out]; exact hin
      obtain ⟨b, off, rfl, hbl, f0, _⟩ := (HA3.out.below Hbw.out).at i hil
      obtain ⟨m, hm⟩ : ∃ m, l[i].1.num = m := ⟨_, rfl⟩
      rw [hm] at f0
      have Hm := Lib.hid hm
      clear hm
      by_cases hmx : m < x.1.num
      · have hmd : decide (m < x.1.num) = true := decide_eq_true hmx
        go_upto_region 8 with fail
        go_quiet (fail)
        go_wp2
        go_roundw
        case rel =>
          refine ⟨i + 1, by omega, by go_num, fun j hj hji => ?_, ⟨Hbw.out.os, Hbw.out.tape, Hbw.out.output, Hbw.out.size, Hbw.out.block⟩⟩
          rcases Nat.lt_or_ge j i with h | h
          · exact Hlt.out j hj h
          · obtain rfl : j = i := by omega
            rw [Hm.out]; exact hmx
        case measure => simp [intOf]; omega
      · have hmd : decide (m < x.1.num) = false := decide_eq_false hmx
        go_upto_region 8 with fail
        go_quiet (fail)
        obtain ⟨n1, rfl⟩ : ∃ n1 : Nat, n1 = nq := ⟨_, rfl⟩
        go_wp2
        by_cases hme : m = x.1.num
        · have hmq : (m == x.1.num) = true := by simp [hme]
          go_upto_region 10 with fail
          go_quiet (fail)
          go_wp2
          go_ret2
          exact ⟨Hb3.out.trans ((⟨Hbw.out.os, Hbw.out.tape, Hbw.out.output, Hbw.out.size, Hbw.out.block⟩ : Below w3.heap.size w3 ((wo.drewN n1).drewN nq)).mono Hb3.out.size), .inl rfl⟩
        · have hmq : (m == x.1.num) = false := by simp [hme]
          go_upto_region 10 with fail
          go_quiet (fail)
          go_upto_region 14 with fail
          clear c0 f0
          obtain ⟨wq, hwqe⟩ : ∃ wq : World, wq = wo.drewN (n1 + nq) := ⟨_, rfl⟩
          rw [← hwqe]
          have HbQ3 : Hid (Below w3.heap.size w3 wq) := Lib.hid (by have hbw := Hbw.out; rw [hwqe]; exact ⟨hbw.os, hbw.tape, hbw.output, hbw.size, hbw.block⟩)
          have HbQ : Hid (Below w.heap.size w wq) := Lib.hid (Hb3.out.trans (HbQ3.out.mono Hb3.out.size))
          have hwq : w.heap.size ≤ wq.heap.size := HbQ.out.size
          have hxq : w.heap.size < wq.heap.size := by have := HbQ3.out.size; omega
          have Hrq : Hid (wq.heap[w.heap.size]? = _) := Lib.hid ((HbQ3.out.block w.heap.size (by omega)).trans Hr3.out)
          have HAq := Lib.hid (HA.out.below HbQ.out)
          have q0 := cell_of_row _ _ 0 _ _ _ Hrq.out
          have q1 := cell_of_row _ _ 1 _ _ _ Hrq.out
          have q2 := cell_of_row _ _ 2 _ _ _ Hrq.out
          have q3 := cell_of_row _ _ 3 _ _ _ Hrq.out
          have q4 := cell_of_row _ _ 4 _ _ _ Hrq.out
          clear hwqe
          have hck : ¬ c = i := by omega
          have hck2 : ¬ (c : Int) = (i : Int) := by omega

          have hkc : (i : Int) ≤ (c : Int) := by omega
          have hkn2 : (i : Int) ≤ (n : Int) := by omega
          have hk0 : (0 : Int) ≤ (i : Int) := by omega

          have HOk : Hid (LyOk (fts (insL l (i) x))) := Lib.hid (HL.out.ins HX.out (by omega) (i) (by have := Hln.out; omega) (fun j hj hjk => Hlt.out j hj (by omega)) (
            fun j hj hjk => by
              rcases Nat.eq_or_lt_of_le hjk with h | h
              · subst h; rw [Hm.out]; omega
              · have h2 := List.pairwise_iff_getElem.1 HL.out.up i j (by rw [fts_len]; omega) (by rw [fts_len]; omega) h
                rw [fts_get l i hil, fts_get l j hj, Hm.out] at h2; omega))
          have HFin : Hid (∀ v W, World.ownsRow W wq.heap.size 54 5 v (i + 1 + (n - i)) (ftCells (l.take (i) ++ [x]) ++ ftCells (l.drop (i))) → World.ownsRow W w.heap.size 54 5 v (l.length + 1) (ftCells (insL l (i) x))) := Lib.hid (fun v W h => by
            have e1 : l.length + 1 = i + 1 + (n - i) := by have := Hln.out; omega
            have e2 : ftCells (insL l (i) x) = ftCells (l.take (i) ++ [x]) ++ ftCells (l.drop (i)) := by unfold insL; rw [ftCells_app]
            rw [e1, e2]; exact own_rebase h hwq)
          have HA1 : Hid (Reads wq wq.heap.size 5 (some ⟨b, off, none⟩) (i) (ftCells (l.take (i)))) := Lib.hid (HAq.out.reads_take i hi')
          have HA2 : Hid (Reads wq wq.heap.size 5 (some ⟨b, off + i * 5, none⟩) (n - i) (ftCells (l.drop (i)))) := Lib.hid (HAq.out.reads_drop i hi' hck)
          generalize l.take (i) = l1 at *
          generalize l.drop (i) = l2 at *

          go_region_held3 (fun w' => w'.cell? ⟨w.heap.size, 0, none⟩ = some (.int .i64 x.1.num) ∧ w'.cell? ⟨w.heap.size, 1, none⟩ = some (.int .i64 x.1.kd) ∧ w'.cell? ⟨w.heap.size, 2, none⟩ = some (.int .i64 x.1.fr) ∧ w'.cell? ⟨w.heap.size, 3, none⟩ = some (.int .i64 x.1.un) ∧ w'.cell? ⟨w.heap.size, 4, none⟩ = some (.slice x.2.a x.1.rg.length x.2.c))
            (first | go_keep | ((repeat' apply And.intro) <;> go_keep))
            (first
              | (refine step_append_any _ rfl (.tmp 59) (.tmp 62) 51 rfl wq.heap.size 54 i0 (.agg #[.int .i64 0, .int .i64 0, .int .i64 0, .int .i64 0, .slice none 0 0]) 5 56 Tryz.underlying51 hi hz0 hz1 hz2 rfl (by omega) v2 (i + 1) (ftCells (l1 ++ [x])) rfl (by exact Hown2.out) wq.heap.size (some ⟨b, off + i * 5, none⟩) (n - i) _ (ftCells l2) rfl (HA2.out.below (by exact HbB.out)) (ftCells_one _) (by unfold maxLen; omega) (by omega) (by exact hsB) ?_
                 intro v3 w3' hown3 hg3 hat3
                 have HbC : Hid (Below wq.heap.size wq w3') := Below.grown HbB.out hg3 hsB (own_base Hown2.out)
                 have Hown3 := Lib.hid hown3
                 have e0 := cell_of_row w3' w.heap.size 0 _ _ _ ((HbC.out.block w.heap.size hxq).trans Hrq.out); have e1 := cell_of_row w3' w.heap.size 1 _ _ _ ((HbC.out.block w.heap.size hxq).trans Hrq.out); have e2 := cell_of_row w3' w.heap.size 2 _ _ _ ((HbC.out.block w.heap.size hxq).trans Hrq.out); have e3 := cell_of_row w3' w.heap.size 3 _ _ _ ((HbC.out.block w.heap.size hxq).trans Hrq.out); have e4 := cell_of_row w3' w.heap.size 4 _ _ _ ((HbC.out.block w.heap.size hxq).trans Hrq.out)
                 clear hown3 hg3 hat3)
              | (refine step_append_any _ rfl (.tmp 56) (.tmp 58) 51 rfl wq.heap.size 54 i0 (.agg #[.int .i64 0, .int .i64 0, .int .i64 0, .int .i64 0, .slice none 0 0]) 5 56 Tryz.underlying51 hi hz0 hz1 hz2 rfl (by omega) v1 (i) (ftCells l1) rfl (by first | exact Hown1.out | exact ownsRow_below Hown1.out (by repeat' (first | with_reducible exact Below.refl _ _ | with_reducible refine below_drewN ?_ _ | with_reducible refine Below.drew ?_ | with_reducible refine Below.alloc ?_ ?_ _ | with_reducible refine Below.setCell ?_ ?_ _ | with_reducible refine Below.trans ?_ (Below.mono (by with_reducible assumption) ?_) | (simp; done) | (simp; omega) | omega))) _ _ 1 1 [.int .i64 x.1.num, .int .i64 x.1.kd, .int .i64 x.1.fr, .int .i64 x.1.un, .slice x.2.a x.1.rg.length x.2.c] rfl ⟨rfl, fun _ => ⟨_, rfl, Nat.lt_succ_self _, fun j u hu => (by first | exact news_any _ _ _ j u hu | exact news_far (cs := #[.int .i64 x.1.num, .int .i64 x.1.kd, .int .i64 x.1.fr, .int .i64 x.1.un, .slice x.2.a x.1.rg.length x.2.c]) (t := 54) (alloc_second wq _ _) Hg1.out (by simp [Value.ownBlock]) j u hu | exact news_far (cs := #[.int .i64 x.1.num, .int .i64 x.1.kd, .int .i64 x.1.fr, .int .i64 x.1.un, .slice x.2.a x.1.rg.length x.2.c]) (t := 54) (alloc_first wq _ _) Hg1.out (by simp [Value.ownBlock]) j u hu)⟩⟩ (by simp [Value.oneCell']) (by unfold maxLen; omega) (by omega) (by first | exact hsA | (simp; omega)) ?_
                 intro v2 w2 hown2 hg2 hat2
                 have HbB : Hid (Below wq.heap.size wq w2) := Below.grown (by have hbA := HbA.out; exact (by repeat' (first | with_reducible exact Below.refl _ _ | with_reducible assumption | with_reducible refine below_drewN ?_ _ | with_reducible refine Below.drew ?_ | with_reducible refine Below.alloc ?_ ?_ _ | with_reducible refine Below.setCell ?_ ?_ _ | with_reducible refine Below.trans ?_ (Below.mono (by with_reducible assumption) ?_) | with_reducible refine below_only ?_ (by with_reducible assumption) ?_ ?_ | (simp; done) | (simp; omega) | omega))) hg2 (by first | (simp; done) | (simp; omega) | omega) (own_base Hown1.out)
                 have hsB : wq.heap.size ≤ w2.heap.size := HbB.out.size
                 have Hown2 : Hid (w2.ownsRow wq.heap.size 54 5 v2 (i + 1) (ftCells (l1 ++ [x]))) := Lib.hid (by rw [ftCells_snoc]; exact hown2)
                 have d0 := cell_of_row w2 w.heap.size 0 _ _ _ ((HbB.out.block w.heap.size hxq).trans Hrq.out); have d1 := cell_of_row w2 w.heap.size 1 _ _ _ ((HbB.out.block w.heap.size hxq).trans Hrq.out); have d2 := cell_of_row w2 w.heap.size 2 _ _ _ ((HbB.out.block w.heap.size hxq).trans Hrq.out); have d3 := cell_of_row w2 w.heap.size 3 _ _ _ ((HbB.out.block w.heap.size hxq).trans Hrq.out); have d4 := cell_of_row w2 w.heap.size 4 _ _ _ ((HbB.out.block w.heap.size hxq).trans Hrq.out)
                 clear hown2 hg2 hat2)
              | (refine step_append_any _ rfl (.tmp 52) (.tmp 55) 51 rfl wq.heap.size 54 i0 (.agg #[.int .i64 0, .int .i64 0, .int .i64 0, .int .i64 0, .slice none 0 0]) 5 56 Tryz.underlying51 hi hz0 hz1 hz2 rfl (by omega) (.slice (some ⟨wq.heap.size, 0, none⟩) 0 0) 0 [] rfl (by first | exact own_zero wq _ _ _ (Nat.le_refl _) | exact ownsRow_below (own_zero wq _ _ _ (Nat.le_refl _)) (by repeat' (first | with_reducible exact Below.refl _ _ | with_reducible refine below_drewN ?_ _ | with_reducible refine Below.drew ?_ | with_reducible refine Below.alloc ?_ ?_ _ | with_reducible refine Below.setCell ?_ ?_ _ | with_reducible refine Below.trans ?_ (Below.mono (by with_reducible assumption) ?_) | (simp; done) | (simp; omega) | omega))) wq.heap.size (some ⟨b, off, none⟩) i _ (ftCells l1) rfl (HA1.out.below (by repeat' (first | with_reducible exact Below.refl _ _ | with_reducible refine below_drewN ?_ _ | with_reducible refine Below.drew ?_ | with_reducible refine Below.alloc ?_ ?_ _ | with_reducible refine Below.setCell ?_ ?_ _ | with_reducible refine Below.trans ?_ (Below.mono (by with_reducible assumption) ?_) | (simp; done) | (simp; omega) | omega))) (ftCells_one _) (by unfold maxLen; omega) (by omega) (by first | (simp; done) | (simp; omega)) ?_
                 intro v1 w1 hown1 hg1 hat1
                 simp only [Nat.zero_add, List.nil_append] at hown1
                 have HbA : Hid (Below wq.heap.size wq w1) := Below.grown (by exact (by repeat' (first | with_reducible exact Below.refl _ _ | with_reducible refine below_drewN ?_ _ | with_reducible refine Below.drew ?_ | with_reducible refine Below.alloc ?_ ?_ _ | with_reducible refine Below.setCell ?_ ?_ _ | with_reducible refine Below.trans ?_ (Below.mono (by with_reducible assumption) ?_) | (simp; done) | (simp; omega) | omega))) hg1 (by first | (simp; done) | (simp; omega) | omega) (fun q hq => by injection hq with hq; exact Nat.le_of_eq hq)
                 have hsA : wq.heap.size ≤ w1.heap.size := HbA.out.size
                 have Hg1 := Lib.hid hg1
                 have Hown1 := Lib.hid hown1
                 have a0 := cell_of_row w1 w.heap.size 0 _ _ _ ((HbA.out.block w.heap.size hxq).trans Hrq.out); have a1 := cell_of_row w1 w.heap.size 1 _ _ _ ((HbA.out.block w.heap.size hxq).trans Hrq.out); have a2 := cell_of_row w1 w.heap.size 2 _ _ _ ((HbA.out.block w.heap.size hxq).trans Hrq.out); have a3 := cell_of_row w1 w.heap.size 3 _ _ _ ((HbA.out.block w.heap.size hxq).trans Hrq.out); have a4 := cell_of_row w1 w.heap.size 4 _ _ _ ((HbA.out.block w.heap.size hxq).trans Hrq.out)
                 clear hown1 hg1 hat1)
              | (refine step_append_any _ rfl (.tmp 52) (.tmp 55) 51 rfl wq.heap.size 54 i0 (.agg #[.int .i64 0, .int .i64 0, .int .i64 0, .int .i64 0, .slice none 0 0]) 5 56 Tryz.underlying51 hi hz0 hz1 hz2 rfl (by omega) (.slice (some ⟨wq.heap.size + 1, 0, none⟩) 0 0) 0 [] rfl (by exact own_zero1 wq _ _ _ _ (Nat.le_refl _)) wq.heap.size (some ⟨b, off, none⟩) i _ (ftCells l1) rfl (HA1.out.below (by repeat' (first | with_reducible exact Below.refl _ _ | with_reducible refine below_drewN ?_ _ | with_reducible refine Below.drew ?_ | with_reducible refine Below.alloc ?_ ?_ _ | with_reducible refine Below.setCell ?_ ?_ _ | with_reducible refine Below.trans ?_ (Below.mono (by with_reducible assumption) ?_) | (simp; done) | (simp; omega) | omega))) (ftCells_one _) (by unfold maxLen; omega) (by omega) (by first | (simp; done) | (simp; omega)) ?_
                 intro v1 w1 hown1 hg1 hat1
                 simp only [Nat.zero_add, List.nil_append] at hown1
                 have HbA : Hid (Below wq.heap.size wq w1) := Below.grown (by exact (by repeat' (first | with_reducible exact Below.refl _ _ | with_reducible refine below_drewN ?_ _ | with_reducible refine Below.drew ?_ | with_reducible refine Below.alloc ?_ ?_ _ | with_reducible refine Below.setCell ?_ ?_ _ | with_reducible refine Below.trans ?_ (Below.mono (by with_reducible assumption) ?_) | (simp; done) | (simp; omega) | omega))) hg1 (by first | (simp; done) | (simp; omega) | omega) (fun q hq => by injection hq with hq; subst hq; exact Nat.le_succ _)
                 have hsA : wq.heap.size ≤ w1.heap.size := HbA.out.size
                 have Hg1 := Lib.hid hg1
                 have Hown1 := Lib.hid hown1
                 have a0 := cell_of_row w1 w.heap.size 0 _ _ _ ((HbA.out.block w.heap.size hxq).trans Hrq.out); have a1 := cell_of_row w1 w.heap.size 1 _ _ _ ((HbA.out.block w.heap.size hxq).trans Hrq.out); have a2 := cell_of_row w1 w.heap.size 2 _ _ _ ((HbA.out.block w.heap.size hxq).trans Hrq.out); have a3 := cell_of_row w1 w.heap.size 3 _ _ _ ((HbA.out.block w.heap.size hxq).trans Hrq.out); have a4 := cell_of_row w1 w.heap.size 4 _ _ _ ((HbA.out.block w.heap.size hxq).trans Hrq.out)
                 clear hown1 hg1 hat1)
              | fail)
          all_goals
            go_wp2
            go_ret2
            exact ⟨HbQ.out.trans (HbC.out.mono hwq), .inr ⟨i, v3, by have := Hln.out; omega, rfl, HFin.out v3 _ Hown3.out, HOk.out⟩⟩
    · have hin' : ¬ (i : Int) < (n : Int) := by omega
      obtain rfl : i = n := by omega
      go_upto_region 8 with fail
      go_quiet (fail)
      obtain ⟨n1, rfl⟩ : ∃ n1 : Nat, n1 = nq := ⟨_, rfl⟩
      go_upto_region 10 with fail
      go_quiet (fail)
      go_upto_region 14 with fail
      clear c0
      obtain ⟨wq, hwqe⟩ : ∃ wq : World, wq = wo.drewN (n1 + nq) := ⟨_, rfl⟩
      rw [← hwqe]
      have HbQ3 : Hid (Below w3.heap.size w3 wq) := Lib.hid (by have hbw := Hbw.out; rw [hwqe]; exact ⟨hbw.os, hbw.tape, hbw.output, hbw.size, hbw.block⟩)
      have HbQ : Hid (Below w.heap.size w wq) := Lib.hid (Hb3.out.trans (HbQ3.out.mono Hb3.out.size))
      have hwq : w.heap.size ≤ wq.heap.size := HbQ.out.size
      have hxq : w.heap.size < wq.heap.size := by have := HbQ3.out.size; omega
      have Hrq : Hid (wq.heap[w.heap.size]? = _) := Lib.hid ((HbQ3.out.block w.heap.size (by omega)).trans Hr3.out)
      have HAq := Lib.hid (HA.out.below HbQ.out)
      have q0 := cell_of_row _ _ 0 _ _ _ Hrq.out
      have q1 := cell_of_row _ _ 1 _ _ _ Hrq.out
      have q2 := cell_of_row _ _ 2 _ _ _ Hrq.out
      have q3 := cell_of_row _ _ 3 _ _ _ Hrq.out
      have q4 := cell_of_row _ _ 4 _ _ _ Hrq.out
      clear hwqe
      rcases Nat.eq_zero_or_pos i with hn0 | hn0
      · obtain ⟨rfl, rfl⟩ := H0.out hn0
        subst hn0
        have HOk : Hid (LyOk (fts (insL l (0) x))) := Lib.hid (HL.out.ins HX.out (by omega) (0) (by have := Hln.out; omega) (fun j hj hjk => Hlt.out j hj (by omega)) (fun j hj hjk => by have := Hln.out; omega))
        have HFin : Hid (∀ v W, World.ownsRow W wq.heap.size 54 5 v (0 + 1 + (0)) (ftCells (l.take (0) ++ [x]) ++ ftCells (l.drop (0))) → World.ownsRow W w.heap.size 54 5 v (l.length + 1) (ftCells (insL l (0) x))) := Lib.hid (fun v W h => by
          have e1 : l.length + 1 = 0 + 1 + (0) := by have := Hln.out; omega
          have e2 : ftCells (insL l (0) x) = ftCells (l.take (0) ++ [x]) ++ ftCells (l.drop (0)) := by unfold insL; rw [ftCells_app]
          rw [e1, e2]; exact own_rebase h hwq)
        have HA1 : Hid (Reads wq wq.heap.size 5 (none) (0) (ftCells (l.take (0)))) := Lib.hid (HAq.out.reads_take 0 (Nat.le_refl _))
        have HA2 : Hid (Reads wq wq.heap.size 5 (none) (0) (ftCells (l.drop (0)))) := Lib.hid (by rw [show l = [] from List.length_eq_zero_iff.1 Hln.out]; exact Reads.none_)
        generalize l.take (0) = l1 at *
        generalize l.drop (0) = l2 at *

        go_region_held3 (fun w' => w'.cell? ⟨w.heap.size, 0, none⟩ = some (.int .i64 x.1.num) ∧ w'.cell? ⟨w.heap.size, 1, none⟩ = some (.int .i64 x.1.kd) ∧ w'.cell? ⟨w.heap.size, 2, none⟩ = some (.int .i64 x.1.fr) ∧ w'.cell? ⟨w.heap.size, 3, none⟩ = some (.int .i64 x.1.un) ∧ w'.cell? ⟨w.heap.size, 4, none⟩ = some (.slice x.2.a x.1.rg.length x.2.c))
          (first | go_keep | ((repeat' apply And.intro) <;> go_keep))
          (first
            | (refine step_append_any _ rfl (.tmp 59) (.tmp 62) 51 rfl wq.heap.size 54 i0 (.agg #[.int .i64 0, .int .i64 0, .int .i64 0, .int .i64 0, .slice none 0 0]) 5 56 Tryz.underlying51 hi hz0 hz1 hz2 rfl (by omega) v2 (0 + 1) (ftCells (l1 ++ [x])) rfl (by exact Hown2.out) wq.heap.size (none) (0) _ (ftCells l2) rfl (HA2.out.below (by exact HbB.out)) (ftCells_one _) (by unfold maxLen; omega) (by omega) (by exact hsB) ?_
               intro v3 w3' hown3 hg3 hat3
               have HbC : Hid (Below wq.heap.size wq w3') := Below.grown HbB.out hg3 hsB (own_base Hown2.out)
               have Hown3 := Lib.hid hown3
               have e0 := cell_of_row w3' w.heap.size 0 _ _ _ ((HbC.out.block w.heap.size hxq).trans Hrq.out); have e1 := cell_of_row w3' w.heap.size 1 _ _ _ ((HbC.out.block w.heap.size hxq).trans Hrq.out); have e2 := cell_of_row w3' w.heap.size 2 _ _ _ ((HbC.out.block w.heap.size hxq).trans Hrq.out); have e3 := cell_of_row w3' w.heap.size 3 _ _ _ ((HbC.out.block w.heap.size hxq).trans Hrq.out); have e4 := cell_of_row w3' w.heap.size 4 _ _ _ ((HbC.out.block w.heap.size hxq).trans Hrq.out)
               clear hown3 hg3 hat3)
            | (refine step_append_any _ rfl (.tmp 56) (.tmp 58) 51 rfl wq.heap.size 54 i0 (.agg #[.int .i64 0, .int .i64 0, .int .i64 0, .int .i64 0, .slice none 0 0]) 5 56 Tryz.underlying51 hi hz0 hz1 hz2 rfl (by omega) v1 (0) (ftCells l1) rfl (by first | exact Hown1.out | exact ownsRow_below Hown1.out (by repeat' (first | with_reducible exact Below.refl _ _ | with_reducible refine below_drewN ?_ _ | with_reducible refine Below.drew ?_ | with_reducible refine Below.alloc ?_ ?_ _ | with_reducible refine Below.setCell ?_ ?_ _ | with_reducible refine Below.trans ?_ (Below.mono (by with_reducible assumption) ?_) | (simp; done) | (simp; omega) | omega))) _ _ 1 1 [.int .i64 x.1.num, .int .i64 x.1.kd, .int .i64 x.1.fr, .int .i64 x.1.un, .slice x.2.a x.1.rg.length x.2.c] rfl ⟨rfl, fun _ => ⟨_, rfl, Nat.lt_succ_self _, fun j u hu => (by first | exact news_any _ _ _ j u hu | exact news_far (cs := #[.int .i64 x.1.num, .int .i64 x.1.kd, .int .i64 x.1.fr, .int .i64 x.1.un, .slice x.2.a x.1.rg.length x.2.c]) (t := 54) (alloc_second wq _ _) Hg1.out (by simp [Value.ownBlock]) j u hu | exact news_far (cs := #[.int .i64 x.1.num, .int .i64 x.1.kd, .int .i64 x.1.fr, .int .i64 x.1.un, .slice x.2.a x.1.rg.length x.2.c]) (t := 54) (alloc_first wq _ _) Hg1.out (by simp [Value.ownBlock]) j u hu)⟩⟩ (by simp [Value.oneCell']) (by unfold maxLen; omega) (by omega) (by first | exact hsA | (simp; omega)) ?_
               intro v2 w2 hown2 hg2 hat2
               have HbB : Hid (Below wq.heap.size wq w2) := Below.grown (by have hbA := HbA.out; exact (by repeat' (first | with_reducible exact Below.refl _ _ | with_reducible assumption | with_reducible refine below_drewN ?_ _ | with_reducible refine Below.drew ?_ | with_reducible refine Below.alloc ?_ ?_ _ | with_reducible refine Below.setCell ?_ ?_ _ | with_reducible refine Below.trans ?_ (Below.mono (by with_reducible assumption) ?_) | with_reducible refine below_only ?_ (by with_reducible assumption) ?_ ?_ | (simp; done) | (simp; omega) | omega))) hg2 (by first | (simp; done) | (simp; omega) | omega) (own_base Hown1.out)
               have hsB : wq.heap.size ≤ w2.heap.size := HbB.out.size
               have Hown2 : Hid (w2.ownsRow wq.heap.size 54 5 v2 (0 + 1) (ftCells (l1 ++ [x]))) := Lib.hid (by rw [ftCells_snoc]; exact hown2)
               have d0 := cell_of_row w2 w.heap.size 0 _ _ _ ((HbB.out.block w.heap.size hxq).trans Hrq.out); have d1 := cell_of_row w2 w.heap.size 1 _ _ _ ((HbB.out.block w.heap.size hxq).trans Hrq.out); have d2 := cell_of_row w2 w.heap.size 2 _ _ _ ((HbB.out.block w.heap.size hxq).trans Hrq.out); have d3 := cell_of_row w2 w.heap.size 3 _ _ _ ((HbB.out.block w.heap.size hxq).trans Hrq.out); have d4 := cell_of_row w2 w.heap.size 4 _ _ _ ((HbB.out.block w.heap.size hxq).trans Hrq.out)
               clear hown2 hg2 hat2)
            | (refine step_append_any _ rfl (.tmp 52) (.tmp 55) 51 rfl wq.heap.size 54 i0 (.agg #[.int .i64 0, .int .i64 0, .int .i64 0, .int .i64 0, .slice none 0 0]) 5 56 Tryz.underlying51 hi hz0 hz1 hz2 rfl (by omega) (.slice (some ⟨wq.heap.size, 0, none⟩) 0 0) 0 [] rfl (by first | exact own_zero wq _ _ _ (Nat.le_refl _) | exact ownsRow_below (own_zero wq _ _ _ (Nat.le_refl _)) (by repeat' (first | with_reducible exact Below.refl _ _ | with_reducible refine below_drewN ?_ _ | with_reducible refine Below.drew ?_ | with_reducible refine Below.alloc ?_ ?_ _ | with_reducible refine Below.setCell ?_ ?_ _ | with_reducible refine Below.trans ?_ (Below.mono (by with_reducible assumption) ?_) | (simp; done) | (simp; omega) | omega))) wq.heap.size none 0 _ (ftCells l1) rfl (HA1.out.below (by repeat' (first | with_reducible exact Below.refl _ _ | with_reducible refine below_drewN ?_ _ | with_reducible refine Below.drew ?_ | with_reducible refine Below.alloc ?_ ?_ _ | with_reducible refine Below.setCell ?_ ?_ _ | with_reducible refine Below.trans ?_ (Below.mono (by with_reducible assumption) ?_) | (simp; done) | (simp; omega) | omega))) (ftCells_one _) (by unfold maxLen; omega) (by omega) (by first | (simp; done) | (simp; omega)) ?_
               intro v1 w1 hown1 hg1 hat1
               simp only [Nat.zero_add, List.nil_append] at hown1
               have HbA : Hid (Below wq.heap.size wq w1) := Below.grown (by exact (by repeat' (first | with_reducible exact Below.refl _ _ | with_reducible refine below_drewN ?_ _ | with_reducible refine Below.drew ?_ | with_reducible refine Below.alloc ?_ ?_ _ | with_reducible refine Below.setCell ?_ ?_ _ | with_reducible refine Below.trans ?_ (Below.mono (by with_reducible assumption) ?_) | (simp; done) | (simp; omega) | omega))) hg1 (by first | (simp; done) | (simp; omega) | omega) (fun q hq => by injection hq with hq; exact Nat.le_of_eq hq)
               have hsA : wq.heap.size ≤ w1.heap.size := HbA.out.size
               have Hg1 := Lib.hid hg1
               have Hown1 := Lib.hid hown1
               have a0 := cell_of_row w1 w.heap.size 0 _ _ _ ((HbA.out.block w.heap.size hxq).trans Hrq.out); have a1 := cell_of_row w1 w.heap.size 1 _ _ _ ((HbA.out.block w.heap.size hxq).trans Hrq.out); have a2 := cell_of_row w1 w.heap.size 2 _ _ _ ((HbA.out.block w.heap.size hxq).trans Hrq.out); have a3 := cell_of_row w1 w.heap.size 3 _ _ _ ((HbA.out.block w.heap.size hxq).trans Hrq.out); have a4 := cell_of_row w1 w.heap.size 4 _ _ _ ((HbA.out.block w.heap.size hxq).trans Hrq.out)
               clear hown1 hg1 hat1)
            | (refine step_append_any _ rfl (.tmp 52) (.tmp 55) 51 rfl wq.heap.size 54 i0 (.agg #[.int .i64 0, .int .i64 0, .int .i64 0, .int .i64 0, .slice none 0 0]) 5 56 Tryz.underlying51 hi hz0 hz1 hz2 rfl (by omega) (.slice (some ⟨wq.heap.size + 1, 0, none⟩) 0 0) 0 [] rfl (by exact own_zero1 wq _ _ _ _ (Nat.le_refl _)) wq.heap.size none 0 _ (ftCells l1) rfl (HA1.out.below (by repeat' (first | with_reducible exact Below.refl _ _ | with_reducible refine below_drewN ?_ _ | with_reducible refine Below.drew ?_ | with_reducible refine Below.alloc ?_ ?_ _ | with_reducible refine Below.setCell ?_ ?_ _ | with_reducible refine Below.trans ?_ (Below.mono (by with_reducible assumption) ?_) | (simp; done) | (simp; omega) | omega))) (ftCells_one _) (by unfold maxLen; omega) (by omega) (by first | (simp; done) | (simp; omega)) ?_
               intro v1 w1 hown1 hg1 hat1
               simp only [Nat.zero_add, List.nil_append] at hown1
               have HbA : Hid (Below wq.heap.size wq w1) := Below.grown (by exact (by repeat' (first | with_reducible exact Below.refl _ _ | with_reducible refine below_drewN ?_ _ | with_reducible refine Below.drew ?_ | with_reducible refine Below.alloc ?_ ?_ _ | with_reducible refine Below.setCell ?_ ?_ _ | with_reducible refine Below.trans ?_ (Below.mono (by with_reducible assumption) ?_) | (simp; done) | (simp; omega) | omega))) hg1 (by first | (simp; done) | (simp; omega) | omega) (fun q hq => by injection hq with hq; subst hq; exact Nat.le_succ _)
               have hsA : wq.heap.size ≤ w1.heap.size := HbA.out.size
               have Hg1 := Lib.hid hg1
               have Hown1 := Lib.hid hown1
               have a0 := cell_of_row w1 w.heap.size 0 _ _ _ ((HbA.out.block w.heap.size hxq).trans Hrq.out); have a1 := cell_of_row w1 w.heap.size 1 _ _ _ ((HbA.out.block w.heap.size hxq).trans Hrq.out); have a2 := cell_of_row w1 w.heap.size 2 _ _ _ ((HbA.out.block w.heap.size hxq).trans Hrq.out); have a3 := cell_of_row w1 w.heap.size 3 _ _ _ ((HbA.out.block w.heap.size hxq).trans Hrq.out); have a4 := cell_of_row w1 w.heap.size 4 _ _ _ ((HbA.out.block w.heap.size hxq).trans Hrq.out)
               clear hown1 hg1 hat1)
            | fail)
        all_goals
          go_wp2
          go_ret2
          exact ⟨HbQ.out.trans (HbC.out.mono hwq), .inr ⟨0, v3, by have := Hln.out; omega, rfl, HFin.out v3 _ Hown3.out, HOk.out⟩⟩
      · obtain ⟨b, off, rfl, hbl, _⟩ := HAq.out.lies.resolve_left (by omega)
        by_cases hck : c = i
        · subst hck
          have hk0 : (0 : Int) ≤ (c : Int) := by omega
          have HOk : Hid (LyOk (fts (insL l (c) x))) := Lib.hid (HL.out.ins HX.out (by omega) (c) (by have := Hln.out; omega) (fun j hj hjk => Hlt.out j hj (by omega)) (fun j hj hjk => by have := Hln.out; omega))
          have HFin : Hid (∀ v W, World.ownsRow W wq.heap.size 54 5 v (c + 1 + (0)) (ftCells (l.take (c) ++ [x]) ++ ftCells (l.drop (c))) → World.ownsRow W w.heap.size 54 5 v (l.length + 1) (ftCells (insL l (c) x))) := Lib.hid (fun v W h => by
            have e1 : l.length + 1 = c + 1 + (0) := by have := Hln.out; omega
            have e2 : ftCells (insL l (c) x) = ftCells (l.take (c) ++ [x]) ++ ftCells (l.drop (c)) := by unfold insL; rw [ftCells_app]
            rw [e1, e2]; exact own_rebase h hwq)
          have HA1 : Hid (Reads wq wq.heap.size 5 (some ⟨b, off, none⟩) (c) (ftCells (l.take (c)))) := Lib.hid (HAq.out.reads_take c (Nat.le_refl _))
          have HA2 : Hid (Reads wq wq.heap.size 5 (some ⟨b, off, none⟩) (0) (ftCells (l.drop (c)))) := Lib.hid (by rw [List.drop_eq_nil_of_le (by have := Hln.out; omega)]; exact (HAq.out.reads_take 0 (Nat.zero_le _)))
          generalize l.take (c) = l1 at *
          generalize l.drop (c) = l2 at *

          go_region_held3 (fun w' => w'.cell? ⟨w.heap.size, 0, none⟩ = some (.int .i64 x.1.num) ∧ w'.cell? ⟨w.heap.size, 1, none⟩ = some (.int .i64 x.1.kd) ∧ w'.cell? ⟨w.heap.size, 2, none⟩ = some (.int .i64 x.1.fr) ∧ w'.cell? ⟨w.heap.size, 3, none⟩ = some (.int .i64 x.1.un) ∧ w'.cell? ⟨w.heap.size, 4, none⟩ = some (.slice x.2.a x.1.rg.length x.2.c))
            (first | go_keep | ((repeat' apply And.intro) <;> go_keep))
            (first
              | (refine step_append_any _ rfl (.tmp 59) (.tmp 62) 51 rfl wq.heap.size 54 i0 (.agg #[.int .i64 0, .int .i64 0, .int .i64 0, .int .i64 0, .slice none 0 0]) 5 56 Tryz.underlying51 hi hz0 hz1 hz2 rfl (by omega) v2 (c + 1) (ftCells (l1 ++ [x])) rfl (by exact Hown2.out) wq.heap.size (some ⟨b, off, none⟩) (0) _ (ftCells l2) rfl (HA2.out.below (by exact HbB.out)) (ftCells_one _) (by unfold maxLen; omega) (by omega) (by exact hsB) ?_
                 intro v3 w3' hown3 hg3 hat3
                 have HbC : Hid (Below wq.heap.size wq w3') := Below.grown HbB.out hg3 hsB (own_base Hown2.out)
                 have Hown3 := Lib.hid hown3
                 have e0 := cell_of_row w3' w.heap.size 0 _ _ _ ((HbC.out.block w.heap.size hxq).trans Hrq.out); have e1 := cell_of_row w3' w.heap.size 1 _ _ _ ((HbC.out.block w.heap.size hxq).trans Hrq.out); have e2 := cell_of_row w3' w.heap.size 2 _ _ _ ((HbC.out.block w.heap.size hxq).trans Hrq.out); have e3 := cell_of_row w3' w.heap.size 3 _ _ _ ((HbC.out.block w.heap.size hxq).trans Hrq.out); have e4 := cell_of_row w3' w.heap.size 4 _ _ _ ((HbC.out.block w.heap.size hxq).trans Hrq.out)
                 clear hown3 hg3 hat3)
              | (refine step_append_any _ rfl (.tmp 56) (.tmp 58) 51 rfl wq.heap.size 54 i0 (.agg #[.int .i64 0, .int .i64 0, .int .i64 0, .int .i64 0, .slice none 0 0]) 5 56 Tryz.underlying51 hi hz0 hz1 hz2 rfl (by omega) v1 (c) (ftCells l1) rfl (by first | exact Hown1.out | exact ownsRow_below Hown1.out (by repeat' (first | with_reducible exact Below.refl _ _ | with_reducible refine below_drewN ?_ _ | with_reducible refine Below.drew ?_ | with_reducible refine Below.alloc ?_ ?_ _ | with_reducible refine Below.setCell ?_ ?_ _ | with_reducible refine Below.trans ?_ (Below.mono (by with_reducible assumption) ?_) | (simp; done) | (simp; omega) | omega))) _ _ 1 1 [.int .i64 x.1.num, .int .i64 x.1.kd, .int .i64 x.1.fr, .int .i64 x.1.un, .slice x.2.a x.1.rg.length x.2.c] rfl ⟨rfl, fun _ => ⟨_, rfl, Nat.lt_succ_self _, fun j u hu => (by first | exact news_any _ _ _ j u hu | exact news_far (cs := #[.int .i64 x.1.num, .int .i64 x.1.kd, .int .i64 x.1.fr, .int .i64 x.1.un, .slice x.2.a x.1.rg.length x.2.c]) (t := 54) (alloc_second wq _ _) Hg1.out (by simp [Value.ownBlock]) j u hu | exact news_far (cs := #[.int .i64 x.1.num, .int .i64 x.1.kd, .int .i64 x.1.fr, .int .i64 x.1.un, .slice x.2.a x.1.rg.length x.2.c]) (t := 54) (alloc_first wq _ _) Hg1.out (by simp [Value.ownBlock]) j u hu)⟩⟩ (by simp [Value.oneCell']) (by unfold maxLen; omega) (by omega) (by first | exact hsA | (simp; omega)) ?_
                 intro v2 w2 hown2 hg2 hat2
                 have HbB : Hid (Below wq.heap.size wq w2) := Below.grown (by have hbA := HbA.out; exact (by repeat' (first | with_reducible exact Below.refl _ _ | with_reducible assumption | with_reducible refine below_drewN ?_ _ | with_reducible refine Below.drew ?_ | with_reducible refine Below.alloc ?_ ?_ _ | with_reducible refine Below.setCell ?_ ?_ _ | with_reducible refine Below.trans ?_ (Below.mono (by with_reducible assumption) ?_) | with_reducible refine below_only ?_ (by with_reducible assumption) ?_ ?_ | (simp; done) | (simp; omega) | omega))) hg2 (by first | (simp; done) | (simp; omega) | omega) (own_base Hown1.out)
                 have hsB : wq.heap.size ≤ w2.heap.size := HbB.out.size
                 have Hown2 : Hid (w2.ownsRow wq.heap.size 54 5 v2 (c + 1) (ftCells (l1 ++ [x]))) := Lib.hid (by rw [ftCells_snoc]; exact hown2)
                 have d0 := cell_of_row w2 w.heap.size 0 _ _ _ ((HbB.out.block w.heap.size hxq).trans Hrq.out); have d1 := cell_of_row w2 w.heap.size 1 _ _ _ ((HbB.out.block w.heap.size hxq).trans Hrq.out); have d2 := cell_of_row w2 w.heap.size 2 _ _ _ ((HbB.out.block w.heap.size hxq).trans Hrq.out); have d3 := cell_of_row w2 w.heap.size 3 _ _ _ ((HbB.out.block w.heap.size hxq).trans Hrq.out); have d4 := cell_of_row w2 w.heap.size 4 _ _ _ ((HbB.out.block w.heap.size hxq).trans Hrq.out)
                 clear hown2 hg2 hat2)
              | (refine step_append_any _ rfl (.tmp 52) (.tmp 55) 51 rfl wq.heap.size 54 i0 (.agg #[.int .i64 0, .int .i64 0, .int .i64 0, .int .i64 0, .slice none 0 0]) 5 56 Tryz.underlying51 hi hz0 hz1 hz2 rfl (by omega) (.slice (some ⟨wq.heap.size, 0, none⟩) 0 0) 0 [] rfl (by first | exact own_zero wq _ _ _ (Nat.le_refl _) | exact ownsRow_below (own_zero wq _ _ _ (Nat.le_refl _)) (by repeat' (first | with_reducible exact Below.refl _ _ | with_reducible refine below_drewN ?_ _ | with_reducible refine Below.drew ?_ | with_reducible refine Below.alloc ?_ ?_ _ | with_reducible refine Below.setCell ?_ ?_ _ | with_reducible refine Below.trans ?_ (Below.mono (by with_reducible assumption) ?_) | (simp; done) | (simp; omega) | omega))) wq.heap.size (some ⟨b, off, none⟩) c _ (ftCells l1) rfl (HA1.out.below (by repeat' (first | with_reducible exact Below.refl _ _ | with_reducible refine below_drewN ?_ _ | with_reducible refine Below.drew ?_ | with_reducible refine Below.alloc ?_ ?_ _ | with_reducible refine Below.setCell ?_ ?_ _ | with_reducible refine Below.trans ?_ (Below.mono (by with_reducible assumption) ?_) | (simp; done) | (simp; omega) | omega))) (ftCells_one _) (by unfold maxLen; omega) (by omega) (by first | (simp; done) | (simp; omega)) ?_
                 intro v1 w1 hown1 hg1 hat1
                 simp only [Nat.zero_add, List.nil_append] at hown1
                 have HbA : Hid (Below wq.heap.size wq w1) := Below.grown (by exact (by repeat' (first | with_reducible exact Below.refl _ _ | with_reducible refine below_drewN ?_ _ | with_reducible refine Below.drew ?_ | with_reducible refine Below.alloc ?_ ?_ _ | with_reducible refine Below.setCell ?_ ?_ _ | with_reducible refine Below.trans ?_ (Below.mono (by with_reducible assumption) ?_) | (simp; done) | (simp; omega) | omega))) hg1 (by first | (simp; done) | (simp; omega) | omega) (fun q hq => by injection hq with hq; exact Nat.le_of_eq hq)
                 have hsA : wq.heap.size ≤ w1.heap.size := HbA.out.size
                 have Hg1 := Lib.hid hg1
                 have Hown1 := Lib.hid hown1
                 have a0 := cell_of_row w1 w.heap.size 0 _ _ _ ((HbA.out.block w.heap.size hxq).trans Hrq.out); have a1 := cell_of_row w1 w.heap.size 1 _ _ _ ((HbA.out.block w.heap.size hxq).trans Hrq.out); have a2 := cell_of_row w1 w.heap.size 2 _ _ _ ((HbA.out.block w.heap.size hxq).trans Hrq.out); have a3 := cell_of_row w1 w.heap.size 3 _ _ _ ((HbA.out.block w.heap.size hxq).trans Hrq.out); have a4 := cell_of_row w1 w.heap.size 4 _ _ _ ((HbA.out.block w.heap.size hxq).trans Hrq.out)
                 clear hown1 hg1 hat1)
              | (refine step_append_any _ rfl (.tmp 52) (.tmp 55) 51 rfl wq.heap.size 54 i0 (.agg #[.int .i64 0, .int .i64 0, .int .i64 0, .int .i64 0, .slice none 0 0]) 5 56 Tryz.underlying51 hi hz0 hz1 hz2 rfl (by omega) (.slice (some ⟨wq.heap.size + 1, 0, none⟩) 0 0) 0 [] rfl (by exact own_zero1 wq _ _ _ _ (Nat.le_refl _)) wq.heap.size (some ⟨b, off, none⟩) c _ (ftCells l1) rfl (HA1.out.below (by repeat' (first | with_reducible exact Below.refl _ _ | with_reducible refine below_drewN ?_ _ | with_reducible refine Below.drew ?_ | with_reducible refine Below.alloc ?_ ?_ _ | with_reducible refine Below.setCell ?_ ?_ _ | with_reducible refine Below.trans ?_ (Below.mono (by with_reducible assumption) ?_) | (simp; done) | (simp; omega) | omega))) (ftCells_one _) (by unfold maxLen; omega) (by omega) (by first | (simp; done) | (simp; omega)) ?_
                 intro v1 w1 hown1 hg1 hat1
                 simp only [Nat.zero_add, List.nil_append] at hown1
                 have HbA : Hid (Below wq.heap.size wq w1) := Below.grown (by exact (by repeat' (first | with_reducible exact Below.refl _ _ | with_reducible refine below_drewN ?_ _ | with_reducible refine Below.drew ?_ | with_reducible refine Below.alloc ?_ ?_ _ | with_reducible refine Below.setCell ?_ ?_ _ | with_reducible refine Below.trans ?_ (Below.mono (by with_reducible assumption) ?_) | (simp; done) | (simp; omega) | omega))) hg1 (by first | (simp; done) | (simp; omega) | omega) (fun q hq => by injection hq with hq; subst hq; exact Nat.le_succ _)
                 have hsA : wq.heap.size ≤ w1.heap.size := HbA.out.size
                 have Hg1 := Lib.hid hg1
                 have Hown1 := Lib.hid hown1
                 have a0 := cell_of_row w1 w.heap.size 0 _ _ _ ((HbA.out.block w.heap.size hxq).trans Hrq.out); have a1 := cell_of_row w1 w.heap.size 1 _ _ _ ((HbA.out.block w.heap.size hxq).trans Hrq.out); have a2 := cell_of_row w1 w.heap.size 2 _ _ _ ((HbA.out.block w.heap.size hxq).trans Hrq.out); have a3 := cell_of_row w1 w.heap.size 3 _ _ _ ((HbA.out.block w.heap.size hxq).trans Hrq.out); have a4 := cell_of_row w1 w.heap.size 4 _ _ _ ((HbA.out.block w.heap.size hxq).trans Hrq.out)
                 clear hown1 hg1 hat1)
              | fail)
          all_goals
            go_wp2
            go_ret2
            exact ⟨HbQ.out.trans (HbC.out.mono hwq), .inr ⟨c, v3, by have := Hln.out; omega, rfl, HFin.out v3 _ Hown3.out, HOk.out⟩⟩
        · have hck2 : ¬ (c : Int) = (i : Int) := by omega
          have hkc : (i : Int) ≤ (c : Int) := by omega
          have hk0 : (0 : Int) ≤ (i : Int) := by omega

          have HOk : Hid (LyOk (fts (insL l (i) x))) := Lib.hid (HL.out.ins HX.out (by omega) (i) (by have := Hln.out; omega) (fun j hj hjk => Hlt.out j hj (by omega)) (fun j hj hjk => by have := Hln.out; omega))
          have HFin : Hid (∀ v W, World.ownsRow W wq.heap.size 54 5 v (i + 1 + (0)) (ftCells (l.take (i) ++ [x]) ++ ftCells (l.drop (i))) → World.ownsRow W w.heap.size 54 5 v (l.length + 1) (ftCells (insL l (i) x))) := Lib.hid (fun v W h => by
            have e1 : l.length + 1 = i + 1 + (0) := by have := Hln.out; omega
            have e2 : ftCells (insL l (i) x) = ftCells (l.take (i) ++ [x]) ++ ftCells (l.drop (i)) := by unfold insL; rw [ftCells_app]
            rw [e1, e2]; exact own_rebase h hwq)
          have HA1 : Hid (Reads wq wq.heap.size 5 (some ⟨b, off, none⟩) (i) (ftCells (l.take (i)))) := Lib.hid (HAq.out.reads_take i (Nat.le_refl _))
          have HA2 : Hid (Reads wq wq.heap.size 5 (some ⟨b, off + i * 5, none⟩) (0) (ftCells (l.drop (i)))) := Lib.hid (by have h9 := HAq.out.reads_drop i (Nat.le_refl _) hck; rwa [Nat.sub_self] at h9)
          generalize l.take (i) = l1 at *
          generalize l.drop (i) = l2 at *

          go_region_held3 (fun w' => w'.cell? ⟨w.heap.size, 0, none⟩ = some (.int .i64 x.1.num) ∧ w'.cell? ⟨w.heap.size, 1, none⟩ = some (.int .i64 x.1.kd) ∧ w'.cell? ⟨w.heap.size, 2, none⟩ = some (.int .i64 x.1.fr) ∧ w'.cell? ⟨w.heap.size, 3, none⟩ = some (.int .i64 x.1.un) ∧ w'.cell? ⟨w.heap.size, 4, none⟩ = some (.slice x.2.a x.1.rg.length x.2.c))
            (first | go_keep | ((repeat' apply And.intro) <;> go_keep))
            (first
              | (refine step_append_any _ rfl (.tmp 59) (.tmp 62) 51 rfl wq.heap.size 54 i0 (.agg #[.int .i64 0, .int .i64 0, .int .i64 0, .int .i64 0, .slice none 0 0]) 5 56 Tryz.underlying51 hi hz0 hz1 hz2 rfl (by omega) v2 (i + 1) (ftCells (l1 ++ [x])) rfl (by exact Hown2.out) wq.heap.size (some ⟨b, off + i * 5, none⟩) (0) _ (ftCells l2) rfl (HA2.out.below (by exact HbB.out)) (ftCells_one _) (by unfold maxLen; omega) (by omega) (by exact hsB) ?_
                 intro v3 w3' hown3 hg3 hat3
                 have HbC : Hid (Below wq.heap.size wq w3') := Below.grown HbB.out hg3 hsB (own_base Hown2.out)
                 have Hown3 := Lib.hid hown3
                 have e0 := cell_of_row w3' w.heap.size 0 _ _ _ ((HbC.out.block w.heap.size hxq).trans Hrq.out); have e1 := cell_of_row w3' w.heap.size 1 _ _ _ ((HbC.out.block w.heap.size hxq).trans Hrq.out); have e2 := cell_of_row w3' w.heap.size 2 _ _ _ ((HbC.out.block w.heap.size hxq).trans Hrq.out); have e3 := cell_of_row w3' w.heap.size 3 _ _ _ ((HbC.out.block w.heap.size hxq).trans Hrq.out); have e4 := cell_of_row w3' w.heap.size 4 _ _ _ ((HbC.out.block w.heap.size hxq).trans Hrq.out)
                 clear hown3 hg3 hat3)
              | (refine step_append_any _ rfl (.tmp 56) (.tmp 58) 51 rfl wq.heap.size 54 i0 (.agg #[.int .i64 0, .int .i64 0, .int .i64 0, .int .i64 0, .slice none 0 0]) 5 56 Tryz.underlying51 hi hz0 hz1 hz2 rfl (by omega) v1 (i) (ftCells l1) rfl (by first | exact Hown1.out | exact ownsRow_below Hown1.out (by repeat' (first | with_reducible exact Below.refl _ _ | with_reducible refine below_drewN ?_ _ | with_reducible refine Below.drew ?_ | with_reducible refine Below.alloc ?_ ?_ _ | with_reducible refine Below.setCell ?_ ?_ _ | with_reducible refine Below.trans ?_ (Below.mono (by with_reducible assumption) ?_) | (simp; done) | (simp; omega) | omega))) _ _ 1 1 [.int .i64 x.1.num, .int .i64 x.1.kd, .int .i64 x.1.fr, .int .i64 x.1.un, .slice x.2.a x.1.rg.length x.2.c] rfl ⟨rfl, fun _ => ⟨_, rfl, Nat.lt_succ_self _, fun j u hu => (by first | exact news_any _ _ _ j u hu | exact news_far (cs := #[.int .i64 x.1.num, .int .i64 x.1.kd, .int .i64 x.1.fr, .int .i64 x.1.un, .slice x.2.a x.1.rg.length x.2.c]) (t := 54) (alloc_second wq _ _) Hg1.out (by simp [Value.ownBlock]) j u hu | exact news_far (cs := #[.int .i64 x.1.num, .int .i64 x.1.kd, .int .i64 x.1.fr, .int .i64 x.1.un, .slice x.2.a x.1.rg.length x.2.c]) (t := 54) (alloc_first wq _ _) Hg1.out (by simp [Value.ownBlock]) j u hu)⟩⟩ (by simp [Value.oneCell']) (by unfold maxLen; omega) (by omega) (by first | exact hsA | (simp; omega)) ?_
                 intro v2 w2 hown2 hg2 hat2
                 have HbB : Hid (Below wq.heap.size wq w2) := Below.grown (by have hbA := HbA.out; exact (by repeat' (first | with_reducible exact Below.refl _ _ | with_reducible assumption | with_reducible refine below_drewN ?_ _ | with_reducible refine Below.drew ?_ | with_reducible refine Below.alloc ?_ ?_ _ | with_reducible refine Below.setCell ?_ ?_ _ | with_reducible refine Below.trans ?_ (Below.mono (by with_reducible assumption) ?_) | with_reducible refine below_only ?_ (by with_reducible assumption) ?_ ?_ | (simp; done) | (simp; omega) | omega))) hg2 (by first | (simp; done) | (simp; omega) | omega) (own_base Hown1.out)
                 have hsB : wq.heap.size ≤ w2.heap.size := HbB.out.size
                 have Hown2 : Hid (w2.ownsRow wq.heap.size 54 5 v2 (i + 1) (ftCells (l1 ++ [x]))) := Lib.hid (by rw [ftCells_snoc]; exact hown2)
                 have d0 := cell_of_row w2 w.heap.size 0 _ _ _ ((HbB.out.block w.heap.size hxq).trans Hrq.out); have d1 := cell_of_row w2 w.heap.size 1 _ _ _ ((HbB.out.block w.heap.size hxq).trans Hrq.out); have d2 := cell_of_row w2 w.heap.size 2 _ _ _ ((HbB.out.block w.heap.size hxq).trans Hrq.out); have d3 := cell_of_row w2 w.heap.size 3 _ _ _ ((HbB.out.block w.heap.size hxq).trans Hrq.out); have d4 := cell_of_row w2 w.heap.size 4 _ _ _ ((HbB.out.block w.heap.size hxq).trans Hrq.out)
                 clear hown2 hg2 hat2)
              | (refine step_append_any _ rfl (.tmp 52) (.tmp 55) 51 rfl wq.heap.size 54 i0 (.agg #[.int .i64 0, .int .i64 0, .int .i64 0, .int .i64 0, .slice none 0 0]) 5 56 Tryz.underlying51 hi hz0 hz1 hz2 rfl (by omega) (.slice (some ⟨wq.heap.size, 0, none⟩) 0 0) 0 [] rfl (by first | exact own_zero wq _ _ _ (Nat.le_refl _) | exact ownsRow_below (own_zero wq _ _ _ (Nat.le_refl _)) (by repeat' (first | with_reducible exact Below.refl _ _ | with_reducible refine below_drewN ?_ _ | with_reducible refine Below.drew ?_ | with_reducible refine Below.alloc ?_ ?_ _ | with_reducible refine Below.setCell ?_ ?_ _ | with_reducible refine Below.trans ?_ (Below.mono (by with_reducible assumption) ?_) | (simp; done) | (simp; omega) | omega))) wq.heap.size (some ⟨b, off, none⟩) i _ (ftCells l1) rfl (HA1.out.below (by repeat' (first | with_reducible exact Below.refl _ _ | with_reducible refine below_drewN ?_ _ | with_reducible refine Below.drew ?_ | with_reducible refine Below.alloc ?_ ?_ _ | with_reducible refine Below.setCell ?_ ?_ _ | with_reducible refine Below.trans ?_ (Below.mono (by with_reducible assumption) ?_) | (simp; done) | (simp; omega) | omega))) (ftCells_one _) (by unfold maxLen; omega) (by omega) (by first | (simp; done) | (simp; omega)) ?_
                 intro v1 w1 hown1 hg1 hat1
                 simp only [Nat.zero_add, List.nil_append] at hown1
                 have HbA : Hid (Below wq.heap.size wq w1) := Below.grown (by exact (by repeat' (first | with_reducible exact Below.refl _ _ | with_reducible refine below_drewN ?_ _ | with_reducible refine Below.drew ?_ | with_reducible refine Below.alloc ?_ ?_ _ | with_reducible refine Below.setCell ?_ ?_ _ | with_reducible refine Below.trans ?_ (Below.mono (by with_reducible assumption) ?_) | (simp; done) | (simp; omega) | omega))) hg1 (by first | (simp; done) | (simp; omega) | omega) (fun q hq => by injection hq with hq; exact Nat.le_of_eq hq)
                 have hsA : wq.heap.size ≤ w1.heap.size := HbA.out.size
                 have Hg1 := Lib.hid hg1
                 have Hown1 := Lib.hid hown1
                 have a0 := cell_of_row w1 w.heap.size 0 _ _ _ ((HbA.out.block w.heap.size hxq).trans Hrq.out); have a1 := cell_of_row w1 w.heap.size 1 _ _ _ ((HbA.out.block w.heap.size hxq).trans Hrq.out); have a2 := cell_of_row w1 w.heap.size 2 _ _ _ ((HbA.out.block w.heap.size hxq).trans Hrq.out); have a3 := cell_of_row w1 w.heap.size 3 _ _ _ ((HbA.out.block w.heap.size hxq).trans Hrq.out); have a4 := cell_of_row w1 w.heap.size 4 _ _ _ ((HbA.out.block w.heap.size hxq).trans Hrq.out)
                 clear hown1 hg1 hat1)
              | (refine step_append_any _ rfl (.tmp 52) (.tmp 55) 51 rfl wq.heap.size 54 i0 (.agg #[.int .i64 0, .int .i64 0, .int .i64 0, .int .i64 0, .slice none 0 0]) 5 56 Tryz.underlying51 hi hz0 hz1 hz2 rfl (by omega) (.slice (some ⟨wq.heap.size + 1, 0, none⟩) 0 0) 0 [] rfl (by exact own_zero1 wq _ _ _ _ (Nat.le_refl _)) wq.heap.size (some ⟨b, off, none⟩) i _ (ftCells l1) rfl (HA1.out.below (by repeat' (first | with_reducible exact Below.refl _ _ | with_reducible refine below_drewN ?_ _ | with_reducible refine Below.drew ?_ | with_reducible refine Below.alloc ?_ ?_ _ | with_reducible refine Below.setCell ?_ ?_ _ | with_reducible refine Below.trans ?_ (Below.mono (by with_reducible assumption) ?_) | (simp; done) | (simp; omega) | omega))) (ftCells_one _) (by unfold maxLen; omega) (by omega) (by first | (simp; done) | (simp; omega)) ?_
                 intro v1 w1 hown1 hg1 hat1
                 simp only [Nat.zero_add, List.nil_append] at hown1
                 have HbA : Hid (Below wq.heap.size wq w1) := Below.grown (by exact (by repeat' (first | with_reducible exact Below.refl _ _ | with_reducible refine below_drewN ?_ _ | with_reducible refine Below.drew ?_ | with_reducible refine Below.alloc ?_ ?_ _ | with_reducible refine Below.setCell ?_ ?_ _ | with_reducible refine Below.trans ?_ (Below.mono (by with_reducible assumption) ?_) | (simp; done) | (simp; omega) | omega))) hg1 (by first | (simp; done) | (simp; omega) | omega) (fun q hq => by injection hq with hq; subst hq; exact Nat.le_succ _)
                 have hsA : wq.heap.size ≤ w1.heap.size := HbA.out.size
                 have Hg1 := Lib.hid hg1
                 have Hown1 := Lib.hid hown1
                 have a0 := cell_of_row w1 w.heap.size 0 _ _ _ ((HbA.out.block w.heap.size hxq).trans Hrq.out); have a1 := cell_of_row w1 w.heap.size 1 _ _ _ ((HbA.out.block w.heap.size hxq).trans Hrq.out); have a2 := cell_of_row w1 w.heap.size 2 _ _ _ ((HbA.out.block w.heap.size hxq).trans Hrq.out); have a3 := cell_of_row w1 w.heap.size 3 _ _ _ ((HbA.out.block w.heap.size hxq).trans Hrq.out); have a4 := cell_of_row w1 w.heap.size 4 _ _ _ ((HbA.out.block w.heap.size hxq).trans Hrq.out)
                 clear hown1 hg1 hat1)
              | fail)
          all_goals
            go_wp2
            go_ret2
            exact ⟨HbQ.out.trans (HbC.out.mono hwq), .inr ⟨i, v3, by have := Hln.out; omega, rfl, HFin.out v3 _ Hown3.out, HOk.out⟩⟩
end Go.Proofs.YtfmkmhhghmdakaaGreatDoor
