/- Words on features: the head and the tail of a slice of them. -/
import Derived.Test.YtfmkmhhghmdakaaGreatDoorQA
import Derived.Test.YtfmkmhhghmdakaaGreatDoorQC
import Derived.Test.YtfmkmhhghmdakaaGreatDoorQH
namespace Go.Proofs.YtfmkmhhghmdakaaGreatDoor
open Go.RowKit
set_option linter.unusedVariables false
set_option linter.unusedSimpArgs false

/-- A face. -/
structure Fc where
  set : Int
  rg : List R4
end Go.Proofs.YtfmkmhhghmdakaaGreatDoor

namespace Go.Proofs.YtfmkmhhghmdakaaGreatDoor
open Go.RowKit
set_option linter.unusedVariables false
set_option linter.unusedSimpArgs false

theorem canonP_or (l : List R4) (hl : ∀ q ∈ l, q.l < q.r) : canonP l = chooseP orB l [] := by
  refine Canon.uniq (canonP_canon l hl) ((choose_canon orB rfl l [] hl (by simp)).congr fun x y => ?_)
  simp [orB, inL]
theorem canonP_side {s : Nat} {l : List R4} (h : InS s l) : (canonP l).length ≤ s * s := by
  rw [canonP_or l h.pos]
  exact choose_len orB s l [] h (by intro q hq; cases hq)
end Go.Proofs.YtfmkmhhghmdakaaGreatDoor

namespace Go.Proofs.YtfmkmhhghmdakaaGreatDoor
open Go.RowKit
set_option linter.unusedVariables false
set_option linter.unusedSimpArgs false

theorem wrap_nat63 (n : Nat) (h : n < 9223372036854775808) : IntKind.i64.wrap (n : Int) = (n : Int) := by
  have e : (n : Int) % 2 ^ 64 = n := Int.emod_eq_of_lt (by omega) (by omega)
  simp only [IntKind.wrap, IntKind.bits, IntKind.signed, e]
  rw [if_neg]
  simp
  omega
theorem ofInt_nat64 (a : Nat) (h : a < 18446744073709551616) : (BitVec.ofInt 64 (a : Int)).toNat = a := by
  rw [BitVec.ofInt_natCast, BitVec.toNat_ofNat]
  exact Nat.mod_eq_of_lt (by omega)
theorem and_i64n (a b : Nat) (ha : a < 2 ^ 62) (hb : b < 2 ^ 62) : bits .and .i64 (a : Int) (b : Int) = ((a &&& b : Nat) : Int) := by
  have hx : a &&& b < 2 ^ 62 := Nat.and_lt_two_pow _ hb
  show IntKind.i64.wrap ((BitVec.ofInt 64 (a : Int) &&& BitVec.ofInt 64 (b : Int)).toNat : Int) = _
  rw [BitVec.toNat_and, ofInt_nat64 a (by omega), ofInt_nat64 b (by omega)]
  exact wrap_nat63 _ (by omega)
/-! ## Squares -/
end Go.Proofs.YtfmkmhhghmdakaaGreatDoor

namespace Go.Proofs.YtfmkmhhghmdakaaGreatDoor
open Go.RowKit
set_option linter.unusedVariables false
set_option linter.unusedSimpArgs false

/-! ## Turns -/
/-! ## A further region -/
end Go.Proofs.YtfmkmhhghmdakaaGreatDoor
namespace Go.Proofs.YtfmkmhhghmdakaaGreatDoor
open Go.RowKit
set_option linter.unusedVariables false
set_option linter.unusedSimpArgs false

structure Ft where
  num : Int
  kd : Int
  fr : Int
  un : Int
  rg : List R4
abbrev FtL := List (Ft × LV)
def ftC (x : Ft × LV) : List Value := [.int .i64 x.1.num, .int .i64 x.1.kd, .int .i64 x.1.fr, .int .i64 x.1.un, .slice x.2.a x.1.rg.length x.2.c]
def ftCells (l : FtL) : List Value := l.flatMap ftC
theorem ftCells_snoc (l : FtL) (x : Ft × LV) : ftCells (l ++ [x]) = ftCells l ++ [.int .i64 x.1.num, .int .i64 x.1.kd, .int .i64 x.1.fr, .int .i64 x.1.un, .slice x.2.a x.1.rg.length x.2.c] := by simp [ftCells, ftC]
theorem ftCells_len (l : FtL) : (ftCells l).length = l.length * 5 := by
  induction l with
  | nil => rfl
  | cons o r ih => simp [ftCells, ftC] at *; omega
theorem ftCells_at (l : FtL) (i : Nat) (h : i < l.length) : (ftCells l)[i * 5]? = some (.int .i64 l[i].1.num) ∧ (ftCells l)[i * 5 + 1]? = some (.int .i64 l[i].1.kd) ∧ (ftCells l)[i * 5 + 2]? = some (.int .i64 l[i].1.fr) ∧ (ftCells l)[i * 5 + 3]? = some (.int .i64 l[i].1.un) ∧ (ftCells l)[i * 5 + 4]? = some (.slice l[i].2.a l[i].1.rg.length l[i].2.c) := by
  induction l generalizing i with
  | nil => simp at h
  | cons o r ih =>
    have hc : ftCells (o :: r) = ftC o ++ ftCells r := by simp [ftCells]
    have hl : (ftC o).length = 5 := rfl
    rw [hc]
    rcases i with _ | i
    · simp [ftC]
    · have := ih i (by simpa using h)
      refine ⟨?_, ?_, ?_, ?_, ?_⟩ <;> (rw [List.getElem?_append_right (by rw [hl]; omega), hl])
      · rw [show (i + 1) * 5 - 5 = i * 5 from by omega]; exact this.1
      · rw [show (i + 1) * 5 + 1 - 5 = i * 5 + 1 from by omega]; exact this.2.1
      · rw [show (i + 1) * 5 + 2 - 5 = i * 5 + 2 from by omega]; exact this.2.2.1
      · rw [show (i + 1) * 5 + 3 - 5 = i * 5 + 3 from by omega]; exact this.2.2.2.1
      · rw [show (i + 1) * 5 + 4 - 5 = i * 5 + 4 from by omega]; exact this.2.2.2.2
structure SlFt (w : World) (A : Option Addr) (n c : Nat) (l : FtL) : Prop where
  len : l.length = n
  cap : n ≤ c
  top : c ≤ maxLen
  lies : Lies w A n (ftCells l)
  fits : ∀ x ∈ l, SlR w x.2.a x.1.rg.length x.2.c x.1.rg
theorem SlFt.below {w w' : World} {A : Option Addr} {n c : Nat} {l : FtL} (h : SlFt w A n c l) (hb : Below w.heap.size w w') : SlFt w' A n c l := ⟨h.len, h.cap, h.top, h.lies.below hb, fun x hx => (h.fits x hx).below hb⟩
theorem SlFt.at {w : World} {A : Option Addr} {n c : Nat} {l : FtL} (h : SlFt w A n c l) (i : Nat) (hi : i < l.length) :
    ∃ b off, A = some ⟨b, off, none⟩ ∧ b < w.heap.size ∧ w.cell? ⟨b, off + i * 5, none⟩ = some (.int .i64 l[i].1.num) ∧ w.cell? ⟨b, off + i * 5 + 1, none⟩ = some (.int .i64 l[i].1.kd) ∧ w.cell? ⟨b, off + i * 5 + 2, none⟩ = some (.int .i64 l[i].1.fr) ∧ w.cell? ⟨b, off + i * 5 + 3, none⟩ = some (.int .i64 l[i].1.un) ∧ w.cell? ⟨b, off + i * 5 + 4, none⟩ = some (.slice l[i].2.a l[i].1.rg.length l[i].2.c) ∧ SlR w l[i].2.a l[i].1.rg.length l[i].2.c l[i].1.rg := by
  obtain ⟨b, off, e, hb, hc⟩ := h.lies.resolve_left (by have := h.len; omega)
  obtain ⟨h0, h1, h2, h3, h4⟩ := ftCells_at l i hi
  exact ⟨b, off, e, hb, hc _ _ h0, hc _ _ h1, hc _ _ h2, hc _ _ h3, hc _ _ h4, h.fits _ (List.getElem_mem hi)⟩
def fts (l : FtL) : List Ft := l.map (·.1)
theorem fts_len (l : FtL) : (fts l).length = l.length := by simp [fts]
theorem Tryz.infoFt : (Tryz.prog.info? 54).map (fun i => (i.zero, i.size, i.bytes)) = some (some (.agg #[.int .i64 0, .int .i64 0, .int .i64 0, .int .i64 0, .slice none 0 0]), 5, 56) := by kernel_rfl
/-- A row of lines, their rectangles in rows of their own. -/
structure FtOwn (w : World) (base : Nat) (v : Value) (l : FtL) : Prop where
  o : w.ownsRow base 54 5 v l.length (ftCells l)
  fs : ∀ x ∈ l, w.ownsRow base 68 4 (.slice x.2.a x.1.rg.length x.2.c) x.1.rg.length (rCells x.1.rg)
  ap : ∀ x ∈ l, ∀ g, v.ownBlock = some g → (Value.slice x.2.a x.1.rg.length x.2.c).ownBlock ≠ some g
section
variable {w w' : World} {base : Nat} {v : Value} {l : FtL}
theorem FtOwn.nil (w : World) (base : Nat) : FtOwn w base (.slice none 0 0) [] := ⟨World.ownsRow_nil _ _ _ _, fun _ h => by simp at h, fun _ h => by simp at h⟩
theorem FtOwn.keep (h : FtOwn w base v l) (hk : ∀ b, b < w.heap.size → base ≤ b → w'.heap[b]? = w.heap[b]?) : FtOwn w' base v l := ⟨own_keepY h.o hk, fun x hx => own_keepY (h.fs x hx) hk, h.ap⟩
theorem FtOwn.below (h : FtOwn w base v l) (hb : Below w.heap.size w w') : FtOwn w' base v l := h.keep fun b hlt _ => hb.block b hlt
theorem FtOwn.rebase {base' : Nat} (h : FtOwn w base v l) (hb : base' ≤ base) : FtOwn w base' v l := ⟨own_rebase h.o hb, fun x hx => own_rebase (h.fs x hx) hb, h.ap⟩
theorem FtOwn.sl {A : Option Addr} {c : Nat} (h : FtOwn w base (.slice A l.length c) l) : SlFt w A l.length c l := by
  obtain ⟨A', c', e, h1, h2, h3⟩ := own_slice h.o
  injection e with e1 e2 e3
  subst e1 e3
  refine ⟨rfl, h2, h3, h1, fun x hx => ?_⟩
  obtain ⟨A2, c2, e, h4⟩ := SlR.of_own (h.fs x hx)
  injection e with e1 e2 e3
  rw [e1, e3]
  exact h4
theorem FtOwn.push {wa w5 : World} (h : FtOwn w base v l) (x : Ft × LV) (hx : w.ownsRow base 68 4 (.slice x.2.a x.1.rg.length x.2.c) x.1.rg.length (rCells x.1.rg)) (hxa : ∀ g, v.ownBlock = some g → (Value.slice x.2.a x.1.rg.length x.2.c).ownBlock ≠ some g) {v5 : Value}
    (ha : Below w.heap.size w wa) (hg : wa.grownBy w5 v.ownBlock) (hown : w5.ownsRow base 54 5 v5 (l.length + 1) (ftCells l ++ [.int .i64 x.1.num, .int .i64 x.1.kd, .int .i64 x.1.fr, .int .i64 x.1.un, .slice x.2.a x.1.rg.length x.2.c])) (hat : v5.ownBlock = v.ownBlock ∨ v5.ownBlock = some wa.heap.size) : FtOwn w5 base v5 (l ++ [x]) := by
  have hall : ∀ y ∈ l ++ [x], w.ownsRow base 68 4 (.slice y.2.a y.1.rg.length y.2.c) y.1.rg.length (rCells y.1.rg) ∧ ∀ g, v.ownBlock = some g → (Value.slice y.2.a y.1.rg.length y.2.c).ownBlock ≠ some g := by
    intro y hy
    rcases List.mem_append.1 hy with h1 | h1
    · exact ⟨h.fs y h1, h.ap y h1⟩
    · rw [List.mem_singleton] at h1
      subst h1
      exact ⟨hx, hxa⟩
  refine ⟨by rw [List.length_append, ftCells_snoc]; exact hown, fun y hy => own_grownY (ownsRow_below (hall y hy).1 ha) hg (fun g hg2 e => (hall y hy).2 g e hg2), fun y hy g hg2 e => ?_⟩
  rcases hat with h0 | h0
  · exact (hall y hy).2 g (by rw [← h0]; exact hg2) e
  · rw [h0] at hg2
    injection hg2 with hg2
    have := own_ltY (hall y hy).1 g e
    have := ha.size
    omega
end
end Go.Proofs.YtfmkmhhghmdakaaGreatDoor
namespace Go.Proofs.YtfmkmhhghmdakaaGreatDoor
open Go.RowKit
set_option linter.unusedVariables false
set_option linter.unusedSimpArgs false

/-- A feature that is right. -/
structure FtOk (x : Ft) : Prop where
  num : 1 ≤ x.num ∧ x.num ≤ 1073741824
  kd : 0 ≤ x.kd ∧ x.kd ≤ 15
  day : 0 ≤ x.fr ∧ x.fr < x.un ∧ x.un ≤ 36865
  rg : validP x.rg = true
  ne : 0 < x.rg.length
set_option maxHeartbeats 2000000 in
theorem single_any (x : Ft) (v : LV) (w : World) (h : FtOk x) (hx : SlR w v.a x.rg.length v.c x.rg) :
    Calls Tryz.prog 249 #[.agg #[.int .i64 x.num, .int .i64 x.kd, .int .i64 x.fr, .int .i64 x.un, .slice v.a x.rg.length v.c]] w fun e w' => e = .returned (.int .i64 0) ∧ Below w.heap.size w w' := by
  obtain ⟨⟨a1, a2⟩, ⟨b1, b2⟩, ⟨d1, d2, d3⟩, hv, hn⟩ := h
  have HV := Lib.hid (fun W (h : SlR W v.a x.rg.length v.c x.rg) => valid_any v.a x.rg.length v.c x.rg W h)
  rw [hv] at HV
  have n1 : ¬ x.num < 1 := by omega
  have n2 : ¬ (1073741824 : Int) < x.num := by omega
  have n3 : ¬ x.kd < 0 := by omega
  have n4 : ¬ (15 : Int) < x.kd := by omega
  have n5 : ¬ x.fr < 0 := by omega
  have n6 : ¬ x.un ≤ x.fr := by omega
  have n7 : ¬ (36865 : Int) < x.un := by omega
  have n8 : ¬ (x.rg.length = 0) := by omega
  have n9 : ¬ ((x.rg.length : Int) = 0) := by omega
  have n10 : ¬ x.num ≤ 0 := by omega
  have Hx := Lib.hid hx
  clear hx hv
  obtain ⟨n, hne⟩ : ∃ n, x.rg.length = n := ⟨_, rfl⟩
  rw [hne] at HV Hx n8 n9 ⊢
  clear hne
  go_enter Tryz.func249, Tryz.ntmps249
  go_upto_region 1 with fail
  obtain ⟨w1, hw1⟩ : ∃ w1 : World, w1 = w.alloc (.cells #[.int .i64 x.num, .int .i64 x.kd, .int .i64 x.fr, .int .i64 x.un, .slice v.a n v.c] 54) := ⟨_, rfl⟩
  rw [← hw1]
  have hr1 : w1.heap[w.heap.size]? = some (.cells #[.int .i64 x.num, .int .i64 x.kd, .int .i64 x.fr, .int .i64 x.un, .slice v.a n v.c] 54 (0, 0)) := by rw [hw1]; exact heap_alloc_new w _
  have Hb1 : Hid (Below w.heap.size w w1) := Lib.hid (by rw [hw1]; exact (by repeat' (first | with_reducible exact Below.refl _ _ | with_reducible refine below_drewN ?_ _ | with_reducible refine Below.drew ?_ | with_reducible refine Below.alloc ?_ ?_ _ | with_reducible refine Below.setCell ?_ ?_ _ | with_reducible refine Below.trans ?_ (Below.mono (by with_reducible assumption) ?_) | (simp; done) | (simp; omega) | omega)))
  have hs1 : w.heap.size < w1.heap.size := by rw [hw1]; simp
  have Hx1 := Lib.hid (Hx.out.below Hb1.out)
  have Hr1 := Lib.hid hr1
  have c0 := cell_of_row _ _ 0 _ _ _ hr1
  have c1 := cell_of_row _ _ 1 _ _ _ hr1
  have c2 := cell_of_row _ _ 2 _ _ _ hr1
  have c3 := cell_of_row _ _ 3 _ _ _ hr1
  have c4 := cell_of_row _ _ 4 _ _ _ hr1
  clear hw1 hr1
  go_wp2_with (first
    | (go_at_call 48; refine (HV.out _ Hx1.out).mono ?_; rintro e w2 ⟨rfl, hb2⟩; have Hb2 := Lib.hid hb2; have d4 := cell_of_row _ _ 4 _ _ _ ((hb2.block _ hs1).trans Hr1.out); clear hb2)
    | fail)
  go_ret
  exact ⟨rfl, Hb1.out.trans (Hb2.out.mono (by omega))⟩
end Go.Proofs.YtfmkmhhghmdakaaGreatDoor
namespace Go.Proofs.YtfmkmhhghmdakaaGreatDoor
open Go.RowKit
set_option linter.unusedVariables false
set_option linter.unusedSimpArgs false

/-- A layer that is right. -/
structure LyOk (l : List Ft) : Prop where
  ok : ∀ x ∈ l, FtOk x
  up : l.Pairwise fun a b => a.num < b.num
  len : l.length ≤ 60
theorem fts_get (l : FtL) (i : Nat) (h : i < l.length) : (fts l)[i]'(by rw [fts_len]; exact h) = l[i].1 := by simp [fts]
theorem LyOk.step {l : FtL} (h : LyOk (fts l)) (i : Nat) (hi : i + 1 < l.length) : (l[i]'(by omega)).1.num < l[i + 1].1.num := by
  have := List.pairwise_iff_getElem.1 h.up i (i + 1) (by rw [fts_len]; omega) (by rw [fts_len]; omega) (by omega)
  rw [fts_get l i (by omega), fts_get l (i + 1) hi] at this
  exact this
set_option maxHeartbeats 8000000 in
theorem checkFt_any (A : Option Addr) (n c : Nat) (l : FtL) (w : World) (hA : SlFt w A n c l) (hl : LyOk (fts l)) :
    Calls Tryz.prog 174 #[.slice A n c] w fun e w' => e = .returned (.int .i64 0) ∧ Below w.heap.size w w' := by
  have hln := hA.len
  have hn60 : n ≤ 60 := by have := hl.len; rw [fts_len] at this; omega
  have hn60' : ¬ (60 : Int) < (n : Int) := by omega
  have HA := Lib.hid hA
  have HL := Lib.hid hl
  have Hln := Lib.hid hln
  clear hA hl hln
  go_enter Tryz.func174, Tryz.ntmps174
  go_wp2
  go_loopw [11] (fun iv wr => ∃ i : Nat, i ≤ n ∧ iv = .int .i64 (i : Int) ∧ Below w.heap.size w wr) (fun iv _ => n - (intOf iv).toNat)
  case atStart => exact ⟨0, Nat.zero_le _, rfl, Below.refl _ _⟩
  case round =>
    obtain ⟨i, hi, rfl, hbw⟩ := hrel
    obtain ⟨wo, rfl⟩ : ∃ wo : World, wo = wr := ⟨_, rfl⟩
    have Hbw := Lib.hid hbw
    have hsw := hbw.size
    clear hbw
    by_cases hin : i < n
    · have hin' : (i : Int) < (n : Int) := by omega
      have hil : i < l.length := by rw [Hln.out]; exact hin
      obtain ⟨b, off, rfl, hbl, c0, c1, c2, c3, c4, hS⟩ := (HA.out.below Hbw.out).at i hil
      have hok := HL.out.ok l[i].1 (List.mem_map_of_mem (List.getElem_mem hil))
      have hnum := hok.num
      have HO := Lib.hid (fun W (h : SlR W l[i].2.a l[i].1.rg.length l[i].2.c l[i].1.rg) => single_any l[i].1 l[i].2 W hok h)
      have hup := HL.out.step (i - 1)
      obtain ⟨x, hx⟩ : ∃ x, x = l[i] := ⟨_, rfl⟩
      rw [← hx] at c0 c1 c2 c3 c4 hS HO hnum
      have HS := Lib.hid hS
      have Hx := Lib.hid hx
      have Hup := Lib.hid hup
      clear hS hok hx hup
      go_upto_region 6 with fail
      obtain ⟨w1, hw1⟩ : ∃ w1 : World, w1 = wo.alloc (.cells #[.int .i64 x.1.num, .int .i64 x.1.kd, .int .i64 x.1.fr, .int .i64 x.1.un, .slice x.2.a x.1.rg.length x.2.c] 54) := ⟨_, rfl⟩
      rw [← hw1]
      have hr1 : w1.heap[wo.heap.size]? = some (.cells #[.int .i64 x.1.num, .int .i64 x.1.kd, .int .i64 x.1.fr, .int .i64 x.1.un, .slice x.2.a x.1.rg.length x.2.c] 54 (0, 0)) := by rw [hw1]; exact heap_alloc_new wo _
      have Hb1 : Hid (Below wo.heap.size wo w1) := Lib.hid (by rw [hw1]; exact (by repeat' (first | with_reducible exact Below.refl _ _ | with_reducible refine below_drewN ?_ _ | with_reducible refine Below.drew ?_ | with_reducible refine Below.alloc ?_ ?_ _ | with_reducible refine Below.setCell ?_ ?_ _ | with_reducible refine Below.trans ?_ (Below.mono (by with_reducible assumption) ?_) | (simp; done) | (simp; omega) | omega)))
      have hs1 : wo.heap.size < w1.heap.size := by rw [hw1]; simp
      have Hr1 := Lib.hid hr1
      have HS1 := Lib.hid (HS.out.below Hb1.out)
      have d0 := cell_of_row _ _ 0 _ _ _ hr1
      have d1 := cell_of_row _ _ 1 _ _ _ hr1
      have d2 := cell_of_row _ _ 2 _ _ _ hr1
      have d3 := cell_of_row _ _ 3 _ _ _ hr1
      have d4 := cell_of_row _ _ 4 _ _ _ hr1
      clear hw1 hr1 c0 c1 c2 c3 c4
      go_upto_region 9 with (first
        | (go_at_call 249
           refine (HO.out _ HS1.out).mono ?_
           rintro e w2 ⟨rfl, hb2⟩
           have Hb2 := Lib.hid (Hb1.out.trans (hb2.mono (by omega)))
           have e0 := cell_of_row _ _ 0 _ _ _ ((hb2.block _ hs1).trans Hr1.out)
           have hs2 := hb2.size
           clear hb2 d0 d1 d2 d3 d4)
        | fail)
      have Hb3 := Lib.hid (Hbw.out.trans (Hb2.out.mono hsw))
      rcases Nat.eq_zero_or_pos i with h0 | h0
      · subst h0
        go_quiet (fail)
        go_wp2
        go_roundw
        case rel => exact ⟨1, by omega, by go_num, ⟨Hb3.out.os, Hb3.out.tape, Hb3.out.output, Hb3.out.size, Hb3.out.block⟩⟩
        case measure => simp [intOf]; omega
      · have h0' : (0 : Int) < (i : Int) := by omega
        obtain ⟨b', off', hbe, _, f0, _⟩ := (HA.out.below Hb3.out).at (i - 1) (by omega)
        injection hbe with hbe
        injection hbe with hb1 hb2
        subst hb1 hb2
        have hlt := Hup.out (by omega)
        have hx2 : (l[i - 1 + 1]'(by omega)).1.num = x.1.num := by
          rw [Hx.out]
          congr 2
          congr 1
          omega
        rw [hx2] at hlt
        obtain ⟨m, hm⟩ : ∃ m, m = (l[i - 1]'(by omega)).1.num := ⟨_, rfl⟩
        rw [← hm] at f0 hlt
        obtain ⟨j, hj⟩ : ∃ j : Nat, j = i - 1 := ⟨_, rfl⟩
        rw [← hj] at f0
        have hwr : IntKind.i64.wrap ((i : Int) - 1) = (j : Int) := by rw [IntWalk.i64_in _ (by omega)]; omega
        have hle : ¬ x.1.num ≤ m := by omega
        have hj1 : j < n := by omega
        have hj2 : (j : Int) < (n : Int) := by omega
        have hj0 : (0 : Int) ≤ (j : Int) := by omega
        clear hm hx2 hj
        go_quiet (fail)
        go_wp2
        go_roundw
        case rel => exact ⟨i + 1, by omega, by go_num, ⟨Hb3.out.os, Hb3.out.tape, Hb3.out.output, Hb3.out.size, Hb3.out.block⟩⟩
        case measure => simp [intOf]; omega
    · have hin' : ¬ (i : Int) < (n : Int) := by omega
      go_wp2
      go_ret
      exact ⟨rfl, Hbw.out⟩
end Go.Proofs.YtfmkmhhghmdakaaGreatDoor
namespace Go.Proofs.YtfmkmhhghmdakaaGreatDoor
open Go.RowKit
set_option linter.unusedVariables false
set_option linter.unusedSimpArgs false

/-- The features that are there on a day. -/
def isThere (d : Int) (f : Ft) : Bool := decide (f.fr ≤ d) && decide (d < f.un)
def onP (l : List Ft) (d : Int) : List Ft := l.filter (isThere d)
/-- A rectangle alone is canonical. -/
theorem canon_one (q : R4) (h1 : q.l < q.r) (h2 : q.b < q.t) : canonP [q] = [q] := by
  refine Canon.own (P := fun x y => inL [q] x y) ⟨fun y => if q.b ≤ y ∧ y < q.t then [(q.l, q.r, ())] else [], [(q.b, q.t, [(q.l, q.r, ())])], fun y => ?_, ?_, rfl⟩ (fun p hp => by rw [List.mem_singleton] at hp; subst hp; exact h1)
  · refine ⟨q.l, fun x hx => ?_, ?_⟩
    · simp [inL, R4.has, opt]; omega
    · by_cases hy : q.b ≤ y ∧ y < q.t
      · dsimp only
        rw [if_pos hy]
        refine ⟨Int.le_refl _, h1, fun x ha hb => ?_, fun x ha hb => ?_, ?_, fun x hx => ?_⟩
        · dsimp only at hb; omega
        · dsimp only at ha hb
          simp [inL, R4.has, opt]; omega
        · simp [inL, R4.has, opt]
        · dsimp only at hx
          simp [inL, R4.has, opt]; omega
      · dsimp only
        rw [if_neg hy]
        intro x hx
        simp [inL, R4.has, opt]; omega
  · refine ⟨q.b, fun y hy => ?_, Int.le_refl _, h2, fun y ha hb => ?_, fun y ha hb => ?_, ?_, fun y hy => ?_⟩
    · dsimp only
      rw [if_neg (by omega)]; rfl
    · dsimp only at hb; omega
    · dsimp only at ha hb
      dsimp only
      rw [if_pos ⟨ha, hb⟩]; rfl
    · dsimp only
      rw [if_neg (by omega)]; simp [nz]
    · dsimp only at hy ⊢
      rw [if_neg (by omega)]; rfl
/-- A land of the tape: canonical, few rectangles. -/
theorem one_reg (q : R4) (h : 0 ≤ q.l ∧ q.l < q.r ∧ q.r ≤ 9 ∧ 0 ≤ q.b ∧ q.b < q.t ∧ q.t ≤ 9) : Reg 9 6 [q] :=
  ⟨fun p hp => by rw [List.mem_singleton] at hp; subst hp; exact h, canon_one q h.2.1 h.2.2.2.2.1, by simp⟩
end Go.Proofs.YtfmkmhhghmdakaaGreatDoor
namespace Go.Proofs.YtfmkmhhghmdakaaGreatDoor
open Go.RowKit Go.Shelf
set_option linter.unusedVariables false
set_option linter.unusedSimpArgs false

end Go.Proofs.YtfmkmhhghmdakaaGreatDoor
namespace Go.Proofs.YtfmkmhhghmdakaaGreatDoor
open Go.RowKit Go.Shelf
set_option linter.unusedVariables false
set_option linter.unusedSimpArgs false

theorem ft5 {w : World} {g : Nat} {t : TypeId} {a b c d e x y z u v : Value} (h : w.heap[g]? = some (.cells #[a, b, c, d, e] t (0, 0))) : (((((w.setCell ⟨g, 0, none⟩ x).setCell ⟨g, 1, none⟩ y).setCell ⟨g, 2, none⟩ z).setCell ⟨g, 3, none⟩ u).setCell ⟨g, 4, none⟩ v).heap[g]? = some (.cells #[x, y, z, u, v] t (0, 0)) := by
  have h1 := heap_setCell_same w g 0 _ _ x h
  have h2 := heap_setCell_same _ g 1 _ _ y h1
  have h3 := heap_setCell_same _ g 2 _ _ z h2
  have h4 := heap_setCell_same _ g 3 _ _ u h3
  have h5 := heap_setCell_same _ g 4 _ _ v h4
  rw [h5]
  simp
theorem ft5_only {w : World} {g : Nat} {x y z u v : Value} : w.grownBy (((((w.setCell ⟨g, 0, none⟩ x).setCell ⟨g, 1, none⟩ y).setCell ⟨g, 2, none⟩ z).setCell ⟨g, 3, none⟩ u).setCell ⟨g, 4, none⟩ v) (some g) :=
  only_setCell (only_setCell (only_setCell (only_setCell (only_setCell (World.grownBy.refl _ (some g)) (.inl rfl) _) (.inl rfl) _) (.inl rfl) _) (.inl rfl) _) (.inl rfl) _
theorem SlR.ofR {w : World} {base c : Nat} {A : Option Addr} {l : List R4} (h : w.ownsRow base 68 4 (.slice A l.length c) l.length (rCells l)) : SlR w A l.length c l := by
  obtain ⟨A2, c2, e, h4⟩ := SlR.of_own h
  injection e with e1 e2 e3
  rw [e1, e3]
  exact h4
end Go.Proofs.YtfmkmhhghmdakaaGreatDoor
namespace Go.Proofs.YtfmkmhhghmdakaaGreatDoor
open Go.RowKit Go.Shelf
set_option linter.unusedVariables false
set_option linter.unusedSimpArgs false

theorem ftCells_cons5 (y : Ft × LV) (s : FtL) : ftCells (y :: s) = .int .i64 y.1.num :: .int .i64 y.1.kd :: .int .i64 y.1.fr :: .int .i64 y.1.un :: .slice y.2.a y.1.rg.length y.2.c :: ftCells s := by simp [ftCells, ftC]
theorem ftCells_take : ∀ (l : FtL) (k : Nat), ftCells (l.take k) = (ftCells l).take (k * 5)
  | [], k => by simp [ftCells]
  | x :: t, 0 => by simp [ftCells]
  | x :: t, k + 1 => by
    rw [List.take_succ_cons, ftCells_cons5, ftCells_cons5, ftCells_take t k, show (k + 1) * 5 = k * 5 + 1 + 1 + 1 + 1 + 1 from by omega]
    rfl
end Go.Proofs.YtfmkmhhghmdakaaGreatDoor
