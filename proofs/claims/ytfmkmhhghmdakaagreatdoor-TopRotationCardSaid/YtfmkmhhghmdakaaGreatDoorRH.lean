import Derived.Test.YtfmkmhhghmdakaaGreatDoorRE
import Derived.Test.YtfmkmhhghmdakaaGreatDoorRF
import Derived.Test.YtfmkmhhghmdakaaGreatDoorRG
namespace Go.Proofs.YtfmkmhhghmdakaaGreatDoor
open Go.RowKit
set_option linter.unusedVariables false
set_option linter.unusedSimpArgs false
set_option maxHeartbeats 64000000
set_option maxRecDepth 100000
theorem SlR.lit (w : World) (t : TypeId) (cs : Array Value) (l : List R4) (n B : Nat) (hB : B = w.heap.size) (hn : l.length = n) (hn1 : n ≤ 1000) (hc : rCells l = cs.toList) : SlR (w.alloc (.cells cs t)) (some ⟨B, 0, none⟩) n n l :=
  ⟨hn, Nat.le_refl _, by unfold maxLen; omega, Lies.new w t cs n _ hc B hB⟩
structure Bx where
  g : Nat
  A : Option Addr
  n : Nat
  c : Nat
  l : List R4
structure RB (W : World) (x : Bx) : Prop where
  b : W.heap[x.g]? = some (.cells #[.slice x.A x.n x.c] 33 (0, 0))
  sl : SlR W x.A x.n x.c x.l
theorem RB.lt {W : World} {x : Bx} (h : RB W x) : x.g < W.heap.size := by
  rcases Nat.lt_or_ge x.g W.heap.size with h1 | h1
  · exact h1
  · have := h.b; rw [Array.getElem?_eq_none h1] at this; cases this
theorem RB.below {W W' : World} {x : Bx} (h : RB W x) (hb : Below W.heap.size W W') : RB W' x := ⟨(hb.block _ h.lt).trans h.b, h.sl.below hb⟩
theorem RB.c0 {W : World} {x : Bx} (h : RB W x) : W.cell? ⟨x.g, 0, none⟩ = some (.slice x.A x.n x.c) := cell_of_row _ _ 0 _ _ _ h.b
def RBs (W : World) (L : List Bx) : Prop := ∀ x ∈ L, RB W x
theorem RBs.below {W W' : World} {L : List Bx} (h : RBs W L) (hb : Below W.heap.size W W') : RBs W' L := fun x hx => (h x hx).below hb
theorem RBs.push {W : World} {L : List Bx} (h : RBs W L) (D : Option Addr) (n c : Nat) (l : List R4) (hs : SlR W D n c l) : RBs (W.alloc (.cells #[.slice D n c] 33)) (⟨W.heap.size, D, n, c, l⟩ :: L) := by
  intro x hx
  rcases List.mem_cons.1 hx with rfl | hx
  · exact ⟨heap_alloc_new W _, hs.below gBel⟩
  · exact (h x hx).below gBel
end Go.Proofs.YtfmkmhhghmdakaaGreatDoor
namespace Go.Proofs.YtfmkmhhghmdakaaGreatDoor
set_option maxHeartbeats 64000000
set_option maxRecDepth 100000
open Go.RowKit
set_option linter.unusedVariables false
set_option linter.unusedSimpArgs false
theorem own_keepY {w w' : World} {base : Nat} {e : TypeId} {size n : Nat} {v : Value} {xs : List Value} (h : w.ownsRow base e size v n xs) (hk : ∀ b, b < w.heap.size → base ≤ b → w'.heap[b]? = w.heap[b]?) : w'.ownsRow base e size v n xs := by
  obtain ⟨h1, h2⟩ := h
  refine ⟨h1, ?_⟩
  rcases h2 with h2 | ⟨g', cap, cur, rfl, hb, hh, r⟩
  · exact .inl h2
  · have hlt : g' < w.heap.size := by
      rcases Nat.lt_or_ge g' w.heap.size with h | h
      · exact h
      · rw [Array.getElem?_eq_none h] at hh; cases hh
    exact .inr ⟨g', cap, cur, rfl, hb, (hk g' hlt hb).trans hh, r⟩
theorem own_ltY {w : World} {base : Nat} {e : TypeId} {size n : Nat} {v : Value} {xs : List Value} (h : w.ownsRow base e size v n xs) : ∀ g, v.ownBlock = some g → g < w.heap.size := by
  intro g hg
  rcases h.2 with ⟨rfl, _⟩ | ⟨g', cap, cur, rfl, _, hh, _⟩
  · simp [Value.ownBlock] at hg
  · have e : g' = g := by simpa [Value.ownBlock] using hg
    subst e
    rcases Nat.lt_or_ge g' w.heap.size with h | h
    · exact h
    · rw [Array.getElem?_eq_none h] at hh; cases hh
theorem own_grownY {w w' : World} {base : Nat} {e : TypeId} {size n : Nat} {v : Value} {xs : List Value} {row : Option Nat} (h : w.ownsRow base e size v n xs) (hg : w.grownBy w' row) (hr : ∀ g, v.ownBlock = some g → row ≠ some g) : w'.ownsRow base e size v n xs := by
  obtain ⟨h1, h2⟩ := h
  refine ⟨h1, ?_⟩
  rcases h2 with h2 | ⟨g', cap, cur, rfl, hb, hh, r⟩
  · exact .inl h2
  · have hlt : g' < w.heap.size := by
      rcases Nat.lt_or_ge g' w.heap.size with h | h
      · exact h
      · rw [Array.getElem?_eq_none h] at hh; cases hh
    exact .inr ⟨g', cap, cur, rfl, hb, (hg.block g' hlt (fun e => hr g' (by simp [Value.ownBlock]) e.symm)).trans hh, r⟩
theorem own_lit (w : World) (e : TypeId) (size n : Nat) (cs : Array Value) (xs : List Value) (hx : cs.toList = xs) (hl : xs.length = n * size) (hn : n ≤ maxLen) : (w.alloc (.cells cs e)).ownsRow w.heap.size e size (.slice (some ⟨w.heap.size, 0, none⟩) n n) n xs :=
  ⟨hl, .inr ⟨w.heap.size, n, cs, rfl, Nat.le_refl _, heap_alloc_new w _, Nat.le_refl _, hn, by rw [← Array.length_toList, hx, hl], by rw [hx]; exact List.take_of_length_le (by omega)⟩⟩
structure LV where
  a : Option Addr
  c : Nat
abbrev LL := List (Ln × LV)
abbrev RL := List (List R4 × LV)
def lnC (x : Ln × LV) : List Value := [.int .i64 x.1.pc, .slice x.2.a x.1.rg.length x.2.c, .int .i64 x.1.cr, .int .i64 x.1.sch]
def lnCells (l : LL) : List Value := l.flatMap lnC
theorem lnCells_snoc (l : LL) (x : Ln × LV) : lnCells (l ++ [x]) = lnCells l ++ [.int .i64 x.1.pc, .slice x.2.a x.1.rg.length x.2.c, .int .i64 x.1.cr, .int .i64 x.1.sch] := by simp [lnCells, lnC]
theorem lnCells_at (l : LL) (i : Nat) (h : i < l.length) : (lnCells l)[i * 4]? = some (.int .i64 l[i].1.pc) ∧ (lnCells l)[i * 4 + 1]? = some (.slice l[i].2.a l[i].1.rg.length l[i].2.c) ∧ (lnCells l)[i * 4 + 2]? = some (.int .i64 l[i].1.cr) ∧ (lnCells l)[i * 4 + 3]? = some (.int .i64 l[i].1.sch) := by
  induction l generalizing i with
  | nil => simp at h
  | cons o r ih =>
    have hc : lnCells (o :: r) = lnC o ++ lnCells r := by simp [lnCells]
    have hl : (lnC o).length = 4 := rfl
    rw [hc]
    rcases i with _ | i
    · simp [lnC]
    · have := ih i (by simpa using h)
      refine ⟨?_, ?_, ?_, ?_⟩ <;> (rw [List.getElem?_append_right (by rw [hl]; omega), hl])
      · rw [show (i + 1) * 4 - 4 = i * 4 from by omega]; exact this.1
      · rw [show (i + 1) * 4 + 1 - 4 = i * 4 + 1 from by omega]; exact this.2.1
      · rw [show (i + 1) * 4 + 2 - 4 = i * 4 + 2 from by omega]; exact this.2.2.1
      · rw [show (i + 1) * 4 + 3 - 4 = i * 4 + 3 from by omega]; exact this.2.2.2
def rgC (x : List R4 × LV) : Value := .slice x.2.a x.1.length x.2.c
def rgCells (l : RL) : List Value := l.map rgC
structure SlL (w : World) (A : Option Addr) (n c : Nat) (l : LL) : Prop where
  len : l.length = n
  cap : n ≤ c
  top : c ≤ maxLen
  lies : Lies w A n (lnCells l)
  fits : ∀ x ∈ l, SlR w x.2.a x.1.rg.length x.2.c x.1.rg
theorem SlL.below {w w' : World} {A : Option Addr} {n c : Nat} {l : LL} (h : SlL w A n c l) (hb : Below w.heap.size w w') : SlL w' A n c l := ⟨h.len, h.cap, h.top, h.lies.below hb, fun x hx => (h.fits x hx).below hb⟩
theorem SlL.at {w : World} {A : Option Addr} {n c : Nat} {l : LL} (h : SlL w A n c l) (i : Nat) (hi : i < l.length) :
    ∃ b off, A = some ⟨b, off, none⟩ ∧ b < w.heap.size ∧ w.cell? ⟨b, off + i * 4, none⟩ = some (.int .i64 l[i].1.pc) ∧ w.cell? ⟨b, off + i * 4 + 1, none⟩ = some (.slice l[i].2.a l[i].1.rg.length l[i].2.c) ∧ w.cell? ⟨b, off + i * 4 + 2, none⟩ = some (.int .i64 l[i].1.cr) ∧ w.cell? ⟨b, off + i * 4 + 3, none⟩ = some (.int .i64 l[i].1.sch) ∧ SlR w l[i].2.a l[i].1.rg.length l[i].2.c l[i].1.rg := by
  obtain ⟨b, off, e, hb, hc⟩ := h.lies.resolve_left (by have := h.len; omega)
  obtain ⟨h0, h1, h2, h3⟩ := lnCells_at l i hi
  exact ⟨b, off, e, hb, hc _ _ h0, hc _ _ h1, hc _ _ h2, hc _ _ h3, h.fits _ (List.getElem_mem hi)⟩
structure SlG (w : World) (A : Option Addr) (n c : Nat) (l : RL) : Prop where
  len : l.length = n
  cap : n ≤ c
  top : c ≤ maxLen
  lies : Lies w A n (rgCells l)
  fits : ∀ x ∈ l, SlR w x.2.a x.1.length x.2.c x.1
theorem SlG.at {w : World} {A : Option Addr} {n c : Nat} {l : RL} (h : SlG w A n c l) (i : Nat) (hi : i < l.length) :
    ∃ b off, A = some ⟨b, off, none⟩ ∧ b < w.heap.size ∧ w.cell? ⟨b, off + i, none⟩ = some (.slice l[i].2.a l[i].1.length l[i].2.c) ∧ SlR w l[i].2.a l[i].1.length l[i].2.c l[i].1 := by
  obtain ⟨b, off, e, hb, hc⟩ := h.lies.resolve_left (by have := h.len; omega)
  refine ⟨b, off, e, hb, hc i _ ?_, h.fits _ (List.getElem_mem hi)⟩
  simp [rgCells, rgC, hi]
def lns (l : LL) : List Ln := l.map (·.1)
def rgs (l : RL) : List (List R4) := l.map (·.1)
theorem lns_len (l : LL) : (lns l).length = l.length := by simp [lns]
theorem rgs_len (l : RL) : (rgs l).length = l.length := by simp [rgs]
theorem Tryz.infoLine : (Tryz.prog.info? 35).map (fun i => (i.zero, i.size, i.bytes)) = some (some (.agg #[.int .i64 0, .slice none 0 0, .int .i64 0, .int .i64 0]), 4, 48) := by kernel_rfl
theorem Tryz.infoRegion : (Tryz.prog.info? 33).map (fun i => (i.zero, i.size, i.bytes)) = some (some (.agg #[.slice none 0 0]), 1, 24) := by kernel_rfl
structure LsOwn (w : World) (base : Nat) (v : Value) (l : LL) : Prop where
  o : w.ownsRow base 35 4 v l.length (lnCells l)
  fs : ∀ x ∈ l, w.ownsRow base 68 4 (.slice x.2.a x.1.rg.length x.2.c) x.1.rg.length (rCells x.1.rg)
  ap : ∀ x ∈ l, ∀ g, v.ownBlock = some g → (Value.slice x.2.a x.1.rg.length x.2.c).ownBlock ≠ some g
section
variable {w w' : World} {base : Nat} {v : Value} {l : LL}
theorem LsOwn.nil (w : World) (base : Nat) : LsOwn w base (.slice none 0 0) [] := ⟨World.ownsRow_nil _ _ _ _, fun _ h => by simp at h, fun _ h => by simp at h⟩
theorem LsOwn.keep (h : LsOwn w base v l) (hk : ∀ b, b < w.heap.size → base ≤ b → w'.heap[b]? = w.heap[b]?) : LsOwn w' base v l := ⟨own_keepY h.o hk, fun x hx => own_keepY (h.fs x hx) hk, h.ap⟩
theorem LsOwn.below (h : LsOwn w base v l) (hb : Below w.heap.size w w') : LsOwn w' base v l := h.keep fun b hlt _ => hb.block b hlt
theorem LsOwn.only {g : Nat} (h : LsOwn w base v l) (hg : w.grownBy w' (some g)) (hlt : g < base) : LsOwn w' base v l := h.keep fun b hb hB => hg.block b hb (fun e => by injection e; omega)
theorem LsOwn.rebase {base' : Nat} (h : LsOwn w base v l) (hb : base' ≤ base) : LsOwn w base' v l := ⟨own_rebase h.o hb, fun x hx => own_rebase (h.fs x hx) hb, h.ap⟩
theorem LsOwn.sll {A : Option Addr} {c : Nat} (h : LsOwn w base (.slice A l.length c) l) : SlL w A l.length c l := by
  obtain ⟨A', c', e, h1, h2, h3⟩ := own_slice h.o
  injection e with e1 e2 e3
  subst e1 e3
  refine ⟨rfl, h2, h3, h1, fun x hx => ?_⟩
  obtain ⟨A2, c2, e, h4⟩ := SlR.of_own (h.fs x hx)
  injection e with e1 e2 e3
  rw [e1, e3]
  exact h4
theorem LsOwn.apart {row : Option Nat} (h : LsOwn w base v l) (hg : w.grownBy w' row) (hv : ∀ g, v.ownBlock = some g → row ≠ some g) (hf : ∀ x ∈ l, ∀ g, (Value.slice x.2.a x.1.rg.length x.2.c).ownBlock = some g → row ≠ some g) : LsOwn w' base v l :=
  ⟨own_grownY h.o hg hv, fun x hx => own_grownY (h.fs x hx) hg (hf x hx), h.ap⟩
theorem LsOwn.push {wa w5 : World} (h : LsOwn w base v l) (x : Ln × LV) (hx : w.ownsRow base 68 4 (.slice x.2.a x.1.rg.length x.2.c) x.1.rg.length (rCells x.1.rg)) (hxa : ∀ g, v.ownBlock = some g → (Value.slice x.2.a x.1.rg.length x.2.c).ownBlock ≠ some g) {v5 : Value}
    (ha : Below w.heap.size w wa) (hg : wa.grownBy w5 v.ownBlock) (hown : w5.ownsRow base 35 4 v5 (l.length + 1) (lnCells l ++ [.int .i64 x.1.pc, .slice x.2.a x.1.rg.length x.2.c, .int .i64 x.1.cr, .int .i64 x.1.sch])) (hat : v5.ownBlock = v.ownBlock ∨ v5.ownBlock = some wa.heap.size) : LsOwn w5 base v5 (l ++ [x]) := by
  have hall : ∀ y ∈ l ++ [x], w.ownsRow base 68 4 (.slice y.2.a y.1.rg.length y.2.c) y.1.rg.length (rCells y.1.rg) ∧ ∀ g, v.ownBlock = some g → (Value.slice y.2.a y.1.rg.length y.2.c).ownBlock ≠ some g := by
    intro y hy
    rcases List.mem_append.1 hy with h1 | h1
    · exact ⟨h.fs y h1, h.ap y h1⟩
    · rw [List.mem_singleton] at h1
      subst h1
      exact ⟨hx, hxa⟩
  refine ⟨by rw [List.length_append, lnCells_snoc]; exact hown, fun y hy => own_grownY (ownsRow_below (hall y hy).1 ha) hg (fun g hg2 e => (hall y hy).2 g e hg2), fun y hy g hg2 e => ?_⟩
  rcases hat with h0 | h0
  · exact (hall y hy).2 g (by rw [← h0]; exact hg2) e
  · rw [h0] at hg2
    injection hg2 with hg2
    have := own_ltY (hall y hy).1 g e
    have := ha.size
    omega
end
structure RsOwn (w : World) (base : Nat) (v : Value) (l : RL) : Prop where
  o : w.ownsRow base 33 1 v l.length (rgCells l)
  fs : ∀ x ∈ l, w.ownsRow base 68 4 (.slice x.2.a x.1.length x.2.c) x.1.length (rCells x.1)
  ap : ∀ x ∈ l, ∀ g, v.ownBlock = some g → (Value.slice x.2.a x.1.length x.2.c).ownBlock ≠ some g
section
variable {w w' : World} {base : Nat} {v : Value} {l : RL}
theorem RsOwn.nil (w : World) (base : Nat) : RsOwn w base (.slice none 0 0) [] := ⟨World.ownsRow_nil _ _ _ _, fun _ h => by simp at h, fun _ h => by simp at h⟩
theorem RsOwn.keep (h : RsOwn w base v l) (hk : ∀ b, b < w.heap.size → base ≤ b → w'.heap[b]? = w.heap[b]?) : RsOwn w' base v l := ⟨own_keepY h.o hk, fun x hx => own_keepY (h.fs x hx) hk, h.ap⟩
theorem RsOwn.below (h : RsOwn w base v l) (hb : Below w.heap.size w w') : RsOwn w' base v l := h.keep fun b hlt _ => hb.block b hlt
theorem RsOwn.only {g : Nat} (h : RsOwn w base v l) (hg : w.grownBy w' (some g)) (hlt : g < base) : RsOwn w' base v l := h.keep fun b hb hB => hg.block b hb (fun e => by injection e; omega)
theorem RsOwn.slg {A : Option Addr} {c : Nat} (h : RsOwn w base (.slice A l.length c) l) : SlG w A l.length c l := by
  obtain ⟨A', c', e, h1, h2, h3⟩ := own_slice h.o
  injection e with e1 e2 e3
  subst e1 e3
  refine ⟨rfl, h2, h3, h1, fun x hx => ?_⟩
  obtain ⟨A2, c2, e, h4⟩ := SlR.of_own (h.fs x hx)
  injection e with e1 e2 e3
  rw [e1, e3]
  exact h4
theorem RsOwn.apart {row : Option Nat} (h : RsOwn w base v l) (hg : w.grownBy w' row) (hv : ∀ g, v.ownBlock = some g → row ≠ some g) (hf : ∀ x ∈ l, ∀ g, (rgC x).ownBlock = some g → row ≠ some g) : RsOwn w' base v l :=
  ⟨own_grownY h.o hg hv, fun x hx => own_grownY (h.fs x hx) hg (hf x hx), h.ap⟩
theorem RsOwn.push {wa w5 : World} (h : RsOwn w base v l) (x : List R4 × LV) (hx : wa.ownsRow base 68 4 (.slice x.2.a x.1.length x.2.c) x.1.length (rCells x.1)) (hxa : ∀ g, v.ownBlock = some g → (Value.slice x.2.a x.1.length x.2.c).ownBlock ≠ some g) {v5 : Value}
    (ha : Below w.heap.size w wa) (hg : wa.grownBy w5 v.ownBlock) (hown : w5.ownsRow base 33 1 v5 (l.length + 1) (rgCells l ++ [.slice x.2.a x.1.length x.2.c])) (hat : v5.ownBlock = v.ownBlock ∨ v5.ownBlock = some wa.heap.size) : RsOwn w5 base v5 (l ++ [x]) := by
  have hall : ∀ y ∈ l ++ [x], wa.ownsRow base 68 4 (.slice y.2.a y.1.length y.2.c) y.1.length (rCells y.1) ∧ ∀ g, v.ownBlock = some g → (Value.slice y.2.a y.1.length y.2.c).ownBlock ≠ some g := by
    intro y hy
    rcases List.mem_append.1 hy with h1 | h1
    · exact ⟨ownsRow_below (h.fs y h1) ha, h.ap y h1⟩
    · rw [List.mem_singleton] at h1
      subst h1
      exact ⟨hx, hxa⟩
  refine ⟨?_, fun y hy => own_grownY (hall y hy).1 hg (fun g hg2 e => (hall y hy).2 g e hg2), fun y hy g hg2 e => ?_⟩
  · rw [List.length_append, show rgCells (l ++ [x]) = rgCells l ++ [.slice x.2.a x.1.length x.2.c] from by simp [rgCells, rgC]]
    exact hown
  rcases hat with h0 | h0
  · exact (hall y hy).2 g (by rw [← h0]; exact hg2) e
  · rw [h0] at hg2
    injection hg2 with hg2
    have := own_ltY (hall y hy).1 g e
    omega
end
end Go.Proofs.YtfmkmhhghmdakaaGreatDoor
