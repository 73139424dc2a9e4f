/- Contracts of the reference (layer 4): combine, Union, Both, Without, Within, Meets (printed by genV3.py). -/
import Derived.Test.YtfmkmhhghmdakaaGreatDoorQT
import Derived.Test.YtfmkmhhghmdakaaGreatDoorQB
import Derived.Test.YtfmkmhhghmdakaaGreatDoorQC
namespace Go.Proofs.YtfmkmhhghmdakaaGreatDoor
set_option linter.unusedVariables false
set_option linter.unusedSimpArgs false

/-- A line: its parcel, its squares, its crop, its schemes. -/
structure Ln where
  pc : Int
  rg : List R4
  cr : Int
  sch : Int
end Go.Proofs.YtfmkmhhghmdakaaGreatDoor
namespace Go.Proofs.YtfmkmhhghmdakaaGreatDoor
open Go.RowKit
set_option linter.unusedVariables false
set_option linter.unusedSimpArgs false

/-- A region in a block. -/
structure Bx where
  g : Nat
  A : Option Addr
  n : Nat
  c : Nat
  l : List R4
structure RB (W : World) (x : Bx) : Prop where
  b : W.heap[x.g]? = some (.cells #[.slice x.A x.n x.c] 33 (0, 0))
  sl : SlR W x.A x.n x.c x.l
theorem RB.lt {W : World} {x : Bx} (h : RB W x) : x.g < W.heap.size := by
  rcases Nat.lt_or_ge x.g W.heap.size with h1 | h1
  · exact h1
  · have := h.b; rw [Array.getElem?_eq_none h1] at this; cases this
theorem RB.below {W W' : World} {x : Bx} (h : RB W x) (hb : Below W.heap.size W W') : RB W' x := ⟨(hb.block _ h.lt).trans h.b, h.sl.below hb⟩
theorem RB.c0 {W : World} {x : Bx} (h : RB W x) : W.cell? ⟨x.g, 0, none⟩ = some (.slice x.A x.n x.c) := cell_of_row _ _ 0 _ _ _ h.b
/-- Regions in blocks. -/
def RBs (W : World) (L : List Bx) : Prop := ∀ x ∈ L, RB W x
theorem RBs.below {W W' : World} {L : List Bx} (h : RBs W L) (hb : Below W.heap.size W W') : RBs W' L := fun x hx => (h x hx).below hb
/-- One more, in a new block. -/
theorem RBs.push {W : World} {L : List Bx} (h : RBs W L) (D : Option Addr) (n c : Nat) (l : List R4) (hs : SlR W D n c l) : RBs (W.alloc (.cells #[.slice D n c] 33)) (⟨W.heap.size, D, n, c, l⟩ :: L) := by
  intro x hx
  rcases List.mem_cons.1 hx with rfl | hx
  · exact ⟨heap_alloc_new W _, hs.below (by repeat' (first | with_reducible exact Below.refl _ _ | with_reducible refine below_drewN ?_ _ | with_reducible refine Below.drew ?_ | with_reducible refine Below.alloc ?_ ?_ _ | with_reducible refine Below.setCell ?_ ?_ _ | with_reducible refine Below.trans ?_ (Below.mono (by with_reducible assumption) ?_) | (simp; done) | (simp; omega) | omega))⟩
  · exact (h x hx).below (by repeat' (first | with_reducible exact Below.refl _ _ | with_reducible refine below_drewN ?_ _ | with_reducible refine Below.drew ?_ | with_reducible refine Below.alloc ?_ ?_ _ | with_reducible refine Below.setCell ?_ ?_ _ | with_reducible refine Below.trans ?_ (Below.mono (by with_reducible assumption) ?_) | (simp; done) | (simp; omega) | omega))

end Go.Proofs.YtfmkmhhghmdakaaGreatDoor
namespace Go.Proofs.YtfmkmhhghmdakaaGreatDoor
open Go.RowKit
set_option linter.unusedVariables false
set_option linter.unusedSimpArgs false

theorem own_keepY {w w' : World} {base : Nat} {e : TypeId} {size n : Nat} {v : Value} {xs : List Value} (h : w.ownsRow base e size v n xs) (hk : ∀ b, b < w.heap.size → base ≤ b → w'.heap[b]? = w.heap[b]?) : w'.ownsRow base e size v n xs := by
  obtain ⟨h1, h2⟩ := h
  refine ⟨h1, ?_⟩
  rcases h2 with h2 | ⟨g', cap, cur, rfl, hb, hh, r⟩
  · exact .inl h2
  · have hlt : g' < w.heap.size := by
      rcases Nat.lt_or_ge g' w.heap.size with h | h
      · exact h
      · rw [Array.getElem?_eq_none h] at hh; cases hh
    exact .inr ⟨g', cap, cur, rfl, hb, (hk g' hlt hb).trans hh, r⟩
theorem own_ltY {w : World} {base : Nat} {e : TypeId} {size n : Nat} {v : Value} {xs : List Value} (h : w.ownsRow base e size v n xs) : ∀ g, v.ownBlock = some g → g < w.heap.size := by
  intro g hg
  rcases h.2 with ⟨rfl, _⟩ | ⟨g', cap, cur, rfl, _, hh, _⟩
  · simp [Value.ownBlock] at hg
  · have e : g' = g := by simpa [Value.ownBlock] using hg
    subst e
    rcases Nat.lt_or_ge g' w.heap.size with h | h
    · exact h
    · rw [Array.getElem?_eq_none h] at hh; cases hh
theorem own_grownY {w w' : World} {base : Nat} {e : TypeId} {size n : Nat} {v : Value} {xs : List Value} {row : Option Nat} (h : w.ownsRow base e size v n xs) (hg : w.grownBy w' row) (hr : ∀ g, v.ownBlock = some g → row ≠ some g) : w'.ownsRow base e size v n xs := by
  obtain ⟨h1, h2⟩ := h
  refine ⟨h1, ?_⟩
  rcases h2 with h2 | ⟨g', cap, cur, rfl, hb, hh, r⟩
  · exact .inl h2
  · have hlt : g' < w.heap.size := by
      rcases Nat.lt_or_ge g' w.heap.size with h | h
      · exact h
      · rw [Array.getElem?_eq_none h] at hh; cases hh
    exact .inr ⟨g', cap, cur, rfl, hb, (hg.block g' hlt (fun e => hr g' (by simp [Value.ownBlock]) e.symm)).trans hh, r⟩
theorem own_lit (w : World) (e : TypeId) (size n : Nat) (cs : Array Value) (xs : List Value) (hx : cs.toList = xs) (hl : xs.length = n * size) (hn : n ≤ maxLen) : (w.alloc (.cells cs e)).ownsRow w.heap.size e size (.slice (some ⟨w.heap.size, 0, none⟩) n n) n xs :=
  ⟨hl, .inr ⟨w.heap.size, n, cs, rfl, Nat.le_refl _, heap_alloc_new w _, Nat.le_refl _, hn, by rw [← Array.length_toList, hx, hl], by rw [hx]; exact List.take_of_length_le (by omega)⟩⟩

/-- Where rectangles lie. -/
structure LV where
  a : Option Addr
  c : Nat
abbrev LL := List (Ln × LV)
abbrev RL := List (List R4 × LV)
section
variable {w w' : World} {base : Nat} {v : Value} {l : LL}
end
section
variable {w w' : World} {base : Nat} {v : Value} {l : RL}
end
end Go.Proofs.YtfmkmhhghmdakaaGreatDoor
namespace Go.Proofs.YtfmkmhhghmdakaaGreatDoor
open Go.RowKit Go.Shelf Go.Lib Go.Sort
set_option linter.unusedVariables false
set_option linter.unusedSimpArgs false

theorem RBs.two (w : World) (A B : Option Addr) (n c m d : Nat) (a b : List R4) (hA : SlR w A n c a) (hB : SlR w B m d b) : RBs ((w.alloc (.cells #[.slice A n c] 33)).alloc (.cells #[.slice B m d] 33)) [⟨w.heap.size + 1, B, m, d, b⟩, ⟨w.heap.size, A, n, c, a⟩] := by
  have h0 : RBs w [] := fun x hx => by cases hx
  have h1 := h0.push A n c a hA
  have h2 := h1.push B m d b (hB.below (by repeat' (first | with_reducible exact Below.refl _ _ | with_reducible refine below_drewN ?_ _ | with_reducible refine Below.drew ?_ | with_reducible refine Below.alloc ?_ ?_ _ | with_reducible refine Below.setCell ?_ ?_ _ | with_reducible refine Below.trans ?_ (Below.mono (by with_reducible assumption) ?_) | (simp; done) | (simp; omega) | omega)))
  simpa using h2

set_option maxHeartbeats 2000000 in
set_option maxRecDepth 100000 in
theorem overlap_any (p q : R4) (w : World) :
    Calls Tryz.prog 92 #[.agg #[.int .i64 p.l, .int .i64 p.b, .int .i64 p.r, .int .i64 p.t], .agg #[.int .i64 q.l, .int .i64 q.b, .int .i64 q.r, .int .i64 q.t]] w fun e w' => e = .returned (.bool (overP p q)) ∧ Below w.heap.size w w' := by
  have Hh : Hid (overP p q = (decide (p.l < q.r) && decide (q.l < p.r) && decide (p.b < q.t) && decide (q.b < p.t))) := Lib.hid rfl
  generalize overP p q = res at *
  by_cases h1 : p.l < q.r
  · by_cases h2 : q.l < p.r
    · by_cases h3 : p.b < q.t
      · by_cases h4 : q.b < p.t
        · have hR : res = true := by rw [Hh.out]; simp [h1, h2, h3, h4]
          subst hR
          go_enter Tryz.func92, Tryz.ntmps92
          go_wp2
          go_ret
          exact ⟨rfl, (by repeat' (first | with_reducible exact Below.refl _ _ | with_reducible refine below_drewN ?_ _ | with_reducible refine Below.drew ?_ | with_reducible refine Below.alloc ?_ ?_ _ | with_reducible refine Below.setCell ?_ ?_ _ | with_reducible refine Below.trans ?_ (Below.mono (by with_reducible assumption) ?_) | (simp; done) | (simp; omega) | omega))⟩
        · have hR : res = false := by rw [Hh.out]; simp [h4]
          subst hR
          go_enter Tryz.func92, Tryz.ntmps92
          go_wp2
          go_ret
          exact ⟨rfl, (by repeat' (first | with_reducible exact Below.refl _ _ | with_reducible refine below_drewN ?_ _ | with_reducible refine Below.drew ?_ | with_reducible refine Below.alloc ?_ ?_ _ | with_reducible refine Below.setCell ?_ ?_ _ | with_reducible refine Below.trans ?_ (Below.mono (by with_reducible assumption) ?_) | (simp; done) | (simp; omega) | omega))⟩
      · have hR : res = false := by rw [Hh.out]; simp [h3]
        subst hR
        go_enter Tryz.func92, Tryz.ntmps92
        go_wp2
        go_ret
        exact ⟨rfl, (by repeat' (first | with_reducible exact Below.refl _ _ | with_reducible refine below_drewN ?_ _ | with_reducible refine Below.drew ?_ | with_reducible refine Below.alloc ?_ ?_ _ | with_reducible refine Below.setCell ?_ ?_ _ | with_reducible refine Below.trans ?_ (Below.mono (by with_reducible assumption) ?_) | (simp; done) | (simp; omega) | omega))⟩
    · have hR : res = false := by rw [Hh.out]; simp [h2]
      subst hR
      go_enter Tryz.func92, Tryz.ntmps92
      go_wp2
      go_ret
      exact ⟨rfl, (by repeat' (first | with_reducible exact Below.refl _ _ | with_reducible refine below_drewN ?_ _ | with_reducible refine Below.drew ?_ | with_reducible refine Below.alloc ?_ ?_ _ | with_reducible refine Below.setCell ?_ ?_ _ | with_reducible refine Below.trans ?_ (Below.mono (by with_reducible assumption) ?_) | (simp; done) | (simp; omega) | omega))⟩
  · have hR : res = false := by rw [Hh.out]; simp [h1]
    subst hR
    go_enter Tryz.func92, Tryz.ntmps92
    go_wp2
    go_ret
    exact ⟨rfl, (by repeat' (first | with_reducible exact Below.refl _ _ | with_reducible refine below_drewN ?_ _ | with_reducible refine Below.drew ?_ | with_reducible refine Below.alloc ?_ ?_ _ | with_reducible refine Below.setCell ?_ ?_ _ | with_reducible refine Below.trans ?_ (Below.mono (by with_reducible assumption) ?_) | (simp; done) | (simp; omega) | omega))⟩

set_option maxHeartbeats 2000000 in
set_option maxRecDepth 100000 in
theorem overlapPred (gr : Nat) (p : R4) (w : World) (hr : w.heap[gr]? = some (.cells #[.int .i64 p.l, .int .i64 p.b, .int .i64 p.r, .int .i64 p.t] 68 (0, 0))) (hgr : gr < w.heap.size) :
    PredBelow Tryz.prog 91 #[.pointer (some ⟨gr, 0, none⟩)] (fun q : R4 => .agg (R4.cells q).toArray) (fun q => overP p q) w := by
  intro W q hb
  refine Calls.mono (show Calls Tryz.prog 91 #[.agg #[.int .i64 q.l, .int .i64 q.b, .int .i64 q.r, .int .i64 q.t], .pointer (some ⟨gr, 0, none⟩)] W fun e w' => e = .returned (.bool (overP p q)) ∧ Below W.heap.size W w' from ?_) ?_
  · have hrw := (hb.block gr hgr).trans hr
    have q0 := cell_of_row W gr 0 _ _ _ hrw
    have q1 := cell_of_row W gr 1 _ _ _ hrw
    have q2 := cell_of_row W gr 2 _ _ _ hrw
    have q3 := cell_of_row W gr 3 _ _ _ hrw
    have hgr' : gr < W.heap.size := Nat.lt_of_lt_of_le hgr hb.size
    have Ho := Lib.hid (overlap_any p q)
    generalize overP p q = res at *
    clear hr hb hgr hrw
    go_enter Tryz.func91, Tryz.ntmps91
    go_wp2_with (first
      | (go_at_call 92
         refine (Ho.out _).mono ?_
         rintro e w1 ⟨rfl, hb1⟩)
      | fail)
    go_ret
    exact ⟨rfl, (by repeat' (first | with_reducible exact Below.refl _ _ | with_reducible assumption | with_reducible refine below_drewN ?_ _ | with_reducible refine Below.drew ?_ | with_reducible refine Below.alloc ?_ ?_ _ | with_reducible refine Below.setCell ?_ ?_ _ | with_reducible refine Below.trans ?_ (Below.mono (by with_reducible assumption) ?_) | with_reducible refine below_only ?_ (by with_reducible assumption) ?_ ?_ | (simp; done) | (simp; omega) | omega))⟩
  · rintro e w' ⟨rfl, h⟩
    exact ⟨rfl, hb.trans (h.mono hb.size)⟩

set_option maxHeartbeats 2000000 in
set_option maxRecDepth 100000 in
theorem meetsPred (gb : Nat) (B : Option Addr) (m d : Nat) (b : List R4) (w : World) (hg : w.cell? ⟨gb, 0, none⟩ = some (.slice B m d)) (hgb : gb < w.heap.size) (hB : SlR w B m d b) :
    PredBelow Tryz.prog 90 #[.pointer (some ⟨gb, 0, none⟩)] (fun q : R4 => .agg (R4.cells q).toArray) (fun p => b.any fun q => overP p q) w := by
  have HB := Lib.hid hB
  have eg : ∀ args w, (callFunc 91 args).run Tryz.prog w = .ok (.enter 91 args) w := enters_of Tryz.func91 (by kernel_rfl) rfl
  intro W p hb
  refine Calls.mono (show Calls Tryz.prog 90 #[.agg #[.int .i64 p.l, .int .i64 p.b, .int .i64 p.r, .int .i64 p.t], .pointer (some ⟨gb, 0, none⟩)] W fun e w' => e = .returned (.bool (b.any fun q => overP p q)) ∧ Below W.heap.size W w' from ?_) ?_
  · have cg := (hb.cell (p := ⟨gb, 0, none⟩) hgb).trans hg
    have hgb' : gb < W.heap.size := Nat.lt_of_lt_of_le hgb hb.size
    have HBw := Lib.hid (HB.out.below hb)
    have Eg := Lib.hid eg
    have Hr : Hid ((b.any fun q => overP p q) = b.any fun q => overP p q) := Lib.hid rfl
    obtain ⟨res, hres⟩ : ∃ res, (b.any fun q => overP p q) = res := ⟨_, rfl⟩
    rw [hres]
    have Hres := Lib.hid hres
    clear hg hb hgb hB hres Hr eg
    go_enter Tryz.func90, Tryz.ntmps90
    go_wp2_with (first
      | (go_at_call 89
         refine (containsR_any (fun q => overP p q) 91 #[.pointer (some ⟨W.heap.size, 0, none⟩)] Eg.out B m d b _ (HBw.out.below (by repeat' (first | with_reducible exact Below.refl _ _ | with_reducible refine below_drewN ?_ _ | with_reducible refine Below.drew ?_ | with_reducible refine Below.alloc ?_ ?_ _ | with_reducible refine Below.setCell ?_ ?_ _ | with_reducible refine Below.trans ?_ (Below.mono (by with_reducible assumption) ?_) | (simp; done) | (simp; omega) | omega))) (overlapPred W.heap.size p _ (heap_alloc_new W _) (by simp))).mono ?_
         rintro e w1 ⟨rfl, hb1⟩
         rw [Hres.out])
      | fail)
    go_ret
    exact ⟨rfl, (by repeat' (first | with_reducible exact Below.refl _ _ | with_reducible assumption | with_reducible refine below_drewN ?_ _ | with_reducible refine Below.drew ?_ | with_reducible refine Below.alloc ?_ ?_ _ | with_reducible refine Below.setCell ?_ ?_ _ | with_reducible refine Below.trans ?_ (Below.mono (by with_reducible assumption) ?_) | with_reducible refine below_only ?_ (by with_reducible assumption) ?_ ?_ | (simp; done) | (simp; omega) | omega))⟩
  · rintro e w' ⟨rfl, h⟩
    exact ⟨rfl, hb.trans (h.mono hb.size)⟩

set_option maxHeartbeats 8000000 in
set_option maxRecDepth 100000 in
theorem meets_any (A B : Option Addr) (n c m d : Nat) (a b : List R4) (w : World) (hA : SlR w A n c a) (hB : SlR w B m d b) :
    Calls Tryz.prog 27 #[.agg #[.slice A n c], .agg #[.slice B m d]] w fun e w' => e = .returned (.bool (meetsP a b)) ∧ Below w.heap.size w w' := by
  have hna := hA.len
  have hnb := hB.len
  have HA := Lib.hid hA
  have HB := Lib.hid hB
  have eg : ∀ args w, (callFunc 90 args).run Tryz.prog w = .ok (.enter 90 args) w := enters_of Tryz.func90 (by kernel_rfl) rfl
  have HVa := Lib.hid (fun W (hW : Below w.heap.size w W) => valid_any A n c a W (HA.out.below hW))
  have HVb := Lib.hid (fun W (hW : Below w.heap.size w W) => valid_any B m d b W (HB.out.below hW))
  have Hx : Hid (meetsP a b = (validP a && validP b && a.any fun p => b.any fun q => overP p q)) := Lib.hid rfl
  have Eg := Lib.hid eg
  generalize meetsP a b = res at *
  clear eg
  obtain ⟨va, hva⟩ : ∃ va, validP a = va := ⟨_, rfl⟩
  obtain ⟨vb, hvb⟩ : ∃ vb, validP b = vb := ⟨_, rfl⟩
  rw [hva] at HVa Hx
  rw [hvb] at HVb Hx
  clear hva hvb
  go_enter Tryz.func27, Tryz.ntmps27
  go_upto_region 1 with fail
  obtain ⟨w1, hw1⟩ : ∃ w1 : World, w1 = (w.alloc (.cells #[.slice A n c] 33)).alloc (.cells #[.slice B m d] 33) := ⟨_, rfl⟩
  rw [← hw1]
  have HL1 : Hid (RBs w1 [⟨w.heap.size + 1, B, m, d, b⟩, ⟨w.heap.size, A, n, c, a⟩]) := Lib.hid (by rw [hw1]; exact RBs.two w A B n c m d a b hA hB)
  have Hb1 : Hid (Below w.heap.size w w1) := Lib.hid (by rw [hw1]; exact (by repeat' (first | with_reducible exact Below.refl _ _ | with_reducible refine below_drewN ?_ _ | with_reducible refine Below.drew ?_ | with_reducible refine Below.alloc ?_ ?_ _ | with_reducible refine Below.setCell ?_ ?_ _ | with_reducible refine Below.trans ?_ (Below.mono (by with_reducible assumption) ?_) | (simp; done) | (simp; omega) | omega)))
  have hs1 := Hb1.out.size
  have c0 : w1.cell? ⟨w.heap.size, 0, none⟩ = some (.slice A n c) := (HL1.out _ (.tail _ (.head _))).c0
  have c1 : w1.cell? ⟨w.heap.size + 1, 0, none⟩ = some (.slice B m d) := (HL1.out _ (.head _)).c0
  clear hw1 hA hB
  cases va with
  | false =>
    have e0 : res = false := by rw [Hx.out]; rfl
    subst e0
    go_wp2_with (first
      | (go_at_call 48
         refine (HVa.out _ Hb1.out).mono ?_
         rintro e w2 ⟨rfl, hb2⟩
         have Hb2 : Hid (Below w.heap.size w w2) := Lib.hid (Hb1.out.trans (hb2.mono hs1))
         clear hb2)
      | fail)
    go_ret
    exact ⟨rfl, Hb2.out⟩
  | true =>
    cases vb with
    | false =>
      have e0 : res = false := by rw [Hx.out]; rfl
      subst e0
      go_wp2_with (first
        | (go_at_call_of 48 (Value.slice A n c)
           refine (HVa.out _ Hb1.out).mono ?_
           rintro e w2 ⟨rfl, hb2⟩
           have Hb2 : Hid (Below w.heap.size w w2) := Lib.hid (Hb1.out.trans (hb2.mono hs1))
           have c02 : w2.cell? ⟨w.heap.size, 0, none⟩ = some (.slice A n c) := ((HL1.out.below hb2) _ (.tail _ (.head _))).c0
           have c12 : w2.cell? ⟨w.heap.size + 1, 0, none⟩ = some (.slice B m d) := ((HL1.out.below hb2) _ (.head _)).c0
           clear hb2)
        | (go_at_call_of 48 (Value.slice B m d)
           refine (HVb.out _ Hb2.out).mono ?_
           rintro e w3 ⟨rfl, hb3⟩
           have Hb3 : Hid (Below w.heap.size w w3) := Lib.hid (Hb2.out.trans (hb3.mono Hb2.out.size))
           clear hb3)
        | fail)
      go_ret
      exact ⟨rfl, Hb3.out⟩
    | true =>
      have Hx2 : Hid (res = a.any fun p => b.any fun q => overP p q) := Lib.hid (by rw [Hx.out]; rfl)
      clear Hx
      go_wp2_with (first
        | (go_at_call_of 48 (Value.slice A n c)
           refine (HVa.out _ Hb1.out).mono ?_
           rintro e w2 ⟨rfl, hb2⟩
           have Hb2 : Hid (Below w.heap.size w w2) := Lib.hid (Hb1.out.trans (hb2.mono hs1))
           have HL2 := Lib.hid (HL1.out.below hb2)
           have c02 : w2.cell? ⟨w.heap.size, 0, none⟩ = some (.slice A n c) := (HL2.out _ (.tail _ (.head _))).c0
           have c12 : w2.cell? ⟨w.heap.size + 1, 0, none⟩ = some (.slice B m d) := (HL2.out _ (.head _)).c0
           clear hb2)
        | (go_at_call_of 48 (Value.slice B m d)
           refine (HVb.out _ Hb2.out).mono ?_
           rintro e w3 ⟨rfl, hb3⟩
           have Hb3 : Hid (Below w.heap.size w w3) := Lib.hid (Hb2.out.trans (hb3.mono Hb2.out.size))
           have HL3 := Lib.hid (HL2.out.below hb3)
           have c03 : w3.cell? ⟨w.heap.size, 0, none⟩ = some (.slice A n c) := (HL3.out _ (.tail _ (.head _))).c0
           have Hc13 : Hid (w3.cell? ⟨w.heap.size + 1, 0, none⟩ = some (.slice B m d)) := Lib.hid (HL3.out _ (.head _)).c0
           have Hl13 : Hid (w.heap.size + 1 < w3.heap.size) := Lib.hid (HL3.out _ (.head _)).lt
           clear hb3)
        | (go_at_call 89
           refine (containsR_any (fun p => b.any fun q => overP p q) 90 #[.pointer (some ⟨w.heap.size + 1, 0, none⟩)] Eg.out A n c a _ (HA.out.below Hb3.out) (meetsPred (w.heap.size + 1) B m d b _ Hc13.out Hl13.out (HB.out.below Hb3.out))).mono ?_
           rintro e w4 ⟨rfl, hb4⟩
           rw [← Hx2.out]
           have Hb4 : Hid (Below w.heap.size w w4) := Lib.hid (Hb3.out.trans (hb4.mono Hb3.out.size))
           clear hb4)
        | fail)
      go_ret
      exact ⟨rfl, Hb4.out⟩
end Go.Proofs.YtfmkmhhghmdakaaGreatDoor
namespace Go.Proofs.YtfmkmhhghmdakaaGreatDoor
open Go.RowKit
set_option linter.unusedVariables false
set_option linter.unusedSimpArgs false

set_option maxHeartbeats 8000000 in
set_option maxRecDepth 100000 in
theorem validR_any (A : Option Addr) (n c : Nat) (l : List R4) (w : World) (hA : SlR w A n c l) :
    Calls Tryz.prog 120 #[.agg #[.slice A n c]] w fun e w' => e = .returned (.bool (validP l)) ∧ Below w.heap.size w w' := by
  have hn := hA.len
  have HA := Lib.hid hA
  clear hA
  by_cases hbig : 120 < n
  · have hv : validP l = false := by unfold validP; rw [decide_eq_false (by omega)]; rfl
    have hb' : (120 : Int) < (n : Int) := by omega
    rw [hv]
    clear hv
    go_enter Tryz.func120, Tryz.ntmps120
    go_wp2
    go_ret
    exact ⟨rfl, (by repeat' (first | with_reducible exact Below.refl _ _ | with_reducible refine below_drewN ?_ _ | with_reducible refine Below.drew ?_ | with_reducible refine Below.alloc ?_ ?_ _ | with_reducible refine Below.setCell ?_ ?_ _ | with_reducible refine Below.trans ?_ (Below.mono (by with_reducible assumption) ?_) | (simp; done) | (simp; omega) | omega))⟩
  · have hb' : ¬ (120 : Int) < (n : Int) := by omega
    have Hv : Hid (validP l = (l.all R4.ok && decide (canonP l = l))) := Lib.hid (by unfold validP; rw [decide_eq_true (by omega)]; rfl)
    generalize validP l = res at *
    go_enter Tryz.func120, Tryz.ntmps120
    go_upto_region 4 with fail
    obtain ⟨w0, hw0⟩ : ∃ w0 : World, w0 = w.alloc (.cells #[.slice A n c] 33) := ⟨_, rfl⟩
    rw [← hw0]
    have hr0 : w0.heap[w.heap.size]? = some (.cells #[.slice A n c] 33 (0, 0)) := by rw [hw0]; exact heap_alloc_new w _
    have hs0 : w.heap.size < w0.heap.size := by rw [hw0]; simp
    have Hb0 : Hid (Below w.heap.size w w0) := Lib.hid (by rw [hw0]; exact (by repeat' (first | with_reducible exact Below.refl _ _ | with_reducible refine below_drewN ?_ _ | with_reducible refine Below.drew ?_ | with_reducible refine Below.alloc ?_ ?_ _ | with_reducible refine Below.setCell ?_ ?_ _ | with_reducible refine Below.trans ?_ (Below.mono (by with_reducible assumption) ?_) | (simp; done) | (simp; omega) | omega)))
    have Hr0 := Lib.hid hr0
    clear hw0 hr0
    go_loopw [4, 12] (fun _ i wr => ∃ k : Nat, k ≤ n ∧ i = .int .i64 (k : Int) ∧ Hid ((l.take k).all R4.ok = true) ∧ Below w0.heap.size w0 wr) (fun _ i _ => n - (intOf i).toNat)
    case atStart => exact ⟨0, Nat.zero_le _, rfl, Lib.hid rfl, Below.refl _ _⟩
    case round =>
      obtain ⟨k, hk, rfl, Hall, hbr⟩ := hrel
      have hsr := hbr.size
      have hwr : Below w.heap.size w wr := Hb0.out.trans (hbr.mono (by omega))
      have Hwr := Lib.hid hwr
      have Hbr := Lib.hid hbr
      by_cases hkn : k < n
      · have hl : k < l.length := by omega
        obtain ⟨b, off, rfl, hbl, c0, c1, c2, c3⟩ := (HA.out.below hwr).at k hl
        have Hs := Lib.hid (all_take_succ l R4.ok k hl)
        have Hno : Hid (l[k].ok = false → res = false) := Lib.hid (fun h => by
          rw [Hv.out]
          have : l.all R4.ok = false := by
            cases h2 : l.all R4.ok with
            | false => rfl
            | true =>
              rw [List.all_eq_true] at h2
              rw [h2 l[k] (List.getElem_mem hl)] at h
              cases h
          rw [this]; rfl)
        have hkn' : (k : Int) < (n : Int) := by omega
        generalize l[k] = q at *
        have Hpr := Lib.hid (fun W => properR_any q W)
        cases hq : q.ok with
        | true =>
          rw [hq] at Hs Hpr
          clear hwr hbr
          go_wp2_with (first | (go_at_call 183; refine (Hpr.out _).mono ?_; rintro e w2 ⟨rfl, hb2⟩; have hs2 := hb2.size; simp at hs2) | fail)
          go_roundw
          case rel => exact ⟨k + 1, by omega, by go_num, Lib.hid (by rw [Hs.out, Hall.out]; rfl), by have h1 := Hbr.out; exact (by repeat' (first | with_reducible exact Below.refl _ _ | with_reducible assumption | with_reducible refine below_drewN ?_ _ | with_reducible refine Below.drew ?_ | with_reducible refine Below.alloc ?_ ?_ _ | with_reducible refine Below.setCell ?_ ?_ _ | with_reducible refine Below.trans ?_ (Below.mono (by with_reducible assumption) ?_) | with_reducible refine below_only ?_ (by with_reducible assumption) ?_ ?_ | (simp; done) | (simp; omega) | omega))⟩
          case measure => simp [intOf]; omega
        | false =>
          rw [hq] at Hs Hpr
          have Hres := Lib.hid (Hno.out hq)
          clear hwr hbr
          go_wp2_with (first | (go_at_call 183; refine (Hpr.out _).mono ?_; rintro e w2 ⟨rfl, hb2⟩; have hs2 := hb2.size; simp at hs2) | fail)
          go_ret
          exact ⟨by rw [Hres.out]; rfl, by have h1 := Hwr.out; exact (by repeat' (first | with_reducible exact Below.refl _ _ | with_reducible assumption | with_reducible refine below_drewN ?_ _ | with_reducible refine Below.drew ?_ | with_reducible refine Below.alloc ?_ ?_ _ | with_reducible refine Below.setCell ?_ ?_ _ | with_reducible refine Below.trans ?_ (Below.mono (by with_reducible assumption) ?_) | with_reducible refine below_only ?_ (by with_reducible assumption) ?_ ?_ | (simp; done) | (simp; omega) | omega))⟩
      · have hall : l.all R4.ok = true := by have := Hall.out; rw [List.take_of_length_le (by omega)] at this; exact this
        have Hpos := Lib.hid (ok_pos hall)
        have Hv2 : Hid (res = decide (combP (· || ·) l [] = l)) := Lib.hid (by rw [Hv.out, hall, canonP_comb l Hpos.out]; rfl)
        have Hcomb := Lib.hid (fun W (hW : SlR W A n c l) => combineR_any A none n c 0 0 l [] 1 W hW (SlR.nil W) (by omega))
        rw [howR_or] at Hcomb
        have hkn' : ¬ (k : Int) < (n : Int) := by omega
        have HAr := Lib.hid (HA.out.below Hwr.out)
        generalize combP (· || ·) l [] = cl at *
        have hr1 : wr.heap[w.heap.size]? = some (.cells #[.slice A n c] 33 (0, 0)) := (hbr.block _ hs0).trans Hr0.out
        have cr := cell_of_row wr w.heap.size 0 _ _ _ hr1
        have hsz0 : w.heap.size < wr.heap.size := by omega
        have hsz1 : w.heap.size ≤ wr.heap.size := by omega
        clear hwr hbr hall hr1
        go_upto_region 9 with fail
        go_region_held3 (fun w' => w'.cell? ⟨w.heap.size, 0, none⟩ = some (.slice A n c))
          (first | go_keep | exact (Hb2.out.cell (p := ⟨w.heap.size, 0, none⟩) hsz0).trans cr)
          (first
            | (go_at_call 46
               refine (Hcomb.out _ (HAr.out.below (Below.mono (by repeat' (first | with_reducible exact Below.refl _ _ | with_reducible refine below_drewN ?_ _ | with_reducible refine Below.drew ?_ | with_reducible refine Below.alloc ?_ ?_ _ | with_reducible refine Below.setCell ?_ ?_ _ | with_reducible refine Below.trans ?_ (Below.mono (by with_reducible assumption) ?_) | (simp; done) | (simp; omega) | omega)) (Nat.le_refl _)))).mono ?_
               rintro e w2 ⟨v2, rfl, hown2, hb2⟩
               obtain ⟨C, cc, rfl, hC⟩ := SlR.of_own hown2
               have HC := Lib.hid hC
               have Hb2 : Hid (Below wr.heap.size wr w2) := Lib.hid (show Below wr.heap.size wr w2 from (by have hbq := hb2; exact (by repeat' (first | with_reducible exact Below.refl _ _ | with_reducible assumption | with_reducible refine below_drewN ?_ _ | with_reducible refine Below.drew ?_ | with_reducible refine Below.alloc ?_ ?_ _ | with_reducible refine Below.setCell ?_ ?_ _ | with_reducible refine Below.trans ?_ (Below.mono (by with_reducible assumption) ?_) | with_reducible refine below_only ?_ (by with_reducible assumption) ?_ ?_ | (simp; done) | (simp; omega) | omega))))
               have cg2 := (Hb2.out.cell (p := ⟨w.heap.size, 0, none⟩) hsz0).trans cr
               clear hown2 hb2 hC)
            | (go_at_call 210
               refine (rectsR_any C A cl.length cc n c cl l _ (HC.out.below (by repeat' (first | with_reducible exact Below.refl _ _ | with_reducible refine below_drewN ?_ _ | with_reducible refine Below.drew ?_ | with_reducible refine Below.alloc ?_ ?_ _ | with_reducible refine Below.setCell ?_ ?_ _ | with_reducible refine Below.trans ?_ (Below.mono (by with_reducible assumption) ?_) | (simp; done) | (simp; omega) | omega))) (HAr.out.below (Hb2.out.trans (Below.mono (by repeat' (first | with_reducible exact Below.refl _ _ | with_reducible refine below_drewN ?_ _ | with_reducible refine Below.drew ?_ | with_reducible refine Below.alloc ?_ ?_ _ | with_reducible refine Below.setCell ?_ ?_ _ | with_reducible refine Below.trans ?_ (Below.mono (by with_reducible assumption) ?_) | (simp; done) | (simp; omega) | omega)) Hb2.out.size)))).mono ?_
               rintro e w3 ⟨rfl, hb3⟩
               rw [← Hv2.out]
               have Hb3 : Hid (Below w2.heap.size w2 w3) := Lib.hid (show Below w2.heap.size w2 w3 from (by have hbq := hb3; exact (by repeat' (first | with_reducible exact Below.refl _ _ | with_reducible assumption | with_reducible refine below_drewN ?_ _ | with_reducible refine Below.drew ?_ | with_reducible refine Below.alloc ?_ ?_ _ | with_reducible refine Below.setCell ?_ ?_ _ | with_reducible refine Below.trans ?_ (Below.mono (by with_reducible assumption) ?_) | with_reducible refine below_only ?_ (by with_reducible assumption) ?_ ?_ | (simp; done) | (simp; omega) | omega))))
               have cg3 := (Hb3.out.cell (p := ⟨w.heap.size, 0, none⟩) (Nat.lt_of_lt_of_le hsz0 Hb2.out.size)).trans cg2
               clear hb3)
            | fail)
        all_goals go_wp2
        all_goals go_ret
        all_goals exact ⟨by first | rfl | simp, Hwr.out.trans ((Hb2.out.trans (Hb3.out.mono Hb2.out.size)).mono hsz1)⟩

end Go.Proofs.YtfmkmhhghmdakaaGreatDoor
namespace Go.Proofs.YtfmkmhhghmdakaaGreatDoor
open Go.RowKit Go.Shelf
set_option linter.unusedVariables false
set_option linter.unusedSimpArgs false

end Go.Proofs.YtfmkmhhghmdakaaGreatDoor
namespace Go.Proofs.YtfmkmhhghmdakaaGreatDoor
open Go.RowKit
set_option linter.unusedVariables false
set_option linter.unusedSimpArgs false

theorem howR2 : howR 2 = andB := by funext x y; rfl
theorem meets_len (a b : List R4) : meetsP a b = (validP a && validP b && decide (0 < (chooseP andB a b).length)) := by
  unfold meetsP
  cases ha : validP a with
  | false => rfl
  | true =>
    cases hb : validP b with
    | false => rfl
    | true =>
      have hin : ∀ l, validP l = true → InS 268435456 l := fun l h q hq => by
        unfold validP at h
        simp only [Bool.and_eq_true, decide_eq_true_eq] at h
        have := List.all_eq_true.1 h.1.2 q hq
        simp [R4.ok] at this
        omega
      have ia := hin a ha
      have ib := hin b hb
      have hn := choose_nil (how := andB) rfl ia ib
      have ho := over_some ia ib
      rw [Bool.true_and, Bool.true_and, Bool.true_and]
      refine bool_eq ?_
      rw [ho, decide_eq_true_eq, List.length_pos_iff]
      constructor
      · rintro ⟨x, y, h⟩ h'
        have := hn.1 h' x y
        unfold andB at this
        rw [h] at this; cases this
      · intro h
        refine Classical.byContradiction fun hc => h (hn.2 fun x y => ?_)
        cases hx : andB (inL a x y) (inL b x y) with
        | false => rfl
        | true => exact absurd ⟨x, y, hx⟩ hc
set_option maxHeartbeats 8000000 in
set_option maxRecDepth 100000 in
theorem meetsR_any (A B : Option Addr) (n c m d : Nat) (a b : List R4) (w : World) (hA : SlR w A n c a) (hB : SlR w B m d b) :
    Calls Tryz.prog 121 #[.agg #[.slice A n c], .agg #[.slice B m d]] w fun e w' => e = .returned (.bool (meetsP a b)) ∧ Below w.heap.size w w' := by
  have hna := hA.len
  have hnb := hB.len
  have HA := Lib.hid hA
  have HB := Lib.hid hB
  have HVa := Lib.hid (fun W (hW : Below w.heap.size w W) => validR_any A n c a W (HA.out.below hW))
  have HVb := Lib.hid (fun W (hW : Below w.heap.size w W) => validR_any B m d b W (HB.out.below hW))
  have Hx : Hid (meetsP a b = (validP a && validP b && decide (0 < (chooseP andB a b).length))) := Lib.hid (meets_len a b)
  have Hva : Hid (validP a = true → (n ≤ 750 ∧ ∀ q ∈ a, q.l < q.r)) := Lib.hid (fun h => by
    unfold validP at h
    simp only [Bool.and_eq_true, decide_eq_true_eq] at h
    exact ⟨by omega, ok_pos h.1.2⟩)
  have Hvb : Hid (validP b = true → (m ≤ 750 ∧ ∀ q ∈ b, q.l < q.r)) := Lib.hid (fun h => by
    unfold validP at h
    simp only [Bool.and_eq_true, decide_eq_true_eq] at h
    exact ⟨by omega, ok_pos h.1.2⟩)
  generalize meetsP a b = res at *
  obtain ⟨va, hva⟩ : ∃ va, validP a = va := ⟨_, rfl⟩
  obtain ⟨vb, hvb⟩ : ∃ vb, validP b = vb := ⟨_, rfl⟩
  rw [hva] at HVa Hx Hva
  rw [hvb] at HVb Hx Hvb
  clear hva hvb
  go_enter Tryz.func121, Tryz.ntmps121
  go_upto_region 1 with fail
  obtain ⟨w1, hw1⟩ : ∃ w1 : World, w1 = (w.alloc (.cells #[.slice A n c] 33)).alloc (.cells #[.slice B m d] 33) := ⟨_, rfl⟩
  rw [← hw1]
  have HL1 : Hid (RBs w1 [⟨w.heap.size + 1, B, m, d, b⟩, ⟨w.heap.size, A, n, c, a⟩]) := Lib.hid (by rw [hw1]; exact RBs.two w A B n c m d a b hA hB)
  have Hb1 : Hid (Below w.heap.size w w1) := Lib.hid (by rw [hw1]; exact (by repeat' (first | with_reducible exact Below.refl _ _ | with_reducible refine below_drewN ?_ _ | with_reducible refine Below.drew ?_ | with_reducible refine Below.alloc ?_ ?_ _ | with_reducible refine Below.setCell ?_ ?_ _ | with_reducible refine Below.trans ?_ (Below.mono (by with_reducible assumption) ?_) | (simp; done) | (simp; omega) | omega)))
  have hs1 := Hb1.out.size
  have c0 : w1.cell? ⟨w.heap.size, 0, none⟩ = some (.slice A n c) := (HL1.out _ (.tail _ (.head _))).c0
  have c1 : w1.cell? ⟨w.heap.size + 1, 0, none⟩ = some (.slice B m d) := (HL1.out _ (.head _)).c0
  clear hw1 hA hB
  cases va with
  | false =>
    have e0 : res = false := by rw [Hx.out]; rfl
    subst e0
    go_wp2_with (first
      | (go_at_call 120
         refine (HVa.out _ Hb1.out).mono ?_
         rintro e w2 ⟨rfl, hb2⟩
         have Hb2 : Hid (Below w.heap.size w w2) := Lib.hid (Hb1.out.trans (hb2.mono hs1))
         clear hb2)
      | fail)
    go_ret
    exact ⟨rfl, Hb2.out⟩
  | true =>
    obtain ⟨hn7, ha⟩ := Hva.out rfl
    have Ha := Lib.hid ha
    clear ha Hva
    cases vb with
    | false =>
      have e0 : res = false := by rw [Hx.out]; rfl
      subst e0
      go_wp2_with (first
        | (go_at_call_of 120 (Value.slice A n c)
           refine (HVa.out _ Hb1.out).mono ?_
           rintro e w2 ⟨rfl, hb2⟩
           have Hb2 : Hid (Below w.heap.size w w2) := Lib.hid (Hb1.out.trans (hb2.mono hs1))
           have c02 : w2.cell? ⟨w.heap.size, 0, none⟩ = some (.slice A n c) := ((HL1.out.below hb2) _ (.tail _ (.head _))).c0
           have c12 : w2.cell? ⟨w.heap.size + 1, 0, none⟩ = some (.slice B m d) := ((HL1.out.below hb2) _ (.head _)).c0
           clear hb2)
        | (go_at_call_of 120 (Value.slice B m d)
           refine (HVb.out _ Hb2.out).mono ?_
           rintro e w3 ⟨rfl, hb3⟩
           have Hb3 : Hid (Below w.heap.size w w3) := Lib.hid (Hb2.out.trans (hb3.mono Hb2.out.size))
           clear hb3)
        | fail)
      go_ret
      exact ⟨rfl, Hb3.out⟩
    | true =>
      obtain ⟨hm7, hb⟩ := Hvb.out rfl
      have Hbp := Lib.hid hb
      clear hb Hvb
      have HC := Lib.hid (fun W (hW : Below w.heap.size w W) => combineR_any A B n c m d a b 2 W (HA.out.below hW) (HB.out.below hW) (by omega))
      rw [← choose_comb (howR 2) (howR_no 2) a b Ha.out Hbp.out, howR2] at HC
      have Hx2 : Hid (res = decide (0 < (chooseP andB a b).length)) := Lib.hid (by rw [Hx.out]; rfl)
      clear Hx
      generalize chooseP andB a b = cl at *
      obtain ⟨N, hN⟩ : ∃ N, cl.length = N := ⟨_, rfl⟩
      have HN := Lib.hid hN
      rw [hN] at Hx2
      have hN9 : 0 < N ∨ ¬ 0 < N := by omega
      clear hN
      rcases hN9 with hN0 | hN0
      all_goals
        first
          | (have e0 : res = true := by rw [Hx2.out, decide_eq_true hN0])
          | (have e0 : res = false := by rw [Hx2.out, decide_eq_false hN0])
        subst e0
        have hNd : decide ((0 : Int) < (N : Int)) = decide (0 < N) := by rw [Bool.eq_iff_iff]; simp
        try (have hNi : ¬ (0 : Int) < (N : Int) := by omega)
        try (have hNj : (0 : Int) < (N : Int) := by omega)
        go_wp2_with (first
          | (go_at_call_of 120 (Value.slice A n c)
             refine (HVa.out _ Hb1.out).mono ?_
             rintro e w2 ⟨rfl, hb2⟩
             have Hb2 : Hid (Below w.heap.size w w2) := Lib.hid (Hb1.out.trans (hb2.mono hs1))
             have HL2 := Lib.hid (HL1.out.below hb2)
             have c02 : w2.cell? ⟨w.heap.size, 0, none⟩ = some (.slice A n c) := (HL2.out _ (.tail _ (.head _))).c0
             have c12 : w2.cell? ⟨w.heap.size + 1, 0, none⟩ = some (.slice B m d) := (HL2.out _ (.head _)).c0
             clear hb2)
          | (go_at_call_of 120 (Value.slice B m d)
             refine (HVb.out _ Hb2.out).mono ?_
             rintro e w3 ⟨rfl, hb3⟩
             have Hb3 : Hid (Below w.heap.size w w3) := Lib.hid (Hb2.out.trans (hb3.mono Hb2.out.size))
             have HL3 := Lib.hid (HL2.out.below hb3)
             have c03 : w3.cell? ⟨w.heap.size, 0, none⟩ = some (.slice A n c) := (HL3.out _ (.tail _ (.head _))).c0
             have c13 : w3.cell? ⟨w.heap.size + 1, 0, none⟩ = some (.slice B m d) := (HL3.out _ (.head _)).c0
             clear hb3)
          | (go_at_call 46
             refine (HC.out _ Hb3.out).mono ?_
             rintro e w4 ⟨v4, rfl, hown4, hb4⟩
             obtain ⟨E, ec, rfl, _⟩ := SlR.of_own hown4
             rw [HN.out]
             have Hb4 : Hid (Below w.heap.size w w4) := Lib.hid (Hb3.out.trans (hb4.mono Hb3.out.size))
             clear hown4 hb4)
          | fail)
        go_ret
        exact ⟨by simp [hN0], Hb4.out⟩

end Go.Proofs.YtfmkmhhghmdakaaGreatDoor
