import Derived.Maps.RangeWalk
import Derived.Test.YtfmkmhhghmdakaaGreatDoorRA
import Derived.Test.YtfmkmhhghmdakaaGreatDoorSX
import Derived.Test.YtfmkmhhghmdakaaGreatDoorRE
import Derived.Test.YtfmkmhhghmdakaaGreatDoorRF
import Derived.Test.YtfmkmhhghmdakaaGreatDoorRH
import Derived.Test.YtfmkmhhghmdakaaGreatDoorRI
import Derived.Test.YtfmkmhhghmdakaaGreatDoorRL
import Derived.Test.YtfmkmhhghmdakaaGreatDoorRM
namespace Go.Proofs.YtfmkmhhghmdakaaGreatDoor
open Go.RowKit Go.Shelf Go.Lib Go.Sort
set_option linter.unusedVariables false
set_option linter.unusedSimpArgs false
set_option maxHeartbeats 64000000
set_option maxRecDepth 100000
theorem RBs.two (w : World) (A B : Option Addr) (n c m d : Nat) (a b : List R4) (hA : SlR w A n c a) (hB : SlR w B m d b) : RBs ((w.alloc (.cells #[.slice A n c] 33)).alloc (.cells #[.slice B m d] 33)) [⟨w.heap.size + 1, B, m, d, b⟩, ⟨w.heap.size, A, n, c, a⟩] := by
  have h0 : RBs w [] := fun x hx => by cases hx
  have h1 := h0.push A n c a hA
  have h2 := h1.push B m d b (hB.below gBel)
  simpa using h2
theorem overlap_any (p q : R4) (w : World) :
    Calls Tryz.prog 92 #[.agg #[.int .i64 p.l, .int .i64 p.b, .int .i64 p.r, .int .i64 p.t], .agg #[.int .i64 q.l, .int .i64 q.b, .int .i64 q.r, .int .i64 q.t]] w fun e w' => e = .returned (.bool (overP p q)) ∧ Below w.heap.size w w' := by
  have Hh : Hid (overP p q = (decide (p.l < q.r) && decide (q.l < p.r) && decide (p.b < q.t) && decide (q.b < p.t))) := Lib.hid rfl
  generalize overP p q = res at *
  by_cases h1 : p.l < q.r
  · by_cases h2 : q.l < p.r
    · by_cases h3 : p.b < q.t
      · by_cases h4 : q.b < p.t
        · have hR : res = true := by rw [Hh.out]; simp [h1, h2, h3, h4]
          subst hR
          go_enter Tryz.func92, Tryz.ntmps92
          go_wp2
          go_ret
          exact ⟨rfl, gBel⟩
        · have hR : res = false := by rw [Hh.out]; simp [h4]
          subst hR
          go_enter Tryz.func92, Tryz.ntmps92
          go_wp2
          go_ret
          exact ⟨rfl, gBel⟩
      · have hR : res = false := by rw [Hh.out]; simp [h3]
        subst hR
        go_enter Tryz.func92, Tryz.ntmps92
        go_wp2
        go_ret
        exact ⟨rfl, gBel⟩
    · have hR : res = false := by rw [Hh.out]; simp [h2]
      subst hR
      go_enter Tryz.func92, Tryz.ntmps92
      go_wp2
      go_ret
      exact ⟨rfl, gBel⟩
  · have hR : res = false := by rw [Hh.out]; simp [h1]
    subst hR
    go_enter Tryz.func92, Tryz.ntmps92
    go_wp2
    go_ret
    exact ⟨rfl, gBel⟩
theorem overlapPred (gr : Nat) (p : R4) (w : World) (hr : w.heap[gr]? = some (.cells #[.int .i64 p.l, .int .i64 p.b, .int .i64 p.r, .int .i64 p.t] 68 (0, 0))) (hgr : gr < w.heap.size) :
    PredBelow Tryz.prog 91 #[.pointer (some ⟨gr, 0, none⟩)] (fun q : R4 => .agg (R4.cells q).toArray) (fun q => overP p q) w := by
  intro W q hb
  refine Calls.mono (show Calls Tryz.prog 91 #[.agg #[.int .i64 q.l, .int .i64 q.b, .int .i64 q.r, .int .i64 q.t], .pointer (some ⟨gr, 0, none⟩)] W fun e w' => e = .returned (.bool (overP p q)) ∧ Below W.heap.size W w' from ?_) ?_
  · have hrw := (hb.block gr hgr).trans hr
    have q0 := cell_of_row W gr 0 _ _ _ hrw
    have q1 := cell_of_row W gr 1 _ _ _ hrw
    have q2 := cell_of_row W gr 2 _ _ _ hrw
    have q3 := cell_of_row W gr 3 _ _ _ hrw
    have hgr' : gr < W.heap.size := Nat.lt_of_lt_of_le hgr hb.size
    have Ho := Lib.hid (overlap_any p q)
    generalize overP p q = res at *
    clear hr hb hgr hrw
    go_enter Tryz.func91, Tryz.ntmps91
    go_wp2_with (first
      | (go_at_call 92
         refine (Ho.out _).mono ?_
         rintro e w1 ⟨rfl, hb1⟩)
      | fail)
    go_ret
    exact ⟨rfl, gBelo⟩
  · rintro e w' ⟨rfl, h⟩
    exact ⟨rfl, hb.trans (h.mono hb.size)⟩
theorem meetsPred (gb : Nat) (B : Option Addr) (m d : Nat) (b : List R4) (w : World) (hg : w.cell? ⟨gb, 0, none⟩ = some (.slice B m d)) (hgb : gb < w.heap.size) (hB : SlR w B m d b) :
    PredBelow Tryz.prog 90 #[.pointer (some ⟨gb, 0, none⟩)] (fun q : R4 => .agg (R4.cells q).toArray) (fun p => b.any fun q => overP p q) w := by
  have HB := Lib.hid hB
  have eg : ∀ args w, (callFunc 91 args).run Tryz.prog w = .ok (.enter 91 args) w := enters_of Tryz.func91 (by kernel_rfl) rfl
  intro W p hb
  refine Calls.mono (show Calls Tryz.prog 90 #[.agg #[.int .i64 p.l, .int .i64 p.b, .int .i64 p.r, .int .i64 p.t], .pointer (some ⟨gb, 0, none⟩)] W fun e w' => e = .returned (.bool (b.any fun q => overP p q)) ∧ Below W.heap.size W w' from ?_) ?_
  · have cg := (hb.cell (p := ⟨gb, 0, none⟩) hgb).trans hg
    have hgb' : gb < W.heap.size := Nat.lt_of_lt_of_le hgb hb.size
    have HBw := Lib.hid (HB.out.below hb)
    have Eg := Lib.hid eg
    have Hr : Hid ((b.any fun q => overP p q) = b.any fun q => overP p q) := Lib.hid rfl
    obtain ⟨res, hres⟩ : ∃ res, (b.any fun q => overP p q) = res := ⟨_, rfl⟩
    rw [hres]
    have Hres := Lib.hid hres
    clear hg hb hgb hB hres Hr eg
    go_enter Tryz.func90, Tryz.ntmps90
    go_wp2_with (first
      | (go_at_call 89
         refine (containsR_any (fun q => overP p q) 91 #[.pointer (some ⟨W.heap.size, 0, none⟩)] Eg.out B m d b _ (HBw.out.below gBel) (overlapPred W.heap.size p _ (heap_alloc_new W _) (by simp))).mono ?_
         rintro e w1 ⟨rfl, hb1⟩
         rw [Hres.out])
      | fail)
    go_ret
    exact ⟨rfl, gBelo⟩
  · rintro e w' ⟨rfl, h⟩
    exact ⟨rfl, hb.trans (h.mono hb.size)⟩
theorem meets_any (A B : Option Addr) (n c m d : Nat) (a b : List R4) (w : World) (hA : SlR w A n c a) (hB : SlR w B m d b) :
    Calls Tryz.prog 27 #[.agg #[.slice A n c], .agg #[.slice B m d]] w fun e w' => e = .returned (.bool (meetsP a b)) ∧ Below w.heap.size w w' := by
  have hna := hA.len
  have hnb := hB.len
  have HA := Lib.hid hA
  have HB := Lib.hid hB
  have eg : ∀ args w, (callFunc 90 args).run Tryz.prog w = .ok (.enter 90 args) w := enters_of Tryz.func90 (by kernel_rfl) rfl
  have HVa := Lib.hid (fun W (hW : Below w.heap.size w W) => valid_any A n c a W (HA.out.below hW))
  have HVb := Lib.hid (fun W (hW : Below w.heap.size w W) => valid_any B m d b W (HB.out.below hW))
  have Hx : Hid (meetsP a b = (validP a && validP b && a.any fun p => b.any fun q => overP p q)) := Lib.hid rfl
  have Eg := Lib.hid eg
  generalize meetsP a b = res at *
  clear eg
  obtain ⟨va, hva⟩ : ∃ va, validP a = va := ⟨_, rfl⟩
  obtain ⟨vb, hvb⟩ : ∃ vb, validP b = vb := ⟨_, rfl⟩
  rw [hva] at HVa Hx
  rw [hvb] at HVb Hx
  clear hva hvb
  go_enter Tryz.func27, Tryz.ntmps27
  go_upto_region 1 with fail
  obtain ⟨w1, hw1⟩ : ∃ w1 : World, w1 = (w.alloc (.cells #[.slice A n c] 33)).alloc (.cells #[.slice B m d] 33) := ⟨_, rfl⟩
  rw [← hw1]
  have HL1 : Hid (RBs w1 [⟨w.heap.size + 1, B, m, d, b⟩, ⟨w.heap.size, A, n, c, a⟩]) := Lib.hid (by rw [hw1]; exact RBs.two w A B n c m d a b hA hB)
  have Hb1 : Hid (Below w.heap.size w w1) := Lib.hid (by rw [hw1]; exact gBel)
  have hs1 := Hb1.out.size
  have c0 : w1.cell? ⟨w.heap.size, 0, none⟩ = some (.slice A n c) := (HL1.out _ (.tail _ (.head _))).c0
  have c1 : w1.cell? ⟨w.heap.size + 1, 0, none⟩ = some (.slice B m d) := (HL1.out _ (.head _)).c0
  clear hw1 hA hB
  cases va with
  | false =>
    have e0 : res = false := by rw [Hx.out]; rfl
    subst e0
    go_wp2_with (first
      | (go_at_call 48
         refine (HVa.out _ Hb1.out).mono ?_
         rintro e w2 ⟨rfl, hb2⟩
         have Hb2 : Hid (Below w.heap.size w w2) := Lib.hid (Hb1.out.trans (hb2.mono hs1))
         clear hb2)
      | fail)
    go_ret
    exact ⟨rfl, Hb2.out⟩
  | true =>
    cases vb with
    | false =>
      have e0 : res = false := by rw [Hx.out]; rfl
      subst e0
      go_wp2_with (first
        | (go_at_call_of 48 (Value.slice A n c)
           refine (HVa.out _ Hb1.out).mono ?_
           rintro e w2 ⟨rfl, hb2⟩
           have Hb2 : Hid (Below w.heap.size w w2) := Lib.hid (Hb1.out.trans (hb2.mono hs1))
           have c02 : w2.cell? ⟨w.heap.size, 0, none⟩ = some (.slice A n c) := ((HL1.out.below hb2) _ (.tail _ (.head _))).c0
           have c12 : w2.cell? ⟨w.heap.size + 1, 0, none⟩ = some (.slice B m d) := ((HL1.out.below hb2) _ (.head _)).c0
           clear hb2)
        | (go_at_call_of 48 (Value.slice B m d)
           refine (HVb.out _ Hb2.out).mono ?_
           rintro e w3 ⟨rfl, hb3⟩
           have Hb3 : Hid (Below w.heap.size w w3) := Lib.hid (Hb2.out.trans (hb3.mono Hb2.out.size))
           clear hb3)
        | fail)
      go_ret
      exact ⟨rfl, Hb3.out⟩
    | true =>
      have Hx2 : Hid (res = a.any fun p => b.any fun q => overP p q) := Lib.hid (by rw [Hx.out]; rfl)
      clear Hx
      go_wp2_with (first
        | (go_at_call_of 48 (Value.slice A n c)
           refine (HVa.out _ Hb1.out).mono ?_
           rintro e w2 ⟨rfl, hb2⟩
           have Hb2 : Hid (Below w.heap.size w w2) := Lib.hid (Hb1.out.trans (hb2.mono hs1))
           have HL2 := Lib.hid (HL1.out.below hb2)
           have c02 : w2.cell? ⟨w.heap.size, 0, none⟩ = some (.slice A n c) := (HL2.out _ (.tail _ (.head _))).c0
           have c12 : w2.cell? ⟨w.heap.size + 1, 0, none⟩ = some (.slice B m d) := (HL2.out _ (.head _)).c0
           clear hb2)
        | (go_at_call_of 48 (Value.slice B m d)
           refine (HVb.out _ Hb2.out).mono ?_
           rintro e w3 ⟨rfl, hb3⟩
           have Hb3 : Hid (Below w.heap.size w w3) := Lib.hid (Hb2.out.trans (hb3.mono Hb2.out.size))
           have HL3 := Lib.hid (HL2.out.below hb3)
           have c03 : w3.cell? ⟨w.heap.size, 0, none⟩ = some (.slice A n c) := (HL3.out _ (.tail _ (.head _))).c0
           have Hc13 : Hid (w3.cell? ⟨w.heap.size + 1, 0, none⟩ = some (.slice B m d)) := Lib.hid (HL3.out _ (.head _)).c0
           have Hl13 : Hid (w.heap.size + 1 < w3.heap.size) := Lib.hid (HL3.out _ (.head _)).lt
           clear hb3)
        | (go_at_call 89
           refine (containsR_any (fun p => b.any fun q => overP p q) 90 #[.pointer (some ⟨w.heap.size + 1, 0, none⟩)] Eg.out A n c a _ (HA.out.below Hb3.out) (meetsPred (w.heap.size + 1) B m d b _ Hc13.out Hl13.out (HB.out.below Hb3.out))).mono ?_
           rintro e w4 ⟨rfl, hb4⟩
           rw [← Hx2.out]
           have Hb4 : Hid (Below w.heap.size w w4) := Lib.hid (Hb3.out.trans (hb4.mono Hb3.out.size))
           clear hb4)
        | fail)
      go_ret
      exact ⟨rfl, Hb4.out⟩
end Go.Proofs.YtfmkmhhghmdakaaGreatDoor
namespace Go.Proofs.YtfmkmhhghmdakaaGreatDoor
open Go.RowKit Go.Shelf Go.Maps
set_option linter.unusedVariables false
set_option linter.unusedSimpArgs false
set_option maxHeartbeats 64000000
set_option maxRecDepth 100000
theorem rcCells_cons3 (y : Rc × LV) (s : RcL) : rcCells (y :: s) = .int .i64 y.1.yr :: .int .i64 y.1.cr :: .slice y.2.a y.1.rg.length y.2.c :: rcCells s := by simp [rcCells, rcC]
theorem rcCells_take : ∀ (l : RcL) (k : Nat), rcCells (l.take k) = (rcCells l).take (k * 3)
  | [], k => by simp [rcCells]
  | x :: t, 0 => by simp [rcCells]
  | x :: t, k + 1 => by
    rw [List.take_succ_cons, rcCells_cons3, rcCells_cons3, rcCells_take t k, show (k + 1) * 3 = k * 3 + 1 + 1 + 1 from by omega]
    rfl
theorem SlRc.take {w : World} {A : Option Addr} {n c : Nat} {l : RcL} (h : SlRc w A n c l) (k : Nat) (hk : k ≤ n) : SlRc w A k c (l.take k) := by
  have hl := h.len
  refine ⟨by rw [List.length_take]; omega, Nat.le_trans hk h.cap, h.top, ?_, fun x hx => h.fits x (List.mem_of_mem_take hx)⟩
  rcases h.lies with h0 | ⟨b, off, e, hb, hc⟩
  · exact .inl (by omega)
  · refine .inr ⟨b, off, e, hb, fun j u hu => hc j u ?_⟩
    rw [rcCells_take, List.getElem?_take] at hu
    split at hu
    · exact hu
    · cases hu
theorem SlRc.ofRow {w : World} {base c : Nat} {A : Option Addr} {m : RcL} (h : w.ownsRow base 172 3 (.slice A m.length c) m.length (rcCells m)) (hs : ∀ x ∈ m, SlR w x.2.a x.1.rg.length x.2.c x.1.rg) : SlRc w A m.length c m := by
  obtain ⟨A', c', e, h1, h2, h3⟩ := own_slice h
  injection e with e1 e2 e3
  subst e1 e3
  exact ⟨rfl, h2, h3, h1, hs⟩
def PredRc (f : Nat) (lb : Array Value) (p : Rc × LV → Bool) (l : RcL) (w : World) : Prop :=
  ∀ W, Below w.heap.size w W → ∀ x ∈ l, Calls Tryz.prog f (#[.agg #[.int .i64 x.1.yr, .int .i64 x.1.cr, .slice x.2.a x.1.rg.length x.2.c]] ++ lb) W fun e w' => e = .returned (.bool (p x)) ∧ Below W.heap.size W w'
theorem indexRc_any (f : Nat) (lb : Array Value) (p : Rc × LV → Bool) (A : Option Addr) (n c : Nat) (l : RcL) (w : World) (hA : SlRc w A n c l) (eg : ∀ args w, (callFunc f args).run Tryz.prog w = .ok (.enter f args) w) (hp : PredRc f lb p l w) :
    Calls Tryz.prog 208 #[.slice A n c, .func (.func f) #[] lb] w fun e w' => ∃ k : Int, e = .returned (.int .i64 k) ∧ decide (k ≥ 0) = l.any p ∧ Below w.heap.size w w' := by
  have hcap := hA.cap
  have htop := hA.top
  unfold maxLen at htop
  have HA := Lib.hid hA
  have Hln := Lib.hid hA.len
  have HP := Lib.hid hp
  clear hA hp
  go_enter Tryz.func208, Tryz.ntmps208
  go_upto_region 2 with fail
  go_loopw [5, 8] (fun _ iv wr => ∃ k : Nat, k ≤ n ∧ iv = .int .i64 (k : Int) ∧ (l.take k).any p = false ∧ Below w.heap.size w wr) (fun _ iv _ => n - (intOf iv).toNat)
  case atStart => exact ⟨0, Nat.zero_le _, rfl, rfl, Below.refl _ _⟩
  case round =>
    obtain ⟨k, hk, rfl, hno, hbw⟩ := hrel
    obtain ⟨wo, rfl⟩ : ∃ wo : World, wo = wr := ⟨_, rfl⟩
    have Hno := Lib.hid hno
    have Hbw := Lib.hid hbw
    have hsw := hbw.size
    clear hno hbw
    by_cases hkn : k < n
    · have hkn' : (k : Int) < (n : Int) := by omega
      have hkl : k < l.length := by rw [Hln.out]; exact hkn
      obtain ⟨b, off, rfl, hbl, c0, c1, c2, hS⟩ := (HA.out.below Hbw.out).at k hkl
      have HO := Lib.hid (HP.out wo Hbw.out l[k] (List.getElem_mem hkl))
      have Hs : Hid ((l.take (k + 1)).any p = (false || p l[k])) := Lib.hid (by rw [List.take_succ_eq_append_getElem hkl, List.any_append, Hno.out]; simp)
      have Hy : Hid (p l[k] = true → l.any p = true) := Lib.hid (fun h => List.any_eq_true.2 ⟨l[k], List.getElem_mem hkl, h⟩)
      obtain ⟨x, hx⟩ : ∃ x, x = l[k] := ⟨_, rfl⟩
      rw [← hx] at c0 c1 c2 HO Hs Hy
      clear hS hx
      cases hq : p x with
      | false =>
        rw [hq] at HO Hs
        clear hq
        go_wp2_with (first
          | (go_at_fn f; refine HO.out.mono ?_; rintro e w2 ⟨rfl, hb2⟩; have Hb2 := Lib.hid (Hbw.out.trans (hb2.mono hsw)); clear hb2)
          | fail)
        go_roundw
        case rel => exact ⟨k + 1, by omega, by go_num, Hs.out, Hb2.out⟩
        case measure => simp [intOf]; omega
      | true =>
        rw [hq] at HO
        have Hall := Lib.hid (Hy.out hq)
        clear hq
        go_wp2_with (first
          | (go_at_fn f; refine HO.out.mono ?_; rintro e w2 ⟨rfl, hb2⟩; have Hb2 := Lib.hid (Hbw.out.trans (hb2.mono hsw)); clear hb2)
          | fail)
        go_ret
        exact ⟨_, rfl, by rw [Hall.out]; simp, Hb2.out⟩
    · have hkn' : ¬ (k : Int) < (n : Int) := by omega
      have Hall : Hid (l.any p = false) := Lib.hid (by have := Hno.out; rwa [List.take_of_length_le (by rw [Hln.out]; omega)] at this)
      go_wp2
      go_ret
      exact ⟨_, rfl, by rw [Hall.out]; simp, Hbw.out⟩
theorem containsRc_any (f : Nat) (lb : Array Value) (p : Rc × LV → Bool) (A : Option Addr) (n c : Nat) (l : RcL) (w : World) (hA : SlRc w A n c l) (eg : ∀ args w, (callFunc f args).run Tryz.prog w = .ok (.enter f args) w) (hp : PredRc f lb p l w) :
    Calls Tryz.prog 116 #[.slice A n c, .func (.func f) #[] lb] w fun e w' => e = .returned (.bool (l.any p)) ∧ Below w.heap.size w w' := by
  have HI := Lib.hid (indexRc_any f lb p A n c l w hA eg hp)
  clear hA hp eg
  generalize l.any p = r at *
  go_enter Tryz.func116, Tryz.ntmps116
  go_wp2_with (go_at_call 208; refine HI.out.mono ?_; rintro e w' ⟨k, rfl, hk, hb⟩; subst hk; have Hb := Lib.hid hb; clear hb)
  go_ret
  exact ⟨rfl, Hb.out⟩
theorem chk1_any (x r : Rc) (v u : LV) (g : Nat) (w : World) (hx : SlR w v.a x.rg.length v.c x.rg) (hr : SlR w u.a r.rg.length u.c r.rg) (hg : w.cell? ⟨g, 2, none⟩ = some (.slice u.a r.rg.length u.c)) (hgl : g < w.heap.size) :
    Calls Tryz.prog 200 #[.agg #[.int .i64 x.yr, .int .i64 x.cr, .slice v.a x.rg.length v.c], .pointer (some ⟨g, 0, none⟩)] w fun e w' => e = .returned (.bool (meetsP x.rg r.rg)) ∧ Below w.heap.size w w' := by
  have HM := Lib.hid (fun W (h1 : SlR W v.a x.rg.length v.c x.rg) (h2 : SlR W u.a r.rg.length u.c r.rg) => meets_any _ _ _ _ _ _ x.rg r.rg W h1 h2)
  have Hx := Lib.hid hx
  have Hr := Lib.hid hr
  have Hg := Lib.hid hg
  clear hx hr hg
  generalize meetsP x.rg r.rg = b at *
  generalize x.rg.length = nx at *
  generalize r.rg.length = nr at *
  go_enter Tryz.func200, Tryz.ntmps200
  go_upto_region 1 with fail
  obtain ⟨w1, hw1⟩ : ∃ w1 : World, w1 = w.alloc (.cells #[.int .i64 x.yr, .int .i64 x.cr, .slice v.a nx v.c] 172) := ⟨_, rfl⟩
  rw [← hw1]
  have hr1 : w1.heap[w.heap.size]? = some (.cells #[.int .i64 x.yr, .int .i64 x.cr, .slice v.a nx v.c] 172 (0, 0)) := by rw [hw1]; exact heap_alloc_new w _
  have Hb1 : Hid (Below w.heap.size w w1) := Lib.hid (by rw [hw1]; exact gBel)
  have hs1 : w.heap.size ≤ w1.heap.size := Hb1.out.size
  have hg1 := (Hb1.out.cell (p := ⟨g, 2, none⟩) hgl).trans Hg.out
  have d2 := cell_of_row _ _ 2 _ _ _ hr1
  have Hx1 := Lib.hid (Hx.out.below Hb1.out)
  have Hr1 := Lib.hid (Hr.out.below Hb1.out)
  clear hw1 hr1
  go_wp2_with (first
    | (go_at_call 27; refine (HM.out _ Hx1.out Hr1.out).mono ?_; rintro e w2 ⟨rfl, hb2⟩; have Hb2 := Lib.hid hb2; clear hb2)
    | fail)
  go_ret
  exact ⟨rfl, Hb1.out.trans (Hb2.out.mono hs1)⟩
end Go.Proofs.YtfmkmhhghmdakaaGreatDoor
namespace Go.Proofs.YtfmkmhhghmdakaaGreatDoor
set_option maxHeartbeats 64000000
set_option maxRecDepth 100000
open Go.RowKit
set_option linter.unusedVariables false
set_option linter.unusedSimpArgs false
structure Ft where
  num : Int
  kd : Int
  fr : Int
  un : Int
  rg : List R4
abbrev FtL := List (Ft × LV)
def ftC (x : Ft × LV) : List Value := [.int .i64 x.1.num, .int .i64 x.1.kd, .int .i64 x.1.fr, .int .i64 x.1.un, .slice x.2.a x.1.rg.length x.2.c]
def ftCells (l : FtL) : List Value := l.flatMap ftC
theorem ftCells_snoc (l : FtL) (x : Ft × LV) : ftCells (l ++ [x]) = ftCells l ++ [.int .i64 x.1.num, .int .i64 x.1.kd, .int .i64 x.1.fr, .int .i64 x.1.un, .slice x.2.a x.1.rg.length x.2.c] := by simp [ftCells, ftC]
theorem ftCells_len (l : FtL) : (ftCells l).length = l.length * 5 := by
  induction l with
  | nil => rfl
  | cons o r ih => simp [ftCells, ftC] at *; omega
theorem ftCells_at (l : FtL) (i : Nat) (h : i < l.length) : (ftCells l)[i * 5]? = some (.int .i64 l[i].1.num) ∧ (ftCells l)[i * 5 + 1]? = some (.int .i64 l[i].1.kd) ∧ (ftCells l)[i * 5 + 2]? = some (.int .i64 l[i].1.fr) ∧ (ftCells l)[i * 5 + 3]? = some (.int .i64 l[i].1.un) ∧ (ftCells l)[i * 5 + 4]? = some (.slice l[i].2.a l[i].1.rg.length l[i].2.c) := by
  induction l generalizing i with
  | nil => simp at h
  | cons o r ih =>
    have hc : ftCells (o :: r) = ftC o ++ ftCells r := by simp [ftCells]
    have hl : (ftC o).length = 5 := rfl
    rw [hc]
    rcases i with _ | i
    · simp [ftC]
    · have := ih i (by simpa using h)
      refine ⟨?_, ?_, ?_, ?_, ?_⟩ <;> (rw [List.getElem?_append_right (by rw [hl]; omega), hl])
      · rw [show (i + 1) * 5 - 5 = i * 5 from by omega]; exact this.1
      · rw [show (i + 1) * 5 + 1 - 5 = i * 5 + 1 from by omega]; exact this.2.1
      · rw [show (i + 1) * 5 + 2 - 5 = i * 5 + 2 from by omega]; exact this.2.2.1
      · rw [show (i + 1) * 5 + 3 - 5 = i * 5 + 3 from by omega]; exact this.2.2.2.1
      · rw [show (i + 1) * 5 + 4 - 5 = i * 5 + 4 from by omega]; exact this.2.2.2.2
structure SlFt (w : World) (A : Option Addr) (n c : Nat) (l : FtL) : Prop where
  len : l.length = n
  cap : n ≤ c
  top : c ≤ maxLen
  lies : Lies w A n (ftCells l)
  fits : ∀ x ∈ l, SlR w x.2.a x.1.rg.length x.2.c x.1.rg
theorem SlFt.below {w w' : World} {A : Option Addr} {n c : Nat} {l : FtL} (h : SlFt w A n c l) (hb : Below w.heap.size w w') : SlFt w' A n c l := ⟨h.len, h.cap, h.top, h.lies.below hb, fun x hx => (h.fits x hx).below hb⟩
theorem SlFt.at {w : World} {A : Option Addr} {n c : Nat} {l : FtL} (h : SlFt w A n c l) (i : Nat) (hi : i < l.length) :
    ∃ b off, A = some ⟨b, off, none⟩ ∧ b < w.heap.size ∧ w.cell? ⟨b, off + i * 5, none⟩ = some (.int .i64 l[i].1.num) ∧ w.cell? ⟨b, off + i * 5 + 1, none⟩ = some (.int .i64 l[i].1.kd) ∧ w.cell? ⟨b, off + i * 5 + 2, none⟩ = some (.int .i64 l[i].1.fr) ∧ w.cell? ⟨b, off + i * 5 + 3, none⟩ = some (.int .i64 l[i].1.un) ∧ w.cell? ⟨b, off + i * 5 + 4, none⟩ = some (.slice l[i].2.a l[i].1.rg.length l[i].2.c) ∧ SlR w l[i].2.a l[i].1.rg.length l[i].2.c l[i].1.rg := by
  obtain ⟨b, off, e, hb, hc⟩ := h.lies.resolve_left (by have := h.len; omega)
  obtain ⟨h0, h1, h2, h3, h4⟩ := ftCells_at l i hi
  exact ⟨b, off, e, hb, hc _ _ h0, hc _ _ h1, hc _ _ h2, hc _ _ h3, hc _ _ h4, h.fits _ (List.getElem_mem hi)⟩
def fts (l : FtL) : List Ft := l.map (·.1)
theorem fts_len (l : FtL) : (fts l).length = l.length := by simp [fts]
theorem Tryz.infoFt : (Tryz.prog.info? 54).map (fun i => (i.zero, i.size, i.bytes)) = some (some (.agg #[.int .i64 0, .int .i64 0, .int .i64 0, .int .i64 0, .slice none 0 0]), 5, 56) := by kernel_rfl
structure FtOwn (w : World) (base : Nat) (v : Value) (l : FtL) : Prop where
  o : w.ownsRow base 54 5 v l.length (ftCells l)
  fs : ∀ x ∈ l, w.ownsRow base 68 4 (.slice x.2.a x.1.rg.length x.2.c) x.1.rg.length (rCells x.1.rg)
  ap : ∀ x ∈ l, ∀ g, v.ownBlock = some g → (Value.slice x.2.a x.1.rg.length x.2.c).ownBlock ≠ some g
section
variable {w w' : World} {base : Nat} {v : Value} {l : FtL}
theorem FtOwn.nil (w : World) (base : Nat) : FtOwn w base (.slice none 0 0) [] := ⟨World.ownsRow_nil _ _ _ _, fun _ h => by simp at h, fun _ h => by simp at h⟩
theorem FtOwn.keep (h : FtOwn w base v l) (hk : ∀ b, b < w.heap.size → base ≤ b → w'.heap[b]? = w.heap[b]?) : FtOwn w' base v l := ⟨own_keepY h.o hk, fun x hx => own_keepY (h.fs x hx) hk, h.ap⟩
theorem FtOwn.below (h : FtOwn w base v l) (hb : Below w.heap.size w w') : FtOwn w' base v l := h.keep fun b hlt _ => hb.block b hlt
theorem FtOwn.rebase {base' : Nat} (h : FtOwn w base v l) (hb : base' ≤ base) : FtOwn w base' v l := ⟨own_rebase h.o hb, fun x hx => own_rebase (h.fs x hx) hb, h.ap⟩
theorem FtOwn.sl {A : Option Addr} {c : Nat} (h : FtOwn w base (.slice A l.length c) l) : SlFt w A l.length c l := by
  obtain ⟨A', c', e, h1, h2, h3⟩ := own_slice h.o
  injection e with e1 e2 e3
  subst e1 e3
  refine ⟨rfl, h2, h3, h1, fun x hx => ?_⟩
  obtain ⟨A2, c2, e, h4⟩ := SlR.of_own (h.fs x hx)
  injection e with e1 e2 e3
  rw [e1, e3]
  exact h4
theorem FtOwn.push {wa w5 : World} (h : FtOwn w base v l) (x : Ft × LV) (hx : w.ownsRow base 68 4 (.slice x.2.a x.1.rg.length x.2.c) x.1.rg.length (rCells x.1.rg)) (hxa : ∀ g, v.ownBlock = some g → (Value.slice x.2.a x.1.rg.length x.2.c).ownBlock ≠ some g) {v5 : Value}
    (ha : Below w.heap.size w wa) (hg : wa.grownBy w5 v.ownBlock) (hown : w5.ownsRow base 54 5 v5 (l.length + 1) (ftCells l ++ [.int .i64 x.1.num, .int .i64 x.1.kd, .int .i64 x.1.fr, .int .i64 x.1.un, .slice x.2.a x.1.rg.length x.2.c])) (hat : v5.ownBlock = v.ownBlock ∨ v5.ownBlock = some wa.heap.size) : FtOwn w5 base v5 (l ++ [x]) := by
  have hall : ∀ y ∈ l ++ [x], w.ownsRow base 68 4 (.slice y.2.a y.1.rg.length y.2.c) y.1.rg.length (rCells y.1.rg) ∧ ∀ g, v.ownBlock = some g → (Value.slice y.2.a y.1.rg.length y.2.c).ownBlock ≠ some g := by
    intro y hy
    rcases List.mem_append.1 hy with h1 | h1
    · exact ⟨h.fs y h1, h.ap y h1⟩
    · rw [List.mem_singleton] at h1
      subst h1
      exact ⟨hx, hxa⟩
  refine ⟨by rw [List.length_append, ftCells_snoc]; exact hown, fun y hy => own_grownY (ownsRow_below (hall y hy).1 ha) hg (fun g hg2 e => (hall y hy).2 g e hg2), fun y hy g hg2 e => ?_⟩
  rcases hat with h0 | h0
  · exact (hall y hy).2 g (by rw [← h0]; exact hg2) e
  · rw [h0] at hg2
    injection hg2 with hg2
    have := own_ltY (hall y hy).1 g e
    have := ha.size
    omega
end
end Go.Proofs.YtfmkmhhghmdakaaGreatDoor
namespace Go.Proofs.YtfmkmhhghmdakaaGreatDoor
open Go.RowKit
set_option linter.unusedVariables false
set_option linter.unusedSimpArgs false
set_option maxHeartbeats 64000000
set_option maxRecDepth 100000
theorem validR_any (A : Option Addr) (n c : Nat) (l : List R4) (w : World) (hA : SlR w A n c l) :
    Calls Tryz.prog 120 #[.agg #[.slice A n c]] w fun e w' => e = .returned (.bool (validP l)) ∧ Below w.heap.size w w' := by
  have hn := hA.len
  have HA := Lib.hid hA
  clear hA
  by_cases hbig : 120 < n
  · have hv : validP l = false := by unfold validP; rw [decide_eq_false (by omega)]; rfl
    have hb' : (120 : Int) < (n : Int) := by omega
    rw [hv]
    clear hv
    go_enter Tryz.func120, Tryz.ntmps120
    go_wp2
    go_ret
    exact ⟨rfl, gBel⟩
  · have hb' : ¬ (120 : Int) < (n : Int) := by omega
    have Hv : Hid (validP l = (l.all R4.ok && decide (canonP l = l))) := Lib.hid (by unfold validP; rw [decide_eq_true (by omega)]; rfl)
    generalize validP l = res at *
    go_enter Tryz.func120, Tryz.ntmps120
    go_upto_region 4 with fail
    obtain ⟨w0, hw0⟩ : ∃ w0 : World, w0 = w.alloc (.cells #[.slice A n c] 33) := ⟨_, rfl⟩
    rw [← hw0]
    have hr0 : w0.heap[w.heap.size]? = some (.cells #[.slice A n c] 33 (0, 0)) := by rw [hw0]; exact heap_alloc_new w _
    have hs0 : w.heap.size < w0.heap.size := by rw [hw0]; simp
    have Hb0 : Hid (Below w.heap.size w w0) := Lib.hid (by rw [hw0]; exact gBel)
    have Hr0 := Lib.hid hr0
    clear hw0 hr0
    go_loopw [4, 12] (fun _ i wr => ∃ k : Nat, k ≤ n ∧ i = .int .i64 (k : Int) ∧ Hid ((l.take k).all R4.ok = true) ∧ Below w0.heap.size w0 wr) (fun _ i _ => n - (intOf i).toNat)
    case atStart => exact ⟨0, Nat.zero_le _, rfl, Lib.hid rfl, Below.refl _ _⟩
    case round =>
      obtain ⟨k, hk, rfl, Hall, hbr⟩ := hrel
      have hsr := hbr.size
      have hwr : Below w.heap.size w wr := Hb0.out.trans (hbr.mono (by omega))
      have Hwr := Lib.hid hwr
      have Hbr := Lib.hid hbr
      by_cases hkn : k < n
      · have hl : k < l.length := by omega
        obtain ⟨b, off, rfl, hbl, c0, c1, c2, c3⟩ := (HA.out.below hwr).at k hl
        have Hs := Lib.hid (all_take_succ l R4.ok k hl)
        have Hno : Hid (l[k].ok = false → res = false) := Lib.hid (fun h => by
          rw [Hv.out]
          have : l.all R4.ok = false := by
            cases h2 : l.all R4.ok with
            | false => rfl
            | true =>
              rw [List.all_eq_true] at h2
              rw [h2 l[k] (List.getElem_mem hl)] at h
              cases h
          rw [this]; rfl)
        have hkn' : (k : Int) < (n : Int) := by omega
        generalize l[k] = q at *
        have Hpr := Lib.hid (fun W => properR_any q W)
        cases hq : q.ok with
        | true =>
          rw [hq] at Hs Hpr
          clear hwr hbr
          go_wp2_with (first | (go_at_call 183; refine (Hpr.out _).mono ?_; rintro e w2 ⟨rfl, hb2⟩; have hs2 := hb2.size; simp at hs2) | fail)
          go_roundw
          case rel => exact ⟨k + 1, by omega, by go_num, Lib.hid (by rw [Hs.out, Hall.out]; rfl), by have h1 := Hbr.out; exact gBelo⟩
          case measure => simp [intOf]; omega
        | false =>
          rw [hq] at Hs Hpr
          have Hres := Lib.hid (Hno.out hq)
          clear hwr hbr
          go_wp2_with (first | (go_at_call 183; refine (Hpr.out _).mono ?_; rintro e w2 ⟨rfl, hb2⟩; have hs2 := hb2.size; simp at hs2) | fail)
          go_ret
          exact ⟨by rw [Hres.out]; rfl, by have h1 := Hwr.out; exact gBelo⟩
      · have hall : l.all R4.ok = true := by have := Hall.out; rw [List.take_of_length_le (by omega)] at this; exact this
        have Hpos := Lib.hid (ok_pos hall)
        have Hv2 : Hid (res = decide (combP (· || ·) l [] = l)) := Lib.hid (by rw [Hv.out, hall, canonP_comb l Hpos.out]; rfl)
        have Hcomb := Lib.hid (fun W (hW : SlR W A n c l) => combineR_any A none n c 0 0 l [] 1 W hW (SlR.nil W) (by omega))
        rw [howR_or] at Hcomb
        have hkn' : ¬ (k : Int) < (n : Int) := by omega
        have HAr := Lib.hid (HA.out.below Hwr.out)
        generalize combP (· || ·) l [] = cl at *
        have hr1 : wr.heap[w.heap.size]? = some (.cells #[.slice A n c] 33 (0, 0)) := (hbr.block _ hs0).trans Hr0.out
        have cr := cell_of_row wr w.heap.size 0 _ _ _ hr1
        have hsz0 : w.heap.size < wr.heap.size := by omega
        have hsz1 : w.heap.size ≤ wr.heap.size := by omega
        clear hwr hbr hall hr1
        go_upto_region 9 with fail
        go_region_held3 (fun w' => w'.cell? ⟨w.heap.size, 0, none⟩ = some (.slice A n c))
          (first | go_keep | exact (Hb2.out.cell (p := ⟨w.heap.size, 0, none⟩) hsz0).trans cr)
          (first
            | (go_at_call 46
               refine (Hcomb.out _ (HAr.out.below (Below.mono gBel (Nat.le_refl _)))).mono ?_
               rintro e w2 ⟨v2, rfl, hown2, hb2⟩
               obtain ⟨C, cc, rfl, hC⟩ := SlR.of_own hown2
               have HC := Lib.hid hC
               have Hb2 : Hid (Below wr.heap.size wr w2) := Lib.hid (show Below wr.heap.size wr w2 from (by have hbq := hb2; exact gBelo))
               have cg2 := (Hb2.out.cell (p := ⟨w.heap.size, 0, none⟩) hsz0).trans cr
               clear hown2 hb2 hC)
            | (go_at_call 210
               refine (rectsR_any C A cl.length cc n c cl l _ (HC.out.below gBel) (HAr.out.below (Hb2.out.trans (Below.mono gBel Hb2.out.size)))).mono ?_
               rintro e w3 ⟨rfl, hb3⟩
               rw [← Hv2.out]
               have Hb3 : Hid (Below w2.heap.size w2 w3) := Lib.hid (show Below w2.heap.size w2 w3 from (by have hbq := hb3; exact gBelo))
               have cg3 := (Hb3.out.cell (p := ⟨w.heap.size, 0, none⟩) (Nat.lt_of_lt_of_le hsz0 Hb2.out.size)).trans cg2
               clear hb3)
            | fail)
        all_goals go_wp2
        all_goals go_ret
        all_goals exact ⟨by first | rfl | simp, Hwr.out.trans ((Hb2.out.trans (Hb3.out.mono Hb2.out.size)).mono hsz1)⟩
structure FtOk (x : Ft) : Prop where
  num : 1 ≤ x.num ∧ x.num ≤ 1073741824
  kd : 0 ≤ x.kd ∧ x.kd ≤ 15
  day : 0 ≤ x.fr ∧ x.fr < x.un ∧ x.un ≤ 36865
  rg : validP x.rg = true
  ne : 0 < x.rg.length
theorem single_any (x : Ft) (v : LV) (w : World) (h : FtOk x) (hx : SlR w v.a x.rg.length v.c x.rg) :
    Calls Tryz.prog 249 #[.agg #[.int .i64 x.num, .int .i64 x.kd, .int .i64 x.fr, .int .i64 x.un, .slice v.a x.rg.length v.c]] w fun e w' => e = .returned (.int .i64 0) ∧ Below w.heap.size w w' := by
  obtain ⟨⟨a1, a2⟩, ⟨b1, b2⟩, ⟨d1, d2, d3⟩, hv, hn⟩ := h
  have HV := Lib.hid (fun W (h : SlR W v.a x.rg.length v.c x.rg) => valid_any v.a x.rg.length v.c x.rg W h)
  rw [hv] at HV
  have n1 : ¬ x.num < 1 := by omega
  have n2 : ¬ (1073741824 : Int) < x.num := by omega
  have n3 : ¬ x.kd < 0 := by omega
  have n4 : ¬ (15 : Int) < x.kd := by omega
  have n5 : ¬ x.fr < 0 := by omega
  have n6 : ¬ x.un ≤ x.fr := by omega
  have n7 : ¬ (36865 : Int) < x.un := by omega
  have n8 : ¬ (x.rg.length = 0) := by omega
  have n9 : ¬ ((x.rg.length : Int) = 0) := by omega
  have n10 : ¬ x.num ≤ 0 := by omega
  have Hx := Lib.hid hx
  clear hx hv
  obtain ⟨n, hne⟩ : ∃ n, x.rg.length = n := ⟨_, rfl⟩
  rw [hne] at HV Hx n8 n9 ⊢
  clear hne
  go_enter Tryz.func249, Tryz.ntmps249
  go_upto_region 1 with fail
  obtain ⟨w1, hw1⟩ : ∃ w1 : World, w1 = w.alloc (.cells #[.int .i64 x.num, .int .i64 x.kd, .int .i64 x.fr, .int .i64 x.un, .slice v.a n v.c] 54) := ⟨_, rfl⟩
  rw [← hw1]
  have hr1 : w1.heap[w.heap.size]? = some (.cells #[.int .i64 x.num, .int .i64 x.kd, .int .i64 x.fr, .int .i64 x.un, .slice v.a n v.c] 54 (0, 0)) := by rw [hw1]; exact heap_alloc_new w _
  have Hb1 : Hid (Below w.heap.size w w1) := Lib.hid (by rw [hw1]; exact gBel)
  have hs1 : w.heap.size < w1.heap.size := by rw [hw1]; simp
  have Hx1 := Lib.hid (Hx.out.below Hb1.out)
  have Hr1 := Lib.hid hr1
  have c0 := cell_of_row _ _ 0 _ _ _ hr1
  have c1 := cell_of_row _ _ 1 _ _ _ hr1
  have c2 := cell_of_row _ _ 2 _ _ _ hr1
  have c3 := cell_of_row _ _ 3 _ _ _ hr1
  have c4 := cell_of_row _ _ 4 _ _ _ hr1
  clear hw1 hr1
  go_wp2_with (first
    | (go_at_call 48; refine (HV.out _ Hx1.out).mono ?_; rintro e w2 ⟨rfl, hb2⟩; have Hb2 := Lib.hid hb2; have d4 := cell_of_row _ _ 4 _ _ _ ((hb2.block _ hs1).trans Hr1.out); clear hb2)
    | fail)
  go_ret
  exact ⟨rfl, Hb1.out.trans (Hb2.out.mono (by omega))⟩
structure LyOk (l : List Ft) : Prop where
  ok : ∀ x ∈ l, FtOk x
  up : l.Pairwise fun a b => a.num < b.num
  len : l.length ≤ 60
theorem fts_get (l : FtL) (i : Nat) (h : i < l.length) : (fts l)[i]'(by rw [fts_len]; exact h) = l[i].1 := by simp [fts]
theorem LyOk.step {l : FtL} (h : LyOk (fts l)) (i : Nat) (hi : i + 1 < l.length) : (l[i]'(by omega)).1.num < l[i + 1].1.num := by
  have := List.pairwise_iff_getElem.1 h.up i (i + 1) (by rw [fts_len]; omega) (by rw [fts_len]; omega) (by omega)
  rw [fts_get l i (by omega), fts_get l (i + 1) hi] at this
  exact this
theorem checkFt_any (A : Option Addr) (n c : Nat) (l : FtL) (w : World) (hA : SlFt w A n c l) (hl : LyOk (fts l)) :
    Calls Tryz.prog 174 #[.slice A n c] w fun e w' => e = .returned (.int .i64 0) ∧ Below w.heap.size w w' := by
  have hln := hA.len
  have hn60 : n ≤ 60 := by have := hl.len; rw [fts_len] at this; omega
  have hn60' : ¬ (60 : Int) < (n : Int) := by omega
  have HA := Lib.hid hA
  have HL := Lib.hid hl
  have Hln := Lib.hid hln
  clear hA hl hln
  go_enter Tryz.func174, Tryz.ntmps174
  go_wp2
  go_loopw [11] (fun iv wr => ∃ i : Nat, i ≤ n ∧ iv = .int .i64 (i : Int) ∧ Below w.heap.size w wr) (fun iv _ => n - (intOf iv).toNat)
  case atStart => exact ⟨0, Nat.zero_le _, rfl, Below.refl _ _⟩
  case round =>
    obtain ⟨i, hi, rfl, hbw⟩ := hrel
    obtain ⟨wo, rfl⟩ : ∃ wo : World, wo = wr := ⟨_, rfl⟩
    have Hbw := Lib.hid hbw
    have hsw := hbw.size
    clear hbw
    by_cases hin : i < n
    · have hin' : (i : Int) < (n : Int) := by omega
      have hil : i < l.length := by rw [Hln.out]; exact hin
      obtain ⟨b, off, rfl, hbl, c0, c1, c2, c3, c4, hS⟩ := (HA.out.below Hbw.out).at i hil
      have hok := HL.out.ok l[i].1 (List.mem_map_of_mem (List.getElem_mem hil))
      have hnum := hok.num
      have HO := Lib.hid (fun W (h : SlR W l[i].2.a l[i].1.rg.length l[i].2.c l[i].1.rg) => single_any l[i].1 l[i].2 W hok h)
      have hup := HL.out.step (i - 1)
      obtain ⟨x, hx⟩ : ∃ x, x = l[i] := ⟨_, rfl⟩
      rw [← hx] at c0 c1 c2 c3 c4 hS HO hnum
      have HS := Lib.hid hS
      have Hx := Lib.hid hx
      have Hup := Lib.hid hup
      clear hS hok hx hup
      go_upto_region 6 with fail
      obtain ⟨w1, hw1⟩ : ∃ w1 : World, w1 = wo.alloc (.cells #[.int .i64 x.1.num, .int .i64 x.1.kd, .int .i64 x.1.fr, .int .i64 x.1.un, .slice x.2.a x.1.rg.length x.2.c] 54) := ⟨_, rfl⟩
      rw [← hw1]
      have hr1 : w1.heap[wo.heap.size]? = some (.cells #[.int .i64 x.1.num, .int .i64 x.1.kd, .int .i64 x.1.fr, .int .i64 x.1.un, .slice x.2.a x.1.rg.length x.2.c] 54 (0, 0)) := by rw [hw1]; exact heap_alloc_new wo _
      have Hb1 : Hid (Below wo.heap.size wo w1) := Lib.hid (by rw [hw1]; exact gBel)
      have hs1 : wo.heap.size < w1.heap.size := by rw [hw1]; simp
      have Hr1 := Lib.hid hr1
      have HS1 := Lib.hid (HS.out.below Hb1.out)
      have d0 := cell_of_row _ _ 0 _ _ _ hr1
      have d1 := cell_of_row _ _ 1 _ _ _ hr1
      have d2 := cell_of_row _ _ 2 _ _ _ hr1
      have d3 := cell_of_row _ _ 3 _ _ _ hr1
      have d4 := cell_of_row _ _ 4 _ _ _ hr1
      clear hw1 hr1 c0 c1 c2 c3 c4
      go_upto_region 9 with (first
        | (go_at_call 249
           refine (HO.out _ HS1.out).mono ?_
           rintro e w2 ⟨rfl, hb2⟩
           have Hb2 := Lib.hid (Hb1.out.trans (hb2.mono (by omega)))
           have e0 := cell_of_row _ _ 0 _ _ _ ((hb2.block _ hs1).trans Hr1.out)
           have hs2 := hb2.size
           clear hb2 d0 d1 d2 d3 d4)
        | fail)
      have Hb3 := Lib.hid (Hbw.out.trans (Hb2.out.mono hsw))
      rcases Nat.eq_zero_or_pos i with h0 | h0
      · subst h0
        go_quiet (fail)
        go_wp2
        go_roundw
        case rel => exact ⟨1, by omega, by go_num, ⟨Hb3.out.os, Hb3.out.tape, Hb3.out.output, Hb3.out.size, Hb3.out.block⟩⟩
        case measure => simp [intOf]; omega
      · have h0' : (0 : Int) < (i : Int) := by omega
        obtain ⟨b', off', hbe, _, f0, _⟩ := (HA.out.below Hb3.out).at (i - 1) (by omega)
        injection hbe with hbe
        injection hbe with hb1 hb2
        subst hb1 hb2
        have hlt := Hup.out (by omega)
        have hx2 : (l[i - 1 + 1]'(by omega)).1.num = x.1.num := by
          rw [Hx.out]
          congr 2
          congr 1
          omega
        rw [hx2] at hlt
        obtain ⟨m, hm⟩ : ∃ m, m = (l[i - 1]'(by omega)).1.num := ⟨_, rfl⟩
        rw [← hm] at f0 hlt
        obtain ⟨j, hj⟩ : ∃ j : Nat, j = i - 1 := ⟨_, rfl⟩
        rw [← hj] at f0
        have hwr : IntKind.i64.wrap ((i : Int) - 1) = (j : Int) := by rw [IntWalk.i64_in _ (by omega)]; omega
        have hle : ¬ x.1.num ≤ m := by omega
        have hj1 : j < n := by omega
        have hj2 : (j : Int) < (n : Int) := by omega
        have hj0 : (0 : Int) ≤ (j : Int) := by omega
        clear hm hx2 hj
        go_quiet (fail)
        go_wp2
        go_roundw
        case rel => exact ⟨i + 1, by omega, by go_num, ⟨Hb3.out.os, Hb3.out.tape, Hb3.out.output, Hb3.out.size, Hb3.out.block⟩⟩
        case measure => simp [intOf]; omega
    · have hin' : ¬ (i : Int) < (n : Int) := by omega
      go_wp2
      go_ret
      exact ⟨rfl, Hbw.out⟩
def isThere (d : Int) (f : Ft) : Bool := decide (f.fr ≤ d) && decide (d < f.un)
def onP (l : List Ft) (d : Int) : List Ft := l.filter (isThere d)
end Go.Proofs.YtfmkmhhghmdakaaGreatDoor
namespace Go.Proofs.YtfmkmhhghmdakaaGreatDoor
open Go.RowKit Go.Shelf
set_option linter.unusedVariables false
set_option linter.unusedSimpArgs false
set_option maxHeartbeats 64000000
set_option maxRecDepth 100000
theorem land_rect (r : List Int) : LandOk [mkRect r 9] := by
  have h := mkRect_in r 9 (by omega)
  exact ⟨fun q hq => by rw [List.mem_singleton] at hq; subst hq; exact h, by simp, ⟨xEdges [mkRect r 9], by rw [xEdges_len]; simp, fun y => cut_inL y _⟩⟩
theorem land_reg (r : List Int) : LandOk (mkReg r 9 2).1 := by
  have hb := nx_bd r 3 (by omega)
  obtain ⟨h1, h2⟩ := mkRects_in 9 (by omega) (nx r 3).toNat r.tail
  have h3 := ofP_reg 9 (by omega) _ h1 2 (by omega) (by omega) (by omega)
  have e : (mkReg r 9 2).1 = canonP (mkRects (nx r 3).toNat r.tail 9).1 := by
    unfold mkReg
    rw [← ofP_eq, show (2 : Int) + 1 = 3 from rfl, h3.1]
  rw [e]
  refine ⟨h3.2.ins, by have := h3.2.len; omega, ⟨xEdges (mkRects (nx r 3).toNat r.tail 9).1, by rw [xEdges_len]; omega, fun y => ?_⟩⟩
  have e2 : (fun x => inL (canonP (mkRects (nx r 3).toNat r.tail 9).1) x y) = fun x => inL (mkRects (nx r 3).toNat r.tail 9).1 x y := by
    funext x
    rw [(canonP_canon _ h1.pos).mem]
  rw [e2]
  exact cut_inL y _
def LandPost (w : World) (g : Nat) (e : Ending) (w' : World) : Prop :=
  ∃ (v : LV) (a : List R4) (r : List Int), e = .returned (.agg #[.slice v.a a.length v.c]) ∧ w'.ownsRow w.heap.size 68 4 (.slice v.a a.length v.c) a.length (rCells a) ∧ TapeAt w' g r ∧ w.grownBy w' (some g) ∧ LandOk a
theorem land_any (g : Nat) (r : List Int) (w : World) (ht : TapeAt w g r) :
    Calls Tryz.prog 45 #[.pointer (some ⟨g, 0, none⟩), .int .i64 9, .int .i64 2] w (LandPost w g) := by
  have hlt := ht.lt
  have Hr := Lib.hid (region_any g r 9 2 (w.alloc (.cells #[.slice none 0 0] 33)) (ht.alloc _) (by omega) (by omega))
  have Hok := Lib.hid (land_reg r)
  generalize mkReg r 9 2 = rr at *
  obtain ⟨a, r1⟩ := rr
  dsimp only at Hok
  clear ht
  go_enter Tryz.func45, Tryz.ntmps45
  go_upto_region 2 with (first
    | (go_at_call 21
       refine Hr.out.mono ?_
       rintro e w1 ⟨v1, rfl, hown1, ht1, hg1⟩
       dsimp only at hown1 ht1
       obtain ⟨A, c, rfl, _, _, _⟩ := own_slice hown1
       have Hown1 := Lib.hid hown1
       have Ht1 := Lib.hid ht1
       have Hg1 := Lib.hid hg1
       have hs1 := hg1.size
       clear hown1 ht1 hg1)
    | fail)
  simp at hs1
  have hg1 := Ht1.out.lt
  have hr1 : w1.heap[w.heap.size]? = some (.cells #[.slice none 0 0] 33 (0, 0)) := (Hg1.out.block w.heap.size (by simp) (by intro e; injection e; omega)).trans (heap_alloc_new w _)
  have Hg : Hid (w.grownBy w1 (some g)) := Lib.hid ⟨Hg1.out.os, Hg1.out.tape, Hg1.out.output, by omega, fun i hi hne => (Hg1.out.block i (by simp; omega) hne).trans (Below.heap_alloc w _ i hi)⟩
  obtain ⟨wb, hwb⟩ : ∃ wb : World, wb = w1.alloc (.cells #[.slice A a.length c] 33) := ⟨_, rfl⟩
  rw [← hwb]
  have HX : Hid (wb.heap[w1.heap.size]? = some (.cells #[.slice A a.length c] 33 (0, 0))) := Lib.hid (by rw [hwb]; exact heap_alloc_new w1 _)
  have HG : Hid (wb.heap[w.heap.size]? = some (.cells #[.slice none 0 0] 33 (0, 0))) := Lib.hid (by rw [hwb]; exact (Below.heap_alloc w1 _ _ (by omega)).trans hr1)
  have Hgb : Hid (w.grownBy wb (some g)) := Lib.hid (by rw [hwb]; exact only_alloc Hg.out _)
  have Htb : Hid (TapeAt wb g r1) := Lib.hid (by rw [hwb]; exact Ht1.out.alloc _)
  have hlow := own_ltY Hown1.out
  have Hownb : Hid (wb.ownsRow (w.heap.size + 1) 68 4 (.slice A a.length c) a.length (rCells a)) := Lib.hid (by rw [hwb]; have := Hown1.out.alloc (.cells #[.slice A a.length c] 33); simpa using this)
  have Hlow : Hid (∀ k, (Value.slice A a.length c).ownBlock = some k → w.heap.size + 1 ≤ k ∧ k < w1.heap.size) := Lib.hid (fun k hk => ⟨own_base Hownb.out k hk, hlow k hk⟩)
  have hXb : w1.heap.size < wb.heap.size := by rw [hwb]; simp
  have hGb : w.heap.size < w1.heap.size := by omega
  obtain ⟨X, hX⟩ : ∃ X, w1.heap.size = X := ⟨_, rfl⟩
  rw [hX] at HX hXb hGb Hlow ⊢
  clear hwb hr1 Hg Ht1 Hown1 Hg1 hs1 hg1 Hr hlow hX
  have x0 := cell_of_row wb X 0 _ _ _ HX.out
  by_cases h0 : a.length = 0
  · have h0' : (a.length : Int) = 0 := by omega
    have h0d : decide ((a.length : Int) = 0) = true := decide_eq_true h0'
    have hgb := Htb.out.lt
    have HRe := Lib.hid (rect_any g r1 9 wb Htb.out (by omega))
    have Hqo := Lib.hid (land_rect r1)
    generalize mkRect r1 9 = q at *
    go_upto_region 3 with fail
    go_upto_region 4 with (first
      | (go_at_call 77
         refine HRe.out.mono ?_
         rintro e w2 ⟨rfl, ht2, hg2⟩
         have Ht2 := Lib.hid ht2
         have Hg2 := Lib.hid hg2
         have hs2 := hg2.size
         have hrX := (hg2.block X hXb (by intro e; injection e; omega)).trans HX.out
         have hrG := (hg2.block w.heap.size (by omega) (by intro e; injection e; omega)).trans HG.out
         have hlX2 : X < w2.heap.size := by omega
         have xc2 : ∀ o, (w2.alloc o).cell? ⟨X, 0, none⟩ = some (.slice A a.length c) := fun o => by rw [World.cell?_alloc_lt w2 o _ hlX2]; exact cell_of_row w2 X 0 _ _ _ hrX
         have xf2 : ∀ o, (w2.alloc o).frozen? ⟨X, 0, none⟩ = false := fun o => frozen_of_row (w2.alloc o) X 0 _ _ ((Below.heap_alloc w2 o _ hlX2).trans hrX)
         have HrX := Lib.hid hrX
         have HrG := Lib.hid hrG
         clear ht2 hg2 hrX hrG)
      | fail)
    obtain ⟨wc, hwc⟩ : ∃ wc : World, wc = (w2.setCell ⟨X, 0, none⟩ (.slice (some ⟨w2.heap.size, 0, none⟩) 1 1)).alloc (.cells #[.int .i64 q.l, .int .i64 q.b, .int .i64 q.r, .int .i64 q.t] 68) := ⟨_, rfl⟩
    rw [← hwc]
    have hrX : wc.heap[X]? = some (.cells #[.slice (some ⟨w2.heap.size, 0, none⟩) 1 1] 33 (0, 0)) := by
      rw [hwc]
      have h := heap_setCell_same w2 X 0 _ _ (.slice (some ⟨w2.heap.size, 0, none⟩) 1 1) HrX.out
      exact (Below.heap_alloc _ _ _ (by simpa using hlX2)).trans (by simpa using h)
    have hr : wc.heap[w.heap.size]? = some (.cells #[.slice none 0 0] 33 (0, 0)) := by
      rw [hwc]
      exact (Below.heap_alloc _ _ _ (by simp; omega)).trans ((Below.heap_setCell _ _ _ _ (by show w.heap.size ≠ X; omega)).trans HrG.out)
    have Ho : Hid (wc.ownsRow w2.heap.size 68 4 (.slice (some ⟨w2.heap.size, 0, none⟩) 1 1) 1 (rCells [q])) := Lib.hid (by
      rw [hwc]
      have h := own_lit (w2.setCell ⟨X, 0, none⟩ (.slice (some ⟨w2.heap.size, 0, none⟩) 1 1)) 68 4 1 #[.int .i64 q.l, .int .i64 q.b, .int .i64 q.r, .int .i64 q.t] (rCells [q]) rfl (by rfl) (by unfold maxLen; omega)
      simpa using h)
    have Htc : Hid (TapeAt wc g r1.tail.tail.tail.tail) := Lib.hid (by rw [hwc]; exact (Ht2.out.setCell (by show g < X; omega) _).alloc _)
    have Hgc : Hid (w.grownBy wc (some g)) := Lib.hid (by rw [hwc]; exact only_alloc (only_setCell (only_trans Hgb.out Hg2.out) (.inr (by show w.heap.size ≤ X; omega)) _) _)
    have hlow := own_base Ho.out
    have xc := cell_of_row wc X 0 _ _ _ hrX
    have cr := cell_of_row wc w.heap.size 0 _ _ _ hr
    have fr := frozen_of_row wc w.heap.size 0 _ _ hr
    have cs : (wc.setCell ⟨w.heap.size, 0, none⟩ (.slice (some ⟨w2.heap.size, 0, none⟩) 1 1)).cell? ⟨w.heap.size, 0, none⟩ = some (.slice (some ⟨w2.heap.size, 0, none⟩) 1 1) := by
      rw [cell_of_row _ w.heap.size 0 _ _ _ (heap_setCell_same wc w.heap.size 0 _ _ _ hr)]
      simp
    have hwq : w.heap.size < w2.heap.size := by omega
    clear hr hrX hwc xc2 xf2
    go_wp2
    refine bodyPost_ret (v := .agg #[.slice (some ⟨w2.heap.size, 0, none⟩) 1 1]) (by simp [results, Tryz.results45, go_sem, *]) rfl ?_
    refine ⟨⟨some ⟨w2.heap.size, 0, none⟩, 1⟩, [q], r1.tail.tail.tail.tail, rfl, ?_, Htc.out.setCell (by show g < w.heap.size; exact hlt) _, only_setCell Hgc.out (.inr (Nat.le_refl _)) _, Hqo.out⟩
    exact own_other (own_rebase Ho.out (by omega)) (only_setCell (g := w.heap.size) (World.grownBy.refl _ _) (.inl rfl) _) (fun k hk e => by injection e with e; have := hlow k hk; omega)
  · have h0' : ¬ (a.length : Int) = 0 := by omega
    have h0d : decide ((a.length : Int) = 0) = false := decide_eq_false h0'
    have hr := HG.out
    have cr := cell_of_row wb w.heap.size 0 _ _ _ hr
    have fr := frozen_of_row wb w.heap.size 0 _ _ hr
    have cs : (wb.setCell ⟨w.heap.size, 0, none⟩ (.slice A a.length c)).cell? ⟨w.heap.size, 0, none⟩ = some (.slice A a.length c) := by
      rw [cell_of_row _ w.heap.size 0 _ _ _ (heap_setCell_same wb w.heap.size 0 _ _ _ hr)]
      simp
    clear hr
    go_wp2
    refine bodyPost_ret (v := .agg #[.slice A a.length c]) (by simp [results, Tryz.results45, go_sem, *]) rfl ?_
    refine ⟨⟨A, c⟩, a, r1, rfl, ?_, Htb.out.setCell (by show g < w.heap.size; exact hlt) _, only_setCell Hgb.out (.inr (Nat.le_refl _)) _, Hok.out⟩
    exact own_other (own_rebase Hownb.out (by omega)) (only_setCell (g := w.heap.size) (World.grownBy.refl _ _) (.inl rfl) _) (fun k hk e => by injection e with e; have := Hlow.out k hk; omega)
theorem ft5 {w : World} {g : Nat} {t : TypeId} {a b c d e x y z u v : Value} (h : w.heap[g]? = some (.cells #[a, b, c, d, e] t (0, 0))) : (((((w.setCell ⟨g, 0, none⟩ x).setCell ⟨g, 1, none⟩ y).setCell ⟨g, 2, none⟩ z).setCell ⟨g, 3, none⟩ u).setCell ⟨g, 4, none⟩ v).heap[g]? = some (.cells #[x, y, z, u, v] t (0, 0)) := by
  have h1 := heap_setCell_same w g 0 _ _ x h
  have h2 := heap_setCell_same _ g 1 _ _ y h1
  have h3 := heap_setCell_same _ g 2 _ _ z h2
  have h4 := heap_setCell_same _ g 3 _ _ u h3
  have h5 := heap_setCell_same _ g 4 _ _ v h4
  rw [h5]
  simp
theorem ft5_only {w : World} {g : Nat} {x y z u v : Value} : w.grownBy (((((w.setCell ⟨g, 0, none⟩ x).setCell ⟨g, 1, none⟩ y).setCell ⟨g, 2, none⟩ z).setCell ⟨g, 3, none⟩ u).setCell ⟨g, 4, none⟩ v) (some g) :=
  only_setCell (only_setCell (only_setCell (only_setCell (only_setCell (World.grownBy.refl _ (some g)) (.inl rfl) _) (.inl rfl) _) (.inl rfl) _) (.inl rfl) _) (.inl rfl) _
theorem SlR.ofR {w : World} {base c : Nat} {A : Option Addr} {l : List R4} (h : w.ownsRow base 68 4 (.slice A l.length c) l.length (rCells l)) : SlR w A l.length c l := by
  obtain ⟨A2, c2, e, h4⟩ := SlR.of_own h
  injection e with e1 e2 e3
  rw [e1, e3]
  exact h4
end Go.Proofs.YtfmkmhhghmdakaaGreatDoor
