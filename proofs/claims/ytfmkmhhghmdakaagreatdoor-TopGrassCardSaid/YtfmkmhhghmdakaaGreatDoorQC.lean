/- A region that draws its order, in a fenced walk (in a round too): its head walked in the plain calculus under a condition, its tail in the fence. No function of the program is met here. -/
import Derived.Test.YtfmkmhhghmdakaaGreatDoorSh
import Derived.Lib.OwnBridge
import Derived.Sort.OwnSortedInts
import Derived.Outline
import Derived.Lib.AppendZerosOnto
import Derived.StillTail
import Derived.RangeFuncCalls
import Derived.OrdersIn
import Derived.Test.YtfmkmhhghmdakaaGreatDoorQA
import Derived.Test.YtfmkmhhghmdakaaGreatDoorQB
namespace Go.Proofs.YtfmkmhhghmdakaaGreatDoor
open Go.RowKit
set_option linter.unusedVariables false
set_option linter.unusedSimpArgs false

theorem Tryz.infoBand : (Tryz.prog.info? 259).map (fun i => (i.zero, i.size, i.bytes)) = some (some (.agg #[.int .i64 0, .int .i64 0, .slice none 0 0]), 3, 40) := by kernel_rfl
/-- Bands in a row of one's own; the spans of each in another one. -/
def OwnB (w : World) (base : Nat) (v : Value) (bs : List (Sg (List (Sg Unit)))) : Prop :=
  ∃ vs : List Value, vs.length = bs.length ∧ w.ownsRow base 259 3 v bs.length (bCells bs vs) ∧ ∀ i (h : i < bs.length) (h' : i < vs.length), w.ownsRow base 256 2 vs[i] bs[i].2.2.length (sCells bs[i].2.2) ∧ ∀ k, vs[i].ownBlock = some k → v.ownBlock ≠ some k
theorem OwnB.below {w w' : World} {base : Nat} {v : Value} {bs : List (Sg (List (Sg Unit)))} (h : OwnB w base v bs) (hb : Below w.heap.size w w') : OwnB w' base v bs := by
  obtain ⟨vs, h1, h2, h3⟩ := h
  exact ⟨vs, h1, ownsRow_below h2 hb, fun i a b => ⟨ownsRow_below (h3 i a b).1 hb, (h3 i a b).2⟩⟩

theorem box3 {w : World} {g : Nat} {t : TypeId} {a b c x y z : Value} (h : w.heap[g]? = some (.cells #[a, b, c] t (0, 0))) : (((w.setCell ⟨g, 0, none⟩ x).setCell ⟨g, 1, none⟩ y).setCell ⟨g, 2, none⟩ z).heap[g]? = some (.cells #[x, y, z] t (0, 0)) := by
  have h1 := heap_setCell_same w g 0 _ _ x h
  have h2 := heap_setCell_same _ g 1 _ _ y h1
  have h3 := heap_setCell_same _ g 2 _ _ z h2
  rw [h3]
  simp
theorem box3_own {w : World} {g : Nat} {x y z : Value} {base : Nat} {e : TypeId} {size n : Nat} {v : Value} {xs : List Value} (h : w.ownsRow base e size v n xs) (hk : ∀ k, v.ownBlock = some k → ¬ k = g) : (((w.setCell ⟨g, 0, none⟩ x).setCell ⟨g, 1, none⟩ y).setCell ⟨g, 2, none⟩ z).ownsRow base e size v n xs :=
  own_other h (only_setCell (only_setCell (only_setCell (World.grownBy.refl _ (some g)) (.inl rfl) _) (.inl rfl) _) (.inl rfl) _) (fun k h1 e => hk k h1 (by injection e with e; exact e.symm))
theorem box3_below {w0 w : World} {g : Nat} {x y z : Value} (h : Below g w0 w) : Below g w0 (((w.setCell ⟨g, 0, none⟩ x).setCell ⟨g, 1, none⟩ y).setCell ⟨g, 2, none⟩ z) :=
  ((h.setCell (Nat.le_refl _) _).setCell (Nat.le_refl _) _).setCell (Nat.le_refl _) _

theorem OwnB.push {w4 w5 : World} {base : Nat} {v v5 : Value} {acc : List (Sg (List (Sg Unit)))} {vs : List Value} {b : Sg (List (Sg Unit))} {s : Value}
    (hvl : vs.length = acc.length) (hvs : ∀ i (h : i < acc.length) (h' : i < vs.length), w4.ownsRow base 256 2 vs[i] acc[i].2.2.length (sCells acc[i].2.2) ∧ ∀ k, vs[i].ownBlock = some k → v.ownBlock ≠ some k)
    (hs : w4.ownsRow base 256 2 s b.2.2.length (sCells b.2.2)) (hsv : ∀ k, s.ownBlock = some k → v.ownBlock ≠ some k)
    (hown5 : w5.ownsRow base 259 3 v5 (acc.length + 1) (bCells acc vs ++ [.int .i64 b.1, .int .i64 b.2.1, s])) (hg5 : w4.grownBy w5 v.ownBlock) (hat : v5.ownBlock = v.ownBlock ∨ v5.ownBlock = some w4.heap.size) : OwnB w5 base v5 (acc ++ [b]) := by
  have key : ∀ (u : Value) (l : List (Sg Unit)), w4.ownsRow base 256 2 u l.length (sCells l) → (∀ k, u.ownBlock = some k → v.ownBlock ≠ some k) → w5.ownsRow base 256 2 u l.length (sCells l) ∧ ∀ k, u.ownBlock = some k → v5.ownBlock ≠ some k := by
    intro u l h1 h2
    refine ⟨own_other h1 hg5 h2, fun k hk e => ?_⟩
    rcases hat with h | h
    · rw [h] at e; exact h2 k hk e
    · rw [h] at e
      injection e with e
      have := (h1.lt k hk).2
      omega
  refine ⟨vs ++ [s], by simp [hvl], by rw [bCells_snoc _ _ hvl, List.length_append]; exact hown5, fun i h h' => ?_⟩
  by_cases hi : i < acc.length
  · rw [List.getElem_append_left hi, List.getElem_append_left (show i < vs.length by omega)]
    exact key _ _ (hvs i hi (by omega)).1 (hvs i hi (by omega)).2
  · have e1 : i = acc.length := by simp at h; omega
    have e2 : (acc ++ [b])[i] = b := by simp [e1]
    have e3 : (vs ++ [s])[i] = s := by
      have : i = vs.length := by omega
      simp [this]
    rw [e2, e3]
    exact key s b.2.2 hs hsv

theorem OwnB.high {w : World} {base g nb vc p : Nat} {acc a0 : List (Sg (List (Sg Unit)))} {q : Sg (List (Sg Unit))} {vs : List Value} (hsn : acc = a0 ++ [q]) (hp : a0.length = p) (hnb : acc.length = nb) (hvl : vs.length = acc.length)
    (hvo : w.ownsRow base 259 3 (.slice (some ⟨g, 0, none⟩) nb vc) nb (bCells acc vs)) (hvs : ∀ i (h : i < acc.length) (h' : i < vs.length), w.ownsRow base 256 2 vs[i] acc[i].2.2.length (sCells acc[i].2.2) ∧ ∀ k, vs[i].ownBlock = some k → (Value.slice (some ⟨g, 0, none⟩) nb vc).ownBlock ≠ some k) (z : Int) :
    OwnB (w.setCell ⟨g, p * 3 + 1, none⟩ (.int .i64 z)) base (.slice (some ⟨g, 0, none⟩) nb vc) (a0 ++ [(q.1, z, q.2.2)]) := by
  have hl : (a0 ++ [(q.1, z, q.2.2)]).length = acc.length := by rw [hsn]; simp
  have hpl : p < acc.length := by rw [hsn]; simp; omega
  have haq : acc[p] = q := by
    have h1 : acc[p]? = some q := by rw [hsn, List.getElem?_append_right (by omega), hp]; simp
    rw [List.getElem?_eq_getElem hpl] at h1
    exact Option.some.inj h1
  have hset : a0 ++ [(q.1, z, q.2.2)] = acc.set p (acc[p].1, z, acc[p].2.2) := by
    rw [haq, hsn, List.set_append_right _ _ (by omega), hp, Nat.sub_self]
    rfl
  refine ⟨vs, by rw [hl, hvl], ?_, fun i h h' => ?_⟩
  · rw [hl, hnb, hset, bCells_setH acc vs hvl p hpl (by omega)]
    exact own_setN hvo _ _
  · have hi : i < acc.length := by omega
    obtain ⟨h1, h2⟩ := hvs i hi h'
    have e : (a0 ++ [(q.1, z, q.2.2)])[i].2.2 = acc[i].2.2 := by
      have e1 : ∀ (l : List (Sg (List (Sg Unit)))) (hx : a0 ++ [(q.1, z, q.2.2)] = l) (hi' : i < l.length), (a0 ++ [(q.1, z, q.2.2)])[i].2.2 = l[i].2.2 := by
        intro l hx hi'; subst hx; rfl
      rw [e1 _ hset (by simpa using hi), List.getElem_set]
      split
      · rename_i h3; subst h3; rfl
      · rfl
    rw [e]
    exact ⟨own_other h1 (only_setCell (World.grownBy.refl _ (some g)) (.inl rfl) _) (fun k hk e => h2 k hk e), h2⟩

set_option maxHeartbeats 16000000 in
set_option maxRecDepth 100000 in
theorem build_any (f : Nat) (lb : Array Value) (row : Int → List (Sg Unit)) (m : Nat) (C : Option Addr) (n c : Nat) (cuts : List Int) (w : World) (hC : SlI w C n c cuts) (hn1 : n ≤ 100000) (hm : ∀ y, (row y).length ≤ m) (hm1 : m ≤ 100000) (hnm : n * m ≤ 10000000)
    (eg : ∀ args w, (callFunc f args).run Tryz.prog w = .ok (.enter f args) w)
    (HR : ∀ W y, Below w.heap.size w W → Calls Tryz.prog f (#[.int .i64 y] ++ lb) W fun e w' => ∃ v, e = .returned v ∧ w'.ownsRow W.heap.size 256 2 v (row y).length (sCells (row y)) ∧ Below W.heap.size W w') :
    Calls Tryz.prog 136 #[.slice C n c, .func (.func f) #[] lb] w fun e w' => ∃ v, e = .returned v ∧ w'.ownsRow w.heap.size 68 4 v (buildP row cuts).length (rCells (buildP row cuts)) ∧ Below w.heap.size w w' := by
  obtain ⟨i0, hi, hz0, hz1, hz2⟩ := info_parts Tryz.infoBand
  have hn := hC.len
  have HC := Lib.hid hC
  have HRh := Lib.hid HR
  have Hm := Lib.hid hm
  clear hC HR hm
  go_enter Tryz.func136, Tryz.ntmps136
  go_upto_region 3 with fail
  go_loopw [5, 6, 7, 8] (fun bv iv _ _ wr => ∃ (j : Nat) (acc : List (Sg (List (Sg Unit)))), iv = .int .i64 ((j : Int) + 1) ∧ j ≤ n ∧ OwnB wr w.heap.size bv acc ∧ Below w.heap.size w wr ∧ Hid (foldC (fun y => some (row y)) (cuts.drop j) acc = foldC (fun y => some (row y)) cuts []) ∧ Hid (acc.length ≤ j ∧ ∀ s ∈ acc, s.2.2.length ≤ m)) (fun _ iv _ _ _ => n + 1 - (intOf iv).toNat)
  case atStart => exact ⟨0, [], rfl, Nat.zero_le _, ⟨[], rfl, World.ownsRow_nil _ _ _ _, fun i h => absurd h (Nat.not_lt_zero _)⟩, Below.refl _ _, Lib.hid rfl, Lib.hid ⟨Nat.le_refl _, by simp⟩⟩
  case round =>
    obtain ⟨j, acc, rfl, hjn, hown, hbw, Hrun, Hacc⟩ := hrel
    have hsw := hbw.size
    have Hown := Lib.hid hown
    have Hbw := Lib.hid hbw
    clear hown
    by_cases hj : j + 1 < n
    · have hj1 : j < cuts.length := by omega
      have hj2 : j + 1 < cuts.length := by omega
      obtain ⟨xb, xo, hCe, hxb, cxa⟩ := HC.out.at j hj1
      obtain ⟨xb', xo', hCe', _, cxb⟩ := HC.out.at (j + 1) hj2
      rw [hCe] at hCe'
      injection hCe' with hCe'
      injection hCe' with e1 e2 _
      subst e1 e2 hCe
      have Hdrop := Lib.hid (foldC_drop (fun y => some (row y)) cuts j hj2 acc)
      generalize cuts[j] = x at *
      generalize cuts[j + 1] = x' at *
      have Hcx : Hid (∀ W, Below w.heap.size w W → W.cell? ⟨xb, xo + j, none⟩ = some (.int .i64 x) ∧ W.cell? ⟨xb, xo + (j + 1), none⟩ = some (.int .i64 x')) := Lib.hid (fun W hW => ⟨(hW.cell (p := ⟨xb, xo + j, none⟩) hxb).trans cxa, (hW.cell (p := ⟨xb, xo + (j + 1), none⟩) hxb).trans cxb⟩)
      obtain ⟨cx0, cx1⟩ := Hcx.out wr hbw
      have HRx := Lib.hid (fun W (hW : Below wr.heap.size wr W) => HRh.out W x (Hbw.out.trans (hW.mono hsw)))
      have hlrow := Hm.out x
      generalize row x = rx at *
      have hj' : (j : Int) + 1 < (n : Int) := by omega
      have hwj : IntKind.i64.wrap ((j : Int) + 1 - 1) = (j : Int) := by rw [IntWalk.i64_in _ (by omega)]; omega
      have hwj2 : IntKind.i64.wrap (j : Int) = (j : Int) := IntWalk.i64_in _ (by omega)
      have hj0 : (0 : Int) ≤ (j : Int) := by omega
      have hj01 : (0 : Int) ≤ (j : Int) + 1 := by omega
      have hjl : (j : Int) < (n : Int) := by omega
      have hxbr : xb < wr.heap.size := by omega
      clear cxa cxb hbw
      go_upto_region 5 with fail
      go_cut [7] (fun s7 wx => ∃ (B : Nat) (Rd : Option Addr) (rc1 : Nat), s7 = .pointer (some ⟨B, 0, none⟩) ∧ wx.heap[B]? = some (.cells #[.int .i64 x, .int .i64 x', .slice Rd rx.length rc1] 259 (0, 0)) ∧ wr.heap.size ≤ B ∧ wx.ownsRow wr.heap.size 256 2 (.slice Rd rx.length rc1) rx.length (sCells rx) ∧ Below wr.heap.size wr wx ∧ ∀ k, (Value.slice Rd rx.length rc1).ownBlock = some k → k ≠ B)
      case first =>
        go_region_held3 (fun w' => w'.cell? ⟨xb, xo + j, none⟩ = some (.int .i64 x) ∧ w'.cell? ⟨xb, xo + (j + 1), none⟩ = some (.int .i64 x'))
          (first | go_keep | ((repeat' apply And.intro) <;> go_keep) | ((repeat' apply And.intro) <;> (rw [World.cell?_setCell_other _ _ _ _ (by intro e; injection e; omega), World.cell?_setCell_other _ _ _ _ (by intro e; injection e; omega), World.cell?_setCell_other _ _ _ _ (by intro e; injection e; omega)]; go_keep)))
          (first
            | (go_at_fn f; refine (HRx.out _ (by repeat' (first | with_reducible exact Below.refl _ _ | with_reducible refine below_drewN ?_ _ | with_reducible refine Below.drew ?_ | with_reducible refine Below.alloc ?_ ?_ _ | with_reducible refine Below.setCell ?_ ?_ _ | with_reducible refine Below.trans ?_ (Below.mono (by with_reducible assumption) ?_) | (simp; done) | (simp; omega) | omega))).mono ?_; rintro e w1 ⟨v1, rfl, hv1, hb1⟩; obtain ⟨Rd, rc1, rfl, _, _, _⟩ := own_slice hv1; have Hv1 := Lib.hid hv1; have Hb1 : Hid (Below wr.heap.size wr w1) := Lib.hid (show Below wr.heap.size wr w1 from (by have hbq := hb1; exact (by repeat' (first | with_reducible exact Below.refl _ _ | with_reducible assumption | with_reducible refine below_drewN ?_ _ | with_reducible refine Below.drew ?_ | with_reducible refine Below.alloc ?_ ?_ _ | with_reducible refine Below.setCell ?_ ?_ _ | with_reducible refine Below.trans ?_ (Below.mono (by with_reducible assumption) ?_) | with_reducible refine below_only ?_ (by with_reducible assumption) ?_ ?_ | (simp; done) | (simp; omega) | omega)))); have hs1 : wr.heap.size ≤ w1.heap.size := Hb1.out.size; obtain ⟨cx01, cx11⟩ := Hcx.out w1 (Hbw.out.trans (Hb1.out.mono hsw)); first | (have hbx : w1.heap[wr.heap.size]? = some (.cells #[.int .i64 0, .int .i64 0, .slice none 0 0] 259 (0, 0)) := (hb1.block wr.heap.size (by simp)).trans (heap_alloc_new wr _); have Hbx := Lib.hid hbx; have z0 := cell_of_row w1 wr.heap.size 0 _ _ _ hbx; have z1 := cell_of_row w1 wr.heap.size 1 _ _ _ hbx; have z2 := cell_of_row w1 wr.heap.size 2 _ _ _ hbx; have g0 := frozen_of_row w1 wr.heap.size 0 _ _ hbx; have g1 := frozen_of_row w1 wr.heap.size 1 _ _ hbx; have g2 := frozen_of_row w1 wr.heap.size 2 _ _ hbx; clear hbx hv1 hb1) | (have hbx := heap_alloc_new w1 (.cells #[.int .i64 0, .int .i64 0, .slice none 0 0] 259); have Hbx := Lib.hid hbx; have z0 := cell_of_row _ w1.heap.size 0 _ _ _ hbx; have z1 := cell_of_row _ w1.heap.size 1 _ _ _ hbx; have z2 := cell_of_row _ w1.heap.size 2 _ _ _ hbx; have g0 := frozen_of_row _ w1.heap.size 0 _ _ hbx; have g1 := frozen_of_row _ w1.heap.size 1 _ _ hbx; have g2 := frozen_of_row _ w1.heap.size 2 _ _ hbx; clear hbx hv1 hb1))
            | fail)
        all_goals go_wp2
        all_goals go_meet
        case rel =>
          exact ⟨w1.heap.size, Rd, rc1, rfl, heap_alloc_new w1 _, hs1, (own_rebase Hv1.out (by first | exact Nat.le_refl _ | (simp; done))).alloc _, Hb1.out.alloc hs1 _, fun k hk e => own_fresh Hv1.out (by rw [hk, e])⟩
        case rel =>
          have hbase : ∀ k, (Value.slice Rd rx.length rc1).ownBlock = some k → wr.heap.size + 1 ≤ k := fun k hk => Nat.le_trans (Nat.le_of_eq (World.size_alloc wr _).symm) (own_base Hv1.out k hk)
          exact ⟨wr.heap.size, Rd, rc1, rfl, box3 Hbx.out, Nat.le_refl _, box3_own (own_rebase Hv1.out (Nat.le_trans (Nat.le_succ _) (Nat.le_of_eq (World.size_alloc wr _).symm))) (fun k hk e => Nat.lt_irrefl _ (e ▸ hbase k hk)), box3_below Hb1.out, fun k hk e => Nat.lt_irrefl _ (e ▸ hbase k hk)⟩
      case rest =>
        obtain ⟨wx, rfl⟩ : ∃ wx : World, wx = wc := ⟨_, rfl⟩
        obtain ⟨B, Rd, rc1, rfl, hbox, hBw, hrown, hbx, hne⟩ := hcut
        have hsx := hbx.size
        have Hbx := Lib.hid hbx
        have Hbox := Lib.hid hbox
        have Hrown := Lib.hid hrown
        have Hne := Lib.hid hne
        have hBlt : B < wx.heap.size := by
          rcases Nat.lt_or_ge B wx.heap.size with h | h
          · exact h
          · rw [Array.getElem?_eq_none h] at hbox; cases hbox
        have hown1 := Hown.out.below hbx
        obtain ⟨vs, hvl, hvo, hvs⟩ := hown1
        obtain ⟨Vd, vc, rfl, _, _, _⟩ := own_slice hvo
        have Hvlow : Hid (∀ k, (Value.slice Vd acc.length vc).ownBlock = some k → k < wr.heap.size) := Lib.hid (fun k hk => by obtain ⟨_, _, ho, _⟩ := Hown.out; exact (ho.lt k hk).2)
        have Hvo := Lib.hid hvo
        have Hvs := Lib.hid hvs
        have Hvl := Lib.hid hvl
        have b0 := cell_of_row wx B 0 _ _ _ hbox
        have b1 := cell_of_row wx B 1 _ _ _ hbox
        have b2 := cell_of_row wx B 2 _ _ _ hbox
        have hal : acc.length ≤ 100000 := by have := Hacc.out.1; omega
        have HRs : Hid (SlS wx (.slice Rd rx.length rc1) rx) := Lib.hid (SlS.of_own hrown)
        clear hbox hbx hrown hne hvl hvo hvs cx0 cx1
        go_upto_region 7 with fail
        rcases list_snoc acc with hsn | ⟨a0, q, hsn⟩
        · have Hnew : Hid (stepO acc x x' (some rx) = acc ++ [(x, x', rx)]) := Lib.hid (by rw [hsn]; rfl)
          have hl0 : acc.length = 0 := by rw [hsn]; rfl
          have Hlen := Lib.hid hl0
          rw [hl0] at Hvo
          rw [hl0]
          clear hsn hl0
          refine wp_region_below wx.heap.size (Nat.le_refl _) (by kernel_rfl) (by kernel_rfl) ?_
          intro I _ F hFc hFb hFs
          repeat (go_big_quiet_step (fail))
          refine wpQuiet_nil ?_
          rintro _ ⟨iq, rfl⟩
          generalize hw4 : F iq = w4
          have Hb4 : Hid (Below wx.heap.size wx w4) := Lib.hid (by rw [← hw4]; exact hFb iq)
          clear hw4 hFc hFb hFs
          have hs4 := Hb4.out.size
          have b04 := (Hb4.out.cell (p := ⟨B, 0, none⟩) hBlt).trans b0
          have b14 := (Hb4.out.cell (p := ⟨B, 1, none⟩) hBlt).trans b1
          have b24 := (Hb4.out.cell (p := ⟨B, 2, none⟩) hBlt).trans b2
          have Hvo4 : Hid (w4.ownsRow w.heap.size 259 3 (.slice Vd 0 vc) 0 (bCells acc vs)) := Lib.hid (ownsRow_below Hvo.out Hb4.out)
          have hsw4 : w.heap.size ≤ w4.heap.size := by omega
          clear b0 b1 b2
          go_upto_region 9 with fail
          go_wp2_with (first
            | (at_builtin
               refine wpList_append_any _ rfl (.tmp 65) (.tmp 67) _ rfl w.heap.size 259 i0 _ 3 40 Tryz.underlying257 hi hz0 hz1 hz2 rfl (by omega) _ 0 (bCells acc vs) rfl
                 (Hvo4.out.alloc _) _ _ 1 1 [.int .i64 x, .int .i64 x', .slice Rd rx.length rc1] rfl ⟨rfl, fun _ => ⟨_, rfl, Nat.lt_succ_self _, fun j u hu => (by exact news_any _ _ _ j u hu)⟩⟩ (by simp [Value.oneCell']) (by simp only [maxLen]; omega) (by omega) (by simp; omega) ?_
               intro v5 w5 hown5 hg5 hat5)
            | fail)
          go_roundw
          case rel =>
            have hlowv : ∀ k, (Value.slice Vd 0 vc).ownBlock = some k → k < wr.heap.size := fun k hk => Hvlow.out k (by rw [Hlen.out]; exact hk)
            refine ⟨j + 1, acc ++ [(x, x', rx)], by go_num, by omega, ?_, ?_, Lib.hid (by rw [← Hrun.out, Hdrop.out, Hnew.out]), Lib.hid ⟨by have := Hacc.out.1; simp; omega, fun s hs => ?_⟩⟩
            · refine OwnB.push (v := .slice Vd 0 vc) (s := .slice Rd rx.length rc1) (b := (x, x', rx)) Hvl.out (fun i h h' => ⟨(ownsRow_below (Hvs.out i h h').1 Hb4.out).alloc _, by have h9 := (Hvs.out i h h').2; rw [Hlen.out] at h9; exact h9⟩) ((ownsRow_below (own_rebase Hrown.out hsw) Hb4.out).alloc _) (fun k hk e => ?_) (by rw [Hlen.out]; exact hown5) hg5 hat5
              have h1 := hlowv k e
              have h2 := own_base Hrown.out k hk
              omega
            · exact Below.grown ((((Hbw.out.trans (Hbx.out.mono hsw)).trans (Hb4.out.mono (by omega)))).alloc hsw4 _) hg5 (by simp; omega) (own_base Hvo4.out)
            · rcases List.mem_append.1 hs with hs | hs
              · exact Hacc.out.2 s hs
              · simp at hs; subst hs; exact hlrow
          case measure => simp [intOf]; omega
        · have hl0 : acc.length = a0.length + 1 := by rw [hsn]; simp
          obtain ⟨nb, hnb⟩ : ∃ nb, acc.length = nb := ⟨_, rfl⟩
          obtain ⟨p, hp⟩ : ∃ p, a0.length = p := ⟨_, rfl⟩
          have hn1 : nb = p + 1 := by omega
          have hpl : p < acc.length := by omega
          have hpv : p < vs.length := by have := Hvl.out; omega
          have haq : acc[p] = q := by
            have h1 : acc[p]? = some q := by rw [hsn, List.getElem?_append_right (by omega), hp]; simp
            rw [List.getElem?_eq_getElem hpl] at h1
            exact Option.some.inj h1
          have Hnb := Lib.hid hnb
          have Hn1 := Lib.hid hn1
          have Hp := Lib.hid hp
          have Hsn := Lib.hid hsn
          obtain ⟨hspo, hspn⟩ := Hvs.out p hpl hpv
          rw [haq] at hspo
          obtain ⟨Pd, pc, hPe, _, _, _⟩ := own_slice hspo
          have HPs : Hid (SlS wx vs[p] q.2.2) := Lib.hid (SlS.of_own hspo)
          obtain ⟨i1, i2, i3⟩ := bCells_at acc vs Hvl.out p hpl hpv
          rw [haq] at i1 i2
          rw [hPe] at i3 HPs
          have Hvo1 : Hid (wx.ownsRow w.heap.size 259 3 (.slice Vd nb vc) nb (bCells acc vs)) := Lib.hid (by have := Hvo.out; rw [hnb] at this; exact this)
          obtain ⟨g, vc', hVe, hgb, hgl, _, _, hcells, hfr⟩ := own_at Hvo1.out (by omega)
          injection hVe with hVe _ e2
          subst hVe e2
          have d1 := hcells _ _ i2
          have d2 := hcells _ _ i3
          have hfg := hfr (p * 3 + 1)
          have hwn : IntKind.i64.wrap ((nb : Int) - 1) = (p : Int) := by rw [IntWalk.i64_in _ (by omega)]; omega
          have hnp : (p : Int) < (nb : Int) := by omega
          have hn00 : (0 : Int) < (nb : Int) := by omega
          have hp00 : (0 : Int) ≤ (p : Int) := by omega
          have hn0N : 0 < nb := by omega
          have hnpN : p < nb := by omega
          have hdn : decide (0 < nb) = true := decide_eq_true hn0N
          have hnb9 : nb ≤ 100000 := by omega
          rw [hnb]
          clear hsn hl0 hnb hp hn1 hcells hfr i1 i2 i3 haq
          have Heq := Lib.hid (fun W (hW : Below wx.heap.size wx W) => equalS_any (.slice Pd q.2.2.length pc) (.slice Rd rx.length rc1) q.2.2 rx W (HPs.out.below hW) (HRs.out.below hW))
          by_cases hqx : q.2.1 = x
          · by_cases hqr : q.2.2 = rx
            · have Hnew : Hid (stepO acc x x' (some rx) = a0 ++ [(q.1, x', q.2.2)]) := Lib.hid (by rw [Hsn.out]; simp [stepO, hqr, hqx])
              refine wp_region_below wx.heap.size (Nat.le_refl _) (by kernel_rfl) (by kernel_rfl) ?_
              intro I _ F hFc hFb hFs
              have hqd : (q.2.1 == x) = true := by simp [hqx]
              have hrd : decide (q.2.2 = rx) = true := decide_eq_true hqr
              obtain ⟨rs, hrs⟩ : ∃ rs : Bool, decide (q.2.2 = rx) = rs := ⟨_, rfl⟩
              rw [hrs] at Heq hrd
              subst hrd
              clear hrs
              have Hqx := Lib.hid hqx
              have Hqr := Lib.hid hqr
              clear hqx hqr
              have k1 := fun i => (hFc i g (p * 3 + 1) hgl).trans d1
              have k2 := fun i => (hFc i B 0 hBlt).trans b0
              have k3 := fun i => (hFc i g (p * 3 + 2) hgl).trans d2
              have k4 := fun i => (hFc i B 2 hBlt).trans b2
              repeat (go_big_quiet_step ((first
                | (go_at_call 219; exact class_call hFb hFs (Nat.le_refl _) (Heq.out _ (hFb _))))))
              refine wpQuiet_nil ?_
              rintro _ ⟨iq, rfl⟩
              generalize hw4 : F iq = w4
              have Hb4 : Hid (Below wx.heap.size wx w4) := Lib.hid (by rw [← hw4]; exact hFb iq)
              clear hw4 hFc hFb hFs k1 k2 k3 k4
              have hs4 := Hb4.out.size
              have b14 := (Hb4.out.cell (p := ⟨B, 1, none⟩) hBlt).trans b1
              have d14 := (Hb4.out.cell (p := ⟨g, p * 3 + 1, none⟩) hgl).trans d1
              have fr4 := (Hb4.out.frozen (p := ⟨g, p * 3 + 1, none⟩) hgl).trans hfg
              clear b0 b1 b2 d1 d2 hfg
              have Hb5 := Hb4
              have hsw5 : w.heap.size ≤ w4.heap.size := by omega
              go_wp2
              go_roundw
              case rel =>
                refine ⟨j + 1, a0 ++ [(q.1, x', q.2.2)], by go_num, by omega, ?_, ?_, Lib.hid (by rw [← Hrun.out, Hdrop.out, Hnew.out]), Lib.hid ⟨by have := Hacc.out.1; have := Hn1.out; have := Hp.out; have := Hnb.out; simp; omega, fun s hs => ?_⟩⟩
                · exact OwnB.high Hsn.out Hp.out Hnb.out Hvl.out (ownsRow_below Hvo1.out Hb5.out) (fun i h h' => ⟨ownsRow_below (Hvs.out i h h').1 Hb5.out, by have h9 := (Hvs.out i h h').2; rw [Hnb.out] at h9; exact h9⟩) x'
                · exact ((Hbw.out.trans (Hbx.out.mono hsw)).trans (Hb5.out.mono (by omega))).setCell hgb _
                · rcases List.mem_append.1 hs with hs | hs
                  · exact Hacc.out.2 s (by rw [Hsn.out]; simp [hs])
                  · simp at hs; subst hs; exact Hacc.out.2 q (by rw [Hsn.out]; simp)
              case measure => simp [intOf]; omega
            · have Hnew : Hid (stepO acc x x' (some rx) = acc ++ [(x, x', rx)]) := Lib.hid (by rw [Hsn.out]; simp [stepO, hqr])
              refine wp_region_below wx.heap.size (Nat.le_refl _) (by kernel_rfl) (by kernel_rfl) ?_
              intro I _ F hFc hFb hFs
              have hqd : (q.2.1 == x) = true := by simp [hqx]
              have hrd : decide (q.2.2 = rx) = false := decide_eq_false hqr
              obtain ⟨rs, hrs⟩ : ∃ rs : Bool, decide (q.2.2 = rx) = rs := ⟨_, rfl⟩
              rw [hrs] at Heq hrd
              subst hrd
              clear hrs
              have k1 := fun i => (hFc i g (p * 3 + 1) hgl).trans d1
              have k2 := fun i => (hFc i B 0 hBlt).trans b0
              have k3 := fun i => (hFc i g (p * 3 + 2) hgl).trans d2
              have k4 := fun i => (hFc i B 2 hBlt).trans b2
              repeat (go_big_quiet_step ((first
                | (go_at_call 219; exact class_call hFb hFs (Nat.le_refl _) (Heq.out _ (hFb _))))))
              refine wpQuiet_nil ?_
              rintro _ ⟨iq, rfl⟩
              generalize hw4 : F iq = w4
              have Hb4 : Hid (Below wx.heap.size wx w4) := Lib.hid (by rw [← hw4]; exact hFb iq)
              clear hw4 hFc hFb hFs k1 k2 k3 k4
              have hs4 := Hb4.out.size
              have b04 := (Hb4.out.cell (p := ⟨B, 0, none⟩) hBlt).trans b0
              have b14 := (Hb4.out.cell (p := ⟨B, 1, none⟩) hBlt).trans b1
              have b24 := (Hb4.out.cell (p := ⟨B, 2, none⟩) hBlt).trans b2
              have Hvo4 : Hid (w4.ownsRow w.heap.size 259 3 (.slice (some ⟨g, 0, none⟩) nb vc) nb (bCells acc vs)) := Lib.hid (ownsRow_below Hvo1.out Hb4.out)
              have hsw4 : w.heap.size ≤ w4.heap.size := by omega
              clear b0 b1 b2
              go_upto_region 9 with fail
              go_wp2_with (first
                | (at_builtin
                   refine wpList_append_any _ rfl (.tmp 65) (.tmp 67) _ rfl w.heap.size 259 i0 _ 3 40 Tryz.underlying257 hi hz0 hz1 hz2 rfl (by omega) _ nb (bCells acc vs) rfl
                     (Hvo4.out.alloc _) _ _ 1 1 [.int .i64 x, .int .i64 x', .slice Rd rx.length rc1] rfl ⟨rfl, fun _ => ⟨_, rfl, Nat.lt_succ_self _, fun j u hu => (by exact news_any _ _ _ j u hu)⟩⟩ (by simp [Value.oneCell']) (by simp only [maxLen]; omega) (by omega) (by simp; omega) ?_
                   intro v5 w5 hown5 hg5 hat5)
                | fail)
              go_roundw
              case rel =>
                have hlowv : ∀ k, (Value.slice (some ⟨g, 0, none⟩) nb vc).ownBlock = some k → k < wr.heap.size := fun k hk => Hvlow.out k (by rw [Hnb.out]; exact hk)
                refine ⟨j + 1, acc ++ [(x, x', rx)], by go_num, by omega, ?_, ?_, Lib.hid (by rw [← Hrun.out, Hdrop.out, Hnew.out]), Lib.hid ⟨by have := Hacc.out.1; simp; omega, fun s hs => ?_⟩⟩
                · refine OwnB.push (v := .slice (some ⟨g, 0, none⟩) nb vc) (s := .slice Rd rx.length rc1) (b := (x, x', rx)) Hvl.out (fun i h h' => ⟨(ownsRow_below (Hvs.out i h h').1 Hb4.out).alloc _, by have h9 := (Hvs.out i h h').2; rw [Hnb.out] at h9; exact h9⟩) ((ownsRow_below (own_rebase Hrown.out hsw) Hb4.out).alloc _) (fun k hk e => ?_) (by rw [Hnb.out]; exact hown5) hg5 hat5
                  have h1 := hlowv k e
                  have h2 := own_base Hrown.out k hk
                  omega
                · exact Below.grown ((((Hbw.out.trans (Hbx.out.mono hsw)).trans (Hb4.out.mono (by omega)))).alloc hsw4 _) hg5 (by simp; omega) (own_base Hvo4.out)
                · rcases List.mem_append.1 hs with hs | hs
                  · exact Hacc.out.2 s hs
                  · simp at hs; subst hs; exact hlrow
              case measure => simp [intOf]; omega
          · have Hnew : Hid (stepO acc x x' (some rx) = acc ++ [(x, x', rx)]) := Lib.hid (by rw [Hsn.out]; simp [stepO, hqx])
            refine wp_region_below wx.heap.size (Nat.le_refl _) (by kernel_rfl) (by kernel_rfl) ?_
            intro I _ F hFc hFb hFs
            have hqd : (q.2.1 == x) = false := by simp [hqx]
            have k1 := fun i => (hFc i g (p * 3 + 1) hgl).trans d1
            have k2 := fun i => (hFc i B 0 hBlt).trans b0
            repeat (go_big_quiet_step (fail))
            refine wpQuiet_nil ?_
            rintro _ ⟨iq, rfl⟩
            generalize hw4 : F iq = w4
            have Hb4 : Hid (Below wx.heap.size wx w4) := Lib.hid (by rw [← hw4]; exact hFb iq)
            clear hw4 hFc hFb hFs k1 k2
            have hs4 := Hb4.out.size
            have b04 := (Hb4.out.cell (p := ⟨B, 0, none⟩) hBlt).trans b0
            have b14 := (Hb4.out.cell (p := ⟨B, 1, none⟩) hBlt).trans b1
            have b24 := (Hb4.out.cell (p := ⟨B, 2, none⟩) hBlt).trans b2
            have Hvo4 : Hid (w4.ownsRow w.heap.size 259 3 (.slice (some ⟨g, 0, none⟩) nb vc) nb (bCells acc vs)) := Lib.hid (ownsRow_below Hvo1.out Hb4.out)
            have hsw4 : w.heap.size ≤ w4.heap.size := by omega
            clear b0 b1 b2
            go_upto_region 9 with fail
            go_wp2_with (first
              | (at_builtin
                 refine wpList_append_any _ rfl (.tmp 65) (.tmp 67) _ rfl w.heap.size 259 i0 _ 3 40 Tryz.underlying257 hi hz0 hz1 hz2 rfl (by omega) _ nb (bCells acc vs) rfl
                   (Hvo4.out.alloc _) _ _ 1 1 [.int .i64 x, .int .i64 x', .slice Rd rx.length rc1] rfl ⟨rfl, fun _ => ⟨_, rfl, Nat.lt_succ_self _, fun j u hu => (by exact news_any _ _ _ j u hu)⟩⟩ (by simp [Value.oneCell']) (by simp only [maxLen]; omega) (by omega) (by simp; omega) ?_
                 intro v5 w5 hown5 hg5 hat5)
              | fail)
            go_roundw
            case rel =>
              have hlowv : ∀ k, (Value.slice (some ⟨g, 0, none⟩) nb vc).ownBlock = some k → k < wr.heap.size := fun k hk => Hvlow.out k (by rw [Hnb.out]; exact hk)
              refine ⟨j + 1, acc ++ [(x, x', rx)], by go_num, by omega, ?_, ?_, Lib.hid (by rw [← Hrun.out, Hdrop.out, Hnew.out]), Lib.hid ⟨by have := Hacc.out.1; simp; omega, fun s hs => ?_⟩⟩
              · refine OwnB.push (v := .slice (some ⟨g, 0, none⟩) nb vc) (s := .slice Rd rx.length rc1) (b := (x, x', rx)) Hvl.out (fun i h h' => ⟨(ownsRow_below (Hvs.out i h h').1 Hb4.out).alloc _, by have h9 := (Hvs.out i h h').2; rw [Hnb.out] at h9; exact h9⟩) ((ownsRow_below (own_rebase Hrown.out hsw) Hb4.out).alloc _) (fun k hk e => ?_) (by rw [Hnb.out]; exact hown5) hg5 hat5
                have h1 := hlowv k e
                have h2 := own_base Hrown.out k hk
                omega
              · exact Below.grown ((((Hbw.out.trans (Hbx.out.mono hsw)).trans (Hb4.out.mono (by omega)))).alloc hsw4 _) hg5 (by simp; omega) (own_base Hvo4.out)
              · rcases List.mem_append.1 hs with hs | hs
                · exact Hacc.out.2 s hs
                · simp at hs; subst hs; exact hlrow
            case measure => simp [intOf]; omega
    · obtain ⟨vs, hvl, hvo, hvs⟩ := Hown.out
      obtain ⟨Vd, vc, rfl, hVl, hVc, hVm⟩ := own_slice hvo
      have HS : Hid (SlB wr Vd acc.length vc acc vs) := Lib.hid ⟨rfl, hvl, hVc, hVm, hVl, fun i h1 h2 => SlS.of_own (hvs i h1 h2).1⟩
      have hfl : (flat acc).length ≤ 10000000 := by
        have h1 := flat_len m acc Hacc.out.2
        have h2 : acc.length * m ≤ n * m := Nat.mul_le_mul_right _ (by have := Hacc.out.1; omega)
        omega
      have Hfin : Hid (buildP row cuts = flat acc) := Lib.hid (by unfold buildP; rw [← Hrun.out, foldC_end _ _ _ (by omega)])
      have hj' : ¬ (j : Int) + 1 < (n : Int) := by omega
      clear hvl hvo hvs hVl hVc hVm hbw
      go_wp2_with fail
      refine (rects_any Vd acc.length vc acc vs _ HS.out hfl).mono ?_
      rintro e w1 ⟨v1, rfl, hown1, hb1⟩
      have Hown1 := Lib.hid hown1
      have Hb1 := Lib.hid hb1
      clear hown1 hb1
      go_wp2
      go_ret
      exact ⟨v1, rfl, by rw [Hfin.out]; exact own_rebase Hown1.out hsw, Hbw.out.trans (Hb1.out.mono hsw)⟩
end Go.Proofs.YtfmkmhhghmdakaaGreatDoor
namespace Go.Proofs.YtfmkmhhghmdakaaGreatDoor
open Go.RowKit
set_option linter.unusedVariables false
set_option linter.unusedSimpArgs false

set_option maxHeartbeats 400000 in
theorem properP_any (q : R4) (w : World) :
    Calls Tryz.prog 133 #[.agg #[.int .i64 q.l, .int .i64 q.b, .int .i64 q.r, .int .i64 q.t]] w fun e w' => e = .returned (.bool q.ok) ∧ Below w.heap.size w w' := by
  go_enter Tryz.func133, Tryz.ntmps133
  go_wp2
  all_goals
    go_ret
    exact ⟨ret_bool (by simp [R4.ok]; omega), (by repeat' (first | with_reducible exact Below.refl _ _ | with_reducible refine below_drewN ?_ _ | with_reducible refine Below.drew ?_ | with_reducible refine Below.alloc ?_ ?_ _ | with_reducible refine Below.setCell ?_ ?_ _ | with_reducible refine Below.trans ?_ (Below.mono (by with_reducible assumption) ?_) | (simp; done) | (simp; omega) | omega))⟩

set_option maxHeartbeats 400000 in
theorem ofPred (w : World) : PredBelow Tryz.prog 143 #[] (fun q : R4 => .agg (R4.cells q).toArray) (fun q => !q.ok) w := by
  intro W q hb
  refine Calls.mono (show Calls Tryz.prog 143 #[.agg #[.int .i64 q.l, .int .i64 q.b, .int .i64 q.r, .int .i64 q.t]] W fun e w' => e = .returned (.bool (!q.ok)) ∧ Below W.heap.size W w' from ?_) ?_
  · have Hp := Lib.hid (fun W => properP_any q W)
    generalize q.ok = x at *
    go_enter Tryz.func143, Tryz.ntmps143
    go_wp2_with (first | (go_at_call 133; refine (Hp.out _).mono ?_; rintro e w1 ⟨rfl, hb1⟩) | fail)
    go_ret
    exact ⟨rfl, (by repeat' (first | with_reducible exact Below.refl _ _ | with_reducible assumption | with_reducible refine below_drewN ?_ _ | with_reducible refine Below.drew ?_ | with_reducible refine Below.alloc ?_ ?_ _ | with_reducible refine Below.setCell ?_ ?_ _ | with_reducible refine Below.trans ?_ (Below.mono (by with_reducible assumption) ?_) | with_reducible refine below_only ?_ (by with_reducible assumption) ?_ ?_ | (simp; done) | (simp; omega) | omega))⟩
  · rintro e w' ⟨rfl, h⟩
    exact ⟨rfl, hb.trans (h.mono hb.size)⟩

set_option maxHeartbeats 400000 in
theorem limited_big (A : Option Addr) (n c : Nat) (w : World) (h : 120 < n) :
    Calls Tryz.prog 56 #[.slice A n c] w fun e w' => e = .returned (.tuple #[.agg #[.slice none 0 0], .int .i64 1]) ∧ Below w.heap.size w w' := by
  have h' : (120 : Int) < (n : Int) := by omega
  go_enter Tryz.func56, Tryz.ntmps56
  go_wp2
  refine bodyPost_ret (v := .tuple #[.agg #[.slice none 0 0], .int .i64 1]) (by simp [results, Tryz.results56, go_sem, *]) rfl ?_
  exact ⟨rfl, (by repeat' (first | with_reducible exact Below.refl _ _ | with_reducible refine below_drewN ?_ _ | with_reducible refine Below.drew ?_ | with_reducible refine Below.alloc ?_ ?_ _ | with_reducible refine Below.setCell ?_ ?_ _ | with_reducible refine Below.trans ?_ (Below.mono (by with_reducible assumption) ?_) | (simp; done) | (simp; omega) | omega))⟩

set_option maxHeartbeats 400000 in
theorem limited_ok (A : Option Addr) (n c : Nat) (w : World) (h : n ≤ 120) :
    Calls Tryz.prog 56 #[.slice A n c] w fun e w' => e = .returned (.tuple #[.agg #[.slice A n c], .int .i64 0]) ∧ Below w.heap.size w w' := by
  have h' : ¬ (120 : Int) < (n : Int) := by omega
  go_enter Tryz.func56, Tryz.ntmps56
  go_wp2
  refine bodyPost_ret (v := .tuple #[.agg #[.slice A n c], .int .i64 0]) (by simp [results, Tryz.results56, go_sem, *]) rfl ?_
  exact ⟨rfl, (by repeat' (first | with_reducible exact Below.refl _ _ | with_reducible refine below_drewN ?_ _ | with_reducible refine Below.drew ?_ | with_reducible refine Below.alloc ?_ ?_ _ | with_reducible refine Below.setCell ?_ ?_ _ | with_reducible refine Below.trans ?_ (Below.mono (by with_reducible assumption) ?_) | (simp; done) | (simp; omega) | omega))⟩

set_option maxHeartbeats 400000 in
theorem sameP_any (A B : Option Addr) (n c m d : Nat) (l k : List R4) (w : World) (hA : SlR w A n c l) (hB : SlR w B m d k) :
    Calls Tryz.prog 36 #[.agg #[.slice A n c], .agg #[.slice B m d]] w fun e w' => e = .returned (.bool (decide (l = k))) ∧ Below w.heap.size w w' := by
  have HA := Lib.hid hA
  have HB := Lib.hid hB
  clear hA hB
  generalize hx : decide (l = k) = x
  have Hx := Lib.hid hx
  clear hx
  go_enter Tryz.func36, Tryz.ntmps36
  go_wp2_with (first | (go_at_call 110; refine (equalR_any A B n c m d l k _ (HA.out.below (by repeat' (first | with_reducible exact Below.refl _ _ | with_reducible refine below_drewN ?_ _ | with_reducible refine Below.drew ?_ | with_reducible refine Below.alloc ?_ ?_ _ | with_reducible refine Below.setCell ?_ ?_ _ | with_reducible refine Below.trans ?_ (Below.mono (by with_reducible assumption) ?_) | (simp; done) | (simp; omega) | omega))) (HB.out.below (by repeat' (first | with_reducible exact Below.refl _ _ | with_reducible refine below_drewN ?_ _ | with_reducible refine Below.drew ?_ | with_reducible refine Below.alloc ?_ ?_ _ | with_reducible refine Below.setCell ?_ ?_ _ | with_reducible refine Below.trans ?_ (Below.mono (by with_reducible assumption) ?_) | (simp; done) | (simp; omega) | omega)))).mono ?_; rintro e w1 ⟨rfl, hb1⟩; rw [Hx.out]) | fail)
  go_ret
  exact ⟨rfl, (by repeat' (first | with_reducible exact Below.refl _ _ | with_reducible assumption | with_reducible refine below_drewN ?_ _ | with_reducible refine Below.drew ?_ | with_reducible refine Below.alloc ?_ ?_ _ | with_reducible refine Below.setCell ?_ ?_ _ | with_reducible refine Below.trans ?_ (Below.mono (by with_reducible assumption) ?_) | with_reducible refine below_only ?_ (by with_reducible assumption) ?_ ?_ | (simp; done) | (simp; omega) | omega))⟩
end Go.Proofs.YtfmkmhhghmdakaaGreatDoor
namespace Go.Proofs.YtfmkmhhghmdakaaGreatDoor
open Go.RowKit
set_option linter.unusedVariables false
set_option linter.unusedSimpArgs false

theorem sort_own {base : Nat} {v : Value} {l : List Int} (w : World) (h : w.ownsRow base 3 1 v l.length (l.map (.int .i64))) (hl : l.length < 4611686018427387904) :
    Calls Tryz.prog 85 #[v] w fun e w' => e = .returned (.tuple #[]) ∧ w'.ownsRow base 3 1 v l.length ((srt l).map (.int .i64)) ∧ w.grownBy w' v.ownBlock := by
  obtain ⟨h1, h2⟩ := h
  rcases h2 with ⟨rfl, h0⟩ | ⟨g, cap, cur, rfl, hb, hg, hc, hm, hs, ht⟩
  · have hnil : l = [] := List.length_eq_zero_iff.1 h0
    subst hnil
    refine (AnyM.slices_Sort_int_none Tryz.laySort none 0 w).mono ?_
    rintro e w' ⟨rfl, rfl⟩
    exact ⟨rfl, by rw [show srt [] = [] from List.length_eq_zero_iff.1 (srt_len [])]; exact World.ownsRow_nil _ _ _ _, World.grownBy.refl _ _⟩
  · have hlt : g < w.heap.size := by
      rcases Nat.lt_or_ge g w.heap.size with h | h
      · exact h
      · rw [Array.getElem?_eq_none h] at hg; cases hg
    have ht' : cur.toList.take l.length = l.map (Value.int .i64) := by rw [← ht, Nat.mul_one]
    refine (AnyM.slices_Sort_int Tryz.laySort g 0 cap l w (holds_of_blockI hg ht') hlt hl).mono ?_
    rintro e w' ⟨rfl, n, os, rfl⟩
    exact ⟨rfl, ownsRow_sortedI (srt_len l) hb hg hc hm hs, grownBy_sortedI _⟩

theorem compact_own {base : Nat} {v : Value} {l : List Int} (w : World) (h : w.ownsRow base 3 1 v l.length (l.map (.int .i64))) :
    Calls Tryz.prog 86 #[v] w fun e w' => ∃ v', e = .returned v' ∧ w'.ownsRow base 3 1 v' (Lib.compact l).length ((Lib.compact l).map (.int .i64)) ∧ w.grownBy w' v.ownBlock ∧ v'.ownBlock = v.ownBlock := by
  have h' := h
  obtain ⟨h1, h2⟩ := h
  rcases h2 with ⟨rfl, h0⟩ | ⟨g, cap, cur, rfl, hb, hg, hc, hm, hs, ht⟩
  · have hnil : l = [] := List.length_eq_zero_iff.1 h0
    subst hnil
    refine (AnyG.slices_Compact_int_empty Tryz.layCompact none 0 w).mono ?_
    rintro e w' ⟨rfl, rfl⟩
    exact ⟨_, rfl, World.ownsRow_nil _ _ _ _, World.grownBy.refl _ _, rfl⟩
  · have ht' : cur.toList.take l.length = l.map (Value.int .i64) := by rw [← ht, Nat.mul_one]
    have hcl : (Lib.compact l).length ≤ l.length := by
      unfold Lib.compact Lib.compactUpTo
      rw [List.length_map]
      have := List.length_filter_le (Lib.keeps l.toArray) (List.range l.length)
      simpa using this
    refine (AnyG.slices_Compact_int Tryz.layCompact g 0 cap l w (holds_of_blockI hg ht') (by unfold maxLen at hm; omega) hc).mono ?_
    rintro e w' ⟨rfl, q, rfl⟩
    have h3 := Lib.ownsRow_putRow (q := q) (ys := Lib.compact l ++ List.replicate (l.length - (Lib.compact l).length) 0) h' (by simp; omega) hcl
    rw [List.take_left] at h3
    refine ⟨_, rfl, h3, ⟨rfl, rfl, rfl, by simp [Sort.putRow, Sort.mapBlock, Sort.ahead], fun k hk hne => ?_⟩, rfl⟩
    have : g ≠ k := fun e => hne (by rw [← e]; rfl)
    simp [Sort.putRow, Sort.mapBlock, Sort.ahead, Array.getElem?_modify, this]
end Go.Proofs.YtfmkmhhghmdakaaGreatDoor
namespace Go.Proofs.YtfmkmhhghmdakaaGreatDoor
open Go.RowKit
set_option linter.unusedVariables false
set_option linter.unusedSimpArgs false

theorem yEdges_snoc (l : List R4) (q : R4) : yEdges (l ++ [q]) = yEdges l ++ [q.b, q.t] := by simp [yEdges]

set_option maxHeartbeats 8000000 in
set_option maxRecDepth 100000 in
/-- Cuts, of any lists: what is ranged over lies in a slice of slices. -/
theorem cuts_any (X : Option Addr) (p pc : Nat) (ls : List (List R4)) (w : World) (hp : ls.length = p) (hpl : p ≤ 1000)
    (hX : ∀ i, (h : i < ls.length) → ∃ b off A n c, X = some ⟨b, off, none⟩ ∧ b < w.heap.size ∧ w.cell? ⟨b, off + i, none⟩ = some (.slice A n c) ∧ SlR w A n c ls[i])
    (hs : ls.flatten.length ≤ 100000) :
    Calls Tryz.prog 137 #[.slice X p pc] w fun e w' => ∃ v, e = .returned v ∧ w'.ownsRow w.heap.size 3 1 v (cutsP ls.flatten).length ((cutsP ls.flatten).map (.int .i64)) ∧ Below w.heap.size w w' := by
  obtain ⟨i0, hi, hz0, hz1, hz2⟩ := info_parts Tryz.infoInt
  have HX := Lib.hid hX
  have Hs := Lib.hid hs
  clear hX hs
  go_enter Tryz.func137, Tryz.ntmps137
  go_upto_region 3 with fail
  go_loopw [3, 5, 10] (fun o _ i wr => ∃ j : Nat, j ≤ p ∧ i = .int .i64 (j : Int) ∧ wr.ownsRow w.heap.size 3 1 o (yEdges (ls.take j).flatten).length ((yEdges (ls.take j).flatten).map (.int .i64)) ∧ Below w.heap.size w wr) (fun _ _ i _ => p - (intOf i).toNat)
  case atStart => exact ⟨0, Nat.zero_le _, rfl, World.ownsRow_nil _ _ _ _, Below.refl _ _⟩
  case round =>
    obtain ⟨wo, rfl⟩ : ∃ wo : World, wo = wr := ⟨_, rfl⟩
    obtain ⟨j, hj, rfl, hown, hbo⟩ := hrel
    have hso := hbo.size
    have Hown := Lib.hid hown
    have Hbo := Lib.hid hbo
    clear hown
    by_cases hjp : j < p
    · have hjl : j < ls.length := by omega
      obtain ⟨b, off, A, n, c, rfl, hb, hc0, hA⟩ := HX.out j hjl
      have c0 := (hbo.cell (p := ⟨b, off + j, none⟩) hb).trans hc0
      have HA := Lib.hid hA
      have hn := hA.len
      have Hnext : Hid ((ls.take (j + 1)).flatten = (ls.take j).flatten ++ ls[j]) := Lib.hid (by rw [List.take_succ_eq_append_getElem hjl, List.flatten_append]; simp only [List.flatten_cons, List.flatten_nil, List.append_nil])
      have hle : (ls.take j).flatten.length + (ls[j]).length ≤ 100000 := by
        have h1 := Hs.out
        have h2 := congrArg List.length (congrArg List.flatten (List.take_append_drop (j + 1) ls))
        rw [List.flatten_append, List.length_append, Hnext.out, List.length_append] at h2
        omega
      generalize (ls.take j).flatten = dn at *
      generalize ls[j] = l at *
      have hjp' : (j : Int) < (p : Int) := by omega
      have hbs : b < wo.heap.size := by omega
      clear hbo hA hc0
      go_upto_region 6 with fail
      go_loopw [3, 7, 16] (fun o _ i wr => ∃ k : Nat, k ≤ n ∧ i = .int .i64 (k : Int) ∧ wr.ownsRow w.heap.size 3 1 o (yEdges (dn ++ l.take k)).length ((yEdges (dn ++ l.take k)).map (.int .i64)) ∧ wo.heap.size ≤ wr.heap.size ∧ Below w.heap.size w wr) (fun _ _ i _ => n - (intOf i).toNat)
      case atStart => exact ⟨0, Nat.zero_le _, rfl, by simpa using Hown.out, Nat.le_refl _, Hbo.out⟩
      case round =>
        obtain ⟨k, hk, rfl, hown2, hwr, hbw⟩ := hrel
        have Hown2 := Lib.hid hown2
        have hsw := hbw.size
        clear hown2
        by_cases hkn : k < n
        · have hl : k < l.length := by omega
          obtain ⟨b2, o2, rfl, hb2, c1, c2, c3, c4⟩ := (HA.out.below hbw).at k hl
          have hlen : (yEdges (dn ++ l.take k)).length ≤ 400000 := by rw [yEdges_len, List.length_append, List.length_take]; omega
          have Hn2 : Hid (dn ++ l.take (k + 1) = (dn ++ l.take k) ++ [l[k]]) := Lib.hid (by rw [List.take_succ_eq_append_getElem hl, List.append_assoc])
          have hkn' : (k : Int) < (n : Int) := by omega
          generalize l[k] = q at *
          generalize dn ++ l.take k = d2 at *
          have Hbw := Lib.hid hbw
          clear hbw
          go_wp2_with (first
            | (at_builtin
               refine wpList_append_any _ rfl (.tmp 20) (.tmp 25) _ rfl w.heap.size 3 i0 _ 1 8 Tryz.underlying22 hi hz0 hz1 hz2 rfl (by omega) _ (yEdges d2).length ((yEdges d2).map (.int .i64)) rfl
                 ((Hown2.out.alloc _).alloc _) _ _ 2 2 [.int .i64 q.b, .int .i64 q.t] rfl ⟨rfl, fun _ => ⟨_, rfl, Nat.lt_succ_self _, fun j u hu => (by exact World.news_of_block (heap_alloc2_new wr _ (.cells #[.int .i64 q.b, .int .i64 q.t] 3)) j u hu)⟩⟩ (by simp [Value.oneCell']) (by simp only [maxLen]; omega) (by omega) (by simp; omega) ?_
               intro v5 w5 hown5 hg5 hat5)
            | fail)
          go_roundw
          case rel =>
            have hsz5 := hg5.size
            simp at hsz5
            refine ⟨k + 1, by omega, by go_num, ?_, by omega, ?_⟩
            · rw [Hn2.out, yEdges_snoc, List.length_append, List.map_append]
              exact hown5
            · exact Below.grown (((Hbw.out.alloc hsw _).alloc (by simp; omega) _)) hg5 (by simp; omega) (own_base Hown2.out)
          case measure => simp [intOf]; omega
        · have e1 : l.take k = l := List.take_of_length_le (by omega)
          have Hown3 : Hid (wr.ownsRow w.heap.size 3 1 u3 (yEdges (dn ++ l)).length ((yEdges (dn ++ l)).map (.int .i64))) := Lib.hid (by have := Hown2.out; rw [e1] at this; exact this)
          have hkn' : ¬ (k : Int) < (n : Int) := by omega
          have Hbw := Lib.hid hbw
          clear e1 hbw
          go_wp2
          go_roundw
          case rel => exact ⟨j + 1, by omega, by go_num, by rw [Hnext.out]; exact Hown3.out, Hbw.out⟩
          case measure => simp [intOf]; omega
    · have hjp' : ¬ (j : Int) < (p : Int) := by omega
      have Hown3 : Hid (wo.ownsRow w.heap.size 3 1 u3 (yEdges ls.flatten).length ((yEdges ls.flatten).map (.int .i64))) := Lib.hid (by have := Hown.out; rw [List.take_of_length_le (by omega)] at this; exact this)
      have hel : (yEdges ls.flatten).length ≤ 200000 := by have := Hs.out; rw [yEdges_len]; omega
      have Hsr := Lib.hid (srt_len (yEdges ls.flatten))
      have Hcut : Hid (cutsP ls.flatten = Lib.compact (srt (yEdges ls.flatten))) := Lib.hid rfl
      have hub := Lib.hid (own_base Hown3.out)
      clear hbo Hown
      generalize yEdges ls.flatten = es at *
      go_wp2_with fail
      refine (sort_own _ Hown3.out (by omega)).mono ?_
      rintro e w1 ⟨rfl, hown1, hg1⟩
      have Hown1 : Hid (w1.ownsRow w.heap.size 3 1 u3 (srt es).length ((srt es).map (.int .i64))) := Lib.hid (by rw [Hsr.out]; exact hown1)
      have Hb1 : Hid (Below w.heap.size w w1) := Lib.hid (Hbo.out.grown hg1 hso hub.out)
      clear hown1 hg1
      go_wp2_with fail
      refine (compact_own _ Hown1.out).mono ?_
      rintro e w2 ⟨v2, rfl, hown2, hg2, hv2⟩
      have Hown2 := Lib.hid hown2
      have Hb2 : Hid (Below w.heap.size w w2) := Lib.hid (Hb1.out.grown hg2 Hb1.out.size hub.out)
      clear hown2 hg2 hv2
      go_wp2
      go_ret
      exact ⟨v2, rfl, by rw [Hcut.out]; exact Hown2.out, Hb2.out⟩
end Go.Proofs.YtfmkmhhghmdakaaGreatDoor
namespace Go.Proofs.YtfmkmhhghmdakaaGreatDoor
open Go.RowKit
set_option linter.unusedVariables false
set_option linter.unusedSimpArgs false

set_option maxHeartbeats 400000 in
theorem canonRow_any (g : Nat) (A : Option Addr) (n c : Nat) (l : List R4) (y : Int) (w : World) (hg : w.cell? ⟨g, 0, none⟩ = some (.slice A n c)) (hA : SlR w A n c l) (hn1 : n ≤ 100000) (hl : ∀ q ∈ l, q.l < q.r) :
    Calls Tryz.prog 218 #[.int .i64 y, .pointer (some ⟨g, 0, none⟩)] w fun e w' => ∃ v, e = .returned v ∧ w'.ownsRow w.heap.size 256 2 v (rowP l y).length (sCells (rowP l y)) ∧ Below w.heap.size w w' := by
  have HA := Lib.hid hA
  have Hl := Lib.hid hl
  clear hA hl
  go_enter Tryz.func218, Tryz.ntmps218
  go_wp2_with (first | (go_at_call 140; refine (row_any A n c l y _ (HA.out.below (by repeat' (first | with_reducible exact Below.refl _ _ | with_reducible refine below_drewN ?_ _ | with_reducible refine Below.drew ?_ | with_reducible refine Below.alloc ?_ ?_ _ | with_reducible refine Below.setCell ?_ ?_ _ | with_reducible refine Below.trans ?_ (Below.mono (by with_reducible assumption) ?_) | (simp; done) | (simp; omega) | omega))) hn1 Hl.out).mono ?_; rintro e w1 ⟨v1, rfl, hown1, hb1⟩; have Hown1 := Lib.hid hown1; have Hb1 := Lib.hid hb1; clear hown1 hb1) | fail)
  go_ret
  exact ⟨v1, rfl, Hown1.out, Hb1.out⟩

set_option maxHeartbeats 1000000 in
theorem canonical_any (A : Option Addr) (n c : Nat) (l : List R4) (w : World) (hA : SlR w A n c l) (hn1 : n ≤ 1500) (hl : ∀ q ∈ l, q.l < q.r) :
    Calls Tryz.prog 134 #[.slice A n c] w fun e w' => ∃ v, e = .returned v ∧ w'.ownsRow w.heap.size 68 4 v (canonP l).length (rCells (canonP l)) ∧ Below w.heap.size w w' := by
  have hn := hA.len
  have HA := Lib.hid hA
  have Hl := Lib.hid hl
  have Hcl : Hid ((cutsP l).length ≤ 2 * n) := Lib.hid (by have h1 := (asc_all (yEdges l)).2.2; rw [yEdges_len] at h1; unfold cutsP; omega)
  have Hflat : Hid (cutsP [l].flatten = cutsP l) := Lib.hid (by simp)
  have Hcan : Hid (buildP (rowP l) (cutsP l) = canonP l) := Lib.hid rfl
  have Hrl := Lib.hid (fun y => rowP_len l y)
  have eg : ∀ args w, (callFunc 218 args).run Tryz.prog w = .ok (.enter 218 args) w := enters_of Tryz.func218 (by kernel_rfl) rfl
  have Eg := Lib.hid eg
  clear hA hl eg
  go_enter Tryz.func134, Tryz.ntmps134
  go_wp2_with (first
    | (go_at_call 137
       refine (cuts_any (some ⟨w.heap.size + 1, 0, none⟩) 1 1 [l] _ rfl (by omega) (fun i hi => ⟨w.heap.size + 1, 0, A, n, c, rfl, by simp, by obtain rfl : i = 0 := (by simpa using hi); exact cell_of_row _ (w.heap.size + 1) 0 _ _ _ (heap_alloc2_new w _ _), by obtain rfl : i = 0 := (by simpa using hi); exact HA.out.below (by repeat' (first | with_reducible exact Below.refl _ _ | with_reducible refine below_drewN ?_ _ | with_reducible refine Below.drew ?_ | with_reducible refine Below.alloc ?_ ?_ _ | with_reducible refine Below.setCell ?_ ?_ _ | with_reducible refine Below.trans ?_ (Below.mono (by with_reducible assumption) ?_) | (simp; done) | (simp; omega) | omega))⟩) (by simp; omega)).mono ?_
       rintro e w1 ⟨v1, rfl, hown1, hb1⟩
       rw [Hflat.out] at hown1
       obtain ⟨C, cc, rfl, hC⟩ := SlI.of_own hown1
       have HC := Lib.hid hC
       have Hb1 : Hid (Below w.heap.size w w1) := Lib.hid (show Below w.heap.size w w1 from (by have hbq := hb1; exact (by repeat' (first | with_reducible exact Below.refl _ _ | with_reducible assumption | with_reducible refine below_drewN ?_ _ | with_reducible refine Below.drew ?_ | with_reducible refine Below.alloc ?_ ?_ _ | with_reducible refine Below.setCell ?_ ?_ _ | with_reducible refine Below.trans ?_ (Below.mono (by with_reducible assumption) ?_) | with_reducible refine below_only ?_ (by with_reducible assumption) ?_ ?_ | (simp; done) | (simp; omega) | omega))))
       have hs1 : w.heap.size < w1.heap.size := (by have := hb1.size; simp at this; omega)
       have cg1 : w1.cell? ⟨w.heap.size, 0, none⟩ = some (.slice A n c) := (hb1.cell (p := ⟨w.heap.size, 0, none⟩) (by simp; omega)).trans (cell_of_row _ w.heap.size 0 _ _ _ ((Below.heap_alloc _ _ _ (by simp)).trans (heap_alloc_new w _)))
       clear hown1 hb1 hC)
    | (go_at_call 136
       refine (build_any 218 #[.pointer (some ⟨w.heap.size, 0, none⟩)] (rowP l) n C (cutsP l).length cc (cutsP l) w1 HC.out (by have := Hcl.out; omega) (fun y => by have := Hrl.out y; omega) (by omega) (by have h1 := Nat.mul_le_mul_right n Hcl.out; have h2 : n * n ≤ 1500 * 1500 := Nat.mul_le_mul hn1 hn1; rw [Nat.mul_assoc] at h1; omega) Eg.out (fun W y hW => canonRow_any w.heap.size A n c l y W ((hW.cell (p := ⟨w.heap.size, 0, none⟩) hs1).trans cg1) (HA.out.below (Hb1.out.trans (hW.mono (Nat.le_of_lt hs1)))) (by omega) Hl.out)).mono ?_
       rintro e w2 ⟨v2, rfl, hown2, hb2⟩
       rw [Hcan.out] at hown2
       have Hown2 := Lib.hid hown2
       have Hb2 := Lib.hid hb2
       clear hown2 hb2)
    | fail)
  go_ret
  exact ⟨v2, rfl, own_rebase Hown2.out (Nat.le_of_lt hs1), Hb1.out.trans (Hb2.out.mono (Nat.le_of_lt hs1))⟩

set_option maxHeartbeats 400000 in
theorem validPred (w : World) : PredBelow Tryz.prog 132 #[] (fun q : R4 => .agg (R4.cells q).toArray) (fun q => !q.ok) w := by
  intro W q hb
  refine Calls.mono (show Calls Tryz.prog 132 #[.agg #[.int .i64 q.l, .int .i64 q.b, .int .i64 q.r, .int .i64 q.t]] W fun e w' => e = .returned (.bool (!q.ok)) ∧ Below W.heap.size W w' from ?_) ?_
  · have Hp := Lib.hid (fun W => properP_any q W)
    generalize q.ok = x at *
    go_enter Tryz.func132, Tryz.ntmps132
    go_wp2_with (first | (go_at_call 133; refine (Hp.out _).mono ?_; rintro e w1 ⟨rfl, hb1⟩) | fail)
    go_ret
    exact ⟨rfl, (by repeat' (first | with_reducible exact Below.refl _ _ | with_reducible assumption | with_reducible refine below_drewN ?_ _ | with_reducible refine Below.drew ?_ | with_reducible refine Below.alloc ?_ ?_ _ | with_reducible refine Below.setCell ?_ ?_ _ | with_reducible refine Below.trans ?_ (Below.mono (by with_reducible assumption) ?_) | with_reducible refine below_only ?_ (by with_reducible assumption) ?_ ?_ | (simp; done) | (simp; omega) | omega))⟩
  · rintro e w' ⟨rfl, h⟩
    exact ⟨rfl, hb.trans (h.mono hb.size)⟩

set_option maxHeartbeats 2000000 in
set_option maxRecDepth 100000 in
theorem valid_any (A : Option Addr) (n c : Nat) (l : List R4) (w : World) (hA : SlR w A n c l) :
    Calls Tryz.prog 48 #[.agg #[.slice A n c]] w fun e w' => e = .returned (.bool (validP l)) ∧ Below w.heap.size w w' := by
  have hn := hA.len
  have HA := Lib.hid hA
  clear hA
  have egv : ∀ args w, (callFunc 132 args).run Tryz.prog w = .ok (.enter 132 args) w := enters_of Tryz.func132 (by kernel_rfl) rfl
  have Egv := Lib.hid egv
  clear egv
  by_cases hbig : 120 < n
  · have hv : validP l = false := by unfold validP; rw [decide_eq_false (by omega)]; rfl
    have hb' : (120 : Int) < (n : Int) := by omega
    rw [hv]
    clear hv
    go_enter Tryz.func48, Tryz.ntmps48
    go_wp2
    go_ret
    exact ⟨rfl, (by repeat' (first | with_reducible exact Below.refl _ _ | with_reducible refine below_drewN ?_ _ | with_reducible refine Below.drew ?_ | with_reducible refine Below.alloc ?_ ?_ _ | with_reducible refine Below.setCell ?_ ?_ _ | with_reducible refine Below.trans ?_ (Below.mono (by with_reducible assumption) ?_) | (simp; done) | (simp; omega) | omega))⟩
  · have hb' : ¬ (120 : Int) < (n : Int) := by omega
    have hv : validP l = (l.all R4.ok && decide (canonP l = l)) := by unfold validP; rw [decide_eq_true (by omega)]; rfl
    rw [hv]
    clear hv
    have Hany := Lib.hid (any_not_all l R4.ok)
    cases hall : l.all R4.ok with
    | false =>
      rw [hall] at Hany
      clear hall
      go_enter Tryz.func48, Tryz.ntmps48
      go_wp2_with (first | (go_at_call 89; refine (containsR_any (fun q => !q.ok) 132 #[] Egv.out A n c l _ (HA.out.below (by repeat' (first | with_reducible exact Below.refl _ _ | with_reducible refine below_drewN ?_ _ | with_reducible refine Below.drew ?_ | with_reducible refine Below.alloc ?_ ?_ _ | with_reducible refine Below.setCell ?_ ?_ _ | with_reducible refine Below.trans ?_ (Below.mono (by with_reducible assumption) ?_) | (simp; done) | (simp; omega) | omega))) (validPred _)).mono ?_; rintro e w1 ⟨rfl, hb1⟩; rw [Hany.out]) | fail)
      go_ret
      exact ⟨rfl, (by repeat' (first | with_reducible exact Below.refl _ _ | with_reducible assumption | with_reducible refine below_drewN ?_ _ | with_reducible refine Below.drew ?_ | with_reducible refine Below.alloc ?_ ?_ _ | with_reducible refine Below.setCell ?_ ?_ _ | with_reducible refine Below.trans ?_ (Below.mono (by with_reducible assumption) ?_) | with_reducible refine below_only ?_ (by with_reducible assumption) ?_ ?_ | (simp; done) | (simp; omega) | omega))⟩
    | true =>
      have Hl := Lib.hid (ok_pos hall)
      rw [hall] at Hany
      clear hall
      obtain ⟨cl, hcl⟩ : ∃ cl, canonP l = cl := ⟨_, rfl⟩
      have Hcl := Lib.hid hcl
      rw [hcl]
      obtain ⟨rs, hrs⟩ : ∃ rs, decide (cl = l) = rs := ⟨_, rfl⟩
      have Hrs := Lib.hid hrs
      rw [hrs]
      clear hcl hrs
      go_enter Tryz.func48, Tryz.ntmps48
      go_wp2_with (first | (go_at_call 89; refine (containsR_any (fun q => !q.ok) 132 #[] Egv.out A n c l _ (HA.out.below (by repeat' (first | with_reducible exact Below.refl _ _ | with_reducible refine below_drewN ?_ _ | with_reducible refine Below.drew ?_ | with_reducible refine Below.alloc ?_ ?_ _ | with_reducible refine Below.setCell ?_ ?_ _ | with_reducible refine Below.trans ?_ (Below.mono (by with_reducible assumption) ?_) | (simp; done) | (simp; omega) | omega))) (validPred _)).mono ?_; rintro e w1 ⟨rfl, hb1⟩; rw [Hany.out]; have Hb1 : Hid (Below w.heap.size w w1) := Lib.hid (show Below w.heap.size w w1 from (by have hbq := hb1; exact (by repeat' (first | with_reducible exact Below.refl _ _ | with_reducible assumption | with_reducible refine below_drewN ?_ _ | with_reducible refine Below.drew ?_ | with_reducible refine Below.alloc ?_ ?_ _ | with_reducible refine Below.setCell ?_ ?_ _ | with_reducible refine Below.trans ?_ (Below.mono (by with_reducible assumption) ?_) | with_reducible refine below_only ?_ (by with_reducible assumption) ?_ ?_ | (simp; done) | (simp; omega) | omega)))); have hs1 : w.heap.size < w1.heap.size := (by have := hb1.size; simp at this; omega); have cg1 : w1.cell? ⟨w.heap.size, 0, none⟩ = some (.slice A n c) := (hb1.cell (p := ⟨w.heap.size, 0, none⟩) (by simp)).trans (cell_of_row _ w.heap.size 0 _ _ _ (heap_alloc_new w _)); clear hb1) | fail)
      go_region_held3 (fun w' => w'.cell? ⟨w.heap.size, 0, none⟩ = some (.slice A n c))
        (first | go_keep | exact (Hb2.out.cell (p := ⟨w.heap.size, 0, none⟩) hs1).trans cg1)
        (first
          | (go_at_call 134
             refine (canonical_any A n c l _ (HA.out.below (Hb1.out.trans (Below.mono (by repeat' (first | with_reducible exact Below.refl _ _ | with_reducible refine below_drewN ?_ _ | with_reducible refine Below.drew ?_ | with_reducible refine Below.alloc ?_ ?_ _ | with_reducible refine Below.setCell ?_ ?_ _ | with_reducible refine Below.trans ?_ (Below.mono (by with_reducible assumption) ?_) | (simp; done) | (simp; omega) | omega)) (Nat.le_of_lt hs1)))) (by omega) Hl.out).mono ?_
             rintro e w2 ⟨v2, rfl, hown2, hb2⟩
             rw [Hcl.out] at hown2
             obtain ⟨C, cc, rfl, hC⟩ := SlR.of_own hown2
             have HC := Lib.hid hC
             have Hb2 : Hid (Below w1.heap.size w1 w2) := Lib.hid (show Below w1.heap.size w1 w2 from (by have hbq := hb2; exact (by repeat' (first | with_reducible exact Below.refl _ _ | with_reducible assumption | with_reducible refine below_drewN ?_ _ | with_reducible refine Below.drew ?_ | with_reducible refine Below.alloc ?_ ?_ _ | with_reducible refine Below.setCell ?_ ?_ _ | with_reducible refine Below.trans ?_ (Below.mono (by with_reducible assumption) ?_) | with_reducible refine below_only ?_ (by with_reducible assumption) ?_ ?_ | (simp; done) | (simp; omega) | omega))))
             have cg2 := (Hb2.out.cell (p := ⟨w.heap.size, 0, none⟩) hs1).trans cg1
             clear hown2 hb2 hC)
          | (go_at_call 110
             refine (equalR_any C A cl.length cc n c cl l _ (HC.out.below (by repeat' (first | with_reducible exact Below.refl _ _ | with_reducible refine below_drewN ?_ _ | with_reducible refine Below.drew ?_ | with_reducible refine Below.alloc ?_ ?_ _ | with_reducible refine Below.setCell ?_ ?_ _ | with_reducible refine Below.trans ?_ (Below.mono (by with_reducible assumption) ?_) | (simp; done) | (simp; omega) | omega))) (HA.out.below (Hb1.out.trans ((Hb2.out.trans (Below.mono (by repeat' (first | with_reducible exact Below.refl _ _ | with_reducible refine below_drewN ?_ _ | with_reducible refine Below.drew ?_ | with_reducible refine Below.alloc ?_ ?_ _ | with_reducible refine Below.setCell ?_ ?_ _ | with_reducible refine Below.trans ?_ (Below.mono (by with_reducible assumption) ?_) | (simp; done) | (simp; omega) | omega)) Hb2.out.size)).mono (Nat.le_of_lt hs1))))).mono ?_
             rintro e w3 ⟨rfl, hb3⟩
             rw [Hrs.out]
             have Hb3 : Hid (Below w2.heap.size w2 w3) := Lib.hid (show Below w2.heap.size w2 w3 from (by have hbq := hb3; exact (by repeat' (first | with_reducible exact Below.refl _ _ | with_reducible assumption | with_reducible refine below_drewN ?_ _ | with_reducible refine Below.drew ?_ | with_reducible refine Below.alloc ?_ ?_ _ | with_reducible refine Below.setCell ?_ ?_ _ | with_reducible refine Below.trans ?_ (Below.mono (by with_reducible assumption) ?_) | with_reducible refine below_only ?_ (by with_reducible assumption) ?_ ?_ | (simp; done) | (simp; omega) | omega))))
             have cg3 := (Hb3.out.cell (p := ⟨w.heap.size, 0, none⟩) (Nat.lt_of_lt_of_le hs1 Hb2.out.size)).trans cg2
             clear hb3)
          | fail)
      all_goals go_wp2
      all_goals go_ret
      all_goals exact ⟨rfl, Hb1.out.trans ((Hb2.out.trans (Hb3.out.mono Hb2.out.size)).mono (Nat.le_of_lt hs1))⟩

set_option maxHeartbeats 4000000 in
set_option maxRecDepth 100000 in
theorem of_any (A : Option Addr) (n c : Nat) (l : List R4) (w : World) (hA : SlR w A n c l) :
    Calls Tryz.prog 59 #[.slice A n c] w (RegPost w (ofP l)) := by
  have hn := hA.len
  have HA := Lib.hid hA
  clear hA
  have egv : ∀ args w, (callFunc 143 args).run Tryz.prog w = .ok (.enter 143 args) w := enters_of Tryz.func143 (by kernel_rfl) rfl
  have Egv := Lib.hid egv
  clear egv
  by_cases hbig : 120 < n
  · have hb' : (120 : Int) < (n : Int) := by omega
    have e0 : ofP l = ([], 1) := by unfold ofP; rw [if_pos (by omega)]
    rw [e0]
    clear e0
    go_enter Tryz.func59, Tryz.ntmps59
    go_wp2
    refine bodyPost_ret (v := .tuple #[.agg #[.slice none 0 0], .int .i64 1]) (by simp [results, Tryz.results59, go_sem, *]) rfl ?_
    exact ⟨_, rfl, World.ownsRow_nil _ _ _ _, (by repeat' (first | with_reducible exact Below.refl _ _ | with_reducible refine below_drewN ?_ _ | with_reducible refine Below.drew ?_ | with_reducible refine Below.alloc ?_ ?_ _ | with_reducible refine Below.setCell ?_ ?_ _ | with_reducible refine Below.trans ?_ (Below.mono (by with_reducible assumption) ?_) | (simp; done) | (simp; omega) | omega))⟩
  · have hb' : ¬ (120 : Int) < (n : Int) := by omega
    have Hany := Lib.hid (any_not_all l R4.ok)
    cases hall : l.all R4.ok with
    | false =>
      have e0 : ofP l = ([], 2) := by unfold ofP; rw [if_neg (by omega), hall]; rfl
      rw [e0]
      rw [hall] at Hany
      clear hall e0
      go_enter Tryz.func59, Tryz.ntmps59
      go_wp2_with (first | (go_at_call 89; refine (containsR_any (fun q => !q.ok) 143 #[] Egv.out A n c l _ (HA.out.below (by repeat' (first | with_reducible exact Below.refl _ _ | with_reducible refine below_drewN ?_ _ | with_reducible refine Below.drew ?_ | with_reducible refine Below.alloc ?_ ?_ _ | with_reducible refine Below.setCell ?_ ?_ _ | with_reducible refine Below.trans ?_ (Below.mono (by with_reducible assumption) ?_) | (simp; done) | (simp; omega) | omega))) (ofPred _)).mono ?_; rintro e w1 ⟨rfl, hb1⟩; rw [Hany.out]; have hr1 : w1.heap[w.heap.size]? = some (.cells #[.slice none 0 0] 33 (0, 0)) := (hb1.block _ (by simp)).trans (heap_alloc_new w _); have cr1 := cell_of_row w1 w.heap.size 0 _ _ _ hr1; have fr1 := frozen_of_row w1 w.heap.size 0 _ _ hr1; have csame : (w1.setCell ⟨w.heap.size, 0, none⟩ (.slice none 0 0)).cell? ⟨w.heap.size, 0, none⟩ = some (.slice none 0 0) := (by rw [cell_of_row _ w.heap.size 0 _ _ _ (heap_setCell_same w1 w.heap.size 0 _ _ _ hr1)]; simp); have Hb1 : Hid (Below w.heap.size w w1) := Lib.hid (show Below w.heap.size w w1 from (by have hbq := hb1; exact (by repeat' (first | with_reducible exact Below.refl _ _ | with_reducible assumption | with_reducible refine below_drewN ?_ _ | with_reducible refine Below.drew ?_ | with_reducible refine Below.alloc ?_ ?_ _ | with_reducible refine Below.setCell ?_ ?_ _ | with_reducible refine Below.trans ?_ (Below.mono (by with_reducible assumption) ?_) | with_reducible refine below_only ?_ (by with_reducible assumption) ?_ ?_ | (simp; done) | (simp; omega) | omega)))); clear hb1 hr1) | fail)
      refine bodyPost_ret (v := .tuple #[.agg #[.slice none 0 0], .int .i64 2]) (by simp [results, Tryz.results59, go_sem, *]) rfl ?_
      exact ⟨_, rfl, World.ownsRow_nil _ _ _ _, Hb1.out.setCell (Nat.le_refl _) _⟩
    | true =>
      have Hl := Lib.hid (ok_pos hall)
      have e0 : ofP l = if 120 < (canonP l).length then ([], 1) else (canonP l, 0) := by unfold ofP; rw [if_neg (by omega), if_pos hall]
      rw [e0]
      rw [hall] at Hany
      clear hall e0
      obtain ⟨cl, hcl⟩ : ∃ cl, canonP l = cl := ⟨_, rfl⟩
      have Hcl := Lib.hid hcl
      rw [hcl]
      clear hcl
      by_cases hbg : 120 < cl.length
      · rw [if_pos hbg]
        go_enter Tryz.func59, Tryz.ntmps59
        go_wp2_with (first
          | (go_at_call 89; refine (containsR_any (fun q => !q.ok) 143 #[] Egv.out A n c l _ (HA.out.below (by repeat' (first | with_reducible exact Below.refl _ _ | with_reducible refine below_drewN ?_ _ | with_reducible refine Below.drew ?_ | with_reducible refine Below.alloc ?_ ?_ _ | with_reducible refine Below.setCell ?_ ?_ _ | with_reducible refine Below.trans ?_ (Below.mono (by with_reducible assumption) ?_) | (simp; done) | (simp; omega) | omega))) (ofPred _)).mono ?_; rintro e w1 ⟨rfl, hb1⟩; rw [Hany.out]; have hr1 : w1.heap[w.heap.size]? = some (.cells #[.slice none 0 0] 33 (0, 0)) := (hb1.block _ (by simp)).trans (heap_alloc_new w _); have Hr1 := Lib.hid hr1; have hs1 : w.heap.size < w1.heap.size := (by have := hb1.size; simp at this; omega); have Hb1 : Hid (Below w.heap.size w w1) := Lib.hid (show Below w.heap.size w w1 from (by have hbq := hb1; exact (by repeat' (first | with_reducible exact Below.refl _ _ | with_reducible assumption | with_reducible refine below_drewN ?_ _ | with_reducible refine Below.drew ?_ | with_reducible refine Below.alloc ?_ ?_ _ | with_reducible refine Below.setCell ?_ ?_ _ | with_reducible refine Below.trans ?_ (Below.mono (by with_reducible assumption) ?_) | with_reducible refine below_only ?_ (by with_reducible assumption) ?_ ?_ | (simp; done) | (simp; omega) | omega)))); clear hb1 hr1)
          | (go_at_call 134; refine (canonical_any A n c l _ (HA.out.below (Hb1.out.trans (Below.mono (by repeat' (first | with_reducible exact Below.refl _ _ | with_reducible refine below_drewN ?_ _ | with_reducible refine Below.drew ?_ | with_reducible refine Below.alloc ?_ ?_ _ | with_reducible refine Below.setCell ?_ ?_ _ | with_reducible refine Below.trans ?_ (Below.mono (by with_reducible assumption) ?_) | (simp; done) | (simp; omega) | omega)) (Nat.le_of_lt hs1)))) (by omega) Hl.out).mono ?_; rintro e w2 ⟨v2, rfl, hown2, hb2⟩; rw [Hcl.out] at hown2; obtain ⟨C, cc, rfl, hC⟩ := SlR.of_own hown2; have Hb2 := Lib.hid hb2; clear hown2 hb2 hC)
          | (go_at_call 56; refine (limited_big C cl.length cc _ hbg).mono ?_; rintro e w3 ⟨rfl, hb3⟩; have hr3 : w3.heap[w.heap.size]? = some (.cells #[.slice none 0 0] 33 (0, 0)) := (hb3.block _ (by have := Hb2.out.size; omega)).trans ((Hb2.out.block _ hs1).trans Hr1.out); have cr3 := cell_of_row w3 w.heap.size 0 _ _ _ hr3; have fr3 := frozen_of_row w3 w.heap.size 0 _ _ hr3; have csame : (w3.setCell ⟨w.heap.size, 0, none⟩ (.slice none 0 0)).cell? ⟨w.heap.size, 0, none⟩ = some (.slice none 0 0) := (by rw [cell_of_row _ w.heap.size 0 _ _ _ (heap_setCell_same w3 w.heap.size 0 _ _ _ hr3)]; simp); have Hb3 := Lib.hid hb3; clear hb3 hr3)
          | fail)
        refine bodyPost_ret (v := .tuple #[.agg #[.slice none 0 0], .int .i64 1]) (by simp [results, Tryz.results59, go_sem, *]) rfl ?_
        exact ⟨_, rfl, World.ownsRow_nil _ _ _ _, (Hb1.out.trans ((Hb2.out.trans (Hb3.out.mono Hb2.out.size)).mono (Nat.le_of_lt hs1))).setCell (Nat.le_refl _) _⟩
      · rw [if_neg hbg]
        have hbg' : cl.length ≤ 120 := by omega
        go_enter Tryz.func59, Tryz.ntmps59
        go_wp2_with (first
          | (go_at_call 89; refine (containsR_any (fun q => !q.ok) 143 #[] Egv.out A n c l _ (HA.out.below (by repeat' (first | with_reducible exact Below.refl _ _ | with_reducible refine below_drewN ?_ _ | with_reducible refine Below.drew ?_ | with_reducible refine Below.alloc ?_ ?_ _ | with_reducible refine Below.setCell ?_ ?_ _ | with_reducible refine Below.trans ?_ (Below.mono (by with_reducible assumption) ?_) | (simp; done) | (simp; omega) | omega))) (ofPred _)).mono ?_; rintro e w1 ⟨rfl, hb1⟩; rw [Hany.out]; have hr1 : w1.heap[w.heap.size]? = some (.cells #[.slice none 0 0] 33 (0, 0)) := (hb1.block _ (by simp)).trans (heap_alloc_new w _); have Hr1 := Lib.hid hr1; have hs1 : w.heap.size < w1.heap.size := (by have := hb1.size; simp at this; omega); have Hb1 : Hid (Below w.heap.size w w1) := Lib.hid (show Below w.heap.size w w1 from (by have hbq := hb1; exact (by repeat' (first | with_reducible exact Below.refl _ _ | with_reducible assumption | with_reducible refine below_drewN ?_ _ | with_reducible refine Below.drew ?_ | with_reducible refine Below.alloc ?_ ?_ _ | with_reducible refine Below.setCell ?_ ?_ _ | with_reducible refine Below.trans ?_ (Below.mono (by with_reducible assumption) ?_) | with_reducible refine below_only ?_ (by with_reducible assumption) ?_ ?_ | (simp; done) | (simp; omega) | omega)))); clear hb1 hr1)
          | (go_at_call 134; refine (canonical_any A n c l _ (HA.out.below (Hb1.out.trans (Below.mono (by repeat' (first | with_reducible exact Below.refl _ _ | with_reducible refine below_drewN ?_ _ | with_reducible refine Below.drew ?_ | with_reducible refine Below.alloc ?_ ?_ _ | with_reducible refine Below.setCell ?_ ?_ _ | with_reducible refine Below.trans ?_ (Below.mono (by with_reducible assumption) ?_) | (simp; done) | (simp; omega) | omega)) (Nat.le_of_lt hs1)))) (by omega) Hl.out).mono ?_; rintro e w2 ⟨v2, rfl, hown2, hb2⟩; rw [Hcl.out] at hown2; obtain ⟨C, cc, rfl, hC⟩ := SlR.of_own hown2; have Hown2 := Lib.hid hown2; have Hb2 := Lib.hid hb2; clear hown2 hb2 hC)
          | (go_at_call 56; refine (limited_ok C cl.length cc _ hbg').mono ?_; rintro e w3 ⟨rfl, hb3⟩; have hr3 : w3.heap[w.heap.size]? = some (.cells #[.slice none 0 0] 33 (0, 0)) := (hb3.block _ (by have := Hb2.out.size; omega)).trans ((Hb2.out.block _ hs1).trans Hr1.out); have cr3 := cell_of_row w3 w.heap.size 0 _ _ _ hr3; have fr3 := frozen_of_row w3 w.heap.size 0 _ _ hr3; have csame : (w3.setCell ⟨w.heap.size, 0, none⟩ (.slice C cl.length cc)).cell? ⟨w.heap.size, 0, none⟩ = some (.slice C cl.length cc) := (by rw [cell_of_row _ w.heap.size 0 _ _ _ (heap_setCell_same w3 w.heap.size 0 _ _ _ hr3)]; simp); have Hown3 := Lib.hid (ownsRow_below Hown2.out hb3); have Hb3 := Lib.hid hb3; clear hb3 hr3)
          | fail)
        refine bodyPost_ret (v := .tuple #[.agg #[.slice C cl.length cc], .int .i64 0]) (by simp [results, Tryz.results59, go_sem, *]) rfl ?_
        have hlow := own_base Hown3.out
        refine ⟨_, rfl, ?_, (Hb1.out.trans ((Hb2.out.trans (Hb3.out.mono Hb2.out.size)).mono (Nat.le_of_lt hs1))).setCell (Nat.le_refl _) _⟩
        exact own_other (own_rebase Hown3.out (Nat.le_of_lt hs1)) (only_setCell (g := w.heap.size) (World.grownBy.refl _ _) (.inl rfl) _) (fun k hk e => by injection e with e; have := hlow k hk; omega)
end Go.Proofs.YtfmkmhhghmdakaaGreatDoor
namespace Go.Proofs.YtfmkmhhghmdakaaGreatDoor
open Go.RowKit
set_option linter.unusedVariables false
set_option linter.unusedSimpArgs false

/-- How many squares rectangles have that do not overlap. -/
def sizeP (l : List R4) : Int := l.foldl (fun s q => s + (q.r - q.l) * (q.t - q.b)) 0
theorem sizeP_succ (l : List R4) (k : Nat) (h : k < l.length) : sizeP (l.take (k + 1)) = sizeP (l.take k) + (l[k].r - l[k].l) * (l[k].t - l[k].b) := by
  unfold sizeP
  rw [List.take_succ_eq_append_getElem h, List.foldl_append]
  rfl
theorem area1_bd {q : R4} (h : q.ok = true) : 0 ≤ (q.r - q.l) * (q.t - q.b) ∧ (q.r - q.l) * (q.t - q.b) ≤ 268435456 := by
  have h1 := (R4.ok_iff q).1 h
  refine ⟨Int.mul_nonneg (by omega) (by omega), ?_⟩
  calc (q.r - q.l) * (q.t - q.b) ≤ 16384 * 16384 := Int.mul_le_mul (by omega) (by omega) (by omega) (by omega)
    _ = 268435456 := rfl

set_option maxHeartbeats 1000000 in
theorem size_any (A : Option Addr) (n c : Nat) (l : List R4) (w : World) (hA : SlR w A n c l) (hok : l.all R4.ok = true) (hn : n ≤ 120) :
    Calls Tryz.prog 49 #[.slice A n c] w fun e w' => e = .returned (.int .i64 (sizeP l)) ∧ Below w.heap.size w w' := by
  have hx := hA.len
  have HA := Lib.hid hA
  have Hok := Lib.hid hok
  clear hA hok
  go_enter Tryz.func49, Tryz.ntmps49
  go_upto_region 3 with fail
  go_loopw [3, 5, 8] (fun s _ i wr => ∃ k : Nat, k ≤ n ∧ i = .int .i64 (k : Int) ∧ s = .int .i64 (sizeP (l.take k)) ∧ Hid (0 ≤ sizeP (l.take k) ∧ sizeP (l.take k) ≤ 268435456 * k) ∧ Below w.heap.size w wr) (fun _ _ i _ => n - (intOf i).toNat)
  case atStart => exact ⟨0, Nat.zero_le _, rfl, rfl, Lib.hid ⟨Int.le_refl _, Int.le_refl _⟩, Below.refl _ _⟩
  case round =>
    obtain ⟨k, hk, rfl, rfl, Hbd, hbw⟩ := hrel
    by_cases hkn : k < n
    · have hkl : k < l.length := by omega
      obtain ⟨b, off, rfl, hb, c0, c1, c2, c3⟩ := (HA.out.below hbw).at k hkl
      have hq := List.all_eq_true.1 Hok.out _ (List.getElem_mem hkl)
      have Hnext := Lib.hid (sizeP_succ l k hkl)
      have hkn' : (k : Int) < (n : Int) := by omega
      generalize l[k] = q at *
      obtain ⟨s, hs⟩ : ∃ s, sizeP (l.take k) = s := ⟨_, rfl⟩
      rw [hs] at Hbd Hnext ⊢
      have h1 := (R4.ok_iff q).1 hq
      have h2 := area1_bd hq
      have h3 := Hbd.out
      obtain ⟨a1, ha1⟩ : ∃ a1, q.r - q.l = a1 := ⟨_, rfl⟩
      obtain ⟨a2, ha2⟩ : ∃ a2, q.t - q.b = a2 := ⟨_, rfl⟩
      rw [ha1, ha2] at Hnext h2
      have e1 : IntKind.i64.wrap (q.r - q.l) = a1 := by rw [ha1]; exact IntWalk.i64_in _ (by omega)
      have e2 : IntKind.i64.wrap (q.t - q.b) = a2 := by rw [ha2]; exact IntWalk.i64_in _ (by omega)
      obtain ⟨pr, hpr⟩ : ∃ pr, a1 * a2 = pr := ⟨_, rfl⟩
      rw [hpr] at Hnext h2
      have e3 : IntKind.i64.wrap (a1 * a2) = pr := by rw [hpr]; exact IntWalk.i64_in _ (by omega)
      have e4 : IntKind.i64.wrap (s + pr) = s + pr := IntWalk.i64_in _ (by omega)
      have Hbd2 : Hid (0 ≤ s + pr ∧ s + pr ≤ 268435456 * ((k + 1 : Nat) : Int)) := Lib.hid (by omega)
      have Hbw := Lib.hid hbw
      have hsw := hbw.size
      clear hbw hq h1 h2 h3 ha1 ha2 hpr hs
      go_wp2
      go_roundw
      case rel => exact ⟨k + 1, by omega, by go_num, by rw [Hnext.out], by rw [Hnext.out]; exact Hbd2, Hbw.out.alloc hsw _⟩
      case measure => simp [intOf]; omega
    · have e1 : l.take k = l := List.take_of_length_le (by omega)
      have hkn' : ¬ (k : Int) < (n : Int) := by omega
      rw [e1]
      clear e1
      go_wp2
      go_ret
      exact ⟨rfl, hbw⟩

/-- How many squares a region has. -/
def areaP (l : List R4) : Int := if validP l then sizeP l else 0
theorem valid_parts {l : List R4} (h : validP l = true) : l.length ≤ 120 ∧ l.all R4.ok = true ∧ canonP l = l := by
  simp only [validP, Bool.and_eq_true, decide_eq_true_eq] at h
  exact ⟨h.1.1, h.1.2, h.2⟩

set_option maxHeartbeats 1000000 in
theorem area_any (A : Option Addr) (n c : Nat) (l : List R4) (w : World) (hA : SlR w A n c l) :
    Calls Tryz.prog 11 #[.agg #[.slice A n c]] w fun e w' => e = .returned (.int .i64 (areaP l)) ∧ Below w.heap.size w w' := by
  have hx := hA.len
  have HA := Lib.hid hA
  clear hA
  have HV := Lib.hid (fun W (hW : Below w.heap.size w W) => valid_any A n c l W (HA.out.below hW))
  cases hv : validP l with
  | false =>
    have e0 : areaP l = 0 := by unfold areaP; rw [hv]; rfl
    rw [e0]
    rw [hv] at HV
    clear e0 hv
    go_enter Tryz.func11, Tryz.ntmps11
    go_wp2_with (first | (go_at_call 48; refine (HV.out _ (by repeat' (first | with_reducible exact Below.refl _ _ | with_reducible refine below_drewN ?_ _ | with_reducible refine Below.drew ?_ | with_reducible refine Below.alloc ?_ ?_ _ | with_reducible refine Below.setCell ?_ ?_ _ | with_reducible refine Below.trans ?_ (Below.mono (by with_reducible assumption) ?_) | (simp; done) | (simp; omega) | omega))).mono ?_; rintro e w1 ⟨rfl, hb1⟩) | fail)
    go_ret
    exact ⟨rfl, (by repeat' (first | with_reducible exact Below.refl _ _ | with_reducible assumption | with_reducible refine below_drewN ?_ _ | with_reducible refine Below.drew ?_ | with_reducible refine Below.alloc ?_ ?_ _ | with_reducible refine Below.setCell ?_ ?_ _ | with_reducible refine Below.trans ?_ (Below.mono (by with_reducible assumption) ?_) | with_reducible refine below_only ?_ (by with_reducible assumption) ?_ ?_ | (simp; done) | (simp; omega) | omega))⟩
  | true =>
    have e0 : areaP l = sizeP l := by unfold areaP; rw [hv]; rfl
    obtain ⟨hl, hok, _⟩ := valid_parts hv
    have Hs := Lib.hid (fun W (hW : Below w.heap.size w W) => size_any A n c l W (HA.out.below hW) hok (by omega))
    rw [e0]
    rw [hv] at HV
    clear e0 hv hok
    generalize sizeP l = s at *
    go_enter Tryz.func11, Tryz.ntmps11
    go_wp2_with (first
      | (go_at_call 48; refine (HV.out _ (by repeat' (first | with_reducible exact Below.refl _ _ | with_reducible refine below_drewN ?_ _ | with_reducible refine Below.drew ?_ | with_reducible refine Below.alloc ?_ ?_ _ | with_reducible refine Below.setCell ?_ ?_ _ | with_reducible refine Below.trans ?_ (Below.mono (by with_reducible assumption) ?_) | (simp; done) | (simp; omega) | omega))).mono ?_; rintro e w1 ⟨rfl, hb1⟩; have cg1 : w1.cell? ⟨w.heap.size, 0, none⟩ = some (.slice A n c) := (hb1.cell (p := ⟨w.heap.size, 0, none⟩) (by simp)).trans (cell_of_row _ w.heap.size 0 _ _ _ (heap_alloc_new w _)); have Hb1 : Hid (Below w.heap.size w w1) := Lib.hid (show Below w.heap.size w w1 from (by have hbq := hb1; exact (by repeat' (first | with_reducible exact Below.refl _ _ | with_reducible assumption | with_reducible refine below_drewN ?_ _ | with_reducible refine Below.drew ?_ | with_reducible refine Below.alloc ?_ ?_ _ | with_reducible refine Below.setCell ?_ ?_ _ | with_reducible refine Below.trans ?_ (Below.mono (by with_reducible assumption) ?_) | with_reducible refine below_only ?_ (by with_reducible assumption) ?_ ?_ | (simp; done) | (simp; omega) | omega)))); clear hb1)
      | (go_at_call 49; refine (Hs.out _ (Hb1.out.trans (Below.mono (by repeat' (first | with_reducible exact Below.refl _ _ | with_reducible refine below_drewN ?_ _ | with_reducible refine Below.drew ?_ | with_reducible refine Below.alloc ?_ ?_ _ | with_reducible refine Below.setCell ?_ ?_ _ | with_reducible refine Below.trans ?_ (Below.mono (by with_reducible assumption) ?_) | (simp; done) | (simp; omega) | omega)) Hb1.out.size))).mono ?_; rintro e w2 ⟨rfl, hb2⟩; have Hb2 : Hid (Below w1.heap.size w1 w2) := Lib.hid (show Below w1.heap.size w1 w2 from (by have hbq := hb2; exact (by repeat' (first | with_reducible exact Below.refl _ _ | with_reducible assumption | with_reducible refine below_drewN ?_ _ | with_reducible refine Below.drew ?_ | with_reducible refine Below.alloc ?_ ?_ _ | with_reducible refine Below.setCell ?_ ?_ _ | with_reducible refine Below.trans ?_ (Below.mono (by with_reducible assumption) ?_) | with_reducible refine below_only ?_ (by with_reducible assumption) ?_ ?_ | (simp; done) | (simp; omega) | omega)))); clear hb2)
      | fail)
    go_ret
    exact ⟨rfl, Hb1.out.trans (Hb2.out.mono Hb1.out.size)⟩

end Go.Proofs.YtfmkmhhghmdakaaGreatDoor
namespace Go.Proofs.YtfmkmhhghmdakaaGreatDoor
open Go.RowKit
set_option linter.unusedVariables false

theorem segs_in {p : Int → Bool} {l : List (Sg Unit)} (h : Segs (fun x => opt (p x)) l) (s : Int) (hp : ∀ x, p x = true → 0 ≤ x ∧ x < s) : ∀ q ∈ l, 0 ≤ q.1 ∧ q.1 < q.2.1 ∧ q.2.1 ≤ s := by
  intro q hq
  have h0 := h.pos q hq
  have h1 := (h.mem q.1 q.2.2).2 ⟨q, hq, Int.le_refl _, h0, rfl⟩
  have h2 := (h.mem (q.2.1 - 1) q.2.2).2 ⟨q, hq, by omega, by omega, rfl⟩
  rw [opt_some] at h1 h2
  have := hp _ h1
  have := hp _ h2
  omega

def ind (b : Bool) : Int := if b then 1 else 0
/-- Bounds. -/
theorem lt_len : ∀ (l : List Int) (lo hi : Int), l.Pairwise (· < ·) → (∀ k ∈ l, lo ≤ k ∧ k ≤ hi) → lo ≤ hi + 1 → (l.length : Int) ≤ hi - lo + 1
  | [], lo, hi, _, _, h => by simp; omega
  | x :: t, lo, hi, hp, hb, h => by
    obtain ⟨h1, h2⟩ := List.pairwise_cons.1 hp
    have hx := hb x (by simp)
    have := lt_len t (x + 1) hi h2 (fun k hk => by have := h1 k hk; have := hb k (by simp [hk]); omega) (by omega)
    simp; omega
theorem inL_of {l : List R4} {q : R4} (hq : q ∈ l) (h : q.l < q.r ∧ q.b < q.t) : inL l q.l q.b = true :=
  List.any_eq_true.2 ⟨q, hq, by simp [R4.has]; omega⟩
theorem row_in {s : Int} {l : List R4} (h : InS s l) (y : Int) : ∀ q ∈ rowP l y, 0 ≤ q.1 ∧ q.1 < q.2.1 ∧ q.2.1 ≤ s :=
  segs_in (rowP_segs l y h.pos) s fun x hx => by have := h.in x y hx; omega
theorem merge_len (how : Bool → Bool → Bool) (s : Nat) (A B : List (Sg Unit)) (hA : ∀ q ∈ A, 0 ≤ q.1 ∧ q.1 < q.2.1 ∧ q.2.1 ≤ (s : Int)) (hB : ∀ q ∈ B, 0 ≤ q.1 ∧ q.1 < q.2.1 ∧ q.2.1 ≤ (s : Int)) : (mergeP how A B).length ≤ s := by
  have h1 := foldC_len (fun x => opt (how (inR A x) (inR B x))) (asc (sEdges (A ++ B))) []
  have h2 := lt_len (asc (sEdges (A ++ B))) 0 s (asc_all _).1 (fun k hk => by
    have := ((asc_all _).2.1 k).1 hk
    simp only [sEdges, List.mem_flatMap] at this
    obtain ⟨q, hq, hk⟩ := this
    have hq' : 0 ≤ q.1 ∧ q.1 < q.2.1 ∧ q.2.1 ≤ (s : Int) := by
      rcases List.mem_append.1 hq with hq | hq
      · exact hA q hq
      · exact hB q hq
    simp at hk
    rcases hk with rfl | rfl <;> omega) (by omega)
  unfold mergeP
  simp at h1
  omega
theorem merge_len2 (how : Bool → Bool → Bool) (A B : List (Sg Unit)) : (mergeP how A B).length ≤ 2 * (A.length + B.length) := by
  have h1 := foldC_len (fun x => opt (how (inR A x) (inR B x))) (asc (sEdges (A ++ B))) []
  have h2 := (asc_all (sEdges (A ++ B))).2.2
  have h3 : (sEdges (A ++ B)).length = 2 * (A ++ B).length := by
    generalize A ++ B = l
    induction l with
    | nil => rfl
    | cons q t ih => simp [sEdges] at ih ⊢; omega
  rw [List.length_append] at h3
  unfold mergeP
  simp at h1
  omega
theorem choose_len (how : Bool → Bool → Bool) (s : Nat) (a b : List R4) (ha : InS s a) (hb : InS s b) : (chooseP how a b).length ≤ s * s := by
  have h1 := flat_len s (foldC (fun y => some (mergeP how (rowP a y) (rowP b y))) (cutsP (a ++ b)) []) (foldC_val (fun v : List (Sg Unit) => v.length ≤ s) _ (fun x v hv => by injection hv with hv; subst hv; exact merge_len how s _ _ (row_in ha x) (row_in hb x)) _ _ (by simp))
  have h2 := foldC_len (fun y => some (mergeP how (rowP a y) (rowP b y))) (cutsP (a ++ b)) []
  have h3 := lt_len (cutsP (a ++ b)) 0 s (asc_all _).1 (fun k hk => by
    have := ((asc_all _).2.1 k).1 hk
    simp only [yEdges, List.mem_flatMap] at this
    obtain ⟨q, hq, hk⟩ := this
    have hq' : 0 ≤ q.b ∧ q.b < q.t ∧ q.t ≤ (s : Int) := by
      rcases List.mem_append.1 hq with hq | hq
      · have := ha q hq; omega
      · have := hb q hq; omega
    simp at hk
    rcases hk with rfl | rfl <;> omega) (by omega)
  refine Nat.le_trans h1 (Nat.mul_le_mul_right _ ?_)
  simp at h2
  omega
theorem choose_mem (how : Bool → Bool → Bool) (h0 : how false false = false) {a b : List R4} (ha : ∀ q ∈ a, q.l < q.r) (hb : ∀ q ∈ b, q.l < q.r) (x y : Int) : inL (chooseP how a b) x y = how (inL a x y) (inL b x y) :=
  (choose_canon how h0 a b ha hb).mem x y
theorem choose_in (how : Bool → Bool → Bool) (h0 : how false false = false) {s : Int} {a b : List R4} (ha : InS s a) (hb : InS s b) : InS s (chooseP how a b) := by
  intro q hq
  have h1 := (choose_canon how h0 a b ha.pos hb.pos).bd 0 s 0 s (fun x y hx => by
    cases h1 : inL a x y with
    | true => exact ha.in x y h1
    | false =>
      cases h2 : inL b x y with
      | true => exact hb.in x y h2
      | false => rw [h1, h2, h0] at hx; cases hx) q hq
  omega
/-- What is chosen of two regions within a square is one. -/
theorem choose_reg (how : Bool → Bool → Bool) (h0 : how false false = false) (s : Nat) {a b : List R4} (ha : InS s a) (hb : InS s b) : Reg s (s * s) (chooseP how a b) :=
  ⟨choose_in how h0 ha hb, (choose_canon how h0 a b ha.pos hb.pos).own (choose_in how h0 ha hb).pos, choose_len how s a b ha hb⟩

def orB (x y : Bool) : Bool := x || y
def andB (x y : Bool) : Bool := x && y
def notB (x y : Bool) : Bool := x && !y
/-- region's combine. -/
def combineP (how : Bool → Bool → Bool) (a b : List R4) : List R4 × Int := if validP a && validP b then (if 120 < (chooseP how a b).length then ([], 1) else (chooseP how a b, 0)) else ([], 7)
theorem combine_reg (how : Bool → Bool → Bool) (h0 : how false false = false) (s m k : Nat) (hs : s ≤ 10) {a b : List R4} (hm : m ≤ 120) (hk : k ≤ 120) (ha : Reg s m a) (hb : Reg s k b) : combineP how a b = (chooseP how a b, 0) := by
  have h1 := ha.valid (by omega) hm
  have h2 := hb.valid (by omega) hk
  have h3 := (choose_reg how h0 s ha.ins hb.ins).len
  have h4 : s * s ≤ 10 * 10 := Nat.mul_le_mul hs hs
  unfold combineP
  rw [h1, h2, Bool.and_self, if_pos rfl, if_neg (by omega)]
theorem choose_is {how : Bool → Bool → Bool} (h0 : how false false = false) {a b c : List R4} (ha : ∀ q ∈ a, q.l < q.r) (hca : canonP a = a) (hb : ∀ q ∈ b, q.l < q.r) (hc : ∀ q ∈ c, q.l < q.r) (h : ∀ x y, how (inL b x y) (inL c x y) = inL a x y) : chooseP how b c = a := by
  have h1 := canonP_canon a ha
  rw [hca] at h1
  exact (choose_canon how h0 b c hb hc).uniq (h1.congr fun x y => (h x y).symm)
theorem choose_nil {how : Bool → Bool → Bool} (h0 : how false false = false) {s : Int} {a b : List R4} (ha : InS s a) (hb : InS s b) : chooseP how a b = [] ↔ ∀ x y, how (inL a x y) (inL b x y) = false := by
  constructor
  · intro h x y
    have := choose_mem how h0 ha.pos hb.pos x y
    rw [h] at this
    exact this.symm
  · intro h
    cases hc : chooseP how a b with
    | nil => rfl
    | cons q t =>
      have h1 := choose_in how h0 ha hb q (by rw [hc]; simp)
      have h2 := inL_of (l := chooseP how a b) (q := q) (by rw [hc]; simp) (by omega)
      rw [choose_mem how h0 ha.pos hb.pos, h] at h2
      cases h2
def overP (p q : R4) : Bool := decide (p.l < q.r) && decide (q.l < p.r) && decide (p.b < q.t) && decide (q.b < p.t)
def meetsP (a b : List R4) : Bool := validP a && validP b && a.any fun p => b.any fun q => overP p q
theorem over_some {s : Int} {a b : List R4} (ha : InS s a) (hb : InS s b) : (a.any fun p => b.any fun q => overP p q) = true ↔ ∃ x y, (inL a x y && inL b x y) = true := by
  constructor
  · intro h
    obtain ⟨p, hp, h⟩ := List.any_eq_true.1 h
    obtain ⟨q, hq, h⟩ := List.any_eq_true.1 h
    have h1 := ha p hp
    have h2 := hb q hq
    simp [overP] at h
    refine ⟨max p.l q.l, max p.b q.b, ?_⟩
    rw [Bool.and_eq_true]
    refine ⟨List.any_eq_true.2 ⟨p, hp, ?_⟩, List.any_eq_true.2 ⟨q, hq, ?_⟩⟩ <;> simp only [R4.has, Bool.and_eq_true, decide_eq_true_eq] <;> omega
  · rintro ⟨x, y, h⟩
    rw [Bool.and_eq_true] at h
    obtain ⟨p, hp, h1⟩ := List.any_eq_true.1 h.1
    obtain ⟨q, hq, h2⟩ := List.any_eq_true.1 h.2
    simp only [R4.has, Bool.and_eq_true, decide_eq_true_eq] at h1 h2
    exact List.any_eq_true.2 ⟨p, hp, List.any_eq_true.2 ⟨q, hq, by simp only [overP, Bool.and_eq_true, decide_eq_true_eq]; omega⟩⟩
theorem bool_eq {a b : Bool} (h : a = true ↔ b = true) : a = b := by cases a <;> cases b <;> simp_all
end Go.Proofs.YtfmkmhhghmdakaaGreatDoor
namespace Go.Proofs.YtfmkmhhghmdakaaGreatDoor
open Go.RowKit Go.Shelf Go.Lib Go.Sort
set_option linter.unusedVariables false
set_option linter.unusedSimpArgs false

theorem sCells_app (a b : List (Sg Unit)) : sCells (a ++ b) = sCells a ++ sCells b := by simp [sCells]
theorem sCells_one (l : List (Sg Unit)) : ∀ u ∈ sCells l, u.oneCell' = true := by
  intro u hu
  simp only [sCells, List.mem_flatMap] at hu
  obtain ⟨s, _, hu⟩ := hu
  simp [encSp] at hu
  rcases hu with rfl | rfl <;> rfl

/-- A row of spans of one's own. -/
def SpPost (w : World) (l : List (Sg Unit)) (e : Ending) (w' : World) : Prop := ∃ v, e = .returned v ∧ w'.ownsRow w.heap.size 256 2 v l.length (sCells l) ∧ Below w.heap.size w w'

set_option maxHeartbeats 1000000 in
set_option maxRecDepth 100000 in
theorem growS_any (k : Nat) (w : World) (hn : k ≤ 2000000) :
    Calls Tryz.prog 293 #[.slice none 0 0, .int .i64 (k : Int)] w (SpPost w []) := by
  obtain ⟨i0, hi, hz0, hz1, hz2⟩ := info_parts Tryz.infoSpan
  by_cases h0 : k = 0
  · subst h0
    go_enter Tryz.func293, Tryz.ntmps293
    go_wp2
    go_ret
    exact ⟨_, rfl, World.ownsRow_nil _ _ _ _, Below.refl _ _⟩
  · have tb : Tryz.t256.bytes = 16 := by kernel_rfl
    have hf : ¬ 281474976710656 < Builtin.nextslicecap k 0 * 16 := by
      have := growslice_fits (need := k) (old := 0) (bytes := 16) (by omega) (by omega)
      omega
    have key : Hid (SpPost w [] (.returned (.slice (some ⟨w.heap.size, 0, none⟩) 0 (grownCap w k 0 256))) ((w.alloc (Obj.cells (Builtin.zeroCells #[Value.int IntKind.i64 0, Value.int IntKind.i64 0] k ++ Builtin.zeroCells #[Value.int IntKind.i64 0, Value.int IntKind.i64 0] (grownCap w k 0 256 - k)) 256)).drew)) := by
      have hGn := grownCap_ge w k 0 256
      have hGm := grownCap_le_maxLen w k 0 256 (by unfold maxLen; omega)
      generalize grownCap w k 0 256 = G at *
      refine ⟨_, rfl, World.ownsRow.drew (World.ownsRow_made w _ G (Nat.le_refl _) hGm ?_), (by repeat' (first | with_reducible exact Below.refl _ _ | with_reducible refine below_drewN ?_ _ | with_reducible refine Below.drew ?_ | with_reducible refine Below.alloc ?_ ?_ _ | with_reducible refine Below.setCell ?_ ?_ _ | with_reducible refine Below.trans ?_ (Below.mono (by with_reducible assumption) ?_) | (simp; done) | (simp; omega) | omega))⟩
      rw [Array.size_append, size_zeroCells, size_zeroCells]
      simp
      omega
    go_enter Tryz.func293, Tryz.ntmps293
    go_wp2
    go_ret
    exact key.out

/-- How many spans the first of two slices have, and which. -/
def lenS2 (n m : Nat) : Nat → Nat
  | 0 => 0
  | 1 => n
  | _ => n + m
def catS2 (xs ys : List (Sg Unit)) : Nat → List (Sg Unit)
  | 0 => []
  | 1 => [] ++ xs
  | _ => ([] ++ xs) ++ ys
theorem SlS.reads {w : World} {A : Option Addr} {n c : Nat} {l : List (Sg Unit)} (h : SlS w (.slice A n c) l) : n = l.length ∧ Reads w w.heap.size 2 A l.length (sCells l) ∧ n ≤ c ∧ c ≤ maxLen := by
  obtain ⟨A', c', he, h1, h2, h3⟩ := h
  injection he with e1 e2 e3
  subst e1 e2 e3
  exact ⟨rfl, h3.reads (sCells_len l), h1, h2⟩

set_option maxHeartbeats 4000000 in
set_option maxRecDepth 100000 in
theorem concatS_any (g : Nat) (A B : Option Addr) (n c m d : Nat) (xs ys : List (Sg Unit)) (w : World)
    (h0 : w.cell? ⟨g, 0, none⟩ = some (.slice A n c)) (h1 : w.cell? ⟨g, 1, none⟩ = some (.slice B m d)) (hg : g < w.heap.size)
    (hn : xs.length ≤ 100000) (hm : ys.length ≤ 100000) (hA : SlS w (.slice A n c) xs) (hB : SlS w (.slice B m d) ys) :
    Calls Tryz.prog 221 #[.slice (some ⟨g, 0, none⟩) 2 2] w (SpPost w (xs ++ ys)) := by
  obtain ⟨i0, hi, hz0, hz1, hz2⟩ := info_parts Tryz.infoSpan
  obtain ⟨hx, HA, _, _⟩ := hA.reads
  obtain ⟨hy, HB, _, _⟩ := hB.reads
  rw [← hx] at HA hn
  rw [← hy] at HB hm
  have Hx := Lib.hid hx
  have Hy := Lib.hid hy
  have HA := Lib.hid HA
  have HB := Lib.hid HB
  clear hx hy hA hB
  go_enter Tryz.func221, Tryz.ntmps221
  go_wp2
  go_loop [3, 11] (fun s i => ∃ k : Nat, k ≤ 2 ∧ i = .int .i64 (k : Int) ∧ s = .int .i64 (lenS2 n m k : Nat)) (fun _ i => 2 - (intOf i).toNat)
  case atStart => exact ⟨0, by omega, rfl, rfl⟩
  case round =>
    obtain ⟨k, hk, rfl, rfl⟩ := hrel
    rcases (show k = 0 ∨ k = 1 ∨ k = 2 by omega) with rfl | rfl | rfl
    · have e1 : lenS2 n m 0 = 0 := rfl
      rw [e1]
      clear e1
      go_wp2
      go_round
      case rel => exact ⟨1, by omega, rfl, by simp [lenS2]⟩
      case measure => simp [intOf]
    · have e1 : lenS2 n m 1 = n := rfl
      rw [e1]
      clear e1
      go_wp2
      go_round
      case rel => exact ⟨2, by omega, rfl, by simp [lenS2]⟩
      case measure => simp [intOf]
    · have e1 : lenS2 n m 2 = n + m := rfl
      rw [e1]
      clear e1
      go_wp2_with fail
      refine (growS_any (n + m) w (by omega)).mono ?_
      rintro e w1 ⟨v1, rfl, hown1, hb1⟩
      have Hown1 := Lib.hid hown1
      clear hown1
      go_wp2
      go_loopw [6, 27] (fun v i wr => ∃ k : Nat, k ≤ 2 ∧ i = .int .i64 (k : Int) ∧ SpPost w (catS2 xs ys k) (.returned v) wr) (fun _ i _ => 2 - (intOf i).toNat)
      case atStart => exact ⟨0, by omega, rfl, v1, rfl, Hown1.out, hb1⟩
      case round =>
        obtain ⟨k, hk, rfl, v, hv, hown, hb⟩ := hrel
        injection hv with hv
        subst hv
        have c0 := (hb.cell (p := ⟨g, 0, none⟩) hg).trans h0
        have c1 := (hb.cell (p := ⟨g, 1, none⟩) hg).trans h1
        have Hown := Lib.hid hown
        clear hown
        have hsz := hb.size
        rcases (show k = 0 ∨ k = 1 ∨ k = 2 by omega) with rfl | rfl | rfl
        · go_wp2_with (at_builtin
                       refine wpList_append_any _ rfl (.tmp 31) (.tmp 32) _ rfl w.heap.size 256 i0 _ 2 16 Tryz.underlying195 hi hz0 hz1 hz2 rfl (by omega) _ 0 [] rfl
                         Hown.out w.heap.size A n c (sCells xs) rfl (HA.out.below hb) (sCells_one xs) (by simp only [maxLen]; omega) (by omega) hsz ?_
                       intro v2 w2 hown2 hg2 hat2)
          go_roundw
          case rel =>
            refine ⟨1, by omega, rfl, v2, rfl, ?_, hb.grown hg2 hsz (own_base Hown.out)⟩
            have e1 : (catS2 xs ys 1).length = 0 + n := by simp [catS2, Hx.out]
            rw [e1]
            exact hown2
          case measure => simp [intOf]
        · have e1 : Hid ((catS2 xs ys 1).length = n) := by show (catS2 xs ys 1).length = n; simp [catS2, Hx.out]
          rw [e1.out] at Hown
          go_wp2_with (at_builtin
                       refine wpList_append_any _ rfl (.tmp 31) (.tmp 32) _ rfl w.heap.size 256 i0 _ 2 16 Tryz.underlying195 hi hz0 hz1 hz2 rfl (by omega) _ n (sCells (catS2 xs ys 1)) rfl
                         Hown.out w.heap.size B m d (sCells ys) rfl (HB.out.below hb) (sCells_one ys) (by simp only [maxLen]; omega) (by omega) hsz ?_
                       intro v2 w2 hown2 hg2 hat2)
          go_roundw
          case rel =>
            refine ⟨2, by omega, rfl, v2, rfl, ?_, hb.grown hg2 hsz (own_base Hown.out)⟩
            have e1 : (catS2 xs ys 2).length = n + m := by simp [catS2, Hx.out, Hy.out]
            have e2 : sCells (catS2 xs ys 2) = sCells (catS2 xs ys 1) ++ sCells ys := by simp only [catS2]; rw [sCells_app]
            rw [e1, e2]
            exact hown2
          case measure => simp [intOf]
        · go_wp2
          go_ret
          exact ⟨_, rfl, Hown.out, hb⟩

set_option maxHeartbeats 1000000 in
theorem containsS_any (p : Sg Unit → Bool) (f : Nat) (lb : Array Value) (eg : ∀ args w, (callFunc f args).run Tryz.prog w = .ok (.enter f args) w) (u : Value) (l : List (Sg Unit)) (w : World) (hA : SlS w u l)
    (hp : PredBelow Tryz.prog f lb (fun q : Sg Unit => .agg (encSp q).toArray) p w) :
    Calls Tryz.prog 250 #[u, .func (.func f) #[] lb] w fun e w' => e = .returned (.bool (l.any p)) ∧ Below w.heap.size w w' := by
  obtain ⟨A, c, rfl, hc1, hm1, hl1⟩ := hA
  have hn := Nat.le_trans hc1 hm1
  unfold maxLen at hn
  rcases Nat.eq_zero_or_pos l.length with h0 | h0
  · obtain rfl : l = [] := List.length_eq_zero_iff.1 h0
    clear hl1 hp eg
    go_enter Tryz.func250, Tryz.ntmps250
    go_wp2
    go_loop [8] (fun i => i = .int .i64 0) (fun _ => 0)
    case atStart => rfl
    case round =>
      subst hrel
      go_wp2
      go_ret
      exact ⟨rfl, Below.refl _ _⟩
  · obtain ⟨b1, o1, rfl, hb1, hcc1⟩ := hl1.resolve_left (by omega)
    refine (AnyQ.slices_ContainsFunc Tryz.layContainsSpan 2 Tryz.isAgg256 Tryz.sizeOf256 encSp (fun _ => rfl) p f lb eg b1 o1 l.length c l w hp (by omega) (by omega) hb1 ?_).mono ?_
    · intro j hj i v hv
      obtain ⟨h0, h1⟩ := sCells_at l j hj
      rw [getElem!_pos l j hj] at hv
      have hi : i < 2 := by
        rcases Nat.lt_or_ge i 2 with h | h
        · exact h
        · rw [List.getElem?_eq_none (by simpa [encSp] using h)] at hv; cases hv
      rcases (show i = 0 ∨ i = 1 by omega) with rfl | rfl
      · simp [encSp] at hv; subst hv; exact hcc1 _ _ h0
      · simp [encSp] at hv; subst hv; rw [Nat.add_assoc]; exact hcc1 _ _ h1
    · rintro e w' ⟨rfl, hb⟩
      rw [List.take_of_length_le (by omega)]
      exact ⟨rfl, hb⟩

set_option maxHeartbeats 1000000 in
theorem insidePred (gx : Nat) (x : Int) (w : World) (hx : w.cell? ⟨gx, 0, none⟩ = some (.int .i64 x)) (hgx : gx < w.heap.size) :
    PredBelow Tryz.prog 294 #[.pointer (some ⟨gx, 0, none⟩)] (fun q : Sg Unit => .agg (encSp q).toArray) (fun q => inS q x) w := by
  intro W q hb
  refine Calls.mono (show Calls Tryz.prog 294 #[.agg #[.int .i64 q.1, .int .i64 q.2.1], .pointer (some ⟨gx, 0, none⟩)] W fun e w' => e = .returned (.bool (inS q x)) ∧ Below W.heap.size W w' from ?_) ?_
  · have cx := (hb.cell (p := ⟨gx, 0, none⟩) hgx).trans hx
    have hgx' : gx < W.heap.size := Nat.lt_of_lt_of_le hgx hb.size
    have Hh : Hid (inS q x = (decide (q.1 ≤ x) && decide (x < q.2.1))) := Lib.hid rfl
    generalize inS q x = res at *
    clear hx hb hgx
    by_cases h1 : q.1 ≤ x
    · by_cases h2 : x < q.2.1
      · have hR : res = true := by rw [Hh.out]; simp [h1, h2]
        subst hR
        go_enter Tryz.func294, Tryz.ntmps294
        go_wp2
        go_ret
        exact ⟨rfl, (by repeat' (first | with_reducible exact Below.refl _ _ | with_reducible refine below_drewN ?_ _ | with_reducible refine Below.drew ?_ | with_reducible refine Below.alloc ?_ ?_ _ | with_reducible refine Below.setCell ?_ ?_ _ | with_reducible refine Below.trans ?_ (Below.mono (by with_reducible assumption) ?_) | (simp; done) | (simp; omega) | omega))⟩
      · have hR : res = false := by rw [Hh.out]; simp [h2]
        subst hR
        go_enter Tryz.func294, Tryz.ntmps294
        go_wp2
        go_ret
        exact ⟨rfl, (by repeat' (first | with_reducible exact Below.refl _ _ | with_reducible refine below_drewN ?_ _ | with_reducible refine Below.drew ?_ | with_reducible refine Below.alloc ?_ ?_ _ | with_reducible refine Below.setCell ?_ ?_ _ | with_reducible refine Below.trans ?_ (Below.mono (by with_reducible assumption) ?_) | (simp; done) | (simp; omega) | omega))⟩
    · have hR : res = false := by rw [Hh.out]; simp [h1]
      subst hR
      go_enter Tryz.func294, Tryz.ntmps294
      go_wp2
      go_ret
      exact ⟨rfl, (by repeat' (first | with_reducible exact Below.refl _ _ | with_reducible refine below_drewN ?_ _ | with_reducible refine Below.drew ?_ | with_reducible refine Below.alloc ?_ ?_ _ | with_reducible refine Below.setCell ?_ ?_ _ | with_reducible refine Below.trans ?_ (Below.mono (by with_reducible assumption) ?_) | (simp; done) | (simp; omega) | omega))⟩
  · rintro e w' ⟨rfl, h⟩
    exact ⟨rfl, hb.trans (h.mono hb.size)⟩

set_option maxHeartbeats 1000000 in
set_option maxRecDepth 100000 in
theorem insideS_any (u : Value) (l : List (Sg Unit)) (x : Int) (w : World) (hA : SlS w u l) :
    Calls Tryz.prog 222 #[u, .int .i64 x] w fun e w' => e = .returned (.bool (inR l x)) ∧ Below w.heap.size w w' := by
  have HA := Lib.hid hA
  have Hr : Hid (inR l x = l.any fun q => inS q x) := Lib.hid rfl
  generalize inR l x = res at *
  have eg : ∀ args w, (callFunc 294 args).run Tryz.prog w = .ok (.enter 294 args) w := enters_of Tryz.func294 (by kernel_rfl) rfl
  have Eg := Lib.hid eg
  clear hA eg
  go_enter Tryz.func222, Tryz.ntmps222
  go_wp2_with (first
    | (go_at_call 250
       refine (containsS_any (fun q => inS q x) 294 #[.pointer (some ⟨w.heap.size, 0, none⟩)] Eg.out u l _ (HA.out.below (by repeat' (first | with_reducible exact Below.refl _ _ | with_reducible refine below_drewN ?_ _ | with_reducible refine Below.drew ?_ | with_reducible refine Below.alloc ?_ ?_ _ | with_reducible refine Below.setCell ?_ ?_ _ | with_reducible refine Below.trans ?_ (Below.mono (by with_reducible assumption) ?_) | (simp; done) | (simp; omega) | omega))) (insidePred _ x _ (cell_of_row _ w.heap.size 0 _ _ _ (heap_alloc_new w _)) (by simp))).mono ?_
       rintro e w1 ⟨rfl, hb1⟩
       rw [← Hr.out])
    | fail)
  go_ret
  exact ⟨rfl, (by repeat' (first | with_reducible exact Below.refl _ _ | with_reducible assumption | with_reducible refine below_drewN ?_ _ | with_reducible refine Below.drew ?_ | with_reducible refine Below.alloc ?_ ?_ _ | with_reducible refine Below.setCell ?_ ?_ _ | with_reducible refine Below.trans ?_ (Below.mono (by with_reducible assumption) ?_) | with_reducible refine below_only ?_ (by with_reducible assumption) ?_ ?_ | (simp; done) | (simp; omega) | omega))⟩
end Go.Proofs.YtfmkmhhghmdakaaGreatDoor
namespace Go.Proofs.YtfmkmhhghmdakaaGreatDoor
open Go.RowKit
set_option linter.unusedVariables false
set_option linter.unusedSimpArgs false

theorem sEdges_take_succ (l : List (Sg Unit)) (k : Nat) (h : k < l.length) : sEdges (l.take (k + 1)) = sEdges (l.take k) ++ [l[k].1, l[k].2.1] := by
  rw [List.take_succ_eq_append_getElem h]; unfold sEdges; rw [List.flatMap_append]; rfl
theorem sEdges_len (l : List (Sg Unit)) : (sEdges l).length = 2 * l.length := by
  induction l with
  | nil => rfl
  | cons q t ih => simp [sEdges] at ih ⊢; omega

set_option maxHeartbeats 16000000 in
set_option maxRecDepth 100000 in
theorem merge_any (f : Nat) (lb : Array Value) (how : Bool → Bool → Bool) (va vb : Value) (la lc : List (Sg Unit)) (w : World) (hA : SlS w va la) (hB : SlS w vb lc) (hn : la.length ≤ 100000) (hm : lc.length ≤ 100000)
    (eg : ∀ args w, (callFunc f args).run Tryz.prog w = .ok (.enter f args) w)
    (HF : ∀ W x y, Below w.heap.size w W → Calls Tryz.prog f (#[.bool x, .bool y] ++ lb) W fun e w' => e = .returned (.bool (how x y)) ∧ Below W.heap.size W w') :
    Calls Tryz.prog 139 #[va, vb, .func (.func f) #[] lb] w (SpPost w (mergeP how la lc)) := by
  obtain ⟨i0, hi, hz0, hz1, hz2⟩ := info_parts Tryz.infoSpan
  obtain ⟨j0, hj, hy0, hy1, hy2⟩ := info_parts Tryz.infoInt
  obtain ⟨A, ca, rfl, hA1, hA2, hA3⟩ := id hA
  obtain ⟨B, cb, rfl, hB1, hB2, hB3⟩ := id hB
  have HA := Lib.hid hA
  have HB := Lib.hid hB
  have HFh := Lib.hid HF
  have Hm : Hid (mergeP how la lc = foldC (fun x => opt (how (inR la x) (inR lc x))) (asc (sEdges (la ++ lc))) []) := Lib.hid rfl
  have Hac : Hid (asc (sEdges (la ++ lc)) = Lib.compact (srt (sEdges (la ++ lc)))) := Lib.hid rfl
  obtain ⟨al, hal⟩ : ∃ al, la ++ lc = al := ⟨_, rfl⟩
  have hall : al.length ≤ 200000 := by rw [← hal, List.length_append]; omega
  rw [hal] at Hm Hac
  obtain ⟨N, hN⟩ : ∃ N, la.length = N := ⟨_, rfl⟩
  obtain ⟨M, hM⟩ : ∃ M, lc.length = M := ⟨_, rfl⟩
  have HN := Lib.hid hN
  have HM := Lib.hid hM
  have Hal := Lib.hid hal
  rw [hN] at HA ⊢
  rw [hM] at HB ⊢
  clear hA hB HF hA1 hA2 hA3 hB1 hB2 hB3 hal hN hM
  go_enter Tryz.func139, Tryz.ntmps139
  go_upto_region 3 with (first
    | (go_at_call 221
       refine (concatS_any w.heap.size A B N ca M cb la lc _ (cell_of_row _ w.heap.size 0 _ _ _ (heap_alloc_new w _)) (cell_of_row _ w.heap.size 1 _ _ _ (heap_alloc_new w _)) (by simp) hn hm (HA.out.below (by repeat' (first | with_reducible exact Below.refl _ _ | with_reducible refine below_drewN ?_ _ | with_reducible refine Below.drew ?_ | with_reducible refine Below.alloc ?_ ?_ _ | with_reducible refine Below.setCell ?_ ?_ _ | with_reducible refine Below.trans ?_ (Below.mono (by with_reducible assumption) ?_) | (simp; done) | (simp; omega) | omega))) (HB.out.below (by repeat' (first | with_reducible exact Below.refl _ _ | with_reducible refine below_drewN ?_ _ | with_reducible refine Below.drew ?_ | with_reducible refine Below.alloc ?_ ?_ _ | with_reducible refine Below.setCell ?_ ?_ _ | with_reducible refine Below.trans ?_ (Below.mono (by with_reducible assumption) ?_) | (simp; done) | (simp; omega) | omega)))).mono ?_
       rintro e w0 ⟨v0, rfl, hown0, hb0⟩
       rw [Hal.out] at hown0
       obtain ⟨Sd, sc, rfl, hSl, hSc, hSm⟩ := own_slice hown0
       have HSl := Lib.hid hSl
       have Hb0 : Hid (Below w.heap.size w w0) := Lib.hid (show Below w.heap.size w w0 from (by have hbq := hb0; exact (by repeat' (first | with_reducible exact Below.refl _ _ | with_reducible assumption | with_reducible refine below_drewN ?_ _ | with_reducible refine Below.drew ?_ | with_reducible refine Below.alloc ?_ ?_ _ | with_reducible refine Below.setCell ?_ ?_ _ | with_reducible refine Below.trans ?_ (Below.mono (by with_reducible assumption) ?_) | with_reducible refine below_only ?_ (by with_reducible assumption) ?_ ?_ | (simp; done) | (simp; omega) | omega))))
       clear hown0 hb0 hSl)
    | fail)
  have hs0 := Hb0.out.size
  go_loopw [7, 9, 19] (fun o _ i wr => ∃ k : Nat, k ≤ al.length ∧ i = .int .i64 (k : Int) ∧ wr.ownsRow w0.heap.size 3 1 o (sEdges (al.take k)).length ((sEdges (al.take k)).map (.int .i64)) ∧ Below w0.heap.size w0 wr) (fun _ _ i _ => al.length - (intOf i).toNat)
  case atStart => exact ⟨0, Nat.zero_le _, rfl, World.ownsRow_nil _ _ _ _, Below.refl _ _⟩
  case round =>
    obtain ⟨k, hk, rfl, hown, hbw⟩ := hrel
    have hsw := hbw.size
    have Hown := Lib.hid hown
    have Hbw := Lib.hid hbw
    clear hown
    by_cases hkn : k < al.length
    · obtain ⟨b, off, rfl, hb, hcs⟩ := (HSl.out.below hbw).resolve_left (by omega)
      obtain ⟨i1, i2⟩ := sCells_at al k hkn
      have c0 := hcs _ _ i1
      have c1 : wr.cell? ⟨b, off + k * 2 + 1, none⟩ = some (.int .i64 al[k].2.1) := hcs _ _ i2
      have Hnext := Lib.hid (sEdges_take_succ al k hkn)
      have hlen : (sEdges (al.take k)).length ≤ 400000 := by rw [sEdges_len, List.length_take]; omega
      have hkn' : (k : Int) < (al.length : Int) := by omega
      generalize al[k] = s at *
      generalize sEdges (al.take k) = es at *
      clear hbw hcs i1 i2
      go_wp2_with (first
        | (at_builtin
           refine wpList_append_any _ rfl (.tmp 23) (.tmp 28) _ rfl w0.heap.size 3 j0 _ 1 8 Tryz.underlying22 hj hy0 hy1 hy2 rfl (by omega) _ es.length (es.map (.int .i64)) rfl
             ((Hown.out.alloc _).alloc _) _ _ 2 2 [.int .i64 s.1, .int .i64 s.2.1] rfl ⟨rfl, fun _ => ⟨_, rfl, Nat.lt_succ_self _, fun j u hu => (by exact World.news_of_block (heap_alloc2_new wr _ (.cells #[.int .i64 s.1, .int .i64 s.2.1] 3)) j u hu)⟩⟩ (by simp [Value.oneCell']) (by simp only [maxLen]; omega) (by omega) (by simp; omega) ?_
           intro v5 w5 hown5 hg5 hat5)
        | fail)
      go_roundw
      case rel =>
        refine ⟨k + 1, by omega, by go_num, ?_, Below.grown (((Hbw.out.alloc hsw _).alloc (by simp; omega) _)) hg5 (by simp; omega) (own_base Hown.out)⟩
        rw [Hnext.out, List.length_append, List.map_append]
        exact hown5
      case measure => simp [intOf]; omega
    · have Hown3 : Hid (wr.ownsRow w0.heap.size 3 1 u7 (sEdges al).length ((sEdges al).map (.int .i64))) := Lib.hid (by have := Hown.out; rw [List.take_of_length_le (by omega)] at this; exact this)
      have hel : (sEdges al).length ≤ 400000 := by rw [sEdges_len]; omega
      have Hsr := Lib.hid (srt_len (sEdges al))
      have hkn' : ¬ (k : Int) < (al.length : Int) := by omega
      have hub := Lib.hid (own_base Hown3.out)
      have Hasc := Lib.hid (asc_all (sEdges al)).2.2
      clear hbw Hown
      obtain ⟨ex, hex⟩ : ∃ ex, asc (sEdges al) = ex := ⟨_, rfl⟩
      rw [hex] at Hm Hac Hasc
      clear hex
      generalize sEdges al = es at *
      go_wp2_with fail
      refine (sort_own _ Hown3.out (by omega)).mono ?_
      rintro e w1 ⟨rfl, hown1, hg1⟩
      have Hown1 : Hid (w1.ownsRow w0.heap.size 3 1 u7 (srt es).length ((srt es).map (.int .i64))) := Lib.hid (by rw [Hsr.out]; exact hown1)
      have Hb1 : Hid (Below w0.heap.size w0 w1) := Lib.hid (Hbw.out.grown hg1 hsw hub.out)
      clear hown1 hg1
      go_wp2_with fail
      refine (compact_own _ Hown1.out).mono ?_
      rintro e w2 ⟨v2, rfl, hown2, hg2, hv2⟩
      have Hb2 : Hid (Below w.heap.size w w2) := Lib.hid (Hb0.out.trans ((Hb1.out.grown hg2 Hb1.out.size hub.out).mono hs0))
      rw [← Hac.out] at hown2
      obtain ⟨C, cc, rfl, hC⟩ := SlI.of_own hown2
      have HC := Lib.hid hC
      clear hown2 hg2 hv2 hC
      have hs2 := Hb2.out.size
      have hex4 : ex.length ≤ 400000 := by have := Hasc.out; omega
      obtain ⟨E, hE⟩ : ∃ E, ex.length = E := ⟨_, rfl⟩
      have HEl := Lib.hid hE
      rw [hE] at HC hex4 ⊢
      clear hE
      have HinA : Hid (∀ W x, Below w2.heap.size w2 W → Calls Tryz.prog 222 #[.slice A N ca, .int .i64 x] W fun e w' => e = .returned (.bool (inR la x)) ∧ Below W.heap.size W w') := Lib.hid (fun W x hW => insideS_any _ la x W (HA.out.below (Hb2.out.trans (hW.mono hs2))))
      have HinB : Hid (∀ W x, Below w2.heap.size w2 W → Calls Tryz.prog 222 #[.slice B M cb, .int .i64 x] W fun e w' => e = .returned (.bool (inR lc x)) ∧ Below W.heap.size W w') := Lib.hid (fun W x hW => insideS_any _ lc x W (HB.out.below (Hb2.out.trans (hW.mono hs2))))
      have HFx : Hid (∀ W x y, Below w2.heap.size w2 W → Calls Tryz.prog f (#[.bool x, .bool y] ++ lb) W fun e w' => e = .returned (.bool (how x y)) ∧ Below W.heap.size W w') := Lib.hid (fun W x y hW => HFh.out W x y (Hb2.out.trans (hW.mono hs2)))
      go_upto_region 11 with fail
      go_loopw [10, 11, 12, 13] (fun o i _ _ wr => ∃ (j : Nat) (acc : List (Sg Unit)), i = .int .i64 ((j : Int) + 1) ∧ j ≤ E ∧ wr.ownsRow w2.heap.size 256 2 o acc.length (sCells acc) ∧ Below w2.heap.size w2 wr ∧ Hid (foldC (fun x => opt (how (inR la x) (inR lc x))) (ex.drop j) acc = foldC (fun x => opt (how (inR la x) (inR lc x))) ex []) ∧ Hid (acc.length ≤ j)) (fun _ i _ _ _ => E + 1 - (intOf i).toNat)
      case atStart => exact ⟨0, [], rfl, Nat.zero_le _, World.ownsRow_nil _ _ _ _, Below.refl _ _, Lib.hid rfl, Lib.hid (Nat.le_refl _)⟩
      case round =>
        obtain ⟨j, acc, rfl, hjE, hown, hbr, Hrun, Hacc⟩ := hrel
        have hsr := hbr.size
        have Hown := Lib.hid hown
        have Hbr := Lib.hid hbr
        clear hown
        by_cases hj : j + 1 < E
        · have hj1 : j < ex.length := by have := HEl.out; omega
          have hj2 : j + 1 < ex.length := by have := HEl.out; omega
          obtain ⟨xb, xo, hCe, hxb, cxa⟩ := HC.out.at j hj1
          obtain ⟨xb', xo', hCe', _, cxb⟩ := HC.out.at (j + 1) hj2
          rw [hCe] at hCe'
          injection hCe' with hCe'
          injection hCe' with e1 e2 _
          subst e1 e2 hCe
          have Hdrop := Lib.hid (foldC_drop (fun x => opt (how (inR la x) (inR lc x))) ex j hj2 acc)
          generalize ex[j] = x at *
          generalize ex[j + 1] = x' at *
          have cx0 := (hbr.cell (p := ⟨xb, xo + j, none⟩) hxb).trans cxa
          have cx1 := (hbr.cell (p := ⟨xb, xo + (j + 1), none⟩) hxb).trans cxb
          have Hch : Hid (how (inR la x) (inR lc x) = how (inR la x) (inR lc x)) := Lib.hid rfl
          have HiA := Lib.hid (fun W hW => HinA.out W x hW)
          have HiB := Lib.hid (fun W hW => HinB.out W x hW)
          have HFy := Lib.hid (fun W hW => HFx.out W (inR la x) (inR lc x) hW)
          generalize inR la x = ia at *
          generalize inR lc x = ic at *
          generalize how ia ic = ch at *
          have hj' : (j : Int) + 1 < (E : Int) := by omega
          have hwj : IntKind.i64.wrap ((j : Int) + 1 - 1) = (j : Int) := by rw [IntWalk.i64_in _ (by omega)]; omega
          have hwj2 : IntKind.i64.wrap (j : Int) = (j : Int) := IntWalk.i64_in _ (by omega)
          have hj0 : (0 : Int) ≤ (j : Int) := by omega
          have hj01 : (0 : Int) ≤ (j : Int) + 1 := by omega
          have hjl : (j : Int) < (E : Int) := by omega
          have hxbr : xb < wr.heap.size := by omega
          clear cxa cxb hbr
          have hal : acc.length ≤ 400000 := by have := Hacc.out; omega
          go_upto_region 14 with fail
          cases ch with
          | false =>
            go_upto_region 15 with (first
              | (go_at_call_of 222 (Value.slice A N ca)
                 refine (HiA.out _ (Hbr.out.trans (Below.mono (by repeat' (first | with_reducible exact Below.refl _ _ | with_reducible refine below_drewN ?_ _ | with_reducible refine Below.drew ?_ | with_reducible refine Below.alloc ?_ ?_ _ | with_reducible refine Below.setCell ?_ ?_ _ | with_reducible refine Below.trans ?_ (Below.mono (by with_reducible assumption) ?_) | (simp; done) | (simp; omega) | omega)) hsr))).mono ?_
                 rintro e wA ⟨rfl, hA4⟩
                 have HA4 : Hid (Below wr.heap.size wr wA) := Lib.hid (show Below wr.heap.size wr wA from (by have hbq := hA4; exact (by repeat' (first | with_reducible exact Below.refl _ _ | with_reducible assumption | with_reducible refine below_drewN ?_ _ | with_reducible refine Below.drew ?_ | with_reducible refine Below.alloc ?_ ?_ _ | with_reducible refine Below.setCell ?_ ?_ _ | with_reducible refine Below.trans ?_ (Below.mono (by with_reducible assumption) ?_) | with_reducible refine below_only ?_ (by with_reducible assumption) ?_ ?_ | (simp; done) | (simp; omega) | omega))))
                 clear hA4)
              | (go_at_call_of 222 (Value.slice B M cb)
                 refine (HiB.out _ (Hbr.out.trans ((HA4.out.trans (Below.mono (by repeat' (first | with_reducible exact Below.refl _ _ | with_reducible refine below_drewN ?_ _ | with_reducible refine Below.drew ?_ | with_reducible refine Below.alloc ?_ ?_ _ | with_reducible refine Below.setCell ?_ ?_ _ | with_reducible refine Below.trans ?_ (Below.mono (by with_reducible assumption) ?_) | (simp; done) | (simp; omega) | omega)) HA4.out.size)).mono hsr))).mono ?_
                 rintro e wB ⟨rfl, hB4⟩
                 have HB4 : Hid (Below wr.heap.size wr wB) := Lib.hid (HA4.out.trans (Below.mono (show Below wA.heap.size wA wB from (by have hbq := hB4; exact (by repeat' (first | with_reducible exact Below.refl _ _ | with_reducible assumption | with_reducible refine below_drewN ?_ _ | with_reducible refine Below.drew ?_ | with_reducible refine Below.alloc ?_ ?_ _ | with_reducible refine Below.setCell ?_ ?_ _ | with_reducible refine Below.trans ?_ (Below.mono (by with_reducible assumption) ?_) | with_reducible refine below_only ?_ (by with_reducible assumption) ?_ ?_ | (simp; done) | (simp; omega) | omega)))) HA4.out.size))
                 clear hB4)
              | (go_at_fn f
                 refine (HFy.out _ (Hbr.out.trans ((HB4.out.trans (Below.mono (by repeat' (first | with_reducible exact Below.refl _ _ | with_reducible refine below_drewN ?_ _ | with_reducible refine Below.drew ?_ | with_reducible refine Below.alloc ?_ ?_ _ | with_reducible refine Below.setCell ?_ ?_ _ | with_reducible refine Below.trans ?_ (Below.mono (by with_reducible assumption) ?_) | (simp; done) | (simp; omega) | omega)) HB4.out.size)).mono hsr))).mono ?_
                 rintro e w4 ⟨rfl, hb4⟩
                 have Hb4 : Hid (Below wr.heap.size wr w4) := Lib.hid (HB4.out.trans (Below.mono (show Below wB.heap.size wB w4 from (by have hbq := hb4; exact (by repeat' (first | with_reducible exact Below.refl _ _ | with_reducible assumption | with_reducible refine below_drewN ?_ _ | with_reducible refine Below.drew ?_ | with_reducible refine Below.alloc ?_ ?_ _ | with_reducible refine Below.setCell ?_ ?_ _ | with_reducible refine Below.trans ?_ (Below.mono (by with_reducible assumption) ?_) | with_reducible refine below_only ?_ (by with_reducible assumption) ?_ ?_ | (simp; done) | (simp; omega) | omega)))) HB4.out.size))
                 clear hb4)
              | fail)
            have hs4 := Hb4.out.size
            have cx04 := (Hb4.out.cell (p := ⟨xb, xo + j, none⟩) hxbr).trans cx0
            have cx14 := (Hb4.out.cell (p := ⟨xb, xo + (j + 1), none⟩) hxbr).trans cx1
            have Hown4 := Lib.hid (ownsRow_below Hown.out Hb4.out)
            have hsw4 : w2.heap.size ≤ w4.heap.size := by omega
            clear cx0 cx1
            go_wp2
            go_roundw
            case rel => exact ⟨j + 1, acc, by go_num, by omega, Hown4.out, Hbr.out.trans (Hb4.out.mono hsr), Lib.hid (by rw [← Hrun.out, Hdrop.out]; rfl), Lib.hid (by have := Hacc.out; omega)⟩
            case measure => simp [intOf]; omega
          | true =>
            go_upto_region 15 with (first
              | (go_at_call_of 222 (Value.slice A N ca)
                 refine (HiA.out _ (Hbr.out.trans (Below.mono (by repeat' (first | with_reducible exact Below.refl _ _ | with_reducible refine below_drewN ?_ _ | with_reducible refine Below.drew ?_ | with_reducible refine Below.alloc ?_ ?_ _ | with_reducible refine Below.setCell ?_ ?_ _ | with_reducible refine Below.trans ?_ (Below.mono (by with_reducible assumption) ?_) | (simp; done) | (simp; omega) | omega)) hsr))).mono ?_
                 rintro e wA ⟨rfl, hA4⟩
                 have HA4 : Hid (Below wr.heap.size wr wA) := Lib.hid (show Below wr.heap.size wr wA from (by have hbq := hA4; exact (by repeat' (first | with_reducible exact Below.refl _ _ | with_reducible assumption | with_reducible refine below_drewN ?_ _ | with_reducible refine Below.drew ?_ | with_reducible refine Below.alloc ?_ ?_ _ | with_reducible refine Below.setCell ?_ ?_ _ | with_reducible refine Below.trans ?_ (Below.mono (by with_reducible assumption) ?_) | with_reducible refine below_only ?_ (by with_reducible assumption) ?_ ?_ | (simp; done) | (simp; omega) | omega))))
                 clear hA4)
              | (go_at_call_of 222 (Value.slice B M cb)
                 refine (HiB.out _ (Hbr.out.trans ((HA4.out.trans (Below.mono (by repeat' (first | with_reducible exact Below.refl _ _ | with_reducible refine below_drewN ?_ _ | with_reducible refine Below.drew ?_ | with_reducible refine Below.alloc ?_ ?_ _ | with_reducible refine Below.setCell ?_ ?_ _ | with_reducible refine Below.trans ?_ (Below.mono (by with_reducible assumption) ?_) | (simp; done) | (simp; omega) | omega)) HA4.out.size)).mono hsr))).mono ?_
                 rintro e wB ⟨rfl, hB4⟩
                 have HB4 : Hid (Below wr.heap.size wr wB) := Lib.hid (HA4.out.trans (Below.mono (show Below wA.heap.size wA wB from (by have hbq := hB4; exact (by repeat' (first | with_reducible exact Below.refl _ _ | with_reducible assumption | with_reducible refine below_drewN ?_ _ | with_reducible refine Below.drew ?_ | with_reducible refine Below.alloc ?_ ?_ _ | with_reducible refine Below.setCell ?_ ?_ _ | with_reducible refine Below.trans ?_ (Below.mono (by with_reducible assumption) ?_) | with_reducible refine below_only ?_ (by with_reducible assumption) ?_ ?_ | (simp; done) | (simp; omega) | omega)))) HA4.out.size))
                 clear hB4)
              | (go_at_fn f
                 refine (HFy.out _ (Hbr.out.trans ((HB4.out.trans (Below.mono (by repeat' (first | with_reducible exact Below.refl _ _ | with_reducible refine below_drewN ?_ _ | with_reducible refine Below.drew ?_ | with_reducible refine Below.alloc ?_ ?_ _ | with_reducible refine Below.setCell ?_ ?_ _ | with_reducible refine Below.trans ?_ (Below.mono (by with_reducible assumption) ?_) | (simp; done) | (simp; omega) | omega)) HB4.out.size)).mono hsr))).mono ?_
                 rintro e w4 ⟨rfl, hb4⟩
                 have Hb4 : Hid (Below wr.heap.size wr w4) := Lib.hid (HB4.out.trans (Below.mono (show Below wB.heap.size wB w4 from (by have hbq := hb4; exact (by repeat' (first | with_reducible exact Below.refl _ _ | with_reducible assumption | with_reducible refine below_drewN ?_ _ | with_reducible refine Below.drew ?_ | with_reducible refine Below.alloc ?_ ?_ _ | with_reducible refine Below.setCell ?_ ?_ _ | with_reducible refine Below.trans ?_ (Below.mono (by with_reducible assumption) ?_) | with_reducible refine below_only ?_ (by with_reducible assumption) ?_ ?_ | (simp; done) | (simp; omega) | omega)))) HB4.out.size))
                 clear hb4)
              | fail)
            have hs4 := Hb4.out.size
            have cx04 := (Hb4.out.cell (p := ⟨xb, xo + j, none⟩) hxbr).trans cx0
            have cx14 := (Hb4.out.cell (p := ⟨xb, xo + (j + 1), none⟩) hxbr).trans cx1
            have Hown4 := Lib.hid (ownsRow_below Hown.out Hb4.out)
            have hsw4 : w2.heap.size ≤ w4.heap.size := by omega
            clear cx0 cx1
            rcases list_snoc acc with hsn | ⟨a0, q, hsn⟩
            · have Hnew : Hid (stepO acc x x' (opt true) = acc ++ [(x, x', ())]) := Lib.hid (by rw [hsn]; rfl)
              have hl0 : acc.length = 0 := by rw [hsn]; rfl
              have Hlen := Lib.hid hl0
              rw [hl0] at Hown4 hal
              obtain ⟨Bd, bc, rfl, _, _, _⟩ := own_slice Hown4.out
              clear hsn hl0
              go_upto_region 16 with fail
              go_upto_region 18 with fail
              have Hb5 : Hid (Below wr.heap.size wr w4) := Hb4
              have cx15 : w4.cell? ⟨xb, xo + (j + 1), none⟩ = some (.int .i64 x') := cx14
              have Hown5 : Hid (w4.ownsRow w2.heap.size 256 2 (.slice Bd 0 bc) 0 (sCells acc)) := Hown4
              have hsw5 : w2.heap.size ≤ w4.heap.size := hsw4
              clear cx04 cx14 Hown4
              generalize w4 = w5 at *
              go_wp2_with (first
                | (at_builtin
                   refine wpList_append_any _ rfl (.tmp 78) (.tmp 85) _ rfl w2.heap.size 256 i0 _ 2 16 Tryz.underlying195 hi hz0 hz1 hz2 rfl (by omega) _ 0 (sCells acc) rfl
                     (Hown5.out.alloc _) _ _ 1 1 [.int .i64 x, .int .i64 x'] rfl ⟨rfl, fun _ => ⟨_, rfl, Nat.lt_succ_self _, fun j u hu => (by exact news_any _ _ _ j u hu)⟩⟩ (by simp [Value.oneCell']) (by simp only [maxLen]; omega) (by omega) (by simp; omega) ?_
                   intro v6 w6 hown6 hg6 hat6)
                | fail)
              go_roundw
              case rel =>
                refine ⟨j + 1, acc ++ [(x, x', ())], by go_num, by omega, ?_, Below.grown ((Hbr.out.trans (Hb5.out.mono hsr)).alloc (by omega) _) hg6 (by simp; omega) (own_base Hown5.out), Lib.hid (by rw [← Hrun.out, Hdrop.out, ← Hnew.out]), Lib.hid (by have := Hacc.out; simp; omega)⟩
                rw [List.length_append, sCells_snoc, Hlen.out]
                exact hown6
              case measure => simp [intOf]; omega
            · have hl0 : acc.length = a0.length + 1 := by rw [hsn]; simp
              obtain ⟨nb, hnb⟩ : ∃ nb, acc.length = nb := ⟨_, rfl⟩
              obtain ⟨p, hp⟩ : ∃ p, a0.length = p := ⟨_, rfl⟩
              have hn1 : nb = p + 1 := by omega
              have hpl : p < acc.length := by omega
              have hblp : acc[p] = q := by
                have h1 : acc[p]? = some q := by rw [hsn, List.getElem?_append_right (by omega), hp]; simp
                rw [List.getElem?_eq_getElem hpl] at h1
                exact Option.some.inj h1
              have Hlen := Lib.hid hnb
              have Hn1 := Lib.hid hn1
              have Hsn := Lib.hid hsn
              have Hp := Lib.hid hp
              rw [hnb] at Hown4 hal
              obtain ⟨g, bc, rfl, hgb, hgl, hnc, hcm, hcells, hfr⟩ := own_at Hown4.out (by omega)
              have cr := hcells (p * 2 + 1) _ (sCells_at acc p hpl).2
              rw [hblp] at cr
              have Hset : Hid (∀ z : Int, sCells (a0 ++ [(q.1, z, ())]) = (sCells acc).set (p * 2 + 1) (.int .i64 z)) := Lib.hid (fun z => by
                rw [← sCells_setR acc p hpl z, hblp, hsn]
                congr 1
                rw [List.set_append_right _ _ (by omega), hp, Nat.sub_self]
                rfl)
              have hwn : IntKind.i64.wrap ((nb : Int) - 1) = (p : Int) := by rw [IntWalk.i64_in _ (by omega)]; omega
              have hnp : (p : Int) < (nb : Int) := by omega
              have hn00 : (0 : Int) < (nb : Int) := by omega
              have hp00 : (0 : Int) ≤ (p : Int) := by omega
              have hn0N : 0 < nb := by omega
              have hnpN : p < nb := by omega
              have hdn : decide (0 < nb) = true := decide_eq_true hn0N
              have hfg := hfr (p * 2 + 1)
              clear hsn hl0 hnb hp hn1 hpl hblp hcells hfr
              go_upto_region 16 with fail
              by_cases hqx : q.2.1 = x
              · have Hext : Hid (stepO acc x x' (opt true) = a0 ++ [(q.1, x', ())]) := Lib.hid (by rw [Hsn.out]; exact step_band_ext 0 0 x x' a0 q hqx)
                have hqd : (q.2.1 == x) = true := by simp [hqx]
                go_upto_region 17 with fail
                have Hb5 : Hid (Below wr.heap.size wr w4) := Hb4
                have cx15 : w4.cell? ⟨xb, xo + (j + 1), none⟩ = some (.int .i64 x') := cx14
                have cr5 : w4.cell? ⟨g, p * 2 + 1, none⟩ = some (.int .i64 q.2.1) := cr
                have fr5 : w4.frozen? ⟨g, p * 2 + 1, none⟩ = false := hfg
                have Hown5 : Hid (w4.ownsRow w2.heap.size 256 2 (.slice (some ⟨g, 0, none⟩) nb bc) nb (sCells acc)) := Hown4
                clear cx04 cx14 Hown4 cr hfg
                generalize w4 = w5 at *
                go_wp2
                go_roundw
                case rel =>
                  refine ⟨j + 1, a0 ++ [(q.1, x', ())], by go_num, by omega, ?_, (Hbr.out.trans (Hb5.out.mono hsr)).setCell hgb _, Lib.hid (by rw [← Hrun.out, Hdrop.out, ← Hext.out]), Lib.hid (by have := Hacc.out; have := Hlen.out; have := Hp.out; have := Hn1.out; simp; omega)⟩
                  have e1 : (a0 ++ [(q.1, x', ())]).length = nb := by rw [List.length_append, Hp.out, Hn1.out]; rfl
                  rw [e1, Hset.out]
                  exact own_setN Hown5.out _ _
                case measure => simp [intOf]; omega
              · have Hnew : Hid (stepO acc x x' (opt true) = acc ++ [(x, x', ())]) := Lib.hid (step_band_new x x' acc (by rw [Hsn.out]; simp; exact hqx))
                have hqd : (q.2.1 == x) = false := by simp [hqx]
                go_upto_region 18 with fail
                have Hb5 : Hid (Below wr.heap.size wr w4) := Hb4
                have cx15 : w4.cell? ⟨xb, xo + (j + 1), none⟩ = some (.int .i64 x') := cx14
                have Hown5 : Hid (w4.ownsRow w2.heap.size 256 2 (.slice (some ⟨g, 0, none⟩) nb bc) nb (sCells acc)) := Hown4
                have hsw5 : w2.heap.size ≤ w4.heap.size := hsw4
                clear cx04 cx14 Hown4 cr hfg
                generalize w4 = w5 at *
                go_wp2_with (first
                  | (at_builtin
                     refine wpList_append_any _ rfl (.tmp 78) (.tmp 85) _ rfl w2.heap.size 256 i0 _ 2 16 Tryz.underlying195 hi hz0 hz1 hz2 rfl (by omega) _ nb (sCells acc) rfl
                       (Hown5.out.alloc _) _ _ 1 1 [.int .i64 x, .int .i64 x'] rfl ⟨rfl, fun _ => ⟨_, rfl, Nat.lt_succ_self _, fun j u hu => (by exact news_any _ _ _ j u hu)⟩⟩ (by simp [Value.oneCell']) (by simp only [maxLen]; omega) (by omega) (by simp; omega) ?_
                     intro v6 w6 hown6 hg6 hat6)
                  | fail)
                go_roundw
                case rel =>
                  refine ⟨j + 1, acc ++ [(x, x', ())], by go_num, by omega, ?_, Below.grown ((Hbr.out.trans (Hb5.out.mono hsr)).alloc (by omega) _) hg6 (by simp; omega) (own_base Hown5.out), Lib.hid (by rw [← Hrun.out, Hdrop.out, ← Hnew.out]), Lib.hid (by have := Hacc.out; simp; omega)⟩
                  rw [List.length_append, sCells_snoc, Hlen.out]
                  exact hown6
                case measure => simp [intOf]; omega
        · have Hfin : Hid (mergeP how la lc = acc) := Lib.hid (by rw [Hm.out, ← Hrun.out, foldC_end _ _ _ (by have := HEl.out; omega)])
          have hj' : ¬ (j : Int) + 1 < (E : Int) := by omega
          clear hbr
          go_wp2
          go_ret
          exact ⟨_, rfl, by rw [Hfin.out]; exact own_rebase Hown.out hs2, Hb2.out.trans (Hbr.out.mono hs2)⟩
end Go.Proofs.YtfmkmhhghmdakaaGreatDoor
namespace Go.Proofs.YtfmkmhhghmdakaaGreatDoor
open Go.RowKit
set_option linter.unusedVariables false
set_option linter.unusedSimpArgs false

/-- A function of two truth values that changes nothing. -/
def BoolFn (f : Nat) (lb : Array Value) (how : Bool → Bool → Bool) (w : World) : Prop :=
  ∀ W x y, Below w.heap.size w W → Calls Tryz.prog f (#[.bool x, .bool y] ++ lb) W fun e w' => e = .returned (.bool (how x y)) ∧ Below W.heap.size W w'
theorem BoolFn.below {f : Nat} {lb : Array Value} {how : Bool → Bool → Bool} {w w' : World} (h : BoolFn f lb how w) (hb : Below w.heap.size w w') : BoolFn f lb how w' := fun W x y hW => h W x y (hb.trans (hW.mono hb.size))
/-- The three boxes that Choose makes. -/
structure ChB (W : World) (g : Nat) (A : Option Addr) (n c : Nat) (B : Option Addr) (m d f : Nat) (lb : Array Value) : Prop where
  size : g + 1 + 1 < W.heap.size
  c0 : W.cell? ⟨g, 0, none⟩ = some (.slice A n c)
  c1 : W.cell? ⟨g + 1, 0, none⟩ = some (.slice B m d)
  c2 : W.cell? ⟨g + 1 + 1, 0, none⟩ = some (.func (.func f) #[] lb)
theorem ChB.below {W W' : World} {g : Nat} {A : Option Addr} {n c : Nat} {B : Option Addr} {m d f : Nat} {lb : Array Value} (h : ChB W g A n c B m d f lb) (hb : Below W.heap.size W W') : ChB W' g A n c B m d f lb :=
  have hs := h.size
  ⟨Nat.lt_of_lt_of_le h.size hb.size, (hb.cell (p := ⟨g, 0, none⟩) (by show g < _; omega)).trans h.c0, (hb.cell (p := ⟨g + 1, 0, none⟩) (by show g + 1 < _; omega)).trans h.c1, (hb.cell (p := ⟨g + 1 + 1, 0, none⟩) h.size).trans h.c2⟩

set_option maxHeartbeats 4000000 in
set_option maxRecDepth 100000 in
theorem chooseRow_any (g : Nat) (A B : Option Addr) (n c m d f : Nat) (lb : Array Value) (how : Bool → Bool → Bool) (a b : List R4) (y : Int) (w : World) (hg : ChB w g A n c B m d f lb) (hA : SlR w A n c a) (hB : SlR w B m d b) (hn : n ≤ 100000) (hm : m ≤ 100000) (ha : ∀ q ∈ a, q.l < q.r) (hb : ∀ q ∈ b, q.l < q.r)
    (eg : ∀ args w, (callFunc f args).run Tryz.prog w = .ok (.enter f args) w) (HF : BoolFn f lb how w) :
    Calls Tryz.prog 138 #[.int .i64 y, .pointer (some ⟨g, 0, none⟩), .pointer (some ⟨g + 1, 0, none⟩), .pointer (some ⟨g + 1 + 1, 0, none⟩)] w fun e w' => ∃ v, e = .returned v ∧ w'.ownsRow w.heap.size 256 2 v (mergeP how (rowP a y) (rowP b y)).length (sCells (mergeP how (rowP a y) (rowP b y))) ∧ Below w.heap.size w w' := by
  have hra := rowP_len a y
  have hrb := rowP_len b y
  have hna := hA.len
  have hnb := hB.len
  have Hg := Lib.hid hg
  have HA := Lib.hid hA
  have HB := Lib.hid hB
  have Ha := Lib.hid ha
  have Hb := Lib.hid hb
  have HFh := Lib.hid HF
  have Eg := Lib.hid eg
  have hr1 : (rowP a y).length ≤ 100000 := by omega
  have hr2 : (rowP b y).length ≤ 100000 := by omega
  have HRa := Lib.hid (fun W (hW : Below w.heap.size w W) => row_any A n c a y W (HA.out.below hW) hn Ha.out)
  have HRb := Lib.hid (fun W (hW : Below w.heap.size w W) => row_any B m d b y W (HB.out.below hW) hm Hb.out)
  generalize rowP a y = ra at *
  generalize rowP b y = rb at *
  have c0 := hg.c0
  have c1 := hg.c1
  have c2 := hg.c2
  clear hg hA hB ha hb HF eg hra hrb
  go_enter Tryz.func138, Tryz.ntmps138
  go_upto_region 1 with fail
  go_region_held3 (fun w' => w'.cell? ⟨g, 0, none⟩ = some (.slice A n c) ∧ w'.cell? ⟨g + 1, 0, none⟩ = some (.slice B m d) ∧ w'.cell? ⟨g + 1 + 1, 0, none⟩ = some (.func (.func f) #[] lb))
    (first | go_keep | ((repeat' apply And.intro) <;> go_keep))
    (first
      | (go_at_call_of 140 (Value.slice A n c)
         refine (HRa.out _ (by repeat' (first | with_reducible exact Below.refl _ _ | with_reducible refine below_drewN ?_ _ | with_reducible refine Below.drew ?_ | with_reducible refine Below.alloc ?_ ?_ _ | with_reducible refine Below.setCell ?_ ?_ _ | with_reducible refine Below.trans ?_ (Below.mono (by with_reducible assumption) ?_) | (simp; done) | (simp; omega) | omega))).mono ?_
         rintro e w1 ⟨v1, rfl, hown1, hb1⟩
         have HS1 := Lib.hid (SlS.of_own hown1)
         obtain ⟨V1, k1, rfl, _, _, _⟩ := own_slice hown1
         have Hb1 : Hid (Below w.heap.size w w1) := Lib.hid (show Below w.heap.size w w1 from (by have hbq := hb1; exact (by repeat' (first | with_reducible exact Below.refl _ _ | with_reducible assumption | with_reducible refine below_drewN ?_ _ | with_reducible refine Below.drew ?_ | with_reducible refine Below.alloc ?_ ?_ _ | with_reducible refine Below.setCell ?_ ?_ _ | with_reducible refine Below.trans ?_ (Below.mono (by with_reducible assumption) ?_) | with_reducible refine below_only ?_ (by with_reducible assumption) ?_ ?_ | (simp; done) | (simp; omega) | omega))))
         have Hg1 := Lib.hid (Hg.out.below Hb1.out)
         have c01 := Hg1.out.c0
         have c11 := Hg1.out.c1
         have c21 := Hg1.out.c2
         clear hown1 hb1)
      | (go_at_call_of 140 (Value.slice B m d)
         refine (HRb.out _ (Hb1.out.trans (Below.mono (by repeat' (first | with_reducible exact Below.refl _ _ | with_reducible refine below_drewN ?_ _ | with_reducible refine Below.drew ?_ | with_reducible refine Below.alloc ?_ ?_ _ | with_reducible refine Below.setCell ?_ ?_ _ | with_reducible refine Below.trans ?_ (Below.mono (by with_reducible assumption) ?_) | (simp; done) | (simp; omega) | omega)) Hb1.out.size))).mono ?_
         rintro e w2 ⟨v2, rfl, hown2, hb2⟩
         have HS2 := Lib.hid (SlS.of_own hown2)
         obtain ⟨V2, k2, rfl, _, _, _⟩ := own_slice hown2
         have Hb2 : Hid (Below w1.heap.size w1 w2) := Lib.hid (show Below w1.heap.size w1 w2 from (by have hbq := hb2; exact (by repeat' (first | with_reducible exact Below.refl _ _ | with_reducible assumption | with_reducible refine below_drewN ?_ _ | with_reducible refine Below.drew ?_ | with_reducible refine Below.alloc ?_ ?_ _ | with_reducible refine Below.setCell ?_ ?_ _ | with_reducible refine Below.trans ?_ (Below.mono (by with_reducible assumption) ?_) | with_reducible refine below_only ?_ (by with_reducible assumption) ?_ ?_ | (simp; done) | (simp; omega) | omega))))
         have Hg2 := Lib.hid (Hg1.out.below Hb2.out)
         have c02 := Hg2.out.c0
         have c12 := Hg2.out.c1
         have c22 := Hg2.out.c2
         clear hown2 hb2)
      | (go_at_call 139
         refine (merge_any f lb how _ _ ra rb _ ((HS1.out.below Hb2.out).below (Below.mono (by repeat' (first | with_reducible exact Below.refl _ _ | with_reducible refine below_drewN ?_ _ | with_reducible refine Below.drew ?_ | with_reducible refine Below.alloc ?_ ?_ _ | with_reducible refine Below.setCell ?_ ?_ _ | with_reducible refine Below.trans ?_ (Below.mono (by with_reducible assumption) ?_) | (simp; done) | (simp; omega) | omega)) (Nat.le_refl _))) (HS2.out.below (by repeat' (first | with_reducible exact Below.refl _ _ | with_reducible refine below_drewN ?_ _ | with_reducible refine Below.drew ?_ | with_reducible refine Below.alloc ?_ ?_ _ | with_reducible refine Below.setCell ?_ ?_ _ | with_reducible refine Below.trans ?_ (Below.mono (by with_reducible assumption) ?_) | (simp; done) | (simp; omega) | omega))) hr1 hr2 Eg.out (fun W x y hW => HFh.out W x y (Hb1.out.trans ((Hb2.out.trans ((Below.trans (show Below w2.heap.size w2 _ from (by repeat' (first | with_reducible exact Below.refl _ _ | with_reducible refine below_drewN ?_ _ | with_reducible refine Below.drew ?_ | with_reducible refine Below.alloc ?_ ?_ _ | with_reducible refine Below.setCell ?_ ?_ _ | with_reducible refine Below.trans ?_ (Below.mono (by with_reducible assumption) ?_) | (simp; done) | (simp; omega) | omega))) (hW.mono (by first | exact Nat.le_refl _ | (simp; done)))).mono Hb2.out.size)).mono Hb1.out.size)))).mono ?_
         rintro e w3 ⟨v3, rfl, hown3, hb3⟩
         have Hown3 := Lib.hid hown3
         have Hb3 : Hid (Below w2.heap.size w2 w3) := Lib.hid (show Below w2.heap.size w2 w3 from (by have hbq := hb3; exact (by repeat' (first | with_reducible exact Below.refl _ _ | with_reducible assumption | with_reducible refine below_drewN ?_ _ | with_reducible refine Below.drew ?_ | with_reducible refine Below.alloc ?_ ?_ _ | with_reducible refine Below.setCell ?_ ?_ _ | with_reducible refine Below.trans ?_ (Below.mono (by with_reducible assumption) ?_) | with_reducible refine below_only ?_ (by with_reducible assumption) ?_ ?_ | (simp; done) | (simp; omega) | omega))))
         have Hg3 := Lib.hid (Hg2.out.below Hb3.out)
         have c03 := Hg3.out.c0
         have c13 := Hg3.out.c1
         have c23 := Hg3.out.c2
         clear hown3 hb3)
      | fail)
  all_goals go_wp2
  all_goals go_ret
  all_goals exact ⟨v3, rfl, own_rebase Hown3.out (Nat.le_trans Hb1.out.size Hb2.out.size), Hb1.out.trans ((Hb2.out.trans (Hb3.out.mono Hb2.out.size)).mono Hb1.out.size)⟩

set_option maxHeartbeats 4000000 in
set_option maxRecDepth 100000 in
theorem choose_any (A B : Option Addr) (n c m d f : Nat) (lb : Array Value) (how : Bool → Bool → Bool) (a b : List R4) (w : World) (hA : SlR w A n c a) (hB : SlR w B m d b) (hn : n ≤ 750) (hm : m ≤ 750) (ha : ∀ q ∈ a, q.l < q.r) (hb : ∀ q ∈ b, q.l < q.r)
    (eg : ∀ args w, (callFunc f args).run Tryz.prog w = .ok (.enter f args) w) (HF : BoolFn f lb how w) :
    Calls Tryz.prog 54 #[.slice A n c, .slice B m d, .func (.func f) #[] lb] w fun e w' => ∃ v, e = .returned v ∧ w'.ownsRow w.heap.size 68 4 v (chooseP how a b).length (rCells (chooseP how a b)) ∧ Below w.heap.size w w' := by
  have hna := hA.len
  have hnb := hB.len
  have HA := Lib.hid hA
  have HB := Lib.hid hB
  have Ha := Lib.hid ha
  have Hb := Lib.hid hb
  have HFh := Lib.hid HF
  have Eg := Lib.hid eg
  have Hcl : Hid ((cutsP (a ++ b)).length ≤ 2 * (n + m)) := Lib.hid (by have h1 := (asc_all (yEdges (a ++ b))).2.2; rw [yEdges_len, List.length_append] at h1; unfold cutsP; omega)
  have Hflat : Hid (cutsP [a, b].flatten = cutsP (a ++ b)) := Lib.hid (by simp)
  have Hch : Hid (buildP (fun y => mergeP how (rowP a y) (rowP b y)) (cutsP (a ++ b)) = chooseP how a b) := Lib.hid rfl
  have Hrl : Hid (∀ y, (mergeP how (rowP a y) (rowP b y)).length ≤ 2 * (n + m)) := Lib.hid (fun y => by have h1 := merge_len2 how (rowP a y) (rowP b y); have h2 := rowP_len a y; have h3 := rowP_len b y; omega)
  have eg1 : ∀ args w, (callFunc 138 args).run Tryz.prog w = .ok (.enter 138 args) w := enters_of Tryz.func138 (by kernel_rfl) rfl
  have Eg1 := Lib.hid eg1
  clear hA hB ha hb HF eg eg1
  go_enter Tryz.func54, Tryz.ntmps54
  go_upto_region 1 with fail
  obtain ⟨w1, hw1⟩ : ∃ w1 : World, w1 = ((w.alloc (.cells #[.slice A n c] 31)).alloc (.cells #[.slice B m d] 31)).alloc (.cells #[.func (.func f) #[] lb] 105) := ⟨_, rfl⟩
  rw [← hw1]
  have hg1 : ChB w1 w.heap.size A n c B m d f lb := by
    subst hw1
    refine ⟨by simp, ?_, ?_, ?_⟩
    · exact cell_of_row _ w.heap.size 0 _ _ _ ((Below.heap_alloc _ _ _ (by simp; omega)).trans ((Below.heap_alloc _ _ _ (by simp)).trans (heap_alloc_new w _)))
    · exact cell_of_row _ (w.heap.size + 1) 0 _ _ _ ((Below.heap_alloc _ _ _ (by simp)).trans (heap_alloc2_new w _ _))
    · have h3 := heap_alloc_new ((w.alloc (.cells #[.slice A n c] 31)).alloc (.cells #[.slice B m d] 31)) (.cells #[.func (.func f) #[] lb] 105)
      have h4 : (((w.alloc (.cells #[.slice A n c] 31)).alloc (.cells #[.slice B m d] 31)).alloc (.cells #[.func (.func f) #[] lb] 105)).heap[w.heap.size + 1 + 1]? = some (.cells #[.func (.func f) #[] lb] 105 (0, 0)) := by simpa using h3
      exact cell_of_row _ (w.heap.size + 1 + 1) 0 _ _ _ h4
  have c0 := hg1.c0
  have c1 := hg1.c1
  have c2 := hg1.c2
  have Hg1 := Lib.hid hg1
  have Hw1 : Hid (Below w.heap.size w w1) := Lib.hid (by rw [hw1]; exact (by repeat' (first | with_reducible exact Below.refl _ _ | with_reducible refine below_drewN ?_ _ | with_reducible refine Below.drew ?_ | with_reducible refine Below.alloc ?_ ?_ _ | with_reducible refine Below.setCell ?_ ?_ _ | with_reducible refine Below.trans ?_ (Below.mono (by with_reducible assumption) ?_) | (simp; done) | (simp; omega) | omega)))
  have hs1 := Hw1.out.size
  clear hw1 hg1
  go_wp2_with (first
    | (go_at_call 137
       refine (cuts_any (some ⟨w1.heap.size, 0, none⟩) 2 2 [a, b] _ rfl (by omega) (fun i hi => by
         rcases (show i = 0 ∨ i = 1 by simp at hi; omega) with rfl | rfl
         · exact ⟨w1.heap.size, 0, A, n, c, rfl, by simp, cell_of_row _ w1.heap.size 0 _ _ _ (heap_alloc_new w1 _), HA.out.below (Hw1.out.trans (Below.mono (by repeat' (first | with_reducible exact Below.refl _ _ | with_reducible refine below_drewN ?_ _ | with_reducible refine Below.drew ?_ | with_reducible refine Below.alloc ?_ ?_ _ | with_reducible refine Below.setCell ?_ ?_ _ | with_reducible refine Below.trans ?_ (Below.mono (by with_reducible assumption) ?_) | (simp; done) | (simp; omega) | omega)) hs1))⟩
         · exact ⟨w1.heap.size, 0, B, m, d, rfl, by simp, cell_of_row _ w1.heap.size 1 _ _ _ (heap_alloc_new w1 _), HB.out.below (Hw1.out.trans (Below.mono (by repeat' (first | with_reducible exact Below.refl _ _ | with_reducible refine below_drewN ?_ _ | with_reducible refine Below.drew ?_ | with_reducible refine Below.alloc ?_ ?_ _ | with_reducible refine Below.setCell ?_ ?_ _ | with_reducible refine Below.trans ?_ (Below.mono (by with_reducible assumption) ?_) | (simp; done) | (simp; omega) | omega)) hs1))⟩) (by simp; omega)).mono ?_
       rintro e w2 ⟨v2, rfl, hown2, hb2⟩
       rw [Hflat.out] at hown2
       obtain ⟨C, cc, rfl, hC⟩ := SlI.of_own hown2
       have HC := Lib.hid hC
       have Hb2 : Hid (Below w1.heap.size w1 w2) := Lib.hid (show Below w1.heap.size w1 w2 from (by have hbq := hb2; exact (by repeat' (first | with_reducible exact Below.refl _ _ | with_reducible assumption | with_reducible refine below_drewN ?_ _ | with_reducible refine Below.drew ?_ | with_reducible refine Below.alloc ?_ ?_ _ | with_reducible refine Below.setCell ?_ ?_ _ | with_reducible refine Below.trans ?_ (Below.mono (by with_reducible assumption) ?_) | with_reducible refine below_only ?_ (by with_reducible assumption) ?_ ?_ | (simp; done) | (simp; omega) | omega))))
       have hs2 := Hb2.out.size
       have Hg2 := Lib.hid (Hg1.out.below Hb2.out)
       clear hown2 hb2 hC)
    | (go_at_call 136
       refine (build_any 138 #[.pointer (some ⟨w.heap.size, 0, none⟩), .pointer (some ⟨w.heap.size + 1, 0, none⟩), .pointer (some ⟨w.heap.size + 1 + 1, 0, none⟩)] (fun y => mergeP how (rowP a y) (rowP b y)) (2 * (n + m)) C (cutsP (a ++ b)).length cc (cutsP (a ++ b)) w2 HC.out (by have := Hcl.out; omega) Hrl.out (by omega) (by have h1 := Nat.mul_le_mul_right (2 * (n + m)) Hcl.out; have h2 : (2 * (n + m)) * (2 * (n + m)) ≤ 3000 * 3000 := Nat.mul_le_mul (by omega) (by omega); omega) Eg1.out (fun W y hW => chooseRow_any w.heap.size A B n c m d f lb how a b y W (Hg2.out.below hW) (HA.out.below (Hw1.out.trans ((Hb2.out.trans (hW.mono hs2)).mono hs1))) (HB.out.below (Hw1.out.trans ((Hb2.out.trans (hW.mono hs2)).mono hs1))) (by omega) (by omega) Ha.out Hb.out Eg.out (HFh.out.below (Hw1.out.trans ((Hb2.out.trans (hW.mono hs2)).mono hs1))))).mono ?_
       rintro e w3 ⟨v3, rfl, hown3, hb3⟩
       rw [Hch.out] at hown3
       have Hown3 := Lib.hid hown3
       have Hb3 := Lib.hid hb3
       clear hown3 hb3)
    | fail)
  go_ret
  exact ⟨v3, rfl, own_rebase Hown3.out (Nat.le_trans hs1 hs2), Hw1.out.trans ((Hb2.out.trans (Hb3.out.mono hs2)).mono hs1)⟩
end Go.Proofs.YtfmkmhhghmdakaaGreatDoor
namespace Go.Proofs.YtfmkmhhghmdakaaGreatDoor
open Go.RowKit
set_option linter.unusedVariables false
set_option linter.unusedSimpArgs false

/-- Two boxes of regions, and one for a result. -/
structure Bx3 (w W : World) (A : Option Addr) (n c : Nat) (B : Option Addr) (m d : Nat) : Prop where
  low : Below w.heap.size w W
  size : w.heap.size + 1 + 1 < W.heap.size
  b0 : W.heap[w.heap.size]? = some (.cells #[.slice A n c] 33 (0, 0))
  b1 : W.heap[w.heap.size + 1]? = some (.cells #[.slice B m d] 33 (0, 0))
  b2 : W.heap[w.heap.size + 1 + 1]? = some (.cells #[.slice none 0 0] 33 (0, 0))
theorem Bx3.make (w : World) (A : Option Addr) (n c : Nat) (B : Option Addr) (m d : Nat) : Bx3 w (((w.alloc (.cells #[.slice A n c] 33)).alloc (.cells #[.slice B m d] 33)).alloc (.cells #[.slice none 0 0] 33)) A n c B m d := by
  refine ⟨(by repeat' (first | with_reducible exact Below.refl _ _ | with_reducible refine below_drewN ?_ _ | with_reducible refine Below.drew ?_ | with_reducible refine Below.alloc ?_ ?_ _ | with_reducible refine Below.setCell ?_ ?_ _ | with_reducible refine Below.trans ?_ (Below.mono (by with_reducible assumption) ?_) | (simp; done) | (simp; omega) | omega)), by simp, (Below.heap_alloc _ _ _ (by simp; omega)).trans ((Below.heap_alloc _ _ _ (by simp)).trans (heap_alloc_new w _)), (Below.heap_alloc _ _ _ (by simp)).trans (heap_alloc2_new w _ _), ?_⟩
  have h3 := heap_alloc_new ((w.alloc (.cells #[.slice A n c] 33)).alloc (.cells #[.slice B m d] 33)) (.cells #[.slice none 0 0] 33)
  simpa using h3
theorem Bx3.below {w W W' : World} {A : Option Addr} {n c : Nat} {B : Option Addr} {m d : Nat} (h : Bx3 w W A n c B m d) (hb : Below W.heap.size W W') : Bx3 w W' A n c B m d :=
  have hs := h.size
  ⟨h.low.trans (hb.mono h.low.size), Nat.lt_of_lt_of_le h.size hb.size, (hb.block _ (by omega)).trans h.b0, (hb.block _ (by omega)).trans h.b1, (hb.block _ (by omega)).trans h.b2⟩
section
variable {w W : World} {A : Option Addr} {n c : Nat} {B : Option Addr} {m d : Nat} (h : Bx3 w W A n c B m d)
include h
theorem Bx3.c0 : W.cell? ⟨w.heap.size, 0, none⟩ = some (.slice A n c) := cell_of_row _ _ 0 _ _ _ h.b0
theorem Bx3.c1 : W.cell? ⟨w.heap.size + 1, 0, none⟩ = some (.slice B m d) := cell_of_row _ _ 0 _ _ _ h.b1
theorem Bx3.c2 : W.cell? ⟨w.heap.size + 1 + 1, 0, none⟩ = some (.slice none 0 0) := cell_of_row _ _ 0 _ _ _ h.b2
theorem Bx3.f2 : W.frozen? ⟨w.heap.size + 1 + 1, 0, none⟩ = false := frozen_of_row _ _ 0 _ _ h.b2
theorem Bx3.put (v : Value) : (W.setCell ⟨w.heap.size + 1 + 1, 0, none⟩ v).cell? ⟨w.heap.size + 1 + 1, 0, none⟩ = some v := by
  rw [cell_of_row _ (w.heap.size + 1 + 1) 0 _ _ _ (heap_setCell_same W (w.heap.size + 1 + 1) 0 _ _ v h.b2)]
  rfl
end

set_option maxHeartbeats 8000000 in
set_option maxRecDepth 100000 in
theorem combine_any (A B : Option Addr) (n c m d f : Nat) (lb : Array Value) (how : Bool → Bool → Bool) (a b : List R4) (w : World) (hA : SlR w A n c a) (hB : SlR w B m d b)
    (eg : ∀ args w, (callFunc f args).run Tryz.prog w = .ok (.enter f args) w) (HF : BoolFn f lb how w) :
    Calls Tryz.prog 87 #[.agg #[.slice A n c], .agg #[.slice B m d], .func (.func f) #[] lb] w (RegPost w (combineP how a b)) := by
  have hna := hA.len
  have hnb := hB.len
  have HA := Lib.hid hA
  have HB := Lib.hid hB
  have HFh := Lib.hid HF
  have Eg := Lib.hid eg
  have HVa := Lib.hid (fun W (hW : Below w.heap.size w W) => valid_any A n c a W (HA.out.below hW))
  have HVb := Lib.hid (fun W (hW : Below w.heap.size w W) => valid_any B m d b W (HB.out.below hW))
  have Hx : Hid (combineP how a b = if validP a && validP b then (if 120 < (chooseP how a b).length then ([], 1) else (chooseP how a b, 0)) else ([], 7)) := Lib.hid rfl
  have Hva : Hid (validP a = true → (n ≤ 750 ∧ ∀ q ∈ a, q.l < q.r)) := Lib.hid (fun h => by
    unfold validP at h
    simp only [Bool.and_eq_true, decide_eq_true_eq] at h
    exact ⟨by omega, ok_pos h.1.2⟩)
  have Hvb : Hid (validP b = true → (m ≤ 750 ∧ ∀ q ∈ b, q.l < q.r)) := Lib.hid (fun h => by
    unfold validP at h
    simp only [Bool.and_eq_true, decide_eq_true_eq] at h
    exact ⟨by omega, ok_pos h.1.2⟩)
  generalize combineP how a b = res at *
  clear hA hB HF eg
  obtain ⟨va, hva⟩ : ∃ va, validP a = va := ⟨_, rfl⟩
  obtain ⟨vb, hvb⟩ : ∃ vb, validP b = vb := ⟨_, rfl⟩
  rw [hva] at HVa Hx Hva
  rw [hvb] at HVb Hx Hvb
  clear hva hvb
  cases va with
  | false =>
    have e0 : res = ([], 7) := by rw [Hx.out]; rfl
    subst e0
    go_enter Tryz.func87, Tryz.ntmps87
    go_upto_region 1 with fail
    obtain ⟨w1, hw1⟩ : ∃ w1 : World, w1 = ((w.alloc (.cells #[.slice A n c] 33)).alloc (.cells #[.slice B m d] 33)).alloc (.cells #[.slice none 0 0] 33) := ⟨_, rfl⟩
    rw [← hw1]
    have Hb1 : Hid (Bx3 w w1 A n c B m d) := Lib.hid (by rw [hw1]; exact Bx3.make w A n c B m d)
    clear hw1
    have c0 := Hb1.out.c0
    have c1 := Hb1.out.c1
    go_wp2_with (first
      | (go_at_call 48
         refine (HVa.out _ Hb1.out.low).mono ?_
         rintro e w2 ⟨rfl, hb2⟩
         have Hb2 := Lib.hid (Hb1.out.below hb2)
         have c02 := Hb2.out.c0
         have c12 := Hb2.out.c1
         have c22 := Hb2.out.c2
         have f22 := Hb2.out.f2
         have csame := Hb2.out.put (.slice none 0 0)
         clear hb2)
      | fail)
    refine bodyPost_ret (v := .tuple #[.agg #[.slice none 0 0], .int .i64 7]) (by simp [results, Tryz.results87, go_sem, *]) rfl ?_
    exact ⟨_, rfl, World.ownsRow_nil _ _ _ _, Hb2.out.low.setCell (by show w.heap.size ≤ w.heap.size + 1 + 1; omega) _⟩
  | true =>
    obtain ⟨hn7, ha⟩ := Hva.out rfl
    have Ha := Lib.hid ha
    clear ha Hva
    cases vb with
    | false =>
      have e0 : res = ([], 7) := by rw [Hx.out]; rfl
      subst e0
      go_enter Tryz.func87, Tryz.ntmps87
      go_upto_region 1 with fail
      obtain ⟨w1, hw1⟩ : ∃ w1 : World, w1 = ((w.alloc (.cells #[.slice A n c] 33)).alloc (.cells #[.slice B m d] 33)).alloc (.cells #[.slice none 0 0] 33) := ⟨_, rfl⟩
      rw [← hw1]
      have Hb1 : Hid (Bx3 w w1 A n c B m d) := Lib.hid (by rw [hw1]; exact Bx3.make w A n c B m d)
      clear hw1
      have c0 := Hb1.out.c0
      have c1 := Hb1.out.c1
      go_wp2_with (first
        | (go_at_call_of 48 (Value.slice A n c)
           refine (HVa.out _ Hb1.out.low).mono ?_
           rintro e w2 ⟨rfl, hb2⟩
           have Hb2 := Lib.hid (Hb1.out.below hb2)
           have c02 := Hb2.out.c0
           have c12 := Hb2.out.c1
           clear hb2)
        | (go_at_call_of 48 (Value.slice B m d)
           refine (HVb.out _ Hb2.out.low).mono ?_
           rintro e w3 ⟨rfl, hb3⟩
           have Hb3 := Lib.hid (Hb2.out.below hb3)
           have c03 := Hb3.out.c0
           have c13 := Hb3.out.c1
           have c23 := Hb3.out.c2
           have f23 := Hb3.out.f2
           have csame := Hb3.out.put (.slice none 0 0)
           clear hb3)
        | fail)
      refine bodyPost_ret (v := .tuple #[.agg #[.slice none 0 0], .int .i64 7]) (by simp [results, Tryz.results87, go_sem, *]) rfl ?_
      exact ⟨_, rfl, World.ownsRow_nil _ _ _ _, Hb3.out.low.setCell (by show w.heap.size ≤ w.heap.size + 1 + 1; omega) _⟩
    | true =>
      obtain ⟨hm7, hb⟩ := Hvb.out rfl
      have Hbp := Lib.hid hb
      clear hb Hvb
      have HC := Lib.hid (fun W (hW : Below w.heap.size w W) => choose_any A B n c m d f lb how a b W (HA.out.below hW) (HB.out.below hW) hn7 hm7 Ha.out Hbp.out Eg.out (HFh.out.below hW))
      have Hx2 : Hid (res = if 120 < (chooseP how a b).length then ([], 1) else (chooseP how a b, 0)) := Lib.hid (by rw [Hx.out]; rfl)
      clear Hx
      generalize chooseP how a b = cl at *
      by_cases hbg : 120 < cl.length
      · have e0 : res = ([], 1) := by rw [Hx2.out, if_pos hbg]
        subst e0
        go_enter Tryz.func87, Tryz.ntmps87
        go_upto_region 1 with fail
        obtain ⟨w1, hw1⟩ : ∃ w1 : World, w1 = ((w.alloc (.cells #[.slice A n c] 33)).alloc (.cells #[.slice B m d] 33)).alloc (.cells #[.slice none 0 0] 33) := ⟨_, rfl⟩
        rw [← hw1]
        have Hb1 : Hid (Bx3 w w1 A n c B m d) := Lib.hid (by rw [hw1]; exact Bx3.make w A n c B m d)
        clear hw1
        have c0 := Hb1.out.c0
        have c1 := Hb1.out.c1
        go_wp2_with (first
          | (go_at_call_of 48 (Value.slice A n c)
             refine (HVa.out _ Hb1.out.low).mono ?_
             rintro e w2 ⟨rfl, hb2⟩
             have Hb2 := Lib.hid (Hb1.out.below hb2)
             have c02 := Hb2.out.c0
             have c12 := Hb2.out.c1
             clear hb2)
          | (go_at_call_of 48 (Value.slice B m d)
             refine (HVb.out _ Hb2.out.low).mono ?_
             rintro e w3 ⟨rfl, hb3⟩
             have Hb3 := Lib.hid (Hb2.out.below hb3)
             have c03 := Hb3.out.c0
             have c13 := Hb3.out.c1
             clear hb3)
          | (go_at_call 54
             refine (HC.out _ Hb3.out.low).mono ?_
             rintro e w4 ⟨v4, rfl, hown4, hb4⟩
             obtain ⟨D, dc, rfl, _⟩ := SlR.of_own hown4
             have Hb4 := Lib.hid (Hb3.out.below hb4)
             clear hown4 hb4)
          | (go_at_call 56
             refine (limited_big D cl.length dc _ hbg).mono ?_
             rintro e w5 ⟨rfl, hb5⟩
             have Hb5 := Lib.hid (Hb4.out.below hb5)
             have c25 := Hb5.out.c2
             have f25 := Hb5.out.f2
             have csame := Hb5.out.put (.slice none 0 0)
             clear hb5)
          | fail)
        refine bodyPost_ret (v := .tuple #[.agg #[.slice none 0 0], .int .i64 1]) (by simp [results, Tryz.results87, go_sem, *]) rfl ?_
        exact ⟨_, rfl, World.ownsRow_nil _ _ _ _, Hb5.out.low.setCell (by show w.heap.size ≤ w.heap.size + 1 + 1; omega) _⟩
      · have hbg' : cl.length ≤ 120 := by omega
        have e0 : res = (cl, 0) := by rw [Hx2.out, if_neg hbg]
        subst e0
        go_enter Tryz.func87, Tryz.ntmps87
        go_upto_region 1 with fail
        obtain ⟨w1, hw1⟩ : ∃ w1 : World, w1 = ((w.alloc (.cells #[.slice A n c] 33)).alloc (.cells #[.slice B m d] 33)).alloc (.cells #[.slice none 0 0] 33) := ⟨_, rfl⟩
        rw [← hw1]
        have Hb1 : Hid (Bx3 w w1 A n c B m d) := Lib.hid (by rw [hw1]; exact Bx3.make w A n c B m d)
        clear hw1
        have c0 := Hb1.out.c0
        have c1 := Hb1.out.c1
        go_wp2_with (first
          | (go_at_call_of 48 (Value.slice A n c)
             refine (HVa.out _ Hb1.out.low).mono ?_
             rintro e w2 ⟨rfl, hb2⟩
             have Hb2 := Lib.hid (Hb1.out.below hb2)
             have c02 := Hb2.out.c0
             have c12 := Hb2.out.c1
             clear hb2)
          | (go_at_call_of 48 (Value.slice B m d)
             refine (HVb.out _ Hb2.out.low).mono ?_
             rintro e w3 ⟨rfl, hb3⟩
             have Hb3 := Lib.hid (Hb2.out.below hb3)
             have c03 := Hb3.out.c0
             have c13 := Hb3.out.c1
             clear hb3)
          | (go_at_call 54
             refine (HC.out _ Hb3.out.low).mono ?_
             rintro e w4 ⟨v4, rfl, hown4, hb4⟩
             obtain ⟨D, dc, rfl, _⟩ := SlR.of_own hown4
             have Hown4 := Lib.hid hown4
             have Hb4 := Lib.hid (Hb3.out.below hb4)
             clear hown4 hb4)
          | (go_at_call 56
             refine (limited_ok D cl.length dc _ hbg').mono ?_
             rintro e w5 ⟨rfl, hb5⟩
             have Hb5 := Lib.hid (Hb4.out.below hb5)
             have Hown5 := Lib.hid (ownsRow_below Hown4.out hb5)
             have c25 := Hb5.out.c2
             have f25 := Hb5.out.f2
             have csame := Hb5.out.put (.slice D cl.length dc)
             clear hb5)
          | fail)
        refine bodyPost_ret (v := .tuple #[.agg #[.slice D cl.length dc], .int .i64 0]) (by simp [results, Tryz.results87, go_sem, *]) rfl ?_
        exact ⟨_, rfl, own_rebase (ownsRow_setCell_below Hown5.out (a := ⟨w.heap.size + 1 + 1, 0, none⟩) Hb3.out.size _) (Nat.le_trans Hb3.out.low.size (Nat.le_refl _)), Hb5.out.low.setCell (by show w.heap.size ≤ w.heap.size + 1 + 1; omega) _⟩

set_option maxHeartbeats 1000000 in
theorem andB_fn (w : World) : BoolFn 88 #[] andB w := by
  intro W x y _
  show Calls Tryz.prog 88 #[.bool x, .bool y] W _
  cases x <;> cases y
  all_goals go_enter Tryz.func88, Tryz.ntmps88
  all_goals go_wp2
  all_goals go_ret
  all_goals exact ⟨rfl, (by repeat' (first | with_reducible exact Below.refl _ _ | with_reducible refine below_drewN ?_ _ | with_reducible refine Below.drew ?_ | with_reducible refine Below.alloc ?_ ?_ _ | with_reducible refine Below.setCell ?_ ?_ _ | with_reducible refine Below.trans ?_ (Below.mono (by with_reducible assumption) ?_) | (simp; done) | (simp; omega) | omega))⟩
set_option maxHeartbeats 1000000 in
theorem notB_fn (w : World) : BoolFn 105 #[] notB w := by
  intro W x y _
  show Calls Tryz.prog 105 #[.bool x, .bool y] W _
  cases x <;> cases y
  all_goals go_enter Tryz.func105, Tryz.ntmps105
  all_goals go_wp2
  all_goals go_ret
  all_goals exact ⟨rfl, (by repeat' (first | with_reducible exact Below.refl _ _ | with_reducible refine below_drewN ?_ _ | with_reducible refine Below.drew ?_ | with_reducible refine Below.alloc ?_ ?_ _ | with_reducible refine Below.setCell ?_ ?_ _ | with_reducible refine Below.trans ?_ (Below.mono (by with_reducible assumption) ?_) | (simp; done) | (simp; omega) | omega))⟩
set_option maxHeartbeats 2000000 in
set_option maxRecDepth 100000 in
theorem both_any (A B : Option Addr) (n c m d : Nat) (a b : List R4) (w : World) (hA : SlR w A n c a) (hB : SlR w B m d b) :
    Calls Tryz.prog 25 #[.agg #[.slice A n c], .agg #[.slice B m d]] w (RegPost w (combineP andB a b)) := by
  have HA := Lib.hid hA
  have HB := Lib.hid hB
  have eg : ∀ args w, (callFunc 88 args).run Tryz.prog w = .ok (.enter 88 args) w := enters_of Tryz.func88 (by kernel_rfl) rfl
  have HC := Lib.hid (fun W (hW : Below w.heap.size w W) => combine_any A B n c m d 88 #[] andB a b W (HA.out.below hW) (HB.out.below hW) eg (andB_fn W))
  generalize combineP andB a b = res at *
  obtain ⟨cl, er⟩ := res
  clear hA hB eg
  go_enter Tryz.func25, Tryz.ntmps25
  go_upto_region 1 with fail
  obtain ⟨w1, hw1⟩ : ∃ w1 : World, w1 = ((w.alloc (.cells #[.slice A n c] 33)).alloc (.cells #[.slice B m d] 33)).alloc (.cells #[.slice none 0 0] 33) := ⟨_, rfl⟩
  rw [← hw1]
  have Hb1 : Hid (Bx3 w w1 A n c B m d) := Lib.hid (by rw [hw1]; exact Bx3.make w A n c B m d)
  clear hw1
  have c0 := Hb1.out.c0
  have c1 := Hb1.out.c1
  go_wp2_with (first
    | (go_at_call 87
       refine (HC.out _ Hb1.out.low).mono ?_
       rintro e w2 ⟨v2, rfl, hown2, hb2⟩
       obtain ⟨D, dc, rfl, _⟩ := SlR.of_own hown2
       have Hb2 := Lib.hid (Hb1.out.below hb2)
       have Hown2 := Lib.hid hown2
       have c22 := Hb2.out.c2
       have f22 := Hb2.out.f2
       have csame := Hb2.out.put (.slice D cl.length dc)
       clear hown2 hb2)
    | fail)
  refine bodyPost_ret (v := .tuple #[.agg #[.slice D cl.length dc], .int .i64 er]) (by simp [results, Tryz.results25, go_sem, *]) rfl ?_
  exact ⟨_, rfl, own_rebase (ownsRow_setCell_below Hown2.out (a := ⟨w.heap.size + 1 + 1, 0, none⟩) Hb1.out.size _) Hb1.out.low.size, Hb2.out.low.setCell (by show w.heap.size ≤ w.heap.size + 1 + 1; omega) _⟩
set_option maxHeartbeats 2000000 in
set_option maxRecDepth 100000 in
theorem without_any (A B : Option Addr) (n c m d : Nat) (a b : List R4) (w : World) (hA : SlR w A n c a) (hB : SlR w B m d b) :
    Calls Tryz.prog 34 #[.agg #[.slice A n c], .agg #[.slice B m d]] w (RegPost w (combineP notB a b)) := by
  have HA := Lib.hid hA
  have HB := Lib.hid hB
  have eg : ∀ args w, (callFunc 105 args).run Tryz.prog w = .ok (.enter 105 args) w := enters_of Tryz.func105 (by kernel_rfl) rfl
  have HC := Lib.hid (fun W (hW : Below w.heap.size w W) => combine_any A B n c m d 105 #[] notB a b W (HA.out.below hW) (HB.out.below hW) eg (notB_fn W))
  generalize combineP notB a b = res at *
  obtain ⟨cl, er⟩ := res
  clear hA hB eg
  go_enter Tryz.func34, Tryz.ntmps34
  go_upto_region 1 with fail
  obtain ⟨w1, hw1⟩ : ∃ w1 : World, w1 = ((w.alloc (.cells #[.slice A n c] 33)).alloc (.cells #[.slice B m d] 33)).alloc (.cells #[.slice none 0 0] 33) := ⟨_, rfl⟩
  rw [← hw1]
  have Hb1 : Hid (Bx3 w w1 A n c B m d) := Lib.hid (by rw [hw1]; exact Bx3.make w A n c B m d)
  clear hw1
  have c0 := Hb1.out.c0
  have c1 := Hb1.out.c1
  go_wp2_with (first
    | (go_at_call 87
       refine (HC.out _ Hb1.out.low).mono ?_
       rintro e w2 ⟨v2, rfl, hown2, hb2⟩
       obtain ⟨D, dc, rfl, _⟩ := SlR.of_own hown2
       have Hb2 := Lib.hid (Hb1.out.below hb2)
       have Hown2 := Lib.hid hown2
       have c22 := Hb2.out.c2
       have f22 := Hb2.out.f2
       have csame := Hb2.out.put (.slice D cl.length dc)
       clear hown2 hb2)
    | fail)
  refine bodyPost_ret (v := .tuple #[.agg #[.slice D cl.length dc], .int .i64 er]) (by simp [results, Tryz.results34, go_sem, *]) rfl ?_
  exact ⟨_, rfl, own_rebase (ownsRow_setCell_below Hown2.out (a := ⟨w.heap.size + 1 + 1, 0, none⟩) Hb1.out.size _) Hb1.out.low.size, Hb2.out.low.setCell (by show w.heap.size ≤ w.heap.size + 1 + 1; omega) _⟩
end Go.Proofs.YtfmkmhhghmdakaaGreatDoor
namespace Go.Proofs.YtfmkmhhghmdakaaGreatDoor
open Go.RowKit
set_option linter.unusedVariables false
set_option linter.unusedSimpArgs false

theorem SlR.lit (w : World) (t : TypeId) (cs : Array Value) (l : List R4) (n B : Nat) (hB : B = w.heap.size) (hn : l.length = n) (hn1 : n ≤ 1000) (hc : rCells l = cs.toList) : SlR (w.alloc (.cells cs t)) (some ⟨B, 0, none⟩) n n l :=
  ⟨hn, Nat.le_refl _, by unfold maxLen; omega, Lies.new w t cs n _ hc B hB⟩

end Go.Proofs.YtfmkmhhghmdakaaGreatDoor
namespace Go.Proofs.YtfmkmhhghmdakaaGreatDoor
set_option linter.unusedVariables false
set_option linter.unusedSimpArgs false

/-- A sum along a list. -/
def sumL {α : Type} (g : α → Int) (l : List α) : Int := (l.map g).sum
theorem sumL_nil {α : Type} (g : α → Int) : sumL g [] = 0 := rfl
theorem sumL_cons {α : Type} (g : α → Int) (a : α) (l : List α) : sumL g (a :: l) = g a + sumL g l := by simp [sumL]
theorem sumL_app {α : Type} (g : α → Int) (l m : List α) : sumL g (l ++ m) = sumL g l + sumL g m := by simp [sumL]
theorem sumL_map {α β : Type} (g : β → Int) (f : α → β) (l : List α) : sumL g (l.map f) = sumL (fun a => g (f a)) l := by
  induction l with
  | nil => rfl
  | cons a t ih => rw [List.map_cons, sumL_cons, sumL_cons, ih]
theorem sumL_flat {α β : Type} (g : β → Int) (f : α → List β) (l : List α) : sumL g (l.flatMap f) = sumL (fun a => sumL g (f a)) l := by
  induction l with
  | nil => rfl
  | cons a t ih => rw [List.flatMap_cons, sumL_app, sumL_cons, ih]
theorem sumL_congr {α : Type} {g h : α → Int} {l : List α} (e : ∀ a ∈ l, g a = h a) : sumL g l = sumL h l := by
  induction l with
  | nil => rfl
  | cons a t ih => rw [sumL_cons, sumL_cons, e a (by simp), ih fun b hb => e b (by simp [hb])]
theorem sumL_zero {α : Type} (l : List α) : sumL (fun _ => 0) l = 0 := by
  induction l with
  | nil => rfl
  | cons a t ih => rw [sumL_cons, ih]; rfl
theorem Steady.tail {V : Type} {f : Int → V} {x : Int} {r : List Int} (h : Steady f (x :: r)) (hp : (x :: r).Pairwise (· < ·)) : Steady f r := fun a z ha haz hk => h a z (by simp [ha]) haz fun k hk' => by
  rcases List.mem_cons.1 hk' with rfl | hk'
  · exact .inl (Int.le_of_lt ((List.pairwise_cons.1 hp).1 a ha))
  · exact hk k hk'
/-- A set of squares within the first n by n ones, that changes at some lines alone. -/
structure Grid (P : Int → Int → Bool) (n : Nat) : Prop where
  bd : ∀ x y, P x y = true → 0 ≤ x ∧ x < n ∧ 0 ≤ y ∧ y < n
end Go.Proofs.YtfmkmhhghmdakaaGreatDoor
namespace Go.Proofs.YtfmkmhhghmdakaaGreatDoor
set_option linter.unusedVariables false
set_option linter.unusedSimpArgs false

/-- The spans of a row as rectangles. -/
def rr (v : List (Sg Unit)) : List R4 := v.map fun s => ⟨s.1, 0, s.2.1, 1⟩
/-- The horizontal edges between a row and the one above it. -/
def levelP (below above : List (Sg Unit)) (y : Int) : List R4 :=
  ((chooseP notB (rr above) (rr below)).map fun r => ⟨r.l, y, r.r, y⟩) ++ ((chooseP notB (rr below) (rr above)).map fun r => ⟨r.r, y, r.l, y⟩)
def wallsP (v : List (Sg Unit)) (y y' : Int) : List R4 := v.flatMap fun s => [⟨s.1, y', s.1, y⟩, ⟨s.2.1, y, s.2.1, y'⟩]
def edgesC (l : List R4) : List Int → List R4
  | y :: y' :: r => levelP (rowP l (y - 1)) (rowP l y) y ++ wallsP (rowP l y) y y' ++ edgesC l (y' :: r)
  | [y] => levelP (rowP l (y - 1)) (rowP l y) y
  | [] => []
def edgesP (l : List R4) : List R4 := edgesC l (cutsP l)
theorem rr_in (v : List (Sg Unit)) (x y : Int) : inL (rr v) x y = (inR v x && decide (0 ≤ y) && decide (y < 1)) := by
  unfold inL inR rr
  induction v with
  | nil => rfl
  | cons s t ih =>
    rw [List.map_cons, List.any_cons, ih, List.any_cons]
    simp only [R4.has, inS]
    cases decide (s.1 ≤ x) <;> cases decide (x < s.2.1) <;> cases decide (0 ≤ y) <;> cases decide (y < 1) <;> simp
theorem rr_pos {v : List (Sg Unit)} (h : ∀ s ∈ v, s.1 < s.2.1) : ∀ q ∈ rr v, q.l < q.r := by
  intro q hq
  obtain ⟨s, hs, rfl⟩ := List.mem_map.1 hq
  exact h s hs
theorem inL_grid {l : List R4} {n : Nat} (h : InS n l) : Grid (inL l) n := ⟨fun x y hx => by
  obtain ⟨q, hq, h1⟩ := List.any_eq_true.1 hx
  simp only [R4.has, Bool.and_eq_true, decide_eq_true_eq] at h1
  have := h q hq
  omega⟩
theorem inL_same_y {l : List R4} {ys : List Int} (h : ∀ q ∈ l, q.b ∈ ys ∧ q.t ∈ ys) (y : Int) (hy : y ∉ ys) (x : Int) : inL l x y = inL l x (y - 1) :=
  any_congr' fun q hq => by
    obtain ⟨h1, h2⟩ := h q hq
    have e1 : q.b ≠ y := fun e => hy (e ▸ h1)
    have e2 : q.t ≠ y := fun e => hy (e ▸ h2)
    unfold R4.has
    rw [show decide (q.b ≤ y) = decide (q.b ≤ y - 1) from decide_eq_decide.2 (by omega), show decide (y < q.t) = decide (y - 1 < q.t) from decide_eq_decide.2 (by omega)]
end Go.Proofs.YtfmkmhhghmdakaaGreatDoor
namespace Go.Proofs.YtfmkmhhghmdakaaGreatDoor
open Go.RowKit
set_option linter.unusedVariables false
set_option linter.unusedSimpArgs false

theorem Tryz.infoEdge : (Tryz.prog.info? 191).map (fun i => (i.zero, i.size, i.bytes)) = some (some (.agg #[.int .i64 0, .int .i64 0, .int .i64 0, .int .i64 0]), 4, 32) := by kernel_rfl
theorem rr_take_succ (v : List (Sg Unit)) (k : Nat) (h : k < v.length) : rr (v.take (k + 1)) = rr (v.take k) ++ [⟨v[k].1, 0, v[k].2.1, 1⟩] := by
  unfold rr
  rw [List.take_succ_eq_append_getElem h, List.map_append]
  rfl
theorem rr_len (v : List (Sg Unit)) : (rr v).length = v.length := by simp [rr]
theorem SlR.grown {w w' : World} {A : Option Addr} {n c : Nat} {l : List R4} {row : Option Nat} (h : SlR w A n c l) (hg : w.grownBy w' row) (hne : ∀ b off, A = some ⟨b, off, none⟩ → row ≠ some b) : SlR w' A n c l := by
  refine ⟨h.len, h.cap, h.top, ?_⟩
  rcases h.lies with h0 | ⟨b, off, hA, hb, hc⟩
  · exact .inl h0
  · refine .inr ⟨b, off, hA, Nat.lt_of_lt_of_le hb hg.size, fun j u hu => ?_⟩
    rw [← hc j u hu]
    exact World.cell?_of_block (a := ⟨b, off + j, none⟩) (hg.block b hb fun e => hne b off hA e.symm)
/-- Where a slice of its own lies. -/
theorem SlR.of_own2 {w : World} {base : Nat} {v : Value} {l : List R4} (h : w.ownsRow base 68 4 v l.length (rCells l)) : ∃ A c, v = .slice A l.length c ∧ SlR w A l.length c l ∧ ∀ b off, A = some ⟨b, off, none⟩ → base ≤ b ∧ b < w.heap.size := by
  obtain ⟨A, c, rfl, hS⟩ := SlR.of_own h
  refine ⟨A, c, rfl, hS, fun b off hA => ?_⟩
  subst hA
  exact h.lt b rfl
/-- What a call leaves that returns rectangles of its own. -/
def RPost (w : World) (l : List R4) (e : Ending) (w' : World) : Prop := ∃ v, e = .returned v ∧ w'.ownsRow w.heap.size 68 4 v l.length (rCells l) ∧ Below w.heap.size w w'

set_option maxHeartbeats 4000000 in
set_option maxRecDepth 100000 in
theorem rrow_any (A : Option Addr) (c : Nat) (v : List (Sg Unit)) (w : World) (hA : SlS w (.slice A v.length c) v) (hn : v.length ≤ 100000) :
    Calls Tryz.prog 291 #[.slice A v.length c] w (RPost w (rr v)) := by
  obtain ⟨i0, hi, hz0, hz1, hz2⟩ := info_parts Tryz.infoRect
  have hnm : v.length ≤ maxLen := by unfold maxLen; omega
  have HL : Hid (Lies w A v.length (sCells v)) := Lib.hid (by
    obtain ⟨A', c', h1, h2, h3, h4⟩ := hA.sl
    injection h1 with h1 _ _
    subst h1
    exact h4)
  clear hA
  go_enter Tryz.func291, Tryz.ntmps291
  go_upto_region 3 with fail
  go_loopw [3, 5, 8] (fun o _ i wr => ∃ j : Nat, j ≤ v.length ∧ i = .int .i64 (j : Int) ∧ wr.ownsRow w.heap.size 68 4 o (rr (v.take j)).length (rCells (rr (v.take j))) ∧ Below w.heap.size w wr) (fun _ _ i _ => v.length - (intOf i).toNat)
  case atStart => exact ⟨0, Nat.zero_le _, rfl, World.ownsRow_nil _ _ _ _, Below.refl _ _⟩
  case round =>
    obtain ⟨j, hj, rfl, hown, hbo⟩ := hrel
    have hso := hbo.size
    have Hown := Lib.hid hown
    have Hbo := Lib.hid hbo
    by_cases hjn : j < v.length
    · obtain ⟨b2, o2, rfl, hb2, hcs2⟩ := (HL.out.below hbo).resolve_left (by omega)
      obtain ⟨j1, j2⟩ := sCells_at v j hjn
      have s0 := hcs2 _ _ j1
      have s1 : wr.cell? ⟨b2, o2 + j * 2 + 1, none⟩ = some (.int .i64 v[j].2.1) := hcs2 _ _ j2
      have Hstep := Lib.hid (rr_take_succ v j hjn)
      have hlen2 : (rr (v.take j)).length ≤ 100000 := by rw [rr_len, List.length_take]; omega
      have hkn' : (j : Int) < (v.length : Int) := by omega
      generalize v[j] = s at *
      generalize rr (v.take j) = bk at *
      clear hown hbo hcs2 j1 j2
      go_wp2_with (first
        | (at_builtin
           refine wpList_append_any _ rfl (.tmp 12) (.tmp 18) _ rfl w.heap.size 68 i0 _ 4 32 Tryz.underlying31 hi hz0 hz1 hz2 rfl (by omega) _ bk.length (rCells bk) rfl
             ((Hown.out.alloc _).alloc _) _ _ 1 1 [.int .i64 s.1, .int .i64 0, .int .i64 s.2.1, .int .i64 1] rfl ⟨rfl, fun _ => ⟨_, rfl, Nat.lt_succ_self _, fun j u hu => (by exact World.news_of_block (heap_alloc2_new wr _ (.cells #[.int .i64 s.1, .int .i64 0, .int .i64 s.2.1, .int .i64 1] 68)) j u hu)⟩⟩ (by simp [Value.oneCell']) (by simp only [maxLen]; omega) (by omega) (by simp; omega) ?_
           intro v5 w5 hown5 hg5 hat5)
        | fail)
      go_roundw
      case rel =>
        have hsz5 := hg5.size
        simp at hsz5
        refine ⟨j + 1, by omega, by go_num, ?_, ?_⟩
        · rw [Hstep.out, List.length_append, rCells_snoc]
          exact hown5
        · exact Below.grown (((Hbo.out.alloc hso _).alloc (by simp; omega) _)) hg5 (by simp; omega) (own_base Hown.out)
      case measure => simp [intOf]; omega
    · have Hown3 : Hid (wr.ownsRow w.heap.size 68 4 u3 (rr v).length (rCells (rr v))) := Lib.hid (by have := Hown.out; rw [List.take_of_length_le (by omega)] at this; exact this)
      have hjn' : ¬ (j : Int) < (v.length : Int) := by omega
      clear hbo hown
      go_wp2
      go_ret
      exact ⟨_, rfl, Hown3.out, Hbo.out⟩
set_option maxHeartbeats 400000 in
theorem onlyB_fn (w : World) : BoolFn 292 #[] notB w := by
  intro W x y _
  show Calls Tryz.prog 292 #[.bool x, .bool y] W _
  cases x <;> cases y
  all_goals go_enter Tryz.func292, Tryz.ntmps292
  all_goals go_wp2
  all_goals go_ret
  all_goals exact ⟨rfl, (by repeat' (first | with_reducible exact Below.refl _ _ | with_reducible refine below_drewN ?_ _ | with_reducible refine Below.drew ?_ | with_reducible refine Below.alloc ?_ ?_ _ | with_reducible refine Below.setCell ?_ ?_ _ | with_reducible refine Below.trans ?_ (Below.mono (by with_reducible assumption) ?_) | (simp; done) | (simp; omega) | omega))⟩
theorem choose_len2 (how : Bool → Bool → Bool) (a b : List R4) : (chooseP how a b).length ≤ (2 * (a.length + b.length)) * (2 * (a.length + b.length)) := by
  have h1 := flat_len (2 * (a.length + b.length)) (foldC (fun y => some (mergeP how (rowP a y) (rowP b y))) (cutsP (a ++ b)) []) (foldC_val (fun v : List (Sg Unit) => v.length ≤ 2 * (a.length + b.length)) _ (fun x v hv => by
    injection hv with hv; subst hv
    have h1 := merge_len2 how (rowP a x) (rowP b x)
    have h2 := rowP_len a x
    have h3 := rowP_len b x
    omega) _ _ (by simp))
  have h2 := foldC_len (fun y => some (mergeP how (rowP a y) (rowP b y))) (cutsP (a ++ b)) []
  have h3 : (cutsP (a ++ b)).length ≤ 2 * (a.length + b.length) := by
    have h1 := (asc_all (yEdges (a ++ b))).2.2
    rw [yEdges_len, List.length_append] at h1
    exact h1
  refine Nat.le_trans h1 (Nat.mul_le_mul_right _ ?_)
  simp at h2
  omega
/-- The edges below what is in a row and not in the one below it; the edges above what is not. -/
def lowE (y : Int) (l : List R4) : List R4 := l.map fun r => ⟨r.l, y, r.r, y⟩
def highE (y : Int) (l : List R4) : List R4 := l.map fun r => ⟨r.r, y, r.l, y⟩
theorem levelP_eq (v u : List (Sg Unit)) (y : Int) : levelP v u y = lowE y (chooseP notB (rr u) (rr v)) ++ highE y (chooseP notB (rr v) (rr u)) := rfl
theorem lowE_take (y : Int) (l : List R4) (k : Nat) (h : k < l.length) : lowE y (l.take (k + 1)) = lowE y (l.take k) ++ [⟨l[k].l, y, l[k].r, y⟩] := by
  unfold lowE; rw [List.take_succ_eq_append_getElem h, List.map_append]; rfl
theorem highE_take (y : Int) (l : List R4) (k : Nat) (h : k < l.length) : highE y (l.take (k + 1)) = highE y (l.take k) ++ [⟨l[k].r, y, l[k].l, y⟩] := by
  unfold highE; rw [List.take_succ_eq_append_getElem h, List.map_append]; rfl
theorem lowE_len (y : Int) (l : List R4) : (lowE y l).length = l.length := by simp [lowE]
theorem highE_len (y : Int) (l : List R4) : (highE y l).length = l.length := by simp [highE]
/-- What a call leaves that returns edges of its own. -/
def EPost (w : World) (l : List R4) (e : Ending) (w' : World) : Prop := ∃ v, e = .returned v ∧ w'.ownsRow w.heap.size 191 4 v l.length (rCells l) ∧ Below w.heap.size w w'

set_option maxHeartbeats 8000000 in
set_option maxRecDepth 100000 in
theorem level_any (A B : Option Addr) (c d : Nat) (v u : List (Sg Unit)) (y : Int) (w : World) (hA : SlS w (.slice A v.length c) v) (hB : SlS w (.slice B u.length d) u) (hv : v.length ≤ 120) (hu : u.length ≤ 120) (pv : ∀ s ∈ v, s.1 < s.2.1) (pu : ∀ s ∈ u, s.1 < s.2.1) :
    Calls Tryz.prog 217 #[.slice A v.length c, .slice B u.length d, .int .i64 y] w (EPost w (levelP v u y)) := by
  obtain ⟨i0, hi, hz0, hz1, hz2⟩ := info_parts Tryz.infoEdge
  have HA := Lib.hid (fun W (hW : Below w.heap.size w W) => rrow_any A c v W (hA.below hW) (by omega))
  have HB := Lib.hid (fun W (hW : Below w.heap.size w W) => rrow_any B d u W (hB.below hW) (by omega))
  have eg1 : ∀ args w, (callFunc 291 args).run Tryz.prog w = .ok (.enter 291 args) w := enters_of Tryz.func291 (by kernel_rfl) rfl
  have eg2 : ∀ args w, (callFunc 292 args).run Tryz.prog w = .ok (.enter 292 args) w := enters_of Tryz.func292 (by kernel_rfl) rfl
  have Eg2 := Lib.hid eg2
  have Pv := Lib.hid (rr_pos pv)
  have Pu := Lib.hid (rr_pos pu)
  have Hlv := Lib.hid (rr_len v)
  have Hlu := Lib.hid (rr_len u)
  have hk1 : (chooseP notB (rr u) (rr v)).length ≤ 230400 := by
    have h1 := choose_len2 notB (rr u) (rr v)
    rw [rr_len, rr_len] at h1
    have h2 : (2 * (u.length + v.length)) * (2 * (u.length + v.length)) ≤ 480 * 480 := Nat.mul_le_mul (by omega) (by omega)
    omega
  have hk2 : (chooseP notB (rr v) (rr u)).length ≤ 230400 := by
    have h1 := choose_len2 notB (rr v) (rr u)
    rw [rr_len, rr_len] at h1
    have h2 : (2 * (v.length + u.length)) * (2 * (v.length + u.length)) ≤ 480 * 480 := Nat.mul_le_mul (by omega) (by omega)
    omega
  have Hres : Hid (levelP v u y = lowE y (chooseP notB (rr u) (rr v)) ++ highE y (chooseP notB (rr v) (rr u))) := Lib.hid (levelP_eq v u y)
  have HC1 := Lib.hid (fun (A B : Option Addr) (c d : Nat) (W : World) (hA : SlR W A (rr u).length c (rr u)) (hB : SlR W B (rr v).length d (rr v)) => choose_any A B (rr u).length c (rr v).length d 292 #[] notB (rr u) (rr v) W hA hB (by rw [Hlu.out]; omega) (by rw [Hlv.out]; omega) Pu.out Pv.out Eg2.out (onlyB_fn W))
  have HC2 := Lib.hid (fun (A B : Option Addr) (c d : Nat) (W : World) (hA : SlR W A (rr v).length c (rr v)) (hB : SlR W B (rr u).length d (rr u)) => choose_any A B (rr v).length c (rr u).length d 292 #[] notB (rr v) (rr u) W hA hB (by rw [Hlv.out]; omega) (by rw [Hlu.out]; omega) Pv.out Pu.out Eg2.out (onlyB_fn W))
  generalize chooseP notB (rr u) (rr v) = ch1 at *
  generalize chooseP notB (rr v) (rr u) = ch2 at *
  generalize levelP v u y = res at *
  generalize rr u = ru at *
  generalize rr v = rv at *
  clear hA hB pv pu eg2
  go_enter Tryz.func217, Tryz.ntmps217
  go_upto_region 5 with (first
    | (go_at_fn 291
       have hguard := Hb1.out
       refine (HA.out _ Hb1.out).mono ?_
       rintro e w2 ⟨v2, rfl, hown2, hb2⟩
       obtain ⟨A2, k2, rfl, hS2⟩ := SlR.of_own hown2
       have HS2 := Lib.hid hS2
       have HS1b := Lib.hid (HS1.out.below hb2)
       have Hb2 : Hid (Below w.heap.size w w2) := Lib.hid (Hb1.out.trans (hb2.mono Hb1.out.size))
       clear hown2 hS2 hb2)
    | (go_at_fn 291
       refine (HB.out _ (Below.refl _ _)).mono ?_
       rintro e w1 ⟨v1, rfl, hown1, hb1⟩
       obtain ⟨A1, k1, rfl, hS1⟩ := SlR.of_own hown1
       have HS1 := Lib.hid hS1
       have Hb1 := Lib.hid hb1
       clear hown1 hS1 hb1)
    | (go_at_call 54
       refine (HC1.out A1 A2 k1 k2 _ HS1b.out HS2.out).mono ?_
       rintro e w3 ⟨v3, rfl, hown3, hb3⟩
       obtain ⟨A3, k3, rfl, hS3⟩ := SlR.of_own hown3
       have HS3 := Lib.hid hS3
       have Hb3 : Hid (Below w.heap.size w w3) := Lib.hid (Hb2.out.trans (hb3.mono Hb2.out.size))
       clear hown3 hS3 hb3)
    | fail)
  clear HS1 HS2 HS1b HC1 Hb1 Hb2
  have hs3 := Hb3.out.size
  go_loopw [9, 11, 23] (fun o _ i wr => ∃ j : Nat, j ≤ ch1.length ∧ i = .int .i64 (j : Int) ∧ wr.ownsRow w3.heap.size 191 4 o (lowE y (ch1.take j)).length (rCells (lowE y (ch1.take j))) ∧ Below w3.heap.size w3 wr) (fun _ _ i _ => ch1.length - (intOf i).toNat)
  case atStart => exact ⟨0, Nat.zero_le _, rfl, World.ownsRow_nil _ _ _ _, Below.refl _ _⟩
  case round =>
    obtain ⟨wo, rfl⟩ : ∃ wo : World, wo = wr := ⟨_, rfl⟩
    obtain ⟨j, hj, rfl, hown, hbr⟩ := hrel
    have hsr := hbr.size
    have Hown := Lib.hid hown
    have Hbr := Lib.hid hbr
    by_cases hjn : j < ch1.length
    · obtain ⟨b2, o2, rfl, hb2, c0, c1, c2, c3⟩ := (HS3.out.below hbr).at j hjn
      have Hstep := Lib.hid (lowE_take y ch1 j hjn)
      have hlen2 : (lowE y (ch1.take j)).length ≤ 230400 := by rw [lowE_len, List.length_take]; omega
      have hkn' : (j : Int) < (ch1.length : Int) := by omega
      generalize ch1[j] = q at *
      generalize lowE y (ch1.take j) = bk at *
      clear hown hbr
      go_wp2_with (first
        | (at_builtin
           refine wpList_append_any _ rfl (.tmp 27) (.tmp 37) _ rfl w3.heap.size 191 i0 _ 4 32 Tryz.underlying186 hi hz0 hz1 hz2 rfl (by omega) _ bk.length (rCells bk) rfl
             ((Hown.out.alloc _).alloc _) _ _ 1 1 [.int .i64 q.l, .int .i64 y, .int .i64 q.r, .int .i64 y] rfl ⟨rfl, fun _ => ⟨_, rfl, Nat.lt_succ_self _, fun j u hu => (by exact World.news_of_block (heap_alloc2_new wo _ (.cells #[.int .i64 q.l, .int .i64 y, .int .i64 q.r, .int .i64 y] 191)) j u hu)⟩⟩ (by simp [Value.oneCell']) (by simp only [maxLen]; omega) (by omega) (by simp; omega) ?_
           intro v5 w5 hown5 hg5 hat5)
        | fail)
      go_roundw
      case rel =>
        have hsz5 := hg5.size
        simp at hsz5
        refine ⟨j + 1, by omega, by go_num, ?_, ?_⟩
        · rw [Hstep.out, List.length_append, rCells_snoc]
          exact hown5
        · exact Below.grown (((Hbr.out.alloc hsr _).alloc (by simp; omega) _)) hg5 (by simp; omega) (own_base Hown.out)
      case measure => simp [intOf]; omega
    · obtain ⟨uo, rfl⟩ : ∃ uo, uo = u9 := ⟨_, rfl⟩
      have Hown3 : Hid (wo.ownsRow w3.heap.size 191 4 uo (lowE y ch1).length (rCells (lowE y ch1))) := Lib.hid (by have := Hown.out; rw [List.take_of_length_le (by omega)] at this; exact this)
      have hkn' : ¬ (j : Int) < (ch1.length : Int) := by omega
      have Hbw : Hid (Below w.heap.size w wo) := Lib.hid (Hb3.out.trans (hbr.mono hs3))
      have hl1 : (lowE y ch1).length ≤ 230400 := by rw [lowE_len]; omega
      clear hown hbr Hown Hbr HS3
      generalize lowE y ch1 = e1 at *
      have hHA := fun W (hW : Below wo.heap.size wo W) => HA.out W (Hbw.out.trans (hW.mono Hbw.out.size))
      have hHB := fun W (hW : Below wo.heap.size wo W) => HB.out W (Hbw.out.trans (hW.mono Hbw.out.size))
      have HA := Lib.hid hHA
      have HB := Lib.hid hHB
      clear hHA hHB
      go_upto_region 10 with (first
        | (go_at_fn 291
           have hguard := Hb1.out
           refine (HB.out _ Hb1.out).mono ?_
           rintro e w2 ⟨v2, rfl, hown2, hb2⟩
           obtain ⟨A2, k2, rfl, hS2⟩ := SlR.of_own hown2
           have HS2 := Lib.hid hS2
           have HS1b := Lib.hid (HS1.out.below hb2)
           have Hb2 : Hid (Below wo.heap.size wo w2) := Lib.hid (Hb1.out.trans (hb2.mono Hb1.out.size))
           clear hown2 hS2 hb2)
        | (go_at_fn 291
           refine (HA.out _ (Below.refl _ _)).mono ?_
           rintro e w1 ⟨v1, rfl, hown1, hb1⟩
           obtain ⟨A1, k1, rfl, hS1⟩ := SlR.of_own hown1
           have HS1 := Lib.hid hS1
           have Hb1 := Lib.hid hb1
           clear hown1 hS1 hb1)
        | (go_at_call 54
           refine (HC2.out A1 A2 k1 k2 _ HS1b.out HS2.out).mono ?_
           rintro e w4 ⟨v4, rfl, hown4, hb4⟩
           obtain ⟨A4, k4, rfl, hS4, hl4⟩ := SlR.of_own2 hown4
           have HS4 := Lib.hid hS4
           have Hl4 := Lib.hid hl4
           have Hb4 : Hid (Below wo.heap.size wo w4) := Lib.hid (Hb2.out.trans (hb4.mono Hb2.out.size))
           have Hs24 := Lib.hid Hb2.out.size
           clear hown4 hS4 hb4 hl4)
        | fail)
      clear HS1 HS2 HS1b HC2 Hb1 HA HB Eg2 eg1
      have Hown4 := Lib.hid (ownsRow_below Hown3.out Hb4.out)
      have Hlow := Lib.hid (fun k (hk : uo.ownBlock = some k) => (Hown3.out.lt k hk).2)
      have Hbw4 : Hid (Below w.heap.size w w4) := Lib.hid (Hbw.out.trans (Hb4.out.mono Hbw.out.size))
      have hsw4 := Hbw4.out.size
      have hs34 : w3.heap.size ≤ w4.heap.size := Nat.le_trans hsr Hb4.out.size
      have hs24 := Hs24.out
      have hsr4 := Hb4.out.size
      go_loopw [9, 13, 49] (fun o _ i wr' => ∃ j : Nat, j ≤ ch2.length ∧ i = .int .i64 (j : Int) ∧ wr'.ownsRow w3.heap.size 191 4 o (e1 ++ highE y (ch2.take j)).length (rCells (e1 ++ highE y (ch2.take j))) ∧ Below w.heap.size w wr' ∧ SlR wr' A4 ch2.length k4 ch2 ∧ w4.heap.size ≤ wr'.heap.size ∧ Hid (∀ k, o.ownBlock = some k → k < wo.heap.size ∨ w4.heap.size ≤ k)) (fun _ _ i _ => ch2.length - (intOf i).toNat)
      case atStart => exact ⟨0, Nat.zero_le _, rfl, by simpa [highE] using Hown4.out, Hbw4.out, HS4.out, Nat.le_refl _, Lib.hid (fun k hk => .inl (Hlow.out k hk))⟩
      case round =>
        obtain ⟨j2, hj2, rfl, hown, hbr, hS, hs4r, Hap⟩ := hrel
        have hsr2 := hbr.size
        have Hown := Lib.hid hown
        have Hbr := Lib.hid hbr
        have HS := Lib.hid hS
        by_cases hjn2 : j2 < ch2.length
        · obtain ⟨b2, o2, hA4, hb2, c0, c1, c2, c3⟩ := hS.at j2 hjn2
          subst hA4
          have Hstep := Lib.hid (highE_take y ch2 j2 hjn2)
          have hlen2 : (highE y (ch2.take j2)).length ≤ 230400 := by rw [highE_len, List.length_take]; omega
          have hlen3 : (e1 ++ highE y (ch2.take j2)).length ≤ 460800 := by rw [List.length_append]; omega
          have hkn2' : (j2 : Int) < (ch2.length : Int) := by omega
          have hb2' := Hl4.out b2 o2 rfl
          generalize ch2[j2] = q at *
          obtain ⟨bk, hbk⟩ : ∃ bk, e1 ++ highE y (ch2.take j2) = bk := ⟨_, rfl⟩
          rw [hbk] at Hown hlen3
          have Hbk := Lib.hid hbk
          clear hown hbr hS hbk
          go_wp2_with (first
            | (at_builtin
               refine wpList_append_any _ rfl (.tmp 53) (.tmp 63) _ rfl w3.heap.size 191 i0 _ 4 32 Tryz.underlying186 hi hz0 hz1 hz2 rfl (by omega) _ bk.length (rCells bk) rfl
                 ((Hown.out.alloc _).alloc _) _ _ 1 1 [.int .i64 q.r, .int .i64 y, .int .i64 q.l, .int .i64 y] rfl ⟨rfl, fun _ => ⟨_, rfl, Nat.lt_succ_self _, fun j u hu => (by exact World.news_of_block (heap_alloc2_new wr _ (.cells #[.int .i64 q.r, .int .i64 y, .int .i64 q.l, .int .i64 y] 191)) j u hu)⟩⟩ (by simp [Value.oneCell']) (by simp only [maxLen]; omega) (by omega) (by simp; omega) ?_
               intro v5 w5 hown5 hg5 hat5)
            | fail)
          go_roundw
          case rel =>
            have hsz5 := hg5.size
            simp at hsz5
            refine ⟨j2 + 1, by omega, by go_num, ?_, ?_, ?_, by omega, Lib.hid (fun k hk => ?_)⟩
            · rw [Hstep.out, ← List.append_assoc, Hbk.out, List.length_append, rCells_snoc]
              exact hown5
            · exact Below.grown (((Hbr.out.alloc hsr2 _).alloc (by simp; omega) _)) hg5 (by simp; omega) (fun k hk => Nat.le_trans hs3 (own_base Hown.out k hk))
            · exact ((HS.out.alloc _).alloc _).grown hg5 (fun b off e => by
                injection e with e
                injection e with e _ _
                subst e
                intro e2
                rcases Hap.out _ e2 with h | h
                · omega
                · omega)
            · rcases hat5 with h | h
              · rw [h] at hk; exact Hap.out k hk
              · rw [h] at hk
                simp at hk
                exact .inr (by omega)
          case measure => simp [intOf]; omega
        · have Hown5 : Hid (wr.ownsRow w3.heap.size 191 4 u9 res.length (rCells res)) := Lib.hid (by have := Hown.out; rw [List.take_of_length_le (by omega), ← Hres.out] at this; exact this)
          have hkn2' : ¬ (j2 : Int) < (ch2.length : Int) := by omega
          clear hown hbr hS
          go_wp2
          go_ret
          exact ⟨_, rfl, own_rebase Hown5.out hs3, Hbr.out⟩
end Go.Proofs.YtfmkmhhghmdakaaGreatDoor
namespace Go.Proofs.YtfmkmhhghmdakaaGreatDoor
open Go.RowKit Go
set_option linter.unusedVariables false

section
variable {P : Program} {md : Region.Mode}
/-- The post of the head: at its end T holds. -/
def tailQ (T : Act → World → Prop) (Q : Exit → Act → World → Prop) : Exit → Act → World → Prop
  | .normal, a, w => T a w
  | e, a, w => Q e a w
/-- No guards; each of the head waits for those before it at most, and is waited for; each of the tail behind its first waits for one of the tail. -/
def headB (md : Region.Mode) (l : List Oper) (n : Nat) : Bool :=
  l.all (fun o => o.guard.isNone) &&
  (List.range n).all (fun i => ((l[i]?).map fun o => o.after.all fun e => !Region.binds md e || decide (e.on < i)).getD true) &&
  decide (n < l.length) && Region.sinkB md l.toArray n && (List.range l.length).all (fun t => decide (t ≤ n) || (List.range t).any fun j => decide (n ≤ j) && Region.waitsFor md l.toArray t j)
def listedAt (n g : Nat) : Array Bool := (List.replicate n true ++ List.replicate g false).toArray
theorem out_tail {T : Act → World → Prop} {Q : Exit → Act → World → Prop} (h : LetsOut (tailQ T Q)) : LetsOut Q := h
/-- While one of the head has not come up, none of the tail may. -/
theorem tail_waits2 {ops : Array Oper} {n : Nat} {listed : Array Bool} (hs : Region.sinkB md ops n = true) (hc : (List.range ops.size).all (fun t => decide (t ≤ n) || (List.range t).any fun j => decide (n ≤ j) && Region.waitsFor md ops t j) = true) (hn : n < ops.size) (inv : HeadInv md ops n listed) :
    ∀ (d i : Nat), n - i = d → i < n → listed.getD i true = false → ∀ t, n ≤ t → t ∉ Region.ready md ops listed := by
  intro d
  induction d using Nat.strongRecOn with
  | _ d ih =>
    intro i hd hi hun t ht hr
    obtain ⟨_, ot, hot, hall⟩ := mem_ready.1 hr
    have htlt : t < ops.size := (Array.getElem?_eq_some_iff.1 hot).1
    by_cases htn : t = n
    · subst htn
      have h1 := List.all_eq_true.1 hs i (List.mem_range.2 hi)
      obtain ⟨j, hj, hj2⟩ := List.any_eq_true.1 h1
      simp only [Bool.and_eq_true, decide_eq_true_eq] at hj2
      obtain ⟨oj, hoj, e, he, hb, hon⟩ := Region.waitsFor_spec hj2.2
      have hjle : j ≤ t := by have := List.mem_range.1 hj; omega
      by_cases hjt : j = t
      · subst hjt
        have : oj = ot := Option.some.inj (hoj.symm.trans hot)
        subst this
        have h2 := hall e he hb
        rw [hon, getD_both hun] at h2
        cases h2
      · cases hl : listed.getD j false with
        | true =>
          have h2 := inv.closed j oj hoj hl e he hb
          rw [hon, getD_both hun] at h2
          cases h2
        | false =>
          have hjs : j < listed.size := by rw [inv.size]; omega
          exact ih (t - j) (by omega) j rfl (by omega) (getD_in hjs hl) t (Nat.le_refl _) hr
    · have h1 := List.all_eq_true.1 hc t (List.mem_range.2 htlt)
      simp only [Bool.or_eq_true, decide_eq_true_eq] at h1
      rcases h1 with h1 | h1
      · omega
      · obtain ⟨j, hj, hj2⟩ := List.any_eq_true.1 h1
        simp only [Bool.and_eq_true, decide_eq_true_eq] at hj2
        obtain ⟨o', ho', e, he, hb, hon⟩ := Region.waitsFor_spec hj2.2
        have : o' = ot := Option.some.inj (ho'.symm.trans hot)
        subst this
        have h2 := hall e he hb
        have := List.mem_range.1 hj
        rw [hon, getD_both (inv.tail j hj2.1 (by omega))] at h2
        cases h2
theorem wp_tail {T : Act → World → Prop} {Q : Exit → Act → World → Prop} {o : Oper} {a : Act} {w : World} {K K' : Act → World → Prop} (hk : ∀ a w, K a w → K' a w) (h : o.wp P a w K (tailQ T Q)) : o.wp P a w K' Q := by
  unfold Oper.wp at *
  generalize (execOp a.eval o).run P w = r at *
  cases r with
  | ok x w' =>
    cases x <;> simp only [Oper.upon] at h ⊢ <;> first
      | exact hk _ _ h
      | exact Calls.mono h (fun e w'' he => by cases e <;> first | exact hk _ _ he | exact he | exact out_tail he)
      | exact Rows.mono h (fun _ _ he => hk _ _ he)
  | halt x w' => cases x <;> simp only [Oper.upon] at h ⊢ <;> exact h

theorem head_any {l : List Oper} {n : Nat} {T : Act → World → Prop} {Q : Exit → Act → World → Prop} {S : World → Prop}
    (hg : ∀ o ∈ l, o.guard.isNone = true) (hd : ∀ i, i < n → ∀ o, l[i]? = some o → ∀ e ∈ o.after, Region.binds md e = true → e.on < i)
    (hnl : n < l.length) (hsk : Region.sinkB md l.toArray n = true) (hch : (List.range l.toArray.size).all (fun t => decide (t ≤ n) || (List.range t).any fun j => decide (n ≤ j) && Region.waitsFor md l.toArray t j) = true)
    (hT : ∀ a w, T a w → wpAny P md l.toArray Q (l.length - n) (listedAt n (l.length - n)) a w) :
    ∀ (f : Nat) (lh : List Bool) (a : Act) (w : World), lh.length = n → lh.countP (fun b => !b) = f →
      HeadInv md l.toArray n ((lh ++ List.replicate (l.length - n) false).toArray) →
      wpAnyH P md (l.take n).toArray (tailQ T Q) S f lh.toArray a w →
      wpAny P md l.toArray Q (f + (l.length - n)) ((lh ++ List.replicate (l.length - n) false).toArray) a w
  | 0, lh, a, w, hl, hc, inv, h => by
    have e : lh = List.replicate n true := by
      rw [List.eq_replicate_iff]
      refine ⟨hl, fun b hb => ?_⟩
      rw [List.countP_eq_zero] at hc
      have := hc b hb
      simpa using this
    subst e
    rw [Nat.zero_add]
    exact hT a w h.2
  | f + 1, lh, a, w, hl, hc, inv, h => by
    have hex : ∃ i, i < n ∧ lh[i]? = some false := by
      have : 0 < lh.countP (fun b => !b) := by omega
      rw [List.countP_pos_iff] at this
      obtain ⟨b, hb, hb2⟩ := this
      obtain ⟨i, hi, e⟩ := List.getElem_of_mem hb
      refine ⟨i, by omega, ?_⟩
      rw [List.getElem?_eq_getElem hi, e]
      simp at hb2
      rw [hb2]
    -- a flag of the head, in both arrays
    have hh : ∀ i d, i < n → ((lh ++ List.replicate (l.length - n) false).toArray).getD i d = lh.toArray.getD i d := by
      intro i d hi
      rw [← hl] at hi
      simp [Array.getD_eq_getD_getElem?, List.getElem?_append_left hi]
    rw [show f + 1 + (l.length - n) = (f + (l.length - n)) + 1 by omega]
    constructor
    · intro h0
      exfalso
      -- the least of the head that has not come up may come up
      have hmin : ∀ (k i : Nat), i = k → i < n → lh[i]? = some false → False := by
        intro k
        induction k using Nat.strongRecOn with
        | _ k ih =>
          intro i hik hi hf
          subst hik
          by_cases hall : ∀ j, j < i → lh[j]? = some true
          · have hm : i ∈ Region.ready md l.toArray ((lh ++ List.replicate (l.length - n) false).toArray) := by
              rw [mem_ready]
              refine ⟨by rw [hh i true hi]; simp [Array.getD_eq_getD_getElem?, hf], l[i], by simp, fun e he hb => ?_⟩
              have hlt := hd i hi l[i] (by simp) e he hb
              rw [hh _ false (by omega)]
              simp [Array.getD_eq_getD_getElem?, hall e.on hlt]
            rw [h0] at hm
            cases hm
          · simp only [Classical.not_forall] at hall
            obtain ⟨j, hj, hjf⟩ := hall
            refine ih j hj j rfl (by omega) ?_
            have hjl : j < lh.length := by omega
            rw [List.getElem?_eq_getElem hjl] at hjf ⊢
            cases hv : lh[j] with
            | true => rw [hv] at hjf; exact absurd rfl hjf
            | false => rfl
      obtain ⟨i, hi, hf⟩ := hex
      exact hmin i i rfl hi hf
    · intro i hi
      have hi' := hi
      rw [mem_ready] at hi'
      obtain ⟨h1, o, ho, hall⟩ := hi'
      have hil : i < l.length := by
        have := (Array.getElem?_eq_some_iff.1 ho).1
        simpa using this
      have hin : i < n := by
        rcases Nat.lt_or_ge i n with h' | h'
        · exact h'
        · obtain ⟨k, hk, hkf⟩ := hex
          exact absurd hi (tail_waits2 hsk hch (by simpa using hnl) inv _ k rfl hk (by rw [hh k true hk]; simp [Array.getD_eq_getD_getElem?, hkf]) i h')
      have hr : i ∈ Region.ready md (l.take n).toArray lh.toArray := by
        rw [mem_ready]
        refine ⟨by rw [← hh i true hin]; exact h1, o, ?_, fun e he hb => ?_⟩
        · simp at ho ⊢
          rw [List.getElem?_take]
          simp [hin, ho]
        · have hlt := hd i hin o (by simpa using ho) e he hb
          rw [← hh _ false (by omega)]
          exact hall e he hb
      have h2 := h.2 i hr
      have hset : ((lh ++ List.replicate (l.length - n) false).toArray).setIfInBounds i true = ((lh.set i true) ++ List.replicate (l.length - n) false).toArray := by
        simp [show i < lh.length by omega]
      have hset2 : lh.toArray.setIfInBounds i true = (lh.set i true).toArray := by simp
      rw [hset]
      have hof : lh[i]? = some false := by
        have hil' : i < lh.length := by omega
        rw [hh i true hin] at h1
        simp [Array.getD_eq_getD_getElem?, List.getElem?_eq_getElem hil'] at h1
        rw [List.getElem?_eq_getElem hil', h1]
      have hcount : (lh.set i true).countP (fun b => !b) = f := by
        have hil' : i < lh.length := by omega
        have := List.countP_set (p := fun b => !b) (l := lh) (a := true) hil'
        rw [List.getElem?_eq_getElem hil'] at hof
        injection hof with hof
        rw [this, hof]
        simp
        omega
      unfold wpOp at h2 ⊢
      have e1 : (l.take n).toArray[i]? = some o := by
        simp at ho ⊢
        rw [List.getElem?_take]
        simp [hin, ho]
      rw [e1] at h2
      rw [ho]
      have hgo : o.guard = none := by
        have := hg o (by
          have : l[i]? = some o := by simpa using ho
          exact List.mem_of_getElem? this)
        simpa using this
      have hw : ∀ t, Region.wanted o t = true := fun t => by simp [Region.wanted, hgo]
      simp only [hw, if_true] at h2 ⊢
      rcases h2 with h2 | h2
      · refine .inl (wp_tail (fun a' w' hk => ?_) h2)
        have hk2 := hk.2
        rw [hset2] at hk2
        exact head_any hg hd hnl hsk hch hT f (lh.set i true) a' w' (by simp [hl]) hcount (by rw [← hset]; exact inv.set hi hin) hk2
      · exact .inr ⟨h2.1, out_tail h2.2⟩

theorem wp_region_head {id : Nat} {T : Act → World → Prop} {Q : Exit → Act → World → Prop} {a : Act} {w : World} {l : List Oper} {S : World → Prop} (n : Nat) (hm : P.follows .mixedOrders = true) (hB : headB .any l n = true)
    (hT : ∀ a w, T a w → wpAny P .any l.toArray Q (l.length - n) (listedAt n (l.length - n)) a w)
    (h : wpAnyH P .any (l.take n).toArray (tailQ T Q) S n ((List.replicate n false).toArray) a w.drew) : (Code.region id l.toArray true).wp P Q a w := by
  simp only [headB, Bool.and_eq_true] at hB
  obtain ⟨⟨⟨⟨hg, hd⟩, hnl⟩, hsk⟩, hch⟩ := hB
  rw [List.all_eq_true] at hg hd
  have hnl : n < l.length := of_decide_eq_true hnl
  refine wp_region_any hm ?_
  have e1 : n + (l.length - n) = l.toArray.size := by simp; omega
  have e2 : (List.replicate n false ++ List.replicate (l.length - n) false).toArray = Array.replicate l.toArray.size false := by
    rw [List.replicate_append_replicate, e1]
    simp
  have key := head_any (P := P) (md := .any) (l := l) (n := n) (T := T) (Q := Q) (S := S) hg (fun i hi o ho e he hb => by
      have := hd i (List.mem_range.2 hi)
      rw [ho] at this
      simp only [Option.map_some, Option.getD_some] at this
      have h3 := Array.all_eq_true'.1 this e he
      rw [hb] at h3
      simpa using h3) hnl hsk (by simpa using hch) hT n (List.replicate n false) a w.drew (by simp) (by rw [List.countP_replicate]; rfl) (by rw [e2]; exact ⟨by simp, fun j oj _ hl => (by rw [getD_replicate_false] at hl; cases hl), fun t _ ht => getD_in (by simpa using ht) (getD_replicate_false _ _)⟩) h
  rw [e1, e2] at key
  exact key
/-- The region's beginning: its head under S, its tail as a row. -/
theorem wp_region_held_tail {id : Nat} {Q : Exit → Act → World → Prop} {a : Act} {w : World} {l : List Oper} {S : World → Prop} (n : Nat) (hm : P.follows .mixedOrders = true) (hB : headB .any l n = true) (hs : Region.seqB .any l.toArray (l.length - n) n (listedAt n (l.length - n)) = true)
    (h : wpAnyH P .any (l.take n).toArray (tailQ (fun a w => wpList P l.toArray Q (l.drop n) a w) Q) S n ((List.replicate n false).toArray) a w.drew) : (Code.region id l.toArray true).wp P Q a w :=
  wp_region_head n hm hB (fun a w h2 => by
    have := wpAny_of_seq (md := .any) (Q' := Q) (l.drop n) n (listedAt n (l.length - n)) a w (fun j => by simp [List.getElem?_drop]) (by rw [List.length_drop]; exact hs) h2
    rwa [List.length_drop] at this) h
end
end Go.Proofs.YtfmkmhhghmdakaaGreatDoor
namespace Go.Proofs.YtfmkmhhghmdakaaGreatDoor
open Go.RowKit Go
set_option linter.unusedVariables false
set_option linter.unusedSimpArgs false

/-- A fence that asks nothing, in a round or not. -/
structure WideF (F : Fence) : Prop where
  fn : ∀ f, F.fn f
  depth : F.depth = none
  calls : ∀ {n : Nat} {P : Program} {f : FuncId} {args : Array Value} {w : World} {R : Ending → World → Prop}, Calls P f args w R → CallsIn F n P f args w R
  rows : ∀ {n : Nat} {P : Program} {row : String} {args : Array Value} {w : World} {R : Value → World → Prop}, Rows P row args w R → RowsIn F n P row args w R
theorem wideF : WideF Fence.wide := ⟨fun _ => trivial, rfl, fun h => callsIn_wide.2 h, fun h c cs _ => by
  obtain ⟨v, w', r, s⟩ := h c cs
  exact ⟨v, w', r, stepsIn_wide.2 s⟩⟩
theorem wideF_round (l : Nat) : WideF (Fence.wide.inRound l) := ⟨fun _ => trivial, rfl, fun h => CallsIn.inRound l (callsIn_wide.2 h), fun h c cs _ => by
  obtain ⟨v, w', r, s⟩ := h c cs
  exact ⟨v, w', r, stepsIn_wide.2 s⟩⟩
/-- The post of a head that ends in no other way. -/
def headQ (T : Act → World → Prop) : Exit → Act → World → Prop
  | .normal, a, w => T a w
  | _, _, _ => False
theorem headQ_out (T : Act → World → Prop) : ¬ LetsOut (headQ T) := fun ⟨_, _, h⟩ => h
def plainOp (o : Oper) : Bool := match o.op with | .defer _ => false | _ => true
theorem oper_in {F : Fence} (hF : WideF F) {n : Nat} {P : Program} {T : Act → World → Prop} {Q : Exit → Act → World → Prop} {o : Oper} {a : Act} {w : World} {K K' : Act → World → Prop} (hd : plainOp o = true) (hk : ∀ a w, K a w → K' a w) (h : o.wp P a w K (headQ T)) : o.wpIn F n P a w K' Q := by
  have hsem : o.semAt F.round a.eval = execOp a.eval o := by
    unfold plainOp at hd
    cases hr : F.round with
    | none => unfold Oper.semAt; rfl
    | some l => exact Oper.semAt_some l _ _ (fun c hc => by rw [hc] at hd; cases hd)
  refine ⟨fun f _ => hF.fn f, ?_⟩
  rw [hsem]
  unfold Oper.wp at h
  generalize (execOp a.eval o).run P w = r at *
  have hdep : F.depth.isSome = true → 1 ≤ n := fun e => by rw [hF.depth] at e; cases e
  cases r with
  | ok x w' =>
    cases x <;> simp only [Oper.upon, Oper.uponIn] at h ⊢ <;> first
      | exact hk _ _ h
      | exact ⟨hdep, hF.calls (Calls.mono h (fun e w'' he => by cases e <;> first | exact hk _ _ he | exact absurd he (headQ_out T) | exact he.elim))⟩
      | exact ⟨hdep, hF.rows (Rows.mono h (fun _ _ he => hk _ _ he))⟩
  | halt x w' => cases x <;> simp only [Oper.upon, Oper.uponIn] at h ⊢ <;> exact h.elim

/-- Each of the head has a guard of the head, waits for those before it at most, and is waited for; each of the tail behind its first waits for one of the tail. -/
def headG (md : Region.Mode) (l : List Oper) (n : Nat) : Bool :=
  (List.range n).all (fun i => ((l[i]?).map fun o => plainOp o && (match o.guard with | none => true | some (j, _) => decide (j < n)) && o.after.all fun e => !Region.binds md e || decide (e.on < i)).getD true) &&
  decide (n < l.length) && Region.sinkB md l.toArray n && (List.range l.length).all (fun t => decide (t ≤ n) || (List.range t).any fun j => decide (n ≤ j) && Region.waitsFor md l.toArray t j)
theorem wanted_head {l : List Oper} {n : Nat} {o : Oper} (hg : (match o.guard with | none => true | some (j, _) => decide (j < n)) = true) (t : Array Value) : Region.wanted o (yielded (l.take n).toArray t) = Region.wanted o (yielded l.toArray t) := by
  unfold Region.wanted
  cases hgu : o.guard with
  | none => rfl
  | some p =>
    obtain ⟨j, b⟩ := p
    rw [hgu] at hg
    have hj : j < n := of_decide_eq_true hg
    have e : (l.take n).toArray[j]? = l.toArray[j]? := by simp [List.getElem?_take, hj]
    simp only [yielded, e]
section
variable {F : Fence} {P : Program} {md : Region.Mode} {N : Nat}
theorem headG_any (hF : WideF F) {l : List Oper} {n : Nat} {T : Act → World → Prop} {Q : Exit → Act → World → Prop} {S : World → Prop}
    (hg : ∀ i, i < n → ∀ o, l[i]? = some o → plainOp o = true ∧ (match o.guard with | none => true | some (j, _) => decide (j < n)) = true)
    (hd : ∀ i, i < n → ∀ o, l[i]? = some o → ∀ e ∈ o.after, Region.binds md e = true → e.on < i)
    (hnl : n < l.length) (hsk : Region.sinkB md l.toArray n = true) (hch : (List.range l.toArray.size).all (fun t => decide (t ≤ n) || (List.range t).any fun j => decide (n ≤ j) && Region.waitsFor md l.toArray t j) = true)
    (hT : ∀ a w, T a w → wpAnyIn F N P md l.toArray Q (l.length - n) (listedAt n (l.length - n)) a w) :
    ∀ (f : Nat) (lh : List Bool) (a : Act) (w : World), lh.length = n → lh.countP (fun b => !b) = f →
      HeadInv md l.toArray n ((lh ++ List.replicate (l.length - n) false).toArray) →
      wpAnyH P md (l.take n).toArray (headQ T) S f lh.toArray a w →
      wpAnyIn F N P md l.toArray Q (f + (l.length - n)) ((lh ++ List.replicate (l.length - n) false).toArray) a w
  | 0, lh, a, w, hl, hc, inv, h => by
    have e : lh = List.replicate n true := by
      rw [List.eq_replicate_iff]
      refine ⟨hl, fun b hb => ?_⟩
      rw [List.countP_eq_zero] at hc
      have := hc b hb
      simpa using this
    subst e
    rw [Nat.zero_add]
    exact hT a w h.2
  | f + 1, lh, a, w, hl, hc, inv, h => by
    have hex : ∃ i, i < n ∧ lh[i]? = some false := by
      have : 0 < lh.countP (fun b => !b) := by omega
      rw [List.countP_pos_iff] at this
      obtain ⟨b, hb, hb2⟩ := this
      obtain ⟨i, hi, e⟩ := List.getElem_of_mem hb
      refine ⟨i, by omega, ?_⟩
      rw [List.getElem?_eq_getElem hi, e]
      simp at hb2
      rw [hb2]
    have hh : ∀ i d, i < n → ((lh ++ List.replicate (l.length - n) false).toArray).getD i d = lh.toArray.getD i d := by
      intro i d hi
      rw [← hl] at hi
      simp [Array.getD_eq_getD_getElem?, List.getElem?_append_left hi]
    rw [show f + 1 + (l.length - n) = (f + (l.length - n)) + 1 by omega]
    constructor
    · intro h0
      exfalso
      have hmin : ∀ (k i : Nat), i = k → i < n → lh[i]? = some false → False := by
        intro k
        induction k using Nat.strongRecOn with
        | _ k ih =>
          intro i hik hi hf
          subst hik
          by_cases hall : ∀ j, j < i → lh[j]? = some true
          · have hm : i ∈ Region.ready md l.toArray ((lh ++ List.replicate (l.length - n) false).toArray) := by
              rw [mem_ready]
              refine ⟨by rw [hh i true hi]; simp [Array.getD_eq_getD_getElem?, hf], l[i], by simp, fun e he hb => ?_⟩
              have hlt := hd i hi l[i] (by simp) e he hb
              rw [hh _ false (by omega)]
              simp [Array.getD_eq_getD_getElem?, hall e.on hlt]
            rw [h0] at hm
            cases hm
          · simp only [Classical.not_forall] at hall
            obtain ⟨j, hj, hjf⟩ := hall
            refine ih j hj j rfl (by omega) ?_
            have hjl : j < lh.length := by omega
            rw [List.getElem?_eq_getElem hjl] at hjf ⊢
            cases hv : lh[j] with
            | true => rw [hv] at hjf; exact absurd rfl hjf
            | false => rfl
      obtain ⟨i, hi, hf⟩ := hex
      exact hmin i i rfl hi hf
    · intro i hi
      have hi' := hi
      rw [mem_ready] at hi'
      obtain ⟨h1, o, ho, hall⟩ := hi'
      have hil : i < l.length := by
        have := (Array.getElem?_eq_some_iff.1 ho).1
        simpa using this
      have hin : i < n := by
        rcases Nat.lt_or_ge i n with h' | h'
        · exact h'
        · obtain ⟨k, hk, hkf⟩ := hex
          exact absurd hi (tail_waits2 hsk hch (by simpa using hnl) inv _ k rfl hk (by rw [hh k true hk]; simp [Array.getD_eq_getD_getElem?, hkf]) i h')
      have hr : i ∈ Region.ready md (l.take n).toArray lh.toArray := by
        rw [mem_ready]
        refine ⟨by rw [← hh i true hin]; exact h1, o, ?_, fun e he hb => ?_⟩
        · simp at ho ⊢
          rw [List.getElem?_take]
          simp [hin, ho]
        · have hlt := hd i hin o (by simpa using ho) e he hb
          rw [← hh _ false (by omega)]
          exact hall e he hb
      have h2 := h.2 i hr
      have hset : ((lh ++ List.replicate (l.length - n) false).toArray).setIfInBounds i true = ((lh.set i true) ++ List.replicate (l.length - n) false).toArray := by
        simp [show i < lh.length by omega]
      have hset2 : lh.toArray.setIfInBounds i true = (lh.set i true).toArray := by simp
      rw [hset]
      have hof : lh[i]? = some false := by
        have hil' : i < lh.length := by omega
        rw [hh i true hin] at h1
        simp [Array.getD_eq_getD_getElem?, List.getElem?_eq_getElem hil'] at h1
        rw [List.getElem?_eq_getElem hil', h1]
      have hcount : (lh.set i true).countP (fun b => !b) = f := by
        have hil' : i < lh.length := by omega
        have := List.countP_set (p := fun b => !b) (l := lh) (a := true) hil'
        rw [List.getElem?_eq_getElem hil'] at hof
        injection hof with hof
        rw [this, hof]
        simp
        omega
      have hgo := hg i hin o (by simpa using ho)
      have step : ∀ a' w', (S w' ∧ wpAnyH P md (l.take n).toArray (headQ T) S f (lh.toArray.setIfInBounds i true) a' w') → wpAnyIn F N P md l.toArray Q (f + (l.length - n)) ((lh.set i true) ++ List.replicate (l.length - n) false).toArray a' w' := by
        intro a' w' hk
        have hk2 := hk.2
        rw [hset2] at hk2
        exact headG_any hF hg hd hnl hsk hch hT f (lh.set i true) a' w' (by simp [hl]) hcount (by rw [← hset]; exact inv.set hi hin) hk2
      unfold wpOp at h2
      unfold wpOpIn
      have e1 : (l.take n).toArray[i]? = some o := by
        simp at ho ⊢
        rw [List.getElem?_take]
        simp [hin, ho]
      rw [e1] at h2
      rw [ho]
      simp only [wanted_head hgo.2] at h2
      by_cases hw : Region.wanted o (yielded l.toArray a.tmps) = true
      · simp only [hw, if_true] at h2 ⊢
        rcases h2 with h2 | h2
        · exact oper_in hF hgo.1 step h2
        · exact absurd h2.2 (headQ_out T)
      · simp only [hw] at h2 ⊢
        exact ⟨fun f _ => hF.fn f, step _ _ h2⟩

/-- The region's beginning in the plain calculus under S, its tail in the fence. -/
theorem wpIn_region_head (hF : WideF F) {id : Nat} {T : Act → World → Prop} {Q : Exit → Act → World → Prop} {a : Act} {w : World} {l : List Oper} {S : World → Prop} (n : Nat) (hm : P.follows .mixedOrders = true) (hB : headG .any l n = true)
    (hT : ∀ a w, T a w → wpAnyIn F N P .any l.toArray Q (l.length - n) (listedAt n (l.length - n)) a w)
    (h : wpAnyH P .any (l.take n).toArray (headQ T) S n ((List.replicate n false).toArray) a w.drew) : (Code.region id l.toArray true).wpIn F N P Q a w := by
  simp only [headG, Bool.and_eq_true] at hB
  obtain ⟨⟨⟨hd, hnl⟩, hsk⟩, hch⟩ := hB
  rw [List.all_eq_true] at hd
  have hnl : n < l.length := of_decide_eq_true hnl
  refine wpIn_region_any hm ?_
  have e1 : n + (l.length - n) = l.toArray.size := by simp; omega
  have e2 : (List.replicate n false ++ List.replicate (l.length - n) false).toArray = Array.replicate l.toArray.size false := by
    rw [List.replicate_append_replicate, e1]
    simp
  have hdi : ∀ i, i < n → ∀ o, l[i]? = some o → (plainOp o = true ∧ (match o.guard with | none => true | some (j, _) => decide (j < n)) = true) ∧ (o.after.all fun e => !Region.binds .any e || decide (e.on < i)) = true := fun i hi o ho => by
    have := hd i (List.mem_range.2 hi)
    rw [ho] at this
    simpa only [Option.map_some, Option.getD_some, Bool.and_eq_true] using this
  have key := headG_any hF (P := P) (md := .any) (N := N) (l := l) (n := n) (T := T) (Q := Q) (S := S) (fun i hi o ho => (hdi i hi o ho).1) (fun i hi o ho e he hb => by
      have h3 := Array.all_eq_true'.1 (hdi i hi o ho).2 e he
      rw [hb] at h3
      simpa using h3) hnl hsk (by simpa using hch) hT n (List.replicate n false) a w.drew (by simp) (by rw [List.countP_replicate]; rfl) (by rw [e2]; exact ⟨by simp, fun j oj _ hl => (by rw [getD_replicate_false] at hl; cases hl), fun t _ ht => getD_in (by simpa using ht) (getD_replicate_false _ _)⟩) h
  rw [e1, e2] at key
  exact key
end
end Go.Proofs.YtfmkmhhghmdakaaGreatDoor
