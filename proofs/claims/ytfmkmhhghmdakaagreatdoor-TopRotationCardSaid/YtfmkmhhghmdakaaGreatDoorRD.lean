import Derived.Test.YtfmkmhhghmdakaaGreatDoorSh
import Derived.Lib.OwnBridge
import Derived.Sort.OwnSortedInts
import Derived.Test.YtfmkmhhghmdakaaGreatDoorRA
import Derived.Test.YtfmkmhhghmdakaaGreatDoorRB
import Derived.Test.YtfmkmhhghmdakaaGreatDoorRC
namespace Go.Proofs.YtfmkmhhghmdakaaGreatDoor
open Go.RowKit
set_option linter.unusedVariables false
set_option linter.unusedSimpArgs false
set_option maxHeartbeats 64000000
set_option maxRecDepth 100000
theorem Tryz.infoBand : (Tryz.prog.info? 259).map (fun i => (i.zero, i.size, i.bytes)) = some (some (.agg #[.int .i64 0, .int .i64 0, .slice none 0 0]), 3, 40) := by kernel_rfl
def OwnB (w : World) (base : Nat) (v : Value) (bs : List (Sg (List (Sg Unit)))) : Prop :=
  ∃ vs : List Value, vs.length = bs.length ∧ w.ownsRow base 259 3 v bs.length (bCells bs vs) ∧ ∀ i (h : i < bs.length) (h' : i < vs.length), w.ownsRow base 256 2 vs[i] bs[i].2.2.length (sCells bs[i].2.2) ∧ ∀ k, vs[i].ownBlock = some k → v.ownBlock ≠ some k
theorem OwnB.below {w w' : World} {base : Nat} {v : Value} {bs : List (Sg (List (Sg Unit)))} (h : OwnB w base v bs) (hb : Below w.heap.size w w') : OwnB w' base v bs := by
  obtain ⟨vs, h1, h2, h3⟩ := h
  exact ⟨vs, h1, ownsRow_below h2 hb, fun i a b => ⟨ownsRow_below (h3 i a b).1 hb, (h3 i a b).2⟩⟩
theorem box3 {w : World} {g : Nat} {t : TypeId} {a b c x y z : Value} (h : w.heap[g]? = some (.cells #[a, b, c] t (0, 0))) : (((w.setCell ⟨g, 0, none⟩ x).setCell ⟨g, 1, none⟩ y).setCell ⟨g, 2, none⟩ z).heap[g]? = some (.cells #[x, y, z] t (0, 0)) := by
  have h1 := heap_setCell_same w g 0 _ _ x h
  have h2 := heap_setCell_same _ g 1 _ _ y h1
  have h3 := heap_setCell_same _ g 2 _ _ z h2
  rw [h3]
  simp
theorem box3_own {w : World} {g : Nat} {x y z : Value} {base : Nat} {e : TypeId} {size n : Nat} {v : Value} {xs : List Value} (h : w.ownsRow base e size v n xs) (hk : ∀ k, v.ownBlock = some k → ¬ k = g) : (((w.setCell ⟨g, 0, none⟩ x).setCell ⟨g, 1, none⟩ y).setCell ⟨g, 2, none⟩ z).ownsRow base e size v n xs :=
  own_other h (only_setCell (only_setCell (only_setCell (World.grownBy.refl _ (some g)) (.inl rfl) _) (.inl rfl) _) (.inl rfl) _) (fun k h1 e => hk k h1 (by injection e with e; exact e.symm))
theorem box3_below {w0 w : World} {g : Nat} {x y z : Value} (h : Below g w0 w) : Below g w0 (((w.setCell ⟨g, 0, none⟩ x).setCell ⟨g, 1, none⟩ y).setCell ⟨g, 2, none⟩ z) :=
  ((h.setCell (Nat.le_refl _) _).setCell (Nat.le_refl _) _).setCell (Nat.le_refl _) _
theorem OwnB.push {w4 w5 : World} {base : Nat} {v v5 : Value} {acc : List (Sg (List (Sg Unit)))} {vs : List Value} {b : Sg (List (Sg Unit))} {s : Value}
    (hvl : vs.length = acc.length) (hvs : ∀ i (h : i < acc.length) (h' : i < vs.length), w4.ownsRow base 256 2 vs[i] acc[i].2.2.length (sCells acc[i].2.2) ∧ ∀ k, vs[i].ownBlock = some k → v.ownBlock ≠ some k)
    (hs : w4.ownsRow base 256 2 s b.2.2.length (sCells b.2.2)) (hsv : ∀ k, s.ownBlock = some k → v.ownBlock ≠ some k)
    (hown5 : w5.ownsRow base 259 3 v5 (acc.length + 1) (bCells acc vs ++ [.int .i64 b.1, .int .i64 b.2.1, s])) (hg5 : w4.grownBy w5 v.ownBlock) (hat : v5.ownBlock = v.ownBlock ∨ v5.ownBlock = some w4.heap.size) : OwnB w5 base v5 (acc ++ [b]) := by
  have key : ∀ (u : Value) (l : List (Sg Unit)), w4.ownsRow base 256 2 u l.length (sCells l) → (∀ k, u.ownBlock = some k → v.ownBlock ≠ some k) → w5.ownsRow base 256 2 u l.length (sCells l) ∧ ∀ k, u.ownBlock = some k → v5.ownBlock ≠ some k := by
    intro u l h1 h2
    refine ⟨own_other h1 hg5 h2, fun k hk e => ?_⟩
    rcases hat with h | h
    · rw [h] at e; exact h2 k hk e
    · rw [h] at e
      injection e with e
      have := (h1.lt k hk).2
      omega
  refine ⟨vs ++ [s], by simp [hvl], by rw [bCells_snoc _ _ hvl, List.length_append]; exact hown5, fun i h h' => ?_⟩
  by_cases hi : i < acc.length
  · rw [List.getElem_append_left hi, List.getElem_append_left (show i < vs.length by omega)]
    exact key _ _ (hvs i hi (by omega)).1 (hvs i hi (by omega)).2
  · have e1 : i = acc.length := by simp at h; omega
    have e2 : (acc ++ [b])[i] = b := by simp [e1]
    have e3 : (vs ++ [s])[i] = s := by
      have : i = vs.length := by omega
      simp [this]
    rw [e2, e3]
    exact key s b.2.2 hs hsv
theorem OwnB.high {w : World} {base g nb vc p : Nat} {acc a0 : List (Sg (List (Sg Unit)))} {q : Sg (List (Sg Unit))} {vs : List Value} (hsn : acc = a0 ++ [q]) (hp : a0.length = p) (hnb : acc.length = nb) (hvl : vs.length = acc.length)
    (hvo : w.ownsRow base 259 3 (.slice (some ⟨g, 0, none⟩) nb vc) nb (bCells acc vs)) (hvs : ∀ i (h : i < acc.length) (h' : i < vs.length), w.ownsRow base 256 2 vs[i] acc[i].2.2.length (sCells acc[i].2.2) ∧ ∀ k, vs[i].ownBlock = some k → (Value.slice (some ⟨g, 0, none⟩) nb vc).ownBlock ≠ some k) (z : Int) :
    OwnB (w.setCell ⟨g, p * 3 + 1, none⟩ (.int .i64 z)) base (.slice (some ⟨g, 0, none⟩) nb vc) (a0 ++ [(q.1, z, q.2.2)]) := by
  have hl : (a0 ++ [(q.1, z, q.2.2)]).length = acc.length := by rw [hsn]; simp
  have hpl : p < acc.length := by rw [hsn]; simp; omega
  have haq : acc[p] = q := by
    have h1 : acc[p]? = some q := by rw [hsn, List.getElem?_append_right (by omega), hp]; simp
    rw [List.getElem?_eq_getElem hpl] at h1
    exact Option.some.inj h1
  have hset : a0 ++ [(q.1, z, q.2.2)] = acc.set p (acc[p].1, z, acc[p].2.2) := by
    rw [haq, hsn, List.set_append_right _ _ (by omega), hp, Nat.sub_self]
    rfl
  refine ⟨vs, by rw [hl, hvl], ?_, fun i h h' => ?_⟩
  · rw [hl, hnb, hset, bCells_setH acc vs hvl p hpl (by omega)]
    exact own_setN hvo _ _
  · have hi : i < acc.length := by omega
    obtain ⟨h1, h2⟩ := hvs i hi h'
    have e : (a0 ++ [(q.1, z, q.2.2)])[i].2.2 = acc[i].2.2 := by
      have e1 : ∀ (l : List (Sg (List (Sg Unit)))) (hx : a0 ++ [(q.1, z, q.2.2)] = l) (hi' : i < l.length), (a0 ++ [(q.1, z, q.2.2)])[i].2.2 = l[i].2.2 := by
        intro l hx hi'; subst hx; rfl
      rw [e1 _ hset (by simpa using hi), List.getElem_set]
      split
      · rename_i h3; subst h3; rfl
      · rfl
    rw [e]
    exact ⟨own_other h1 (only_setCell (World.grownBy.refl _ (some g)) (.inl rfl) _) (fun k hk e => h2 k hk e), h2⟩
theorem build_any (f : Nat) (lb : Array Value) (row : Int → List (Sg Unit)) (m : Nat) (C : Option Addr) (n c : Nat) (cuts : List Int) (w : World) (hC : SlI w C n c cuts) (hn1 : n ≤ 100000) (hm : ∀ y, (row y).length ≤ m) (hm1 : m ≤ 100000) (hnm : n * m ≤ 10000000)
    (eg : ∀ args w, (callFunc f args).run Tryz.prog w = .ok (.enter f args) w)
    (HR : ∀ W y, Below w.heap.size w W → Calls Tryz.prog f (#[.int .i64 y] ++ lb) W fun e w' => ∃ v, e = .returned v ∧ w'.ownsRow W.heap.size 256 2 v (row y).length (sCells (row y)) ∧ Below W.heap.size W w') :
    Calls Tryz.prog 136 #[.slice C n c, .func (.func f) #[] lb] w fun e w' => ∃ v, e = .returned v ∧ w'.ownsRow w.heap.size 68 4 v (buildP row cuts).length (rCells (buildP row cuts)) ∧ Below w.heap.size w w' := by
  obtain ⟨i0, hi, hz0, hz1, hz2⟩ := info_parts Tryz.infoBand
  have hn := hC.len
  have HC := Lib.hid hC
  have HRh := Lib.hid HR
  have Hm := Lib.hid hm
  clear hC HR hm
  go_enter Tryz.func136, Tryz.ntmps136
  go_upto_region 3 with fail
  go_loopw [5, 6, 7, 8] (fun bv iv _ _ wr => ∃ (j : Nat) (acc : List (Sg (List (Sg Unit)))), iv = .int .i64 ((j : Int) + 1) ∧ j ≤ n ∧ OwnB wr w.heap.size bv acc ∧ Below w.heap.size w wr ∧ Hid (foldC (fun y => some (row y)) (cuts.drop j) acc = foldC (fun y => some (row y)) cuts []) ∧ Hid (acc.length ≤ j ∧ ∀ s ∈ acc, s.2.2.length ≤ m)) (fun _ iv _ _ _ => n + 1 - (intOf iv).toNat)
  case atStart => exact ⟨0, [], rfl, Nat.zero_le _, ⟨[], rfl, World.ownsRow_nil _ _ _ _, fun i h => absurd h (Nat.not_lt_zero _)⟩, Below.refl _ _, Lib.hid rfl, Lib.hid ⟨Nat.le_refl _, by simp⟩⟩
  case round =>
    obtain ⟨j, acc, rfl, hjn, hown, hbw, Hrun, Hacc⟩ := hrel
    have hsw := hbw.size
    have Hown := Lib.hid hown
    have Hbw := Lib.hid hbw
    clear hown
    by_cases hj : j + 1 < n
    · have hj1 : j < cuts.length := by omega
      have hj2 : j + 1 < cuts.length := by omega
      obtain ⟨xb, xo, hCe, hxb, cxa⟩ := HC.out.at j hj1
      obtain ⟨xb', xo', hCe', _, cxb⟩ := HC.out.at (j + 1) hj2
      rw [hCe] at hCe'
      injection hCe' with hCe'
      injection hCe' with e1 e2 _
      subst e1 e2 hCe
      have Hdrop := Lib.hid (foldC_drop (fun y => some (row y)) cuts j hj2 acc)
      generalize cuts[j] = x at *
      generalize cuts[j + 1] = x' at *
      have Hcx : Hid (∀ W, Below w.heap.size w W → W.cell? ⟨xb, xo + j, none⟩ = some (.int .i64 x) ∧ W.cell? ⟨xb, xo + (j + 1), none⟩ = some (.int .i64 x')) := Lib.hid (fun W hW => ⟨(hW.cell (p := ⟨xb, xo + j, none⟩) hxb).trans cxa, (hW.cell (p := ⟨xb, xo + (j + 1), none⟩) hxb).trans cxb⟩)
      obtain ⟨cx0, cx1⟩ := Hcx.out wr hbw
      have HRx := Lib.hid (fun W (hW : Below wr.heap.size wr W) => HRh.out W x (Hbw.out.trans (hW.mono hsw)))
      have hlrow := Hm.out x
      generalize row x = rx at *
      have hj' : (j : Int) + 1 < (n : Int) := by omega
      have hwj : IntKind.i64.wrap ((j : Int) + 1 - 1) = (j : Int) := by rw [IntWalk.i64_in _ (by omega)]; omega
      have hwj2 : IntKind.i64.wrap (j : Int) = (j : Int) := IntWalk.i64_in _ (by omega)
      have hj0 : (0 : Int) ≤ (j : Int) := by omega
      have hj01 : (0 : Int) ≤ (j : Int) + 1 := by omega
      have hjl : (j : Int) < (n : Int) := by omega
      have hxbr : xb < wr.heap.size := by omega
      clear cxa cxb hbw
      go_upto_region 5 with fail
      go_cut [7] (fun s7 wx => ∃ (B : Nat) (Rd : Option Addr) (rc1 : Nat), s7 = .pointer (some ⟨B, 0, none⟩) ∧ wx.heap[B]? = some (.cells #[.int .i64 x, .int .i64 x', .slice Rd rx.length rc1] 259 (0, 0)) ∧ wr.heap.size ≤ B ∧ wx.ownsRow wr.heap.size 256 2 (.slice Rd rx.length rc1) rx.length (sCells rx) ∧ Below wr.heap.size wr wx ∧ ∀ k, (Value.slice Rd rx.length rc1).ownBlock = some k → k ≠ B)
      case first =>
        go_region_held3 (fun w' => w'.cell? ⟨xb, xo + j, none⟩ = some (.int .i64 x) ∧ w'.cell? ⟨xb, xo + (j + 1), none⟩ = some (.int .i64 x'))
          (first | go_keep | ((repeat' apply And.intro) <;> go_keep) | ((repeat' apply And.intro) <;> (rw [World.cell?_setCell_other _ _ _ _ (by intro e; injection e; omega), World.cell?_setCell_other _ _ _ _ (by intro e; injection e; omega), World.cell?_setCell_other _ _ _ _ (by intro e; injection e; omega)]; go_keep)))
          (first
            | (go_at_fn f; refine (HRx.out _ gBel).mono ?_; rintro e w1 ⟨v1, rfl, hv1, hb1⟩; obtain ⟨Rd, rc1, rfl, _, _, _⟩ := own_slice hv1; have Hv1 := Lib.hid hv1; have Hb1 : Hid (Below wr.heap.size wr w1) := Lib.hid (show Below wr.heap.size wr w1 from (by have hbq := hb1; exact gBelo)); have hs1 : wr.heap.size ≤ w1.heap.size := Hb1.out.size; obtain ⟨cx01, cx11⟩ := Hcx.out w1 (Hbw.out.trans (Hb1.out.mono hsw)); first | (have hbx : w1.heap[wr.heap.size]? = some (.cells #[.int .i64 0, .int .i64 0, .slice none 0 0] 259 (0, 0)) := (hb1.block wr.heap.size (by simp)).trans (heap_alloc_new wr _); have Hbx := Lib.hid hbx; have z0 := cell_of_row w1 wr.heap.size 0 _ _ _ hbx; have z1 := cell_of_row w1 wr.heap.size 1 _ _ _ hbx; have z2 := cell_of_row w1 wr.heap.size 2 _ _ _ hbx; have g0 := frozen_of_row w1 wr.heap.size 0 _ _ hbx; have g1 := frozen_of_row w1 wr.heap.size 1 _ _ hbx; have g2 := frozen_of_row w1 wr.heap.size 2 _ _ hbx; clear hbx hv1 hb1) | (have hbx := heap_alloc_new w1 (.cells #[.int .i64 0, .int .i64 0, .slice none 0 0] 259); have Hbx := Lib.hid hbx; have z0 := cell_of_row _ w1.heap.size 0 _ _ _ hbx; have z1 := cell_of_row _ w1.heap.size 1 _ _ _ hbx; have z2 := cell_of_row _ w1.heap.size 2 _ _ _ hbx; have g0 := frozen_of_row _ w1.heap.size 0 _ _ hbx; have g1 := frozen_of_row _ w1.heap.size 1 _ _ hbx; have g2 := frozen_of_row _ w1.heap.size 2 _ _ hbx; clear hbx hv1 hb1))
            | fail)
        all_goals go_wp2
        all_goals go_meet
        case rel =>
          exact ⟨w1.heap.size, Rd, rc1, rfl, heap_alloc_new w1 _, hs1, (own_rebase Hv1.out (by first | exact Nat.le_refl _ | (simp; done))).alloc _, Hb1.out.alloc hs1 _, fun k hk e => own_fresh Hv1.out (by rw [hk, e])⟩
        case rel =>
          have hbase : ∀ k, (Value.slice Rd rx.length rc1).ownBlock = some k → wr.heap.size + 1 ≤ k := fun k hk => Nat.le_trans (Nat.le_of_eq (World.size_alloc wr _).symm) (own_base Hv1.out k hk)
          exact ⟨wr.heap.size, Rd, rc1, rfl, box3 Hbx.out, Nat.le_refl _, box3_own (own_rebase Hv1.out (Nat.le_trans (Nat.le_succ _) (Nat.le_of_eq (World.size_alloc wr _).symm))) (fun k hk e => Nat.lt_irrefl _ (e ▸ hbase k hk)), box3_below Hb1.out, fun k hk e => Nat.lt_irrefl _ (e ▸ hbase k hk)⟩
      case rest =>
        obtain ⟨wx, rfl⟩ : ∃ wx : World, wx = wc := ⟨_, rfl⟩
        obtain ⟨B, Rd, rc1, rfl, hbox, hBw, hrown, hbx, hne⟩ := hcut
        have hsx := hbx.size
        have Hbx := Lib.hid hbx
        have Hbox := Lib.hid hbox
        have Hrown := Lib.hid hrown
        have Hne := Lib.hid hne
        have hBlt : B < wx.heap.size := by
          rcases Nat.lt_or_ge B wx.heap.size with h | h
          · exact h
          · rw [Array.getElem?_eq_none h] at hbox; cases hbox
        have hown1 := Hown.out.below hbx
        obtain ⟨vs, hvl, hvo, hvs⟩ := hown1
        obtain ⟨Vd, vc, rfl, _, _, _⟩ := own_slice hvo
        have Hvlow : Hid (∀ k, (Value.slice Vd acc.length vc).ownBlock = some k → k < wr.heap.size) := Lib.hid (fun k hk => by obtain ⟨_, _, ho, _⟩ := Hown.out; exact (ho.lt k hk).2)
        have Hvo := Lib.hid hvo
        have Hvs := Lib.hid hvs
        have Hvl := Lib.hid hvl
        have b0 := cell_of_row wx B 0 _ _ _ hbox
        have b1 := cell_of_row wx B 1 _ _ _ hbox
        have b2 := cell_of_row wx B 2 _ _ _ hbox
        have hal : acc.length ≤ 100000 := by have := Hacc.out.1; omega
        have HRs : Hid (SlS wx (.slice Rd rx.length rc1) rx) := Lib.hid (SlS.of_own hrown)
        clear hbox hbx hrown hne hvl hvo hvs cx0 cx1
        go_upto_region 7 with fail
        rcases list_snoc acc with hsn | ⟨a0, q, hsn⟩
        · have Hnew : Hid (stepO acc x x' (some rx) = acc ++ [(x, x', rx)]) := Lib.hid (by rw [hsn]; rfl)
          have hl0 : acc.length = 0 := by rw [hsn]; rfl
          have Hlen := Lib.hid hl0
          rw [hl0] at Hvo
          rw [hl0]
          clear hsn hl0
          refine wp_region_below wx.heap.size (Nat.le_refl _) (by kernel_rfl) (by kernel_rfl) ?_
          intro I _ F hFc hFb hFs
          repeat (go_big_quiet_step (fail))
          refine wpQuiet_nil ?_
          rintro _ ⟨iq, rfl⟩
          generalize hw4 : F iq = w4
          have Hb4 : Hid (Below wx.heap.size wx w4) := Lib.hid (by rw [← hw4]; exact hFb iq)
          clear hw4 hFc hFb hFs
          have hs4 := Hb4.out.size
          have b04 := (Hb4.out.cell (p := ⟨B, 0, none⟩) hBlt).trans b0
          have b14 := (Hb4.out.cell (p := ⟨B, 1, none⟩) hBlt).trans b1
          have b24 := (Hb4.out.cell (p := ⟨B, 2, none⟩) hBlt).trans b2
          have Hvo4 : Hid (w4.ownsRow w.heap.size 259 3 (.slice Vd 0 vc) 0 (bCells acc vs)) := Lib.hid (ownsRow_below Hvo.out Hb4.out)
          have hsw4 : w.heap.size ≤ w4.heap.size := by omega
          clear b0 b1 b2
          go_upto_region 9 with fail
          go_wp2_with (first
            | (at_builtin
               refine wpList_append_any _ rfl (.tmp 65) (.tmp 67) _ rfl w.heap.size 259 i0 _ 3 40 Tryz.underlying257 hi hz0 hz1 hz2 rfl (by omega) _ 0 (bCells acc vs) rfl
                 (Hvo4.out.alloc _) _ _ 1 1 [.int .i64 x, .int .i64 x', .slice Rd rx.length rc1] rfl ⟨rfl, fun _ => ⟨_, rfl, Nat.lt_succ_self _, fun j u hu => (by exact news_any _ _ _ j u hu)⟩⟩ (by simp [Value.oneCell']) (by simp only [maxLen]; omega) (by omega) (by simp; omega) ?_
               intro v5 w5 hown5 hg5 hat5)
            | fail)
          go_roundw
          case rel =>
            have hlowv : ∀ k, (Value.slice Vd 0 vc).ownBlock = some k → k < wr.heap.size := fun k hk => Hvlow.out k (by rw [Hlen.out]; exact hk)
            refine ⟨j + 1, acc ++ [(x, x', rx)], by go_num, by omega, ?_, ?_, Lib.hid (by rw [← Hrun.out, Hdrop.out, Hnew.out]), Lib.hid ⟨by have := Hacc.out.1; simp; omega, fun s hs => ?_⟩⟩
            · refine OwnB.push (v := .slice Vd 0 vc) (s := .slice Rd rx.length rc1) (b := (x, x', rx)) Hvl.out (fun i h h' => ⟨(ownsRow_below (Hvs.out i h h').1 Hb4.out).alloc _, by have h9 := (Hvs.out i h h').2; rw [Hlen.out] at h9; exact h9⟩) ((ownsRow_below (own_rebase Hrown.out hsw) Hb4.out).alloc _) (fun k hk e => ?_) (by rw [Hlen.out]; exact hown5) hg5 hat5
              have h1 := hlowv k e
              have h2 := own_base Hrown.out k hk
              omega
            · exact Below.grown ((((Hbw.out.trans (Hbx.out.mono hsw)).trans (Hb4.out.mono (by omega)))).alloc hsw4 _) hg5 (by simp; omega) (own_base Hvo4.out)
            · rcases List.mem_append.1 hs with hs | hs
              · exact Hacc.out.2 s hs
              · simp at hs; subst hs; exact hlrow
          case measure => simp [intOf]; omega
        · have hl0 : acc.length = a0.length + 1 := by rw [hsn]; simp
          obtain ⟨nb, hnb⟩ : ∃ nb, acc.length = nb := ⟨_, rfl⟩
          obtain ⟨p, hp⟩ : ∃ p, a0.length = p := ⟨_, rfl⟩
          have hn1 : nb = p + 1 := by omega
          have hpl : p < acc.length := by omega
          have hpv : p < vs.length := by have := Hvl.out; omega
          have haq : acc[p] = q := by
            have h1 : acc[p]? = some q := by rw [hsn, List.getElem?_append_right (by omega), hp]; simp
            rw [List.getElem?_eq_getElem hpl] at h1
            exact Option.some.inj h1
          have Hnb := Lib.hid hnb
          have Hn1 := Lib.hid hn1
          have Hp := Lib.hid hp
          have Hsn := Lib.hid hsn
          obtain ⟨hspo, hspn⟩ := Hvs.out p hpl hpv
          rw [haq] at hspo
          obtain ⟨Pd, pc, hPe, _, _, _⟩ := own_slice hspo
          have HPs : Hid (SlS wx vs[p] q.2.2) := Lib.hid (SlS.of_own hspo)
          obtain ⟨i1, i2, i3⟩ := bCells_at acc vs Hvl.out p hpl hpv
          rw [haq] at i1 i2
          rw [hPe] at i3 HPs
          have Hvo1 : Hid (wx.ownsRow w.heap.size 259 3 (.slice Vd nb vc) nb (bCells acc vs)) := Lib.hid (by have := Hvo.out; rw [hnb] at this; exact this)
          obtain ⟨g, vc', hVe, hgb, hgl, _, _, hcells, hfr⟩ := own_at Hvo1.out (by omega)
          injection hVe with hVe _ e2
          subst hVe e2
          have d1 := hcells _ _ i2
          have d2 := hcells _ _ i3
          have hfg := hfr (p * 3 + 1)
          have hwn : IntKind.i64.wrap ((nb : Int) - 1) = (p : Int) := by rw [IntWalk.i64_in _ (by omega)]; omega
          have hnp : (p : Int) < (nb : Int) := by omega
          have hn00 : (0 : Int) < (nb : Int) := by omega
          have hp00 : (0 : Int) ≤ (p : Int) := by omega
          have hn0N : 0 < nb := by omega
          have hnpN : p < nb := by omega
          have hdn : decide (0 < nb) = true := decide_eq_true hn0N
          have hnb9 : nb ≤ 100000 := by omega
          rw [hnb]
          clear hsn hl0 hnb hp hn1 hcells hfr i1 i2 i3 haq
          have Heq := Lib.hid (fun W (hW : Below wx.heap.size wx W) => equalS_any (.slice Pd q.2.2.length pc) (.slice Rd rx.length rc1) q.2.2 rx W (HPs.out.below hW) (HRs.out.below hW))
          by_cases hqx : q.2.1 = x
          · by_cases hqr : q.2.2 = rx
            · have Hnew : Hid (stepO acc x x' (some rx) = a0 ++ [(q.1, x', q.2.2)]) := Lib.hid (by rw [Hsn.out]; simp [stepO, hqr, hqx])
              refine wp_region_below wx.heap.size (Nat.le_refl _) (by kernel_rfl) (by kernel_rfl) ?_
              intro I _ F hFc hFb hFs
              have hqd : (q.2.1 == x) = true := by simp [hqx]
              have hrd : decide (q.2.2 = rx) = true := decide_eq_true hqr
              obtain ⟨rs, hrs⟩ : ∃ rs : Bool, decide (q.2.2 = rx) = rs := ⟨_, rfl⟩
              rw [hrs] at Heq hrd
              subst hrd
              clear hrs
              have Hqx := Lib.hid hqx
              have Hqr := Lib.hid hqr
              clear hqx hqr
              have k1 := fun i => (hFc i g (p * 3 + 1) hgl).trans d1
              have k2 := fun i => (hFc i B 0 hBlt).trans b0
              have k3 := fun i => (hFc i g (p * 3 + 2) hgl).trans d2
              have k4 := fun i => (hFc i B 2 hBlt).trans b2
              repeat (go_big_quiet_step ((first
                | (go_at_call 219; exact class_call hFb hFs (Nat.le_refl _) (Heq.out _ (hFb _))))))
              refine wpQuiet_nil ?_
              rintro _ ⟨iq, rfl⟩
              generalize hw4 : F iq = w4
              have Hb4 : Hid (Below wx.heap.size wx w4) := Lib.hid (by rw [← hw4]; exact hFb iq)
              clear hw4 hFc hFb hFs k1 k2 k3 k4
              have hs4 := Hb4.out.size
              have b14 := (Hb4.out.cell (p := ⟨B, 1, none⟩) hBlt).trans b1
              have d14 := (Hb4.out.cell (p := ⟨g, p * 3 + 1, none⟩) hgl).trans d1
              have fr4 := (Hb4.out.frozen (p := ⟨g, p * 3 + 1, none⟩) hgl).trans hfg
              clear b0 b1 b2 d1 d2 hfg
              have Hb5 := Hb4
              have hsw5 : w.heap.size ≤ w4.heap.size := by omega
              go_wp2
              go_roundw
              case rel =>
                refine ⟨j + 1, a0 ++ [(q.1, x', q.2.2)], by go_num, by omega, ?_, ?_, Lib.hid (by rw [← Hrun.out, Hdrop.out, Hnew.out]), Lib.hid ⟨by have := Hacc.out.1; have := Hn1.out; have := Hp.out; have := Hnb.out; simp; omega, fun s hs => ?_⟩⟩
                · exact OwnB.high Hsn.out Hp.out Hnb.out Hvl.out (ownsRow_below Hvo1.out Hb5.out) (fun i h h' => ⟨ownsRow_below (Hvs.out i h h').1 Hb5.out, by have h9 := (Hvs.out i h h').2; rw [Hnb.out] at h9; exact h9⟩) x'
                · exact ((Hbw.out.trans (Hbx.out.mono hsw)).trans (Hb5.out.mono (by omega))).setCell hgb _
                · rcases List.mem_append.1 hs with hs | hs
                  · exact Hacc.out.2 s (by rw [Hsn.out]; simp [hs])
                  · simp at hs; subst hs; exact Hacc.out.2 q (by rw [Hsn.out]; simp)
              case measure => simp [intOf]; omega
            · have Hnew : Hid (stepO acc x x' (some rx) = acc ++ [(x, x', rx)]) := Lib.hid (by rw [Hsn.out]; simp [stepO, hqr])
              refine wp_region_below wx.heap.size (Nat.le_refl _) (by kernel_rfl) (by kernel_rfl) ?_
              intro I _ F hFc hFb hFs
              have hqd : (q.2.1 == x) = true := by simp [hqx]
              have hrd : decide (q.2.2 = rx) = false := decide_eq_false hqr
              obtain ⟨rs, hrs⟩ : ∃ rs : Bool, decide (q.2.2 = rx) = rs := ⟨_, rfl⟩
              rw [hrs] at Heq hrd
              subst hrd
              clear hrs
              have k1 := fun i => (hFc i g (p * 3 + 1) hgl).trans d1
              have k2 := fun i => (hFc i B 0 hBlt).trans b0
              have k3 := fun i => (hFc i g (p * 3 + 2) hgl).trans d2
              have k4 := fun i => (hFc i B 2 hBlt).trans b2
              repeat (go_big_quiet_step ((first
                | (go_at_call 219; exact class_call hFb hFs (Nat.le_refl _) (Heq.out _ (hFb _))))))
              refine wpQuiet_nil ?_
              rintro _ ⟨iq, rfl⟩
              generalize hw4 : F iq = w4
              have Hb4 : Hid (Below wx.heap.size wx w4) := Lib.hid (by rw [← hw4]; exact hFb iq)
              clear hw4 hFc hFb hFs k1 k2 k3 k4
              have hs4 := Hb4.out.size
              have b04 := (Hb4.out.cell (p := ⟨B, 0, none⟩) hBlt).trans b0
              have b14 := (Hb4.out.cell (p := ⟨B, 1, none⟩) hBlt).trans b1
              have b24 := (Hb4.out.cell (p := ⟨B, 2, none⟩) hBlt).trans b2
              have Hvo4 : Hid (w4.ownsRow w.heap.size 259 3 (.slice (some ⟨g, 0, none⟩) nb vc) nb (bCells acc vs)) := Lib.hid (ownsRow_below Hvo1.out Hb4.out)
              have hsw4 : w.heap.size ≤ w4.heap.size := by omega
              clear b0 b1 b2
              go_upto_region 9 with fail
              go_wp2_with (first
                | (at_builtin
                   refine wpList_append_any _ rfl (.tmp 65) (.tmp 67) _ rfl w.heap.size 259 i0 _ 3 40 Tryz.underlying257 hi hz0 hz1 hz2 rfl (by omega) _ nb (bCells acc vs) rfl
                     (Hvo4.out.alloc _) _ _ 1 1 [.int .i64 x, .int .i64 x', .slice Rd rx.length rc1] rfl ⟨rfl, fun _ => ⟨_, rfl, Nat.lt_succ_self _, fun j u hu => (by exact news_any _ _ _ j u hu)⟩⟩ (by simp [Value.oneCell']) (by simp only [maxLen]; omega) (by omega) (by simp; omega) ?_
                   intro v5 w5 hown5 hg5 hat5)
                | fail)
              go_roundw
              case rel =>
                have hlowv : ∀ k, (Value.slice (some ⟨g, 0, none⟩) nb vc).ownBlock = some k → k < wr.heap.size := fun k hk => Hvlow.out k (by rw [Hnb.out]; exact hk)
                refine ⟨j + 1, acc ++ [(x, x', rx)], by go_num, by omega, ?_, ?_, Lib.hid (by rw [← Hrun.out, Hdrop.out, Hnew.out]), Lib.hid ⟨by have := Hacc.out.1; simp; omega, fun s hs => ?_⟩⟩
                · refine OwnB.push (v := .slice (some ⟨g, 0, none⟩) nb vc) (s := .slice Rd rx.length rc1) (b := (x, x', rx)) Hvl.out (fun i h h' => ⟨(ownsRow_below (Hvs.out i h h').1 Hb4.out).alloc _, by have h9 := (Hvs.out i h h').2; rw [Hnb.out] at h9; exact h9⟩) ((ownsRow_below (own_rebase Hrown.out hsw) Hb4.out).alloc _) (fun k hk e => ?_) (by rw [Hnb.out]; exact hown5) hg5 hat5
                  have h1 := hlowv k e
                  have h2 := own_base Hrown.out k hk
                  omega
                · exact Below.grown ((((Hbw.out.trans (Hbx.out.mono hsw)).trans (Hb4.out.mono (by omega)))).alloc hsw4 _) hg5 (by simp; omega) (own_base Hvo4.out)
                · rcases List.mem_append.1 hs with hs | hs
                  · exact Hacc.out.2 s hs
                  · simp at hs; subst hs; exact hlrow
              case measure => simp [intOf]; omega
          · have Hnew : Hid (stepO acc x x' (some rx) = acc ++ [(x, x', rx)]) := Lib.hid (by rw [Hsn.out]; simp [stepO, hqx])
            refine wp_region_below wx.heap.size (Nat.le_refl _) (by kernel_rfl) (by kernel_rfl) ?_
            intro I _ F hFc hFb hFs
            have hqd : (q.2.1 == x) = false := by simp [hqx]
            have k1 := fun i => (hFc i g (p * 3 + 1) hgl).trans d1
            have k2 := fun i => (hFc i B 0 hBlt).trans b0
            repeat (go_big_quiet_step (fail))
            refine wpQuiet_nil ?_
            rintro _ ⟨iq, rfl⟩
            generalize hw4 : F iq = w4
            have Hb4 : Hid (Below wx.heap.size wx w4) := Lib.hid (by rw [← hw4]; exact hFb iq)
            clear hw4 hFc hFb hFs k1 k2
            have hs4 := Hb4.out.size
            have b04 := (Hb4.out.cell (p := ⟨B, 0, none⟩) hBlt).trans b0
            have b14 := (Hb4.out.cell (p := ⟨B, 1, none⟩) hBlt).trans b1
            have b24 := (Hb4.out.cell (p := ⟨B, 2, none⟩) hBlt).trans b2
            have Hvo4 : Hid (w4.ownsRow w.heap.size 259 3 (.slice (some ⟨g, 0, none⟩) nb vc) nb (bCells acc vs)) := Lib.hid (ownsRow_below Hvo1.out Hb4.out)
            have hsw4 : w.heap.size ≤ w4.heap.size := by omega
            clear b0 b1 b2
            go_upto_region 9 with fail
            go_wp2_with (first
              | (at_builtin
                 refine wpList_append_any _ rfl (.tmp 65) (.tmp 67) _ rfl w.heap.size 259 i0 _ 3 40 Tryz.underlying257 hi hz0 hz1 hz2 rfl (by omega) _ nb (bCells acc vs) rfl
                   (Hvo4.out.alloc _) _ _ 1 1 [.int .i64 x, .int .i64 x', .slice Rd rx.length rc1] rfl ⟨rfl, fun _ => ⟨_, rfl, Nat.lt_succ_self _, fun j u hu => (by exact news_any _ _ _ j u hu)⟩⟩ (by simp [Value.oneCell']) (by simp only [maxLen]; omega) (by omega) (by simp; omega) ?_
                 intro v5 w5 hown5 hg5 hat5)
              | fail)
            go_roundw
            case rel =>
              have hlowv : ∀ k, (Value.slice (some ⟨g, 0, none⟩) nb vc).ownBlock = some k → k < wr.heap.size := fun k hk => Hvlow.out k (by rw [Hnb.out]; exact hk)
              refine ⟨j + 1, acc ++ [(x, x', rx)], by go_num, by omega, ?_, ?_, Lib.hid (by rw [← Hrun.out, Hdrop.out, Hnew.out]), Lib.hid ⟨by have := Hacc.out.1; simp; omega, fun s hs => ?_⟩⟩
              · refine OwnB.push (v := .slice (some ⟨g, 0, none⟩) nb vc) (s := .slice Rd rx.length rc1) (b := (x, x', rx)) Hvl.out (fun i h h' => ⟨(ownsRow_below (Hvs.out i h h').1 Hb4.out).alloc _, by have h9 := (Hvs.out i h h').2; rw [Hnb.out] at h9; exact h9⟩) ((ownsRow_below (own_rebase Hrown.out hsw) Hb4.out).alloc _) (fun k hk e => ?_) (by rw [Hnb.out]; exact hown5) hg5 hat5
                have h1 := hlowv k e
                have h2 := own_base Hrown.out k hk
                omega
              · exact Below.grown ((((Hbw.out.trans (Hbx.out.mono hsw)).trans (Hb4.out.mono (by omega)))).alloc hsw4 _) hg5 (by simp; omega) (own_base Hvo4.out)
              · rcases List.mem_append.1 hs with hs | hs
                · exact Hacc.out.2 s hs
                · simp at hs; subst hs; exact hlrow
            case measure => simp [intOf]; omega
    · obtain ⟨vs, hvl, hvo, hvs⟩ := Hown.out
      obtain ⟨Vd, vc, rfl, hVl, hVc, hVm⟩ := own_slice hvo
      have HS : Hid (SlB wr Vd acc.length vc acc vs) := Lib.hid ⟨rfl, hvl, hVc, hVm, hVl, fun i h1 h2 => SlS.of_own (hvs i h1 h2).1⟩
      have hfl : (flat acc).length ≤ 10000000 := by
        have h1 := flat_len m acc Hacc.out.2
        have h2 : acc.length * m ≤ n * m := Nat.mul_le_mul_right _ (by have := Hacc.out.1; omega)
        omega
      have Hfin : Hid (buildP row cuts = flat acc) := Lib.hid (by unfold buildP; rw [← Hrun.out, foldC_end _ _ _ (by omega)])
      have hj' : ¬ (j : Int) + 1 < (n : Int) := by omega
      clear hvl hvo hvs hVl hVc hVm hbw
      go_wp2_with fail
      refine (rects_any Vd acc.length vc acc vs _ HS.out hfl).mono ?_
      rintro e w1 ⟨v1, rfl, hown1, hb1⟩
      have Hown1 := Lib.hid hown1
      have Hb1 := Lib.hid hb1
      clear hown1 hb1
      go_wp2
      go_ret
      exact ⟨v1, rfl, by rw [Hfin.out]; exact own_rebase Hown1.out hsw, Hbw.out.trans (Hb1.out.mono hsw)⟩
theorem properP_any (q : R4) (w : World) :
    Calls Tryz.prog 133 #[.agg #[.int .i64 q.l, .int .i64 q.b, .int .i64 q.r, .int .i64 q.t]] w fun e w' => e = .returned (.bool q.ok) ∧ Below w.heap.size w w' := by
  go_enter Tryz.func133, Tryz.ntmps133
  go_wp2
  all_goals
    go_ret
    exact ⟨ret_bool (by simp [R4.ok]; omega), gBel⟩
theorem ofPred (w : World) : PredBelow Tryz.prog 143 #[] (fun q : R4 => .agg (R4.cells q).toArray) (fun q => !q.ok) w := by
  intro W q hb
  refine Calls.mono (show Calls Tryz.prog 143 #[.agg #[.int .i64 q.l, .int .i64 q.b, .int .i64 q.r, .int .i64 q.t]] W fun e w' => e = .returned (.bool (!q.ok)) ∧ Below W.heap.size W w' from ?_) ?_
  · have Hp := Lib.hid (fun W => properP_any q W)
    generalize q.ok = x at *
    go_enter Tryz.func143, Tryz.ntmps143
    go_wp2_with (first | (go_at_call 133; refine (Hp.out _).mono ?_; rintro e w1 ⟨rfl, hb1⟩) | fail)
    go_ret
    exact ⟨rfl, gBelo⟩
  · rintro e w' ⟨rfl, h⟩
    exact ⟨rfl, hb.trans (h.mono hb.size)⟩
theorem limited_big (A : Option Addr) (n c : Nat) (w : World) (h : 120 < n) :
    Calls Tryz.prog 56 #[.slice A n c] w fun e w' => e = .returned (.tuple #[.agg #[.slice none 0 0], .int .i64 1]) ∧ Below w.heap.size w w' := by
  have h' : (120 : Int) < (n : Int) := by omega
  go_enter Tryz.func56, Tryz.ntmps56
  go_wp2
  refine bodyPost_ret (v := .tuple #[.agg #[.slice none 0 0], .int .i64 1]) (by simp [results, Tryz.results56, go_sem, *]) rfl ?_
  exact ⟨rfl, gBel⟩
theorem limited_ok (A : Option Addr) (n c : Nat) (w : World) (h : n ≤ 120) :
    Calls Tryz.prog 56 #[.slice A n c] w fun e w' => e = .returned (.tuple #[.agg #[.slice A n c], .int .i64 0]) ∧ Below w.heap.size w w' := by
  have h' : ¬ (120 : Int) < (n : Int) := by omega
  go_enter Tryz.func56, Tryz.ntmps56
  go_wp2
  refine bodyPost_ret (v := .tuple #[.agg #[.slice A n c], .int .i64 0]) (by simp [results, Tryz.results56, go_sem, *]) rfl ?_
  exact ⟨rfl, gBel⟩
theorem sameP_any (A B : Option Addr) (n c m d : Nat) (l k : List R4) (w : World) (hA : SlR w A n c l) (hB : SlR w B m d k) :
    Calls Tryz.prog 36 #[.agg #[.slice A n c], .agg #[.slice B m d]] w fun e w' => e = .returned (.bool (decide (l = k))) ∧ Below w.heap.size w w' := by
  have HA := Lib.hid hA
  have HB := Lib.hid hB
  clear hA hB
  generalize hx : decide (l = k) = x
  have Hx := Lib.hid hx
  clear hx
  go_enter Tryz.func36, Tryz.ntmps36
  go_wp2_with (first | (go_at_call 110; refine (equalR_any A B n c m d l k _ (HA.out.below gBel) (HB.out.below gBel)).mono ?_; rintro e w1 ⟨rfl, hb1⟩; rw [Hx.out]) | fail)
  go_ret
  exact ⟨rfl, gBelo⟩
theorem sort_own {base : Nat} {v : Value} {l : List Int} (w : World) (h : w.ownsRow base 3 1 v l.length (l.map (.int .i64))) (hl : l.length < 4611686018427387904) :
    Calls Tryz.prog 85 #[v] w fun e w' => e = .returned (.tuple #[]) ∧ w'.ownsRow base 3 1 v l.length ((srt l).map (.int .i64)) ∧ w.grownBy w' v.ownBlock := by
  obtain ⟨h1, h2⟩ := h
  rcases h2 with ⟨rfl, h0⟩ | ⟨g, cap, cur, rfl, hb, hg, hc, hm, hs, ht⟩
  · have hnil : l = [] := List.length_eq_zero_iff.1 h0
    subst hnil
    refine (AnyM.slices_Sort_int_none Tryz.laySort none 0 w).mono ?_
    rintro e w' ⟨rfl, rfl⟩
    exact ⟨rfl, by rw [show srt [] = [] from List.length_eq_zero_iff.1 (srt_len [])]; exact World.ownsRow_nil _ _ _ _, World.grownBy.refl _ _⟩
  · have hlt : g < w.heap.size := by
      rcases Nat.lt_or_ge g w.heap.size with h | h
      · exact h
      · rw [Array.getElem?_eq_none h] at hg; cases hg
    have ht' : cur.toList.take l.length = l.map (Value.int .i64) := by rw [← ht, Nat.mul_one]
    refine (AnyM.slices_Sort_int Tryz.laySort g 0 cap l w (holds_of_blockI hg ht') hlt hl).mono ?_
    rintro e w' ⟨rfl, n, os, rfl⟩
    exact ⟨rfl, ownsRow_sortedI (srt_len l) hb hg hc hm hs, grownBy_sortedI _⟩
theorem compact_own {base : Nat} {v : Value} {l : List Int} (w : World) (h : w.ownsRow base 3 1 v l.length (l.map (.int .i64))) :
    Calls Tryz.prog 86 #[v] w fun e w' => ∃ v', e = .returned v' ∧ w'.ownsRow base 3 1 v' (Lib.compact l).length ((Lib.compact l).map (.int .i64)) ∧ w.grownBy w' v.ownBlock ∧ v'.ownBlock = v.ownBlock := by
  have h' := h
  obtain ⟨h1, h2⟩ := h
  rcases h2 with ⟨rfl, h0⟩ | ⟨g, cap, cur, rfl, hb, hg, hc, hm, hs, ht⟩
  · have hnil : l = [] := List.length_eq_zero_iff.1 h0
    subst hnil
    refine (AnyG.slices_Compact_int_empty Tryz.layCompact none 0 w).mono ?_
    rintro e w' ⟨rfl, rfl⟩
    exact ⟨_, rfl, World.ownsRow_nil _ _ _ _, World.grownBy.refl _ _, rfl⟩
  · have ht' : cur.toList.take l.length = l.map (Value.int .i64) := by rw [← ht, Nat.mul_one]
    have hcl : (Lib.compact l).length ≤ l.length := by
      unfold Lib.compact Lib.compactUpTo
      rw [List.length_map]
      have := List.length_filter_le (Lib.keeps l.toArray) (List.range l.length)
      simpa using this
    refine (AnyG.slices_Compact_int Tryz.layCompact g 0 cap l w (holds_of_blockI hg ht') (by unfold maxLen at hm; omega) hc).mono ?_
    rintro e w' ⟨rfl, q, rfl⟩
    have h3 := Lib.ownsRow_putRow (q := q) (ys := Lib.compact l ++ List.replicate (l.length - (Lib.compact l).length) 0) h' (by simp; omega) hcl
    rw [List.take_left] at h3
    refine ⟨_, rfl, h3, ⟨rfl, rfl, rfl, by simp [Sort.putRow, Sort.mapBlock, Sort.ahead], fun k hk hne => ?_⟩, rfl⟩
    have : g ≠ k := fun e => hne (by rw [← e]; rfl)
    simp [Sort.putRow, Sort.mapBlock, Sort.ahead, Array.getElem?_modify, this]
theorem yEdges_snoc (l : List R4) (q : R4) : yEdges (l ++ [q]) = yEdges l ++ [q.b, q.t] := by simp [yEdges]
theorem cuts_any (X : Option Addr) (p pc : Nat) (ls : List (List R4)) (w : World) (hp : ls.length = p) (hpl : p ≤ 1000)
    (hX : ∀ i, (h : i < ls.length) → ∃ b off A n c, X = some ⟨b, off, none⟩ ∧ b < w.heap.size ∧ w.cell? ⟨b, off + i, none⟩ = some (.slice A n c) ∧ SlR w A n c ls[i])
    (hs : ls.flatten.length ≤ 100000) :
    Calls Tryz.prog 137 #[.slice X p pc] w fun e w' => ∃ v, e = .returned v ∧ w'.ownsRow w.heap.size 3 1 v (cutsP ls.flatten).length ((cutsP ls.flatten).map (.int .i64)) ∧ Below w.heap.size w w' := by
  obtain ⟨i0, hi, hz0, hz1, hz2⟩ := info_parts Tryz.infoInt
  have HX := Lib.hid hX
  have Hs := Lib.hid hs
  clear hX hs
  go_enter Tryz.func137, Tryz.ntmps137
  go_upto_region 3 with fail
  go_loopw [3, 5, 10] (fun o _ i wr => ∃ j : Nat, j ≤ p ∧ i = .int .i64 (j : Int) ∧ wr.ownsRow w.heap.size 3 1 o (yEdges (ls.take j).flatten).length ((yEdges (ls.take j).flatten).map (.int .i64)) ∧ Below w.heap.size w wr) (fun _ _ i _ => p - (intOf i).toNat)
  case atStart => exact ⟨0, Nat.zero_le _, rfl, World.ownsRow_nil _ _ _ _, Below.refl _ _⟩
  case round =>
    obtain ⟨wo, rfl⟩ : ∃ wo : World, wo = wr := ⟨_, rfl⟩
    obtain ⟨j, hj, rfl, hown, hbo⟩ := hrel
    have hso := hbo.size
    have Hown := Lib.hid hown
    have Hbo := Lib.hid hbo
    clear hown
    by_cases hjp : j < p
    · have hjl : j < ls.length := by omega
      obtain ⟨b, off, A, n, c, rfl, hb, hc0, hA⟩ := HX.out j hjl
      have c0 := (hbo.cell (p := ⟨b, off + j, none⟩) hb).trans hc0
      have HA := Lib.hid hA
      have hn := hA.len
      have Hnext : Hid ((ls.take (j + 1)).flatten = (ls.take j).flatten ++ ls[j]) := Lib.hid (by rw [List.take_succ_eq_append_getElem hjl, List.flatten_append]; simp only [List.flatten_cons, List.flatten_nil, List.append_nil])
      have hle : (ls.take j).flatten.length + (ls[j]).length ≤ 100000 := by
        have h1 := Hs.out
        have h2 := congrArg List.length (congrArg List.flatten (List.take_append_drop (j + 1) ls))
        rw [List.flatten_append, List.length_append, Hnext.out, List.length_append] at h2
        omega
      generalize (ls.take j).flatten = dn at *
      generalize ls[j] = l at *
      have hjp' : (j : Int) < (p : Int) := by omega
      have hbs : b < wo.heap.size := by omega
      clear hbo hA hc0
      go_upto_region 6 with fail
      go_loopw [3, 7, 16] (fun o _ i wr => ∃ k : Nat, k ≤ n ∧ i = .int .i64 (k : Int) ∧ wr.ownsRow w.heap.size 3 1 o (yEdges (dn ++ l.take k)).length ((yEdges (dn ++ l.take k)).map (.int .i64)) ∧ wo.heap.size ≤ wr.heap.size ∧ Below w.heap.size w wr) (fun _ _ i _ => n - (intOf i).toNat)
      case atStart => exact ⟨0, Nat.zero_le _, rfl, by simpa using Hown.out, Nat.le_refl _, Hbo.out⟩
      case round =>
        obtain ⟨k, hk, rfl, hown2, hwr, hbw⟩ := hrel
        have Hown2 := Lib.hid hown2
        have hsw := hbw.size
        clear hown2
        by_cases hkn : k < n
        · have hl : k < l.length := by omega
          obtain ⟨b2, o2, rfl, hb2, c1, c2, c3, c4⟩ := (HA.out.below hbw).at k hl
          have hlen : (yEdges (dn ++ l.take k)).length ≤ 400000 := by rw [yEdges_len, List.length_append, List.length_take]; omega
          have Hn2 : Hid (dn ++ l.take (k + 1) = (dn ++ l.take k) ++ [l[k]]) := Lib.hid (by rw [List.take_succ_eq_append_getElem hl, List.append_assoc])
          have hkn' : (k : Int) < (n : Int) := by omega
          generalize l[k] = q at *
          generalize dn ++ l.take k = d2 at *
          have Hbw := Lib.hid hbw
          clear hbw
          go_wp2_with (first
            | (at_builtin
               refine wpList_append_any _ rfl (.tmp 20) (.tmp 25) _ rfl w.heap.size 3 i0 _ 1 8 Tryz.underlying22 hi hz0 hz1 hz2 rfl (by omega) _ (yEdges d2).length ((yEdges d2).map (.int .i64)) rfl
                 ((Hown2.out.alloc _).alloc _) _ _ 2 2 [.int .i64 q.b, .int .i64 q.t] rfl ⟨rfl, fun _ => ⟨_, rfl, Nat.lt_succ_self _, fun j u hu => (by exact World.news_of_block (heap_alloc2_new wr _ (.cells #[.int .i64 q.b, .int .i64 q.t] 3)) j u hu)⟩⟩ (by simp [Value.oneCell']) (by simp only [maxLen]; omega) (by omega) (by simp; omega) ?_
               intro v5 w5 hown5 hg5 hat5)
            | fail)
          go_roundw
          case rel =>
            have hsz5 := hg5.size
            simp at hsz5
            refine ⟨k + 1, by omega, by go_num, ?_, by omega, ?_⟩
            · rw [Hn2.out, yEdges_snoc, List.length_append, List.map_append]
              exact hown5
            · exact Below.grown (((Hbw.out.alloc hsw _).alloc (by simp; omega) _)) hg5 (by simp; omega) (own_base Hown2.out)
          case measure => simp [intOf]; omega
        · have e1 : l.take k = l := List.take_of_length_le (by omega)
          have Hown3 : Hid (wr.ownsRow w.heap.size 3 1 u3 (yEdges (dn ++ l)).length ((yEdges (dn ++ l)).map (.int .i64))) := Lib.hid (by have := Hown2.out; rw [e1] at this; exact this)
          have hkn' : ¬ (k : Int) < (n : Int) := by omega
          have Hbw := Lib.hid hbw
          clear e1 hbw
          go_wp2
          go_roundw
          case rel => exact ⟨j + 1, by omega, by go_num, by rw [Hnext.out]; exact Hown3.out, Hbw.out⟩
          case measure => simp [intOf]; omega
    · have hjp' : ¬ (j : Int) < (p : Int) := by omega
      have Hown3 : Hid (wo.ownsRow w.heap.size 3 1 u3 (yEdges ls.flatten).length ((yEdges ls.flatten).map (.int .i64))) := Lib.hid (by have := Hown.out; rw [List.take_of_length_le (by omega)] at this; exact this)
      have hel : (yEdges ls.flatten).length ≤ 200000 := by have := Hs.out; rw [yEdges_len]; omega
      have Hsr := Lib.hid (srt_len (yEdges ls.flatten))
      have Hcut : Hid (cutsP ls.flatten = Lib.compact (srt (yEdges ls.flatten))) := Lib.hid rfl
      have hub := Lib.hid (own_base Hown3.out)
      clear hbo Hown
      generalize yEdges ls.flatten = es at *
      go_wp2_with fail
      refine (sort_own _ Hown3.out (by omega)).mono ?_
      rintro e w1 ⟨rfl, hown1, hg1⟩
      have Hown1 : Hid (w1.ownsRow w.heap.size 3 1 u3 (srt es).length ((srt es).map (.int .i64))) := Lib.hid (by rw [Hsr.out]; exact hown1)
      have Hb1 : Hid (Below w.heap.size w w1) := Lib.hid (Hbo.out.grown hg1 hso hub.out)
      clear hown1 hg1
      go_wp2_with fail
      refine (compact_own _ Hown1.out).mono ?_
      rintro e w2 ⟨v2, rfl, hown2, hg2, hv2⟩
      have Hown2 := Lib.hid hown2
      have Hb2 : Hid (Below w.heap.size w w2) := Lib.hid (Hb1.out.grown hg2 Hb1.out.size hub.out)
      clear hown2 hg2 hv2
      go_wp2
      go_ret
      exact ⟨v2, rfl, by rw [Hcut.out]; exact Hown2.out, Hb2.out⟩
end Go.Proofs.YtfmkmhhghmdakaaGreatDoor
