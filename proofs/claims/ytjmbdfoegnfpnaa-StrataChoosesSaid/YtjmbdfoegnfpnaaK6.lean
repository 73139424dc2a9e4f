/- Contract: right units drawn by a tape (second.Units). -/
import Derived.Test.YtjmbdfoegnfpnaaK5
namespace Go.Proofs.Ytjmbdfoegnfpnaa
open Go.RowKit
set_option linter.unusedVariables false
set_option linter.unusedSimpArgs false

theorem Try.infoUnit : (Try.prog.info? 27).map (fun i => (i.zero, i.size, i.bytes)) = some (some (.agg #[.int .i64 0, .slice none 0 0]), 2, 32) := by kernel_rfl
/-- A row of units, their factors in rows of their own. -/
structure UsOwn (w : World) (base : Nat) (v : Value) (l : List (Un × UV)) : Prop where
  o : w.ownsRow base 27 2 v l.length (uCells l)
  fs : ∀ x ∈ l, w.ownsRow base 3 1 (.slice x.2.a x.1.fs.length x.2.c) x.1.fs.length (x.1.fs.map (.int .i64))
  ap : ∀ x ∈ l, ∀ g, v.ownBlock = some g → (Value.slice x.2.a x.1.fs.length x.2.c).ownBlock ≠ some g
section
variable {w w' : World} {base : Nat} {v : Value} {l : List (Un × UV)}
theorem UsOwn.nil (w : World) (base : Nat) : UsOwn w base (.slice none 0 0) [] := ⟨World.ownsRow_nil _ _ _ _, fun _ h => by simp at h, fun _ h => by simp at h⟩
theorem UsOwn.keep (h : UsOwn w base v l) (hk : ∀ b, b < w.heap.size → base ≤ b → w'.heap[b]? = w.heap[b]?) : UsOwn w' base v l := ⟨own_keep h.o hk, fun x hx => own_keep (h.fs x hx) hk, h.ap⟩
theorem UsOwn.below (h : UsOwn w base v l) (hb : Below w.heap.size w w') : UsOwn w' base v l := h.keep fun b hlt _ => hb.block b hlt
theorem UsOwn.only {g : Nat} (h : UsOwn w base v l) (hg : w.grownBy w' (some g)) (hlt : g < base) : UsOwn w' base v l := h.keep fun b hb hB => hg.block b hb (fun e => by injection e; omega)
theorem UsOwn.rebase {base' : Nat} (h : UsOwn w base v l) (hb : base' ≤ base) : UsOwn w base' v l := ⟨own_rebase h.o hb, fun x hx => own_rebase (h.fs x hx) hb, h.ap⟩
theorem UsOwn.slu {A : Option Addr} {c : Nat} (h : UsOwn w base (.slice A l.length c) l) : SlU w A l.length c l := by
  obtain ⟨A', c', e, h1, h2, h3⟩ := own_slice h.o
  injection e with e1 e2 e3
  subst e1 e3
  exact ⟨rfl, h2, h3, h1, fun x hx => Sl.of_own (h.fs x hx) (by simp)⟩
theorem UsOwn.push {wa w5 : World} (h : UsOwn w base v l) (x : Un × UV) (hx : w.ownsRow base 3 1 (.slice x.2.a x.1.fs.length x.2.c) x.1.fs.length (x.1.fs.map (.int .i64))) (hxa : ∀ g, v.ownBlock = some g → (Value.slice x.2.a x.1.fs.length x.2.c).ownBlock ≠ some g) {v5 : Value}
    (ha : Below w.heap.size w wa) (hg : wa.grownBy w5 v.ownBlock) (hown : w5.ownsRow base 27 2 v5 (l.length + 1) (uCells l ++ [.int .i64 x.1.fm, .slice x.2.a x.1.fs.length x.2.c])) (hat : v5.ownBlock = v.ownBlock ∨ v5.ownBlock = some wa.heap.size) : UsOwn w5 base v5 (l ++ [x]) := by
  have hall : ∀ y ∈ l ++ [x], w.ownsRow base 3 1 (.slice y.2.a y.1.fs.length y.2.c) y.1.fs.length (y.1.fs.map (.int .i64)) ∧ ∀ g, v.ownBlock = some g → (Value.slice y.2.a y.1.fs.length y.2.c).ownBlock ≠ some g := by
    intro y hy
    rcases List.mem_append.1 hy with h1 | h1
    · exact ⟨h.fs y h1, h.ap y h1⟩
    · rw [List.mem_singleton] at h1
      subst h1
      exact ⟨hx, hxa⟩
  refine ⟨by rw [List.length_append, uCells_snoc]; exact hown, fun y hy => own_grown (ownsRow_below (hall y hy).1 ha) hg (fun g hg2 e => (hall y hy).2 g e hg2), fun y hy g hg2 e => ?_⟩
  rcases hat with h0 | h0
  · exact (hall y hy).2 g (by rw [← h0]; exact hg2) e
  · rw [h0] at hg2
    injection hg2 with hg2
    have := own_lt (hall y hy).1 g e
    have := ha.size
    omega
end
theorem unitsP_of {q : Pl} {l : List Un} (hc : checkP q = 0) (hl : l.length ≤ 60) (h1 : ∀ u ∈ l, (1 ≤ u.fm ∧ u.fm ≤ 60) ∧ factB q u = true) (h2 : (farms l).Pairwise (· < ·)) : unitsP q l = 0 := by
  unfold unitsP
  rw [if_neg (by rw [hc]; simp), if_neg (by omega)]
  refine firstE_zero (fun i hi => ?_)
  have e : l.getD i ⟨0, []⟩ = l[i] := by simp [List.getD_eq_getElem?_getD, hi]
  obtain ⟨h3, h4⟩ := h1 l[i] (List.getElem_mem _)
  unfold unitE
  rw [e, if_neg (by simp [outP]; omega), if_neg, if_pos h4]
  rintro ⟨h5, h6⟩
  have e2 : l.getD (i - 1) ⟨0, []⟩ = l[i - 1] := by simp [List.getD_eq_getElem?_getD, show i - 1 < l.length by omega]
  rw [e2] at h6
  rw [List.pairwise_iff_getElem] at h2
  have := h2 (i - 1) i (by rw [farms_len]; omega) (by rw [farms_len]; exact hi) (by omega)
  simp only [farms, List.getElem_map] at this
  omega
/-- What Units leaves. -/
def UnitsPost (w : World) (g : Nat) (q : Pl) (most : Nat) (e : Ending) (w' : World) : Prop :=
  ∃ (l : List (Un × UV)) (A : Option Addr) (c : Nat) (r : List Int), e = .returned (.slice A l.length c) ∧ UsOwn w' w.heap.size (.slice A l.length c) l ∧ TapeAt w' g r ∧ w.grownBy w' (some g) ∧ (checkP q = 0 → unitsP q (uns l) = 0) ∧ l.length ≤ most
/-- What the units drawn so far keep. -/
def uGood (m : Nat) (fm : Int) (l : List (Un × UV)) : Prop :=
  (0 ≤ fm ∧ fm ≤ 3 * (l.length : Int)) ∧ (∀ u ∈ uns l, (1 ≤ u.fm ∧ u.fm ≤ fm) ∧ u.fs.length = m ∧ ∀ x ∈ u.fs, 0 ≤ x ∧ x ≤ 100) ∧ (farms (uns l)).Pairwise (· < ·)
theorem uGood.nil (m : Nat) : uGood m 0 [] := ⟨by simp, by simp [uns], by simp [uns, farms]⟩
theorem uGood.push {m : Nat} {fm d : Int} {l : List (Un × UV)} (h : uGood m fm l) (hd : 1 ≤ d ∧ d ≤ 3) (fs : List Int) (v : UV) (h1 : fs.length = m) (h2 : ∀ x ∈ fs, 0 ≤ x ∧ x ≤ 100) : uGood m (fm + d) (l ++ [(⟨fm + d, fs⟩, v)]) := by
  obtain ⟨⟨h3, h4⟩, h5, h6⟩ := h
  refine ⟨⟨by omega, by simp; omega⟩, ?_, ?_⟩
  · intro u hu
    simp only [uns, List.map_append, List.map_cons, List.map_nil, List.mem_append, List.mem_singleton] at hu
    rcases hu with hu | rfl
    · have := h5 u hu
      exact ⟨by omega, this.2⟩
    · exact ⟨by show 1 ≤ fm + d ∧ fm + d ≤ fm + d; omega, h1, h2⟩
  · have e : farms (uns (l ++ [(⟨fm + d, fs⟩, v)])) = farms (uns l) ++ [fm + d] := by simp [farms, uns]
    rw [e, List.pairwise_append]
    refine ⟨h6, by simp, ?_⟩
    intro a ha b hb
    rw [List.mem_singleton] at hb
    subst hb
    simp only [farms, List.mem_map] at ha
    obtain ⟨u, hu, rfl⟩ := ha
    have := (h5 u hu).1
    omega
theorem uGood.ok {q : Pl} {fm : Int} {l : List (Un × UV)} (h : uGood q.ws.length fm l) (hl : l.length ≤ 20) (hc : checkP q = 0) : unitsP q (uns l) = 0 := by
  obtain ⟨h1, h2, h3⟩ := h
  refine unitsP_of hc (by rw [uns_len]; omega) (fun u hu => ?_) h3
  obtain ⟨h4, h5, h6⟩ := h2 u hu
  refine ⟨by omega, ?_⟩
  unfold factB
  rw [decide_eq_true h5]
  have : u.fs.any (outP 0 100) = false := by
    rw [List.any_eq_false]
    intro x hx
    have := h6 x hx
    simp [outP]
    omega
  rw [this]
  rfl
-- WALK
set_option maxHeartbeats 8000000 in
set_option maxRecDepth 100000 in
theorem units_any (g : Nat) (r : List Int) (p : PlV) (q : Pl) (most : Nat) (w : World) (ht : TapeAt w g r) (hmost : most ≤ 20) (hws : q.ws.length ≤ 1000) :
    Calls Try.prog 12 #[.pointer (some ⟨g, 0, none⟩), .agg #[.slice p.a1 q.ws.length p.c1, .slice p.a2 q.ls.length p.c2, .slice p.a3 q.ss.length p.c3, .int .i64 q.le, .int .i64 q.ra], .int .i64 (most : Int)] w (UnitsPost w g q most) := by
  obtain ⟨i0, hi, hz0, hz1, hz2⟩ := info_parts Try.infoIn
  obtain ⟨i1, hj, hj0, hj1, hj2⟩ := info_parts Try.infoUnit
  have Ht := Lib.hid ht
  have hlt := ht.lt
  clear ht
  go_enter Try.func12, Try.ntmps12
  go_upto_region 1 with fail
  obtain ⟨wa, hwa⟩ : ∃ wa : World, wa = w.alloc (.cells #[.slice p.a1 q.ws.length p.c1, .slice p.a2 q.ls.length p.c2, .slice p.a3 q.ss.length p.c3, .int .i64 q.le, .int .i64 q.ra] 24) := ⟨_, rfl⟩; rw [← hwa]; have Hr : Hid (wa.heap[w.heap.size]? = some (.cells #[.slice p.a1 q.ws.length p.c1, .slice p.a2 q.ls.length p.c2, .slice p.a3 q.ss.length p.c3, .int .i64 q.le, .int .i64 q.ra] 24 (0, 0))) := Lib.hid (by rw [hwa]; exact heap_alloc_new w _); have Hba : Hid (Below w.heap.size w wa) := Lib.hid (by rw [hwa]; exact (by repeat' (first | with_reducible exact Below.refl _ _ | with_reducible refine below_drewN ?_ _ | with_reducible refine Below.drew ?_ | with_reducible refine Below.alloc ?_ ?_ _ | with_reducible refine Below.setCell ?_ ?_ _ | with_reducible refine Below.trans ?_ (Below.mono (by with_reducible assumption) ?_) | (simp; done) | (simp; omega) | omega))); have hl : w.heap.size < wa.heap.size := (by rw [hwa]; simp); clear hwa
  have HTa := Lib.hid (Ht.out.below Hba.out hlt)
  have Hga : Hid (w.grownBy wa (some g)) := Lib.hid (only_below (World.grownBy.refl _ _) Hba.out (Nat.le_refl _))
  have hwm : IntKind.i64.wrap ((most : Int) + 1) = (most : Int) + 1 := IntWalk.i64_in _ (by omega)
  go_wp2_with fail
  refine (next_any g r ((most : Int) + 1) _ HTa.out (by omega)).mono ?_
  rintro e w1 ⟨rfl, ht1, hg1⟩
  have hn := nx_bd r ((most : Int) + 1) (by omega)
  obtain ⟨N, hN⟩ : ∃ N : Nat, (N : Int) = nx r ((most : Int) + 1) := ⟨(nx r ((most : Int) + 1)).toNat, by omega⟩
  rw [← hN]
  have hNb : N ≤ most := by omega
  clear hn hN hwm
  have Ht1 := Lib.hid ht1
  have Hg1 := Lib.hid hg1
  clear ht1 hg1
  obtain ⟨m, hm⟩ : ∃ m, q.ws.length = m := ⟨_, rfl⟩
  have Hm := Lib.hid hm
  have Hm60 : Hid (checkP q = 0 → m ≤ 6) := Lib.hid (fun h => by
    obtain ⟨⟨h1, h2⟩, -⟩ := (planB_iff q).1 (checkP_zero h)
    omega)
  rw [hm] at Hr hws ⊢
  clear hm
  go_wp2_with fail
  go_loopw [7, 8, 9, 10, 28] (fun v f i _ _ wr => ∃ (nn : Nat) (l : List (Un × UV)) (fm : Int) (r' : List Int), i = .int .i64 (nn : Int) ∧ f = .int .i64 fm ∧ nn + l.length = N ∧ uGood m fm l ∧ UsOwn wr wa.heap.size v l ∧ TapeAt wr g r' ∧ wa.grownBy wr (some g)) (fun _ _ i _ _ _ => (intOf i).toNat)
  case atStart => exact ⟨N, [], 0, _, rfl, rfl, by simp, uGood.nil m, UsOwn.nil _ _, Ht1.out, Hg1.out⟩
  case round =>
    obtain ⟨nn, l, fm, r', rfl, rfl, hnn, hgd, hU, htr, hgr⟩ := hrel
    have HU := Lib.hid hU
    have Htr := Lib.hid htr
    have Hgr := Lib.hid hgr
    have Hgd := Lib.hid hgd
    have hfb := hgd.1
    have hsr := hgr.size
    clear hU htr hgr hgd
    by_cases h0 : 0 < nn
    · have h0' : (0 : Int) < (nn : Int) := by omega
      go_wp2_with fail
      refine (range_any g r' 1 3 _ Htr.out (by omega) (by omega) (by omega)).mono ?_
      rintro e w2 ⟨rfl, ht2, hg2⟩
      have hd := nx_bd r' (3 - 1 + 1) (by omega)
      obtain ⟨d, hdd⟩ : ∃ d, 1 + nx r' (3 - 1 + 1) = d := ⟨_, rfl⟩
      rw [hdd]
      have hdb : 1 ≤ d ∧ d ≤ 3 := by omega
      clear hd hdd
      have hwf : IntKind.i64.wrap (fm + d) = fm + d := IntWalk.i64_in _ (by omega)
      have HU2 := Lib.hid (HU.out.only hg2 (by omega))
      have Hg2 := Lib.hid (only_trans Hgr.out hg2)
      have Ht2 := Lib.hid ht2
      have hs2 := hg2.size
      clear ht2 hg2 HU Hgr Htr
      go_upto_region 8 with fail
      obtain ⟨w3, hw3⟩ : ∃ w3 : World, w3 = w2.alloc (.cells #[.int .i64 (fm + d), .slice none 0 0] 27) := ⟨_, rfl⟩
      rw [← hw3]
      have HG3 : Hid (Gro wa w3 w3 g w2.heap.size (.cells #[.int .i64 (fm + d), .slice none 0 0] 27 (0, 0)) (.slice none 0 0) [] r'.tail) := Lib.hid (by
        rw [hw3]
        exact Gro.start (Ht2.out.alloc _) (only_alloc Hg2.out _) (heap_alloc_new w2 _) (by omega) (by omega))
      have HU3 : Hid (UsOwn w3 wa.heap.size u7 l) := Lib.hid (by rw [hw3]; exact HU2.out.below ((Below.refl _ _).alloc (Nat.le_refl _) _))
      have Hub : Hid (∀ y, (y = u7 ∨ ∃ x ∈ l, y = Value.slice x.2.a x.1.fs.length x.2.c) → ∀ b, y.ownBlock = some b → wa.heap.size ≤ b ∧ b < w2.heap.size) := Lib.hid (by
        rintro y (rfl | ⟨x, hx, rfl⟩) b hb
        · exact ⟨own_base HU2.out.o b hb, own_lt HU2.out.o b hb⟩
        · exact ⟨own_base (HU2.out.fs x hx) b hb, own_lt (HU2.out.fs x hx) b hb⟩)
      have Hk3 : Hid (∀ b, b < w2.heap.size → w3.heap[b]? = w2.heap[b]?) := Lib.hid (fun b hb => by rw [hw3]; exact Below.heap_alloc _ _ _ hb)
      have hs3 : w3.heap.size = w2.heap.size + 1 := by rw [hw3]; simp
      have hs3h := Lib.hid hs3
      have P0 : w3.cell? ⟨w.heap.size, 0, none⟩ = some (.slice p.a1 m p.c1) := by
        rw [hw3]
        exact (World.cell?_alloc_lt w2 _ _ (by show w.heap.size < w2.heap.size; omega)).trans (rowCell ((Hg2.out.block w.heap.size hl (fun e => by injection e; omega)).trans Hr.out) rfl)
      clear hw3 hs3 Hg2 Ht2
      go_wp2_with fail
      go_loopw [28] (fun i wr' => ∃ (t : Nat) (fs : List Int) (v : Value) (r2 : List Int), i = .int .i64 (t : Int) ∧ fs.length = t ∧ t ≤ m ∧ Gro wa w3 wr' g w2.heap.size (.cells #[.int .i64 (fm + d), v] 27 (0, 0)) v fs r2 ∧ ∀ x ∈ fs, 0 ≤ x ∧ x ≤ 100) (fun i _ => m - (intOf i).toNat)
      case atStart => exact ⟨0, [], _, _, rfl, rfl, Nat.zero_le _, HG3.out, by simp⟩
      case round =>
        obtain ⟨t, fs, v, r2, rfl, hft, htm, hG, hfs⟩ := hrel
        have HG := Lib.hid hG
        have Hfs := Lib.hid hfs
        have Hft := Lib.hid hft
        have hfl : fs.length ≤ 1000000 := by omega
        clear hG hfs hft
        by_cases htt : t < m
        · have htt' : (t : Int) < (m : Int) := by omega
          have HGd := Lib.hid HG.out.drew
          have c0 : wr.drew.cell? ⟨w2.heap.size, 1, none⟩ = some v := rowCell HGd.out.blk rfl
          go_wp2_with fail
          refine wp_region_held_tail (S := fun w' => w'.cell? ⟨w2.heap.size, 1, none⟩ = some v) 6 (by kernel_rfl) (by kernel_rfl) (by kernel_rfl) ?_
          have hHeld : (fun w' : World => w'.cell? ⟨w2.heap.size, 1, none⟩ = some v) wr.drew := c0
          simp only [List.take_succ_cons, List.take_zero, List.replicate]
          refine wpAnyH_take (i := 0) (v := ?vva0) rfl (by kernel_rfl) (by kernel_rfl) (by kernel_rfl) (fun _ _ _ h => h) (Or.inl ⟨by rfl, ?hya0⟩) hHeld ?resta0; (case hya0 => (intro w hSw; (try dsimp only at hSw); go_simp; all_goals (with_reducible rfl))); simp only [Act.put, List.setIfInBounds_toArray, List.set_cons_zero, List.set_cons_succ]
          refine wpAnyH_take (i := 1) (v := ?vva1) rfl (by kernel_rfl) (by kernel_rfl) (by kernel_rfl) (fun _ _ _ h => h) (Or.inl ⟨by rfl, ?hya1⟩) hHeld ?resta1; (case hya1 => (intro w hSw; (try dsimp only at hSw); go_simp; all_goals (with_reducible rfl))); simp only [Act.put, List.setIfInBounds_toArray, List.set_cons_zero, List.set_cons_succ]
          refine wpAnyH_take (i := 2) (v := ?vva2) rfl (by kernel_rfl) (by kernel_rfl) (by kernel_rfl) (fun _ _ _ h => h) (Or.inl ⟨by rfl, ?hya2⟩) hHeld ?resta2; (case hya2 => (intro w hSw; (try dsimp only at hSw); go_simp; all_goals (with_reducible rfl))); simp only [Act.put, List.setIfInBounds_toArray, List.set_cons_zero, List.set_cons_succ]
          refine wpAnyH_ready (rs := [3]) (by kernel_rfl) (by simp) ?_; refine AllReadyH.cons rfl (fun K hK => ?_) AllReadyH.nil
          go_simp
          go_at_call 14
          refine (next_any g r2 101 _ HGd.out.tp (by omega)).mono ?_
          rintro e w5 ⟨rfl, ht5, hg5⟩
          have hx := nx_bd r2 101 (by omega)
          have HG5 := Lib.hid (HGd.out.tape hg5 ht5)
          generalize nx r2 101 = x at *
          clear ht5 hg5
          refine hK.out _ _ (rowCell HG5.out.blk rfl) (fun hHeld => ?_)
          clear hK K
          (try simp only [Act.put, List.setIfInBounds_toArray, List.set_cons_zero, List.set_cons_succ])
          refine wpAnyH_ready (rs := [4]) (by kernel_rfl) (by simp) ?_; refine AllReadyH.cons rfl (fun K hK => ?_) AllReadyH.nil
          go_simp
          refine hK.out _ _ (rowCell (HG5.out.alloc _).blk rfl) (fun hHeld => ?_)
          clear hK K
          (try simp only [Act.put, List.setIfInBounds_toArray, List.set_cons_zero, List.set_cons_succ])
          refine wpAnyH_ready (rs := [5]) (by kernel_rfl) (by simp) ?_; refine AllReadyH.cons rfl (fun K hK => ?_) AllReadyH.nil
          refine step_append_any _ rfl (.tmp 31) (.tmp 34) 22 rfl w3.heap.size 3 i0 (.int .i64 0) 1 8 Try.underlying22 hi hz0 hz1 hz2 rfl (by omega) v fs.length (fs.map (Value.int .i64)) rfl (HG5.out.alloc _).o _ _ 1 1 [.int .i64 x] rfl ⟨rfl, fun _ => ⟨_, rfl, Nat.lt_succ_self _, fun j u hu => (by exact news_any _ _ _ j u hu)⟩⟩ (by simp [Value.oneCell']) (by simp only [maxLen]; omega) (by omega) (HG5.out.alloc _).sz ?_
          intro v6 w6 hown6 hg6 hat6
          obtain ⟨A6, e6, rfl, _, _, _⟩ := own_slice hown6
          have HG6 := Lib.hid ((HG5.out.alloc _).app hown6 hg6)
          clear hown6 hg6 hat6
          refine hK.out _ _ (rowCell HG6.out.blk rfl) (fun hHeld => ?_)
          clear hK K
          (try simp only [Act.put, List.setIfInBounds_toArray, List.set_cons_zero, List.set_cons_succ])
          refine wpAnyH_done (by kernel_rfl) ?_ _
          clear hHeld c0
          show wpList _ _ _ _ _ _
          simp only [List.drop_succ_cons, List.drop_zero]
          have c1 : w6.cell? ⟨w2.heap.size, 1, none⟩ = some v := rowCell HG6.out.blk rfl
          have f1 := frozen_of_row w6 w2.heap.size 1 _ _ HG6.out.blk
          go_wp2
          go_roundw
          case rel => exact ⟨t + 1, fs ++ [x], _, _, by go_num, by rw [List.length_append, Hft.out]; rfl, by omega, HG6.out.put (setRow _ HG6.out.blk rfl), fun y hy => by
            rcases List.mem_append.1 hy with h | h
            · exact Hfs.out y h
            · rw [List.mem_singleton] at h; omega⟩
          case measure => simp [intOf]; omega
        · have htt' : ¬ (t : Int) < (m : Int) := by omega
          obtain ⟨w7, hw7⟩ : ∃ w7 : World, w7 = wr := ⟨_, rfl⟩
          subst hw7
          obtain ⟨A6, e6, rfl, _, _, _⟩ := own_slice HG.out.o
          have b0 : w7.cell? ⟨w2.heap.size, 0, none⟩ = some (.int .i64 (fm + d)) := rowCell HG.out.blk rfl
          have b1 : w7.cell? ⟨w2.heap.size, 1, none⟩ = some (.slice A6 fs.length e6) := rowCell HG.out.blk rfl
          have HU7 : Hid (UsOwn w7 wa.heap.size u7 l) := Lib.hid (by
            refine ⟨own_keep HU2.out.o (fun b hb hB => ?_), fun x hx => own_keep (HU2.out.fs x hx) (fun b hb hB => ?_), HU2.out.ap⟩
            · exact (HG.out.kp b (by have := hs3h.out; omega) (by omega) (by omega)).trans (Hk3.out b hb)
            · exact (HG.out.kp b (by have := hs3h.out; omega) (by omega) (by omega)).trans (Hk3.out b hb))
          have hs7 := HG.out.sz
          have hs3i := hs3h.out
          have hll : l.length ≤ 20 := by omega
          have Hpush := Lib.hid (fun (W : World) (v5 : Value) => HU7.out.push (w5 := W) (v5 := v5) (⟨fm + d, fs⟩, ⟨A6, e6⟩) (own_rebase HG.out.o (by omega)) (fun b hb e => by
            have h1 := (Hub.out u7 (.inl rfl) b hb).2
            have h2 := own_base HG.out.o b e
            omega) ((Below.refl _ _).alloc (Nat.le_refl _) (.cells #[.int .i64 (fm + d), .slice A6 fs.length e6] 27)))
          dsimp only at Hpush
          go_upto_region 12 with fail
          go_wp2_with (first
            | (at_builtin
               refine wpList_append_any _ rfl (.tmp 38) (.tmp 40) _ rfl wa.heap.size 27 i1 _ 2 32 Try.underlying25 hj hj0 hj1 hj2 rfl (by omega) u7 l.length (uCells l) rfl
                 (ownsRow_below HU7.out.o ((Below.refl _ _).alloc (Nat.le_refl _) _)) _ _ 1 1 [.int .i64 (fm + d), .slice A6 fs.length e6] rfl ⟨rfl, fun _ => ⟨_, rfl, Nat.lt_succ_self _, fun j u hu => (by exact news_any _ _ _ j u hu)⟩⟩ (by simp [Value.oneCell']) (by simp only [maxLen]; omega) (by omega) (by simp; omega) ?_
               intro v8 w8 hown8 hg8 hat8)
            | fail)
          go_roundw
          case rel =>
            have hU8 := Hpush.out w8 v8 hg8 hown8 hat8
            refine ⟨nn - 1, _, fm + d, r2, by go_num, by first | rfl | go_num, by simp; omega, Hgd.out.push hdb fs ⟨A6, e6⟩ (by have := Hft.out; omega) Hfs.out, hU8, ?_, ?_⟩
            · exact (HG.out.tp.alloc _).grown hg8 (fun b hb => by have := (Hub.out u7 (.inl rfl) b hb).1; omega)
            · exact only_grown (only_alloc HG.out.gr _) hg8 (fun b hb => (Hub.out u7 (.inl rfl) b hb).1)
          case measure => simp [intOf]; omega
    · have h0' : ¬ (0 : Int) < (nn : Int) := by omega
      obtain ⟨A9, c9, rfl, _, _, _⟩ := own_slice HU.out.o
      have hl20 : l.length ≤ 20 := by omega
      go_wp2
      go_ret
      exact ⟨l, A9, c9, r', rfl, HU.out.rebase (Nat.le_of_lt hl), Htr.out, only_trans Hga.out Hgr.out, fun hc => uGood.ok (by rw [Hm.out]; exact Hgd.out) hl20 hc, by omega⟩
end Go.Proofs.Ytjmbdfoegnfpnaa
