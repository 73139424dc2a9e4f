/- Contracts: Zones (zone); Ints (ref01). -/
import Derived.Laws.CopyRow
import Derived.Laws.AppendOwn
import Derived.Laws.Tables
import Derived.Deep.Upon
import Derived.Test.YtfmkmhhghmdakaaGreatDoorSh07
import Derived.Test.YtfmkmhhghmdakaaGreatDoorDB
import Derived.Test.YtfmkmhhghmdakaaGreatDoorDC
import Derived.Test.YtfmkmhhghmdakaaGreatDoorDH
import Derived.Test.YtfmkmhhghmdakaaGreatDoorDI
namespace Go.Proofs.YtfmkmhhghmdakaaGreatDoor
open Go.RowKit Go.Shelf
set_option linter.unusedVariables false
set_option linter.unusedSimpArgs false

theorem AddPost.out {w w' : World} {l : FtL} {x : Ft × LV} {e : Ending} (h : AddPost w l x e w') : ∃ xv ev, e = .returned (.tuple #[xv, .int .i64 ev]) ∧ Below w.heap.size w w' ∧
    (ev = 6 ∨ (ev = 0 ∧ ∃ k, k ≤ l.length ∧ w'.ownsRow w.heap.size 54 5 xv (l.length + 1) (ftCells (insL l k x)) ∧ LyOk (fts (insL l k x)))) := by
  obtain ⟨hb, rfl | ⟨k, v, hk, rfl, h1, h2⟩⟩ := h
  · exact ⟨_, _, rfl, hb, .inl rfl⟩
  · exact ⟨_, _, rfl, hb, .inr ⟨rfl, k, hk, h1, h2⟩⟩
theorem insL_mem {l : FtL} {k : Nat} {x y : Ft × LV} (h : y ∈ insL l k x) : y ∈ l ∨ y = x := by
  unfold insL at h
  rcases List.mem_append.1 h with h | h
  · rcases List.mem_append.1 h with h | h
    · exact .inl (List.mem_of_mem_take h)
    · exact .inr (List.mem_singleton.1 h)
  · exact .inl (List.mem_of_mem_drop h)
theorem insL_len {l : FtL} {k : Nat} {x : Ft × LV} (h : k ≤ l.length) : (insL l k x).length = l.length + 1 := by
  simp [insL]; omega
/-- The layer with one feature more. -/
theorem FtOwn.add {w2 w3 : World} {base k : Nat} {v xv : Value} {l : FtL} {x : Ft × LV} (h : FtOwn w2 base v l) (hx : w2.ownsRow base 68 4 (.slice x.2.a x.1.rg.length x.2.c) x.1.rg.length (rCells x.1.rg)) (hb : Below w2.heap.size w2 w3) (hk : k ≤ l.length) (hB : base ≤ w2.heap.size)
    (ho : w3.ownsRow w2.heap.size 54 5 xv (l.length + 1) (ftCells (insL l k x))) : FtOwn w3 base xv (insL l k x) := by
  have hall : ∀ y ∈ insL l k x, w2.ownsRow base 68 4 (.slice y.2.a y.1.rg.length y.2.c) y.1.rg.length (rCells y.1.rg) := fun y hy => by
    rcases insL_mem hy with h1 | rfl
    · exact h.fs y h1
    · exact hx
  refine ⟨by rw [insL_len hk]; exact own_rebase ho hB, fun y hy => ownsRow_below (hall y hy) hb, fun y hy g hg e => ?_⟩
  have h1 := own_base ho g hg
  have h2 := own_ltY (hall y hy) g e
  omega
/-- What Layer leaves. -/
def LyPost (w : World) (g : Nat) (e : Ending) (w' : World) : Prop :=
  ∃ (l : FtL) (v : Value) (r : List Int), e = .returned v ∧ FtOwn w' w.heap.size v l ∧ LyOk (fts l) ∧ (∀ x ∈ fts l, Reg 9 6 x.rg) ∧ l.length ≤ 4 ∧ TapeAt w' g r ∧ w.grownBy w' (some g)

set_option maxHeartbeats 4000000 in
set_option maxRecDepth 100000 in
theorem layer_any (g : Nat) (r : List Int) (w : World) (ht : TapeAt w g r) :
    Calls Tryz.prog 18 #[.pointer (some ⟨g, 0, none⟩), .int .i64 4] w (LyPost w g) := by
  have hlt := ht.lt
  have Ht := Lib.hid ht
  clear ht
  go_enter Tryz.func18, Tryz.ntmps18
  go_upto_region 3 with (first
    | (go_at_call 44
       refine (next_any g r 5 _ Ht.out (by omega)).mono ?_
       rintro e w1 ⟨rfl, ht1, hg1⟩
       have hkb := nx_bd r 5 (by omega)
       generalize nx r 5 = k0 at *
       obtain ⟨m0, rfl⟩ : ∃ m : Nat, k0 = (m : Int) := ⟨k0.toNat, by omega⟩
       have hm0 : m0 ≤ 4 := by omega
       have Ht1 := Lib.hid ht1
       have Hg1 := Lib.hid hg1
       clear ht1 hg1 hkb)
    | fail)
  go_loopw [5, 6, 7, 8] (fun lv nv _ _ wr => ∃ (l : FtL) (k : Nat) (r1 : List Int), nv = .int .i64 (k : Int) ∧ l.length + k ≤ 4 ∧ FtOwn wr w.heap.size lv l ∧ LyOk (fts l) ∧ (∀ x ∈ fts l, Reg 9 6 x.rg) ∧ (l.length = 0 → lv = .slice none 0 0) ∧ TapeAt wr g r1 ∧ w.grownBy wr (some g)) (fun _ nv _ _ _ => (intOf nv).toNat)
  case atStart => exact ⟨[], m0, _, rfl, by simpa using hm0, FtOwn.nil _ _, ⟨fun x hx => (by cases hx), List.Pairwise.nil, by simp [fts]⟩, fun x hx => (by cases hx), fun _ => rfl, Ht1.out, Hg1.out⟩
  case round =>
    obtain ⟨l, k, r1, rfl, hlk, hown, hly, hreg, hnil, htr, hgr⟩ := hrel
    obtain ⟨wo, rfl⟩ : ∃ wo : World, wo = wr := ⟨_, rfl⟩
    have Hown := Lib.hid hown
    have Hly := Lib.hid hly
    have Hreg := Lib.hid hreg
    have Hnil := Lib.hid hnil
    have Htr := Lib.hid htr
    have Hgr := Lib.hid hgr
    have hso : w.heap.size ≤ wo.heap.size := hgr.size
    clear hown hly hreg hnil htr hgr
    rcases k with _ | k
    · go_wp2
      go_ret
      exact ⟨l, _, r1, rfl, Hown.out, Hly.out, Hreg.out, by omega, Htr.out, Hgr.out⟩
    · have hk' : (0 : Int) < ((k + 1 : Nat) : Int) := by omega
      have hkw : IntKind.i64.wrap (((k + 1 : Nat) : Int) - 1) = (k : Int) := by rw [show (((k + 1 : Nat) : Int) - 1) = (k : Int) from by omega]; exact IntWalk.i64_in _ (by omega)
      obtain ⟨A, c, rfl, _, _, _⟩ := own_slice Hown.out.o
      obtain ⟨n, hn⟩ : ∃ n, l.length = n := ⟨_, rfl⟩
      have Hn := Lib.hid hn
      rw [hn]
      clear hn
      go_upto_region 6 with (first
        | (go_at_call 64
           refine (add9_any A n c l x w2 (by rw [← Hn.out]; exact Hown2.out.sl) Hly.out (by have := Hn.out; omega) (fun h => by have := Hnil.out (by rw [Hn.out, h]); rw [Hn.out, h] at this; injection this with h1 h2 h3; exact ⟨h1, h3⟩) Hok.out (SlR.ofR Hx2.out)).mono ?_
           rintro e w3 hp
           obtain ⟨xv, ev, rfl, hb3, hor⟩ := hp.out
           have Hb3 := Lib.hid hb3
           have Hor := Lib.hid hor
           clear hb3 hor hp)
        | (go_at_call 65
           refine (feature_any g _ _ _ Ht1.out (by omega)).mono ?_
           rintro e w2 ⟨x, r2, rfl, hok, hnum, hreg2, hx2, ht2, hg2⟩
           have Hok := Lib.hid hok
           have Hreg2 := Lib.hid hreg2
           have Hx2 := Lib.hid (own_rebase (base' := w.heap.size) hx2 hs1)
           have Ht2 := Lib.hid ht2
           have Hown2 := Lib.hid (Hown1.out.only hg2 hlt)
           have Hg2 := Lib.hid (only_trans Hg1.out hg2)
           have hs2 : w.heap.size ≤ w2.heap.size := Hg2.out.size
           clear hok hnum hreg2 hx2 ht2 hg2)
        | (go_at_call 43
           refine (range_any g r1 1 12 _ Htr.out (by omega) (by omega) (by omega)).mono ?_
           rintro e w1 ⟨rfl, ht1, hg1⟩
           have hq1 := nx_bd r1 (12 - 1 + 1) (by omega)
           generalize nx r1 (12 - 1 + 1) = q1 at *
           have Ht1 := Lib.hid ht1
           have Hown1 := Lib.hid (Hown.out.only hg1 hlt)
           have Hg1 := Lib.hid (only_trans Hgr.out hg1)
           have hs1 : w.heap.size ≤ w1.heap.size := Hg1.out.size
           clear ht1 hg1)
        | fail)
      rcases Hor.out with rfl | ⟨rfl, j, hj, ho, hl3⟩
      · go_wp2
        go_roundw
        case rel =>
          exact ⟨l, k, _, rfl, by omega, by rw [← Hn.out]; exact Hown2.out.below Hb3.out, Hly.out, Hreg.out, fun h => by have := Hnil.out h; rw [Hn.out] at this; exact this, Ht2.out.below Hb3.out Ht2.out.lt, only_below Hg2.out Hb3.out hs2⟩
        case measure => simp [intOf]
      · go_wp2
        go_roundw
        case rel =>
          refine ⟨insL l j x, k, _, rfl, by rw [insL_len hj]; omega, Hown2.out.add Hx2.out Hb3.out hj hs2 ho, hl3, fun y hy => ?_, fun h => by rw [insL_len hj] at h; omega, Ht2.out.below Hb3.out Ht2.out.lt, only_below Hg2.out Hb3.out hs2⟩
          obtain ⟨z, hz, rfl⟩ := List.mem_map.1 hy
          rcases insL_mem hz with h1 | rfl
          · exact Hreg.out _ (List.mem_map_of_mem h1)
          · exact Hreg2.out
        case measure => simp [intOf]
end Go.Proofs.YtfmkmhhghmdakaaGreatDoor
namespace Go.Proofs.YtfmkmhhghmdakaaGreatDoor
open Go.RowKit Go.Shelf
set_option linter.unusedVariables false
set_option linter.unusedSimpArgs false

set_option maxHeartbeats 1000000 in
theorem cloneR_any (A : Option Addr) (n c : Nat) (l : List R4) (w : World) (hA : SlR w A n c l) (hn : n ≤ 1000000) :
    Calls Tryz.prog 109 #[.slice A n c] w fun e w' => ∃ v, e = .returned v ∧ w'.ownsRow w.heap.size 68 4 v n (rCells l) ∧ Below w.heap.size w w' := by
  obtain ⟨i0, hi, hz0, hz1, hz2⟩ := info_parts Tryz.infoRect
  have hx := hA.len
  have hL := hA.lies
  have HA := Lib.hid (hL.reads (size := 4) (by rw [rCells_len, hx]))
  clear hA
  rcases A with _ | ad
  · have hn0 : n = 0 := hL.resolve_right (by rintro ⟨_, _, h, _⟩; cases h)
    subst hn0
    obtain rfl : l = [] := List.length_eq_zero_iff.1 hx
    clear hx hL HA
    have hnil := fun W : World => Lib.run_eql_slice_nil (P := Tryz.prog) W 31 68 none 0 c 0 0 Tryz.underlying31
    go_enter Tryz.func109, Tryz.ntmps109
    go_wp2
    go_ret
    exact ⟨_, rfl, World.ownsRow_nil _ _ _ _, Below.refl _ _⟩
  · clear hx hL
    have hnil := fun W : World => Lib.run_eql_slice_nil (P := Tryz.prog) W 31 68 (some ad) n c 0 0 Tryz.underlying31
    go_enter Tryz.func109, Tryz.ntmps109
    go_wp2_with (at_builtin
                 refine wpList_append_any _ rfl (.tmp 5) (.tmp 6) _ rfl w.heap.size 68 i0 _ 4 32 Tryz.underlying31 hi hz0 hz1 hz2 rfl (by omega) (.slice (some ⟨w.heap.size, 0, none⟩) 0 0) 0 [] rfl
                   (own_zero w _ _ _ (Nat.le_refl _)) w.heap.size (some ad) n c (rCells l) rfl (HA.out.alloc (Nat.le_refl _) _) (rCells_one l) (by simp only [maxLen]; omega) (by omega) (by simp) ?_
                 intro v1 w1 hown1 hg1 hat1)
    go_ret
    refine ⟨v1, rfl, by simpa using hown1, ?_⟩
    exact ((Below.refl _ _).alloc (Nat.le_refl _) _).grown hg1 (by simp) (by intro k hk; simp [Value.ownBlock] at hk; omega)
/-- What copied leaves. -/
def CopPost (w : World) (x : Ft) (e : Ending) (w' : World) : Prop :=
  ∃ v : LV, e = .returned (.agg #[.int .i64 x.num, .int .i64 x.kd, .int .i64 x.fr, .int .i64 x.un, .slice v.a x.rg.length v.c]) ∧ w'.ownsRow w.heap.size 68 4 (.slice v.a x.rg.length v.c) x.rg.length (rCells x.rg) ∧ Below w.heap.size w w'
set_option maxHeartbeats 2000000 in
set_option maxRecDepth 100000 in
theorem copied_any9 (x : Ft) (v : LV) (w : World) (hx : SlR w v.a x.rg.length v.c x.rg) (hn : x.rg.length ≤ 1000000) :
    Calls Tryz.prog 176 #[.agg #[.int .i64 x.num, .int .i64 x.kd, .int .i64 x.fr, .int .i64 x.un, .slice v.a x.rg.length v.c]] w (CopPost w x) := by
  obtain ⟨num, kd, fr, un, rg⟩ := x
  dsimp only at hx hn ⊢
  have Hx := Lib.hid hx
  obtain ⟨n, hne⟩ : ∃ n, rg.length = n := ⟨_, rfl⟩
  have Hne := Lib.hid hne
  rw [hne] at Hx hn ⊢
  clear hx hne
  go_enter Tryz.func176, Tryz.ntmps176
  go_upto_region 1 with fail
  obtain ⟨w0, hw0⟩ : ∃ w0 : World, w0 = (w.alloc (.cells #[.int .i64 num, .int .i64 kd, .int .i64 fr, .int .i64 un, .slice v.a n v.c] 54)).alloc (.cells #[.int .i64 0, .int .i64 0, .int .i64 0, .int .i64 0, .slice none 0 0] 54) := ⟨_, rfl⟩
  rw [← hw0]
  have hr0 : w0.heap[w.heap.size]? = some (.cells #[.int .i64 num, .int .i64 kd, .int .i64 fr, .int .i64 un, .slice v.a n v.c] 54 (0, 0)) := by rw [hw0]; exact (Below.heap_alloc _ _ _ (by simp)).trans (heap_alloc_new w _)
  have Hz0 : Hid (w0.heap[w.heap.size + 1]? = some (.cells #[.int .i64 0, .int .i64 0, .int .i64 0, .int .i64 0, .slice none 0 0] 54 (0, 0))) := Lib.hid (by rw [hw0]; exact heap_alloc2_new w _ _)
  have Hb0 : Hid (Below w.heap.size w w0) := Lib.hid (by rw [hw0]; exact (by repeat' (first | with_reducible exact Below.refl _ _ | with_reducible refine below_drewN ?_ _ | with_reducible refine Below.drew ?_ | with_reducible refine Below.alloc ?_ ?_ _ | with_reducible refine Below.setCell ?_ ?_ _ | with_reducible refine Below.trans ?_ (Below.mono (by with_reducible assumption) ?_) | (simp; done) | (simp; omega) | omega)))
  have hs0 : w0.heap.size = w.heap.size + 2 := by rw [hw0]; simp
  have Hs0 := Lib.hid hs0
  have c4 := cell_of_row _ _ 4 _ _ _ hr0
  have Hr0 := Lib.hid hr0
  have Hx0 := Lib.hid (Hx.out.below Hb0.out)
  clear hw0 hr0 hs0
  go_upto_region 2 with (first
    | (go_at_call 109
       refine (cloneR_any v.a n v.c rg _ Hx0.out hn).mono ?_
       rintro e w1 ⟨u, rfl, hown1, hb1⟩
       obtain ⟨A1, d1, rfl, _, _, _⟩ := own_slice hown1
       have hs0 := Hs0.out
       have hr1 := (hb1.block w.heap.size (by omega)).trans Hr0.out
       have Hr1 := Lib.hid hr1
       have Hz1 := Lib.hid ((hb1.block (w.heap.size + 1) (by omega)).trans Hz0.out)
       have Hb1 := Lib.hid (Hb0.out.trans (hb1.mono (by omega)))
       have Hown1 := Lib.hid (own_rebase (base' := w.heap.size + 2) hown1 (by omega))
       have g4 := frozen_of_row _ _ 4 _ _ hr1
       have d4 := cell_of_row _ _ 4 _ _ _ hr1
       clear hown1 hb1 hr1 hs0 c4)
    | fail)
  obtain ⟨w2, hw2⟩ : ∃ w2 : World, w2 = w1.setCell ⟨w.heap.size, 4, none⟩ (.slice A1 n d1) := ⟨_, rfl⟩
  rw [← hw2]
  have hr2 : w2.heap[w.heap.size]? = some (.cells #[.int .i64 num, .int .i64 kd, .int .i64 fr, .int .i64 un, .slice A1 n d1] 54 (0, 0)) := by
    rw [hw2]
    have h := heap_setCell_same w1 w.heap.size 4 _ _ (.slice A1 n d1) Hr1.out
    simpa using h
  have hz2 : w2.heap[w.heap.size + 1]? = some (.cells #[.int .i64 0, .int .i64 0, .int .i64 0, .int .i64 0, .slice none 0 0] 54 (0, 0)) := by
    rw [hw2]; exact (Below.heap_setCell _ _ _ _ (by show w.heap.size + 1 ≠ w.heap.size; omega)).trans Hz1.out
  have Hb2 : Hid (Below w.heap.size w w2) := Lib.hid (by rw [hw2]; exact Hb1.out.setCell (Nat.le_refl _) _)
  have Hown2 : Hid (w2.ownsRow (w.heap.size + 2) 68 4 (.slice A1 n d1) n (rCells rg)) := Lib.hid (by
    rw [hw2]; exact own_other Hown1.out (only_setCell (g := w.heap.size) (World.grownBy.refl _ _) (.inl rfl) _) (fun k hk e => by injection e with e; have := own_base Hown1.out k hk; omega))
  have Hz2 := Lib.hid hz2
  have a0 := cell_of_row _ _ 0 _ _ _ hr2
  have a1 := cell_of_row _ _ 1 _ _ _ hr2
  have a2 := cell_of_row _ _ 2 _ _ _ hr2
  have a3 := cell_of_row _ _ 3 _ _ _ hr2
  have a4 := cell_of_row _ _ 4 _ _ _ hr2
  have z0 := cell_of_row _ _ 0 _ _ _ hz2
  have z1 := cell_of_row _ _ 1 _ _ _ hz2
  have z2 := cell_of_row _ _ 2 _ _ _ hz2
  have z3 := cell_of_row _ _ 3 _ _ _ hz2
  have z4 := cell_of_row _ _ 4 _ _ _ hz2
  have g0 := frozen_of_row _ _ 0 _ _ hz2
  have g1 := frozen_of_row _ _ 1 _ _ hz2
  have g2 := frozen_of_row _ _ 2 _ _ hz2
  have g3 := frozen_of_row _ _ 3 _ _ hz2
  have g5 := frozen_of_row _ _ 4 _ _ hz2
  clear hw2 hr2 hz2 d4 g4
  go_wp2
  have hz5 := ft5 (x := .int .i64 num) (y := .int .i64 kd) (z := .int .i64 fr) (u := .int .i64 un) (v := .slice A1 n d1) Hz2.out
  have y0 := cell_of_row _ _ 0 _ _ _ hz5
  have y1 := cell_of_row _ _ 1 _ _ _ hz5
  have y2 := cell_of_row _ _ 2 _ _ _ hz5
  have y3 := cell_of_row _ _ 3 _ _ _ hz5
  have y4 := cell_of_row _ _ 4 _ _ _ hz5
  refine bodyPost_ret (v := .agg #[.int .i64 num, .int .i64 kd, .int .i64 fr, .int .i64 un, .slice A1 n d1]) (by simp only [results, Tryz.results176, go_sem, y0, y1, y2, y3, y4]; first | rfl | simp [go_sem, *]) rfl ?_
  refine ⟨⟨A1, d1⟩, by rw [← Hne.out], ?_, ((((Hb2.out.setCell (Nat.le_succ _) _).setCell (Nat.le_succ _) _).setCell (Nat.le_succ _) _).setCell (Nat.le_succ _) _).setCell (Nat.le_succ _) _⟩
  dsimp only
  rw [Hne.out]
  exact own_rebase (own_other Hown2.out ft5_only (fun k hk e => by injection e with e; have := own_base Hown2.out k hk; omega)) (by omega)
/-- What all leaves. -/
def AllPost (w : World) (m : List Ft) (e : Ending) (w' : World) : Prop :=
  ∃ (l : FtL) (v : Value), e = .returned v ∧ FtOwn w' w.heap.size v l ∧ fts l = m ∧ Below w.heap.size w w'
set_option maxHeartbeats 4000000 in
set_option maxRecDepth 100000 in
theorem all_any (A : Option Addr) (n c : Nat) (l : FtL) (w : World) (hA : SlFt w A n c l) (hl : LyOk (fts l)) :
    Calls Tryz.prog 68 #[.slice A n c] w (AllPost w (fts l)) := by
  obtain ⟨i0, hi, hz0, hz1, hz2⟩ := info_parts Tryz.infoFt
  have hln := hA.len
  have hn60 : n ≤ 60 := by have := hl.len; rw [fts_len] at this; omega
  have HA := Lib.hid hA
  have HL := Lib.hid hl
  have Hln := Lib.hid hln
  clear hA hl hln
  go_enter Tryz.func68, Tryz.ntmps68
  go_upto_region 3 with fail
  go_loopw [3, 5, 8] (fun lv _ iv wr => ∃ (k : Nat) (m : FtL), k ≤ n ∧ iv = .int .i64 (k : Int) ∧ m.length = k ∧ fts m = (fts l).take k ∧ FtOwn wr w.heap.size lv m ∧ Below w.heap.size w wr) (fun _ _ iv _ => n - (intOf iv).toNat)
  case atStart => exact ⟨0, [], Nat.zero_le _, rfl, rfl, by simp [fts], FtOwn.nil _ _, Below.refl _ _⟩
  case round =>
    obtain ⟨k, m, hk, rfl, hmk, hfm, hown, hbw⟩ := hrel
    obtain ⟨wo, rfl⟩ : ∃ wo : World, wo = wr := ⟨_, rfl⟩
    have Hfm := Lib.hid hfm
    have Hown := Lib.hid hown
    have Hbw := Lib.hid hbw
    have hsw := hbw.size
    have Hmk := Lib.hid hmk
    clear hfm hown hbw hmk
    by_cases hkn : k < n
    · have hkn' : (k : Int) < (n : Int) := by omega
      have hkl : k < l.length := by rw [Hln.out]; exact hkn
      obtain ⟨b, off, rfl, hbl, c0, c1, c2, c3, c4, hS⟩ := (HA.out.below Hbw.out).at k hkl
      have hok := HL.out.ok l[k].1 (List.mem_map_of_mem (List.getElem_mem hkl))
      have hrl : l[k].1.rg.length ≤ 120 := (valid_parts hok.rg).1
      have Hstep : Hid (∀ v : LV, fts (m ++ [(l[k].1, v)]) = (fts l).take (k + 1)) := Lib.hid (fun v => by
        have h := List.take_succ_eq_append_getElem (l := fts l) (i := k) (by rw [fts_len]; exact hkl)
        rw [h, ← Hfm.out, fts_get l k hkl]
        simp [fts])
      obtain ⟨x, hx⟩ : ∃ x, x = l[k] := ⟨_, rfl⟩
      rw [← hx] at c0 c1 c2 c3 c4 hS hrl Hstep
      have HS := Lib.hid hS
      clear hS hok hx
      go_upto_region 5 with fail
      obtain ⟨w1, hw1⟩ : ∃ w1 : World, w1 = wo.alloc (.cells #[.int .i64 x.1.num, .int .i64 x.1.kd, .int .i64 x.1.fr, .int .i64 x.1.un, .slice x.2.a x.1.rg.length x.2.c] 54) := ⟨_, rfl⟩
      rw [← hw1]
      have hr1 : w1.heap[wo.heap.size]? = some (.cells #[.int .i64 x.1.num, .int .i64 x.1.kd, .int .i64 x.1.fr, .int .i64 x.1.un, .slice x.2.a x.1.rg.length x.2.c] 54 (0, 0)) := by rw [hw1]; exact heap_alloc_new wo _
      have Hb1 : Hid (Below wo.heap.size wo w1) := Lib.hid (by rw [hw1]; exact (by repeat' (first | with_reducible exact Below.refl _ _ | with_reducible refine below_drewN ?_ _ | with_reducible refine Below.drew ?_ | with_reducible refine Below.alloc ?_ ?_ _ | with_reducible refine Below.setCell ?_ ?_ _ | with_reducible refine Below.trans ?_ (Below.mono (by with_reducible assumption) ?_) | (simp; done) | (simp; omega) | omega)))
      have hs1 : wo.heap.size < w1.heap.size := by rw [hw1]; simp
      have HS1 := Lib.hid (HS.out.below Hb1.out)
      have d0 := cell_of_row _ _ 0 _ _ _ hr1
      have d1 := cell_of_row _ _ 1 _ _ _ hr1
      have d2 := cell_of_row _ _ 2 _ _ _ hr1
      have d3 := cell_of_row _ _ 3 _ _ _ hr1
      have d4 := cell_of_row _ _ 4 _ _ _ hr1
      clear hw1 hr1 c0 c1 c2 c3 c4
      go_wp2_with (first
        | (go_at_call 176
           refine (copied_any9 x.1 x.2 _ HS1.out (by omega)).mono ?_
           rintro e w2 ⟨v2, rfl, hown2, hb2⟩
           have Hb2 := Lib.hid (Hb1.out.trans (hb2.mono (by omega)))
           have Hx2 := Lib.hid (own_rebase (base' := w.heap.size) hown2 (by omega))
           have Hap2 : Hid (∀ g, u3.ownBlock = some g → (Value.slice v2.a x.1.rg.length v2.c).ownBlock ≠ some g) := Lib.hid (fun g hg e => by
             have := own_ltY Hown.out.o g hg
             have := own_base hown2 g e
             omega)
           have Hown2 := Lib.hid (Hown.out.below Hb2.out)
           have hs2 : wo.heap.size ≤ w2.heap.size := Hb2.out.size
           clear hb2 hown2)
        | (at_builtin
           refine wpList_append_any _ rfl (.tmp 12) (.tmp 15) _ rfl w.heap.size 54 i0 _ 5 56 Tryz.underlying51 hi hz0 hz1 hz2 rfl (by omega) _ m.length (ftCells m) rfl
             (Hown2.out.o.alloc _) _ _ 1 1 [.int .i64 x.1.num, .int .i64 x.1.kd, .int .i64 x.1.fr, .int .i64 x.1.un, .slice v2.a x.1.rg.length v2.c] rfl ⟨rfl, fun _ => ⟨_, rfl, Nat.lt_succ_self _, fun j u hu => (by exact news_any _ _ _ j u hu)⟩⟩ (by simp [Value.oneCell']) (by have := Hmk.out; simp only [maxLen]; omega) (by have := Hmk.out; omega) (by simp; omega) ?_
           intro v5 w5 hown5 hg5 hat5
           have Hown5 := Lib.hid (Hown2.out.push (x.1, v2) Hx2.out Hap2.out ((Below.refl _ _).alloc (Nat.le_refl _) _) hg5 hown5 hat5)
           have Hb5 := Lib.hid (((Hbw.out.trans (Hb2.out.mono hsw)).alloc (Nat.le_trans hsw hs2) (.cells #[.int .i64 x.1.num, .int .i64 x.1.kd, .int .i64 x.1.fr, .int .i64 x.1.un, .slice v2.a x.1.rg.length v2.c] 54)).grown hg5 (by simp; omega) (own_base Hown2.out.o))
           clear hown5 hg5 hat5)
        | fail)
      go_roundw
      case rel =>
        exact ⟨k + 1, m ++ [(x.1, v2)], by omega, by go_num, by rw [List.length_append, Hmk.out]; rfl, Hstep.out v2, Hown5.out, Hb5.out⟩
      case measure => simp [intOf]; omega
    · have hkn' : ¬ (k : Int) < (n : Int) := by omega
      have Hend : Hid (fts m = fts l) := Lib.hid (by rw [Hfm.out, List.take_of_length_le (by rw [fts_len, Hln.out]; omega)])
      go_wp2
      go_ret
      exact ⟨m, _, rfl, Hown.out, Hend.out, Hbw.out⟩
end Go.Proofs.YtfmkmhhghmdakaaGreatDoor
namespace Go.Proofs.YtfmkmhhghmdakaaGreatDoor
open Go.RowKit Go.Shelf
set_option linter.unusedVariables false
set_option linter.unusedSimpArgs false

theorem isThere_eq (d : Int) (x : Ft) : isThere d x = (decide (x.fr ≤ d) && decide (d < x.un)) := rfl
set_option maxHeartbeats 1000000 in
theorem there_any (x : Ft) (v : LV) (d : Int) (w : World) :
    Calls Tryz.prog 70 #[.agg #[.int .i64 x.num, .int .i64 x.kd, .int .i64 x.fr, .int .i64 x.un, .slice v.a x.rg.length v.c], .int .i64 d] w fun e w' => e = .returned (.bool (isThere d x)) ∧ Below w.heap.size w w' := by
  rw [isThere_eq]
  obtain ⟨num, kd, fr, un, rg⟩ := x
  dsimp only
  generalize rg.length = n
  by_cases c1 : fr ≤ d
  · by_cases c2 : d < un
    · have c1d : decide (fr ≤ d) = true := decide_eq_true c1
      have c2d : decide (d < un) = true := decide_eq_true c2
      rw [c1d, c2d]
      go_enter Tryz.func70, Tryz.ntmps70
      go_upto_region 1 with fail
      obtain ⟨w1, hw1⟩ : ∃ w1 : World, w1 = w.alloc (.cells #[.int .i64 num, .int .i64 kd, .int .i64 fr, .int .i64 un, .slice v.a n v.c] 54) := ⟨_, rfl⟩
      rw [← hw1]
      have hr1 : w1.heap[w.heap.size]? = some (.cells #[.int .i64 num, .int .i64 kd, .int .i64 fr, .int .i64 un, .slice v.a n v.c] 54 (0, 0)) := by rw [hw1]; exact heap_alloc_new w _
      have Hb1 : Hid (Below w.heap.size w w1) := Lib.hid (by rw [hw1]; exact (by repeat' (first | with_reducible exact Below.refl _ _ | with_reducible refine below_drewN ?_ _ | with_reducible refine Below.drew ?_ | with_reducible refine Below.alloc ?_ ?_ _ | with_reducible refine Below.setCell ?_ ?_ _ | with_reducible refine Below.trans ?_ (Below.mono (by with_reducible assumption) ?_) | (simp; done) | (simp; omega) | omega)))
      have d2 := cell_of_row _ _ 2 _ _ _ hr1
      have d3 := cell_of_row _ _ 3 _ _ _ hr1
      clear hw1 hr1
      go_wp2
      go_ret
      exact ⟨rfl, Hb1.out⟩
    · have c1d : decide (fr ≤ d) = true := decide_eq_true c1
      have c2d : decide (d < un) = false := decide_eq_false c2
      rw [c1d, c2d]
      go_enter Tryz.func70, Tryz.ntmps70
      go_upto_region 1 with fail
      obtain ⟨w1, hw1⟩ : ∃ w1 : World, w1 = w.alloc (.cells #[.int .i64 num, .int .i64 kd, .int .i64 fr, .int .i64 un, .slice v.a n v.c] 54) := ⟨_, rfl⟩
      rw [← hw1]
      have hr1 : w1.heap[w.heap.size]? = some (.cells #[.int .i64 num, .int .i64 kd, .int .i64 fr, .int .i64 un, .slice v.a n v.c] 54 (0, 0)) := by rw [hw1]; exact heap_alloc_new w _
      have Hb1 : Hid (Below w.heap.size w w1) := Lib.hid (by rw [hw1]; exact (by repeat' (first | with_reducible exact Below.refl _ _ | with_reducible refine below_drewN ?_ _ | with_reducible refine Below.drew ?_ | with_reducible refine Below.alloc ?_ ?_ _ | with_reducible refine Below.setCell ?_ ?_ _ | with_reducible refine Below.trans ?_ (Below.mono (by with_reducible assumption) ?_) | (simp; done) | (simp; omega) | omega)))
      have d2 := cell_of_row _ _ 2 _ _ _ hr1
      have d3 := cell_of_row _ _ 3 _ _ _ hr1
      clear hw1 hr1
      go_wp2
      go_ret
      exact ⟨rfl, Hb1.out⟩
  · have c1d : decide (fr ≤ d) = false := decide_eq_false c1
    rw [c1d]
    go_enter Tryz.func70, Tryz.ntmps70
    go_upto_region 1 with fail
    obtain ⟨w1, hw1⟩ : ∃ w1 : World, w1 = w.alloc (.cells #[.int .i64 num, .int .i64 kd, .int .i64 fr, .int .i64 un, .slice v.a n v.c] 54) := ⟨_, rfl⟩
    rw [← hw1]
    have hr1 : w1.heap[w.heap.size]? = some (.cells #[.int .i64 num, .int .i64 kd, .int .i64 fr, .int .i64 un, .slice v.a n v.c] 54 (0, 0)) := by rw [hw1]; exact heap_alloc_new w _
    have Hb1 : Hid (Below w.heap.size w w1) := Lib.hid (by rw [hw1]; exact (by repeat' (first | with_reducible exact Below.refl _ _ | with_reducible refine below_drewN ?_ _ | with_reducible refine Below.drew ?_ | with_reducible refine Below.alloc ?_ ?_ _ | with_reducible refine Below.setCell ?_ ?_ _ | with_reducible refine Below.trans ?_ (Below.mono (by with_reducible assumption) ?_) | (simp; done) | (simp; omega) | omega)))
    have d2 := cell_of_row _ _ 2 _ _ _ hr1
    have d3 := cell_of_row _ _ 3 _ _ _ hr1
    clear hw1 hr1
    go_wp2
    go_ret
    exact ⟨rfl, Hb1.out⟩
set_option maxHeartbeats 1000000 in
theorem on1_any (x : Ft) (v : LV) (g : Nat) (d : Int) (w : World) (hd : w.cell? ⟨g, 0, none⟩ = some (.int .i64 d)) (hg : g < w.heap.size) :
    Calls Tryz.prog 69 #[.agg #[.int .i64 x.num, .int .i64 x.kd, .int .i64 x.fr, .int .i64 x.un, .slice v.a x.rg.length v.c], .pointer (some ⟨g, 0, none⟩)] w fun e w' => e = .returned (.bool (!isThere d x)) ∧ Below w.heap.size w w' := by
  have HT := Lib.hid (fun W => there_any x v d W)
  obtain ⟨num, kd, fr, un, rg⟩ := x
  dsimp only at HT ⊢
  generalize isThere d ⟨num, kd, fr, un, rg⟩ = b at *
  generalize rg.length = n at *
  have Hd := Lib.hid hd
  clear hd
  go_enter Tryz.func69, Tryz.ntmps69
  go_upto_region 1 with fail
  obtain ⟨w1, hw1⟩ : ∃ w1 : World, w1 = w.alloc (.cells #[.int .i64 num, .int .i64 kd, .int .i64 fr, .int .i64 un, .slice v.a n v.c] 54) := ⟨_, rfl⟩
  rw [← hw1]
  have hr1 : w1.heap[w.heap.size]? = some (.cells #[.int .i64 num, .int .i64 kd, .int .i64 fr, .int .i64 un, .slice v.a n v.c] 54 (0, 0)) := by rw [hw1]; exact heap_alloc_new w _
  have Hb1 : Hid (Below w.heap.size w w1) := Lib.hid (by rw [hw1]; exact (by repeat' (first | with_reducible exact Below.refl _ _ | with_reducible refine below_drewN ?_ _ | with_reducible refine Below.drew ?_ | with_reducible refine Below.alloc ?_ ?_ _ | with_reducible refine Below.setCell ?_ ?_ _ | with_reducible refine Below.trans ?_ (Below.mono (by with_reducible assumption) ?_) | (simp; done) | (simp; omega) | omega)))
  have hs1 : w.heap.size ≤ w1.heap.size := Hb1.out.size
  have hd1 := (Hb1.out.cell (p := ⟨g, 0, none⟩) hg).trans Hd.out
  have d0 := cell_of_row _ _ 0 _ _ _ hr1
  have d1 := cell_of_row _ _ 1 _ _ _ hr1
  have d2 := cell_of_row _ _ 2 _ _ _ hr1
  have d3 := cell_of_row _ _ 3 _ _ _ hr1
  have d4 := cell_of_row _ _ 4 _ _ _ hr1
  clear hw1 hr1
  go_wp2_with (first
    | (go_at_call 70; refine (HT.out _).mono ?_; rintro e w2 ⟨rfl, hb2⟩; have Hb2 := Lib.hid hb2; clear hb2)
    | fail)
  go_ret
  exact ⟨rfl, Hb1.out.trans (Hb2.out.mono hs1)⟩
set_option maxHeartbeats 1000000 in
theorem right_any (A : Option Addr) (n c : Nat) (l : FtL) (d : Int) (w : World) (hA : SlFt w A n c l) (hl : LyOk (fts l)) (hd : 0 ≤ d ∧ d ≤ 36864) :
    Calls Tryz.prog 66 #[.slice A n c, .int .i64 d] w fun e w' => e = .returned (.int .i64 0) ∧ Below w.heap.size w w' := by
  have HC := Lib.hid (checkFt_any A n c l w hA hl)
  have n1 : ¬ d < 0 := by omega
  have n2 : ¬ (36864 : Int) < d := by omega
  clear hA hl
  go_enter Tryz.func66, Tryz.ntmps66
  go_wp2_with (first
    | (go_at_call 174; refine HC.out.mono ?_; rintro e w2 ⟨rfl, hb2⟩; have Hb2 := Lib.hid hb2; clear hb2)
    | fail)
  go_ret
  exact ⟨rfl, Hb2.out⟩
/-- The first feature that is not there. -/
def IdxOk (d : Int) (l : List Ft) (k : Int) : Prop := (k = -1 ∧ onP l d = l) ∨ ∃ j : Nat, k = (j : Int) ∧ j < l.length ∧ onP (l.take (j + 1)) d = l.take j
theorem onP_snoc (l : List Ft) (x : Ft) (d : Int) : onP (l ++ [x]) d = if isThere d x = true then onP l d ++ [x] else onP l d := by
  unfold onP
  rw [List.filter_append]
  by_cases h : isThere d x = true <;> simp [h]
theorem onP_take (l : List Ft) (d : Int) (k : Nat) (h : k < l.length) : onP (l.take (k + 1)) d = if isThere d l[k] = true then onP (l.take k) d ++ [l[k]] else onP (l.take k) d := by
  rw [List.take_succ_eq_append_getElem h, onP_snoc]
set_option maxHeartbeats 2000000 in
theorem index9_any (g : Nat) (d : Int) (A : Option Addr) (n c : Nat) (l : FtL) (w : World) (hA : SlFt w A n c l) (hn : n ≤ 60) (hd : w.cell? ⟨g, 0, none⟩ = some (.int .i64 d)) (hg : g < w.heap.size) :
    Calls Tryz.prog 175 #[.slice A n c, .func (.func 69) #[] #[.pointer (some ⟨g, 0, none⟩)]] w fun e w' => ∃ k : Int, e = .returned (.int .i64 k) ∧ IdxOk d (fts l) k ∧ Below w.heap.size w w' := by
  have HA := Lib.hid hA
  have Hln := Lib.hid hA.len
  have Hd := Lib.hid hd
  clear hA hd
  go_enter Tryz.func175, Tryz.ntmps175
  go_upto_region 2 with fail
  go_loopw [5, 8] (fun _ iv wr => ∃ k : Nat, k ≤ n ∧ iv = .int .i64 (k : Int) ∧ onP ((fts l).take k) d = (fts l).take k ∧ Below w.heap.size w wr) (fun _ iv _ => n - (intOf iv).toNat)
  case atStart => exact ⟨0, Nat.zero_le _, rfl, rfl, Below.refl _ _⟩
  case round =>
    obtain ⟨k, hk, rfl, hno, hbw⟩ := hrel
    obtain ⟨wo, rfl⟩ : ∃ wo : World, wo = wr := ⟨_, rfl⟩
    have Hno := Lib.hid hno
    have Hbw := Lib.hid hbw
    have hsw := hbw.size
    clear hno hbw
    by_cases hkn : k < n
    · have hkn' : (k : Int) < (n : Int) := by omega
      have hkl : k < l.length := by rw [Hln.out]; exact hkn
      have hkf : k < (fts l).length := by rw [fts_len]; exact hkl
      obtain ⟨b, off, rfl, hbl, c0, c1, c2, c3, c4, hS⟩ := (HA.out.below Hbw.out).at k hkl
      have HO := Lib.hid (on1_any l[k].1 l[k].2 g d wo ((Hbw.out.cell (p := ⟨g, 0, none⟩) hg).trans Hd.out) (by omega))
      have Ht := Lib.hid (onP_take (fts l) d k hkf)
      rw [fts_get l k hkl, Hno.out] at Ht
      have Hs := Lib.hid (List.take_succ_eq_append_getElem hkf)
      rw [fts_get l k hkl] at Hs
      obtain ⟨x, hx⟩ : ∃ x, x = l[k] := ⟨_, rfl⟩
      rw [← hx] at c0 c1 c2 c3 c4 HO Ht Hs
      clear hS hx
      cases hq : isThere d x.1 with
      | true =>
        rw [hq] at HO Ht
        clear hq
        go_wp2_with (first
          | (go_at_call 69; refine HO.out.mono ?_; rintro e w2 ⟨rfl, hb2⟩; have Hb2 := Lib.hid (Hbw.out.trans (hb2.mono hsw)); clear hb2)
          | fail)
        go_roundw
        case rel => exact ⟨k + 1, by omega, by go_num, by rw [Ht.out, Hs.out]; rfl, Hb2.out⟩
        case measure => simp [intOf]; omega
      | false =>
        rw [hq] at HO Ht
        clear hq
        go_wp2_with (first
          | (go_at_call 69; refine HO.out.mono ?_; rintro e w2 ⟨rfl, hb2⟩; have Hb2 := Lib.hid (Hbw.out.trans (hb2.mono hsw)); clear hb2)
          | fail)
        go_ret
        exact ⟨_, rfl, .inr ⟨k, rfl, hkf, by rw [Ht.out]; rfl⟩, Hb2.out⟩
    · have hkn' : ¬ (k : Int) < (n : Int) := by omega
      have Hall : Hid (onP (fts l) d = fts l) := Lib.hid (by have := Hno.out; rwa [List.take_of_length_le (by rw [fts_len, Hln.out]; omega)] at this)
      go_wp2
      go_ret
      exact ⟨_, rfl, .inl ⟨rfl, Hall.out⟩, Hbw.out⟩
end Go.Proofs.YtfmkmhhghmdakaaGreatDoor
namespace Go.Proofs.YtfmkmhhghmdakaaGreatDoor
open Go.RowKit Go.Shelf
set_option linter.unusedVariables false
set_option linter.unusedSimpArgs false

theorem ftCells_set : ∀ (m : FtL) (i : Nat) (y : Ft × LV), i < m.length → ftCells (m.set i y) = (((((ftCells m).set (i * 5) (.int .i64 y.1.num)).set (i * 5 + 1) (.int .i64 y.1.kd)).set (i * 5 + 2) (.int .i64 y.1.fr)).set (i * 5 + 3) (.int .i64 y.1.un)).set (i * 5 + 4) (.slice y.2.a y.1.rg.length y.2.c)
  | [], i, y, h => by simp at h
  | x :: t, 0, y, _ => by simp [ftCells, ftC]
  | x :: t, i + 1, y, h => by
    have ih := ftCells_set t i y (by simpa using h)
    have e : ∀ (y : Ft × LV) (s : FtL), ftCells (y :: s) = .int .i64 y.1.num :: .int .i64 y.1.kd :: .int .i64 y.1.fr :: .int .i64 y.1.un :: .slice y.2.a y.1.rg.length y.2.c :: ftCells s := fun y s => by simp [ftCells, ftC]
    rw [List.set_cons_succ, e, e, ih, show (i + 1) * 5 = i * 5 + 5 from by omega]
    rfl
/-- clear of some features. -/
theorem run_clear_ft (w : World) (ty : TypeId) (g o m c : Nat) (cur : Array Value) (hg : w.heap[g]? = some (.cells cur 54 (0, 0))) (ho : o + m * 5 ≤ cur.size) (hm : 0 < m) :
    ∃ zs : List Value, zs.length = m * 5 ∧ (Builtin.clear_ #[51] ty #[.slice (some ⟨g, o, none⟩) m c]).run Tryz.prog w = .ok (.tuple #[]) (w.setRow g (cur.toList.take o ++ zs ++ cur.toList.drop (o + m * 5)).toArray) := by
  obtain ⟨Z, hZ⟩ : ∃ Z : Array Value, Z = #[.int .i64 0, .int .i64 0, .int .i64 0, .int .i64 0, .slice none 0 0] := ⟨_, rfl⟩
  have hzl : (Builtin.zeroCells Z m).toList.length = m * 5 := by rw [Array.length_toList, size_zeroCells, hZ]; rfl
  have h1 : ∀ v ∈ (Builtin.zeroCells Z m).toList, v.oneCell' = true := by
    intro v hv
    unfold Builtin.zeroCells at hv
    rw [Array.toList_map, List.mem_map] at hv
    obtain ⟨i, hi, rfl⟩ := hv
    have h5 : i % Z.size < 5 := by rw [hZ]; exact Nat.mod_lt _ (by decide)
    generalize i % Z.size = k at h5 ⊢
    rw [hZ]
    rcases (show k = 0 ∨ k = 1 ∨ k = 2 ∨ k = 3 ∨ k = 4 by omega) with rfl | rfl | rfl | rfl | rfl <;> rfl
  have hst := run_storeCells_at (P := Tryz.prog) g o 54 (Builtin.zeroCells Z m).toList 0 cur w hg (by rw [hzl]; omega) h1
  have hz : ∀ w : World, (zeroValue 54).run Tryz.prog w = .ok (.agg Z) w := fun w => by rw [hZ]; kernel_rfl
  obtain ⟨m, rfl⟩ : ∃ k, m = k + 1 := ⟨m - 1, by omega⟩
  refine ⟨(Builtin.zeroCells Z (m + 1)).toList, hzl, ?_⟩
  simp only [Nat.add_zero, hzl] at hst
  simp [Builtin.clear_, run_underlying Tryz.underlying51, hz, Value.cells, hst]
theorem only_setRow9 {a w : World} {g : Nat} (h : a.grownBy w (some g)) (b : Nat) (cs : Array Value) (hb : b = g ∨ a.heap.size ≤ b) : a.grownBy (w.setRow b cs) (some g) :=
  ⟨h.os, h.tape, h.output, by simp [World.setRow]; exact h.size, fun i hi hne => by
    rw [← h.block i hi hne]
    have hib : b ≠ i := by
      rintro rfl
      rcases hb with rfl | hb
      · exact hne rfl
      · omega
    simp [World.setRow, Array.getElem?_modify, hib]⟩
/-- The head of a row of one's own, behind a clear of its tail. -/
theorem own_head {w w' : World} {base g n cap i : Nat} {zs : List Value} {m : FtL} {cur : Array Value} (hb : base ≤ g) (hg : w.heap[g]? = some (.cells cur 54 (0, 0))) (hsz : cur.size = cap * 5) (hcap : n ≤ cap) (hmx : cap ≤ maxLen) (ht : cur.toList.take (n * 5) = ftCells m) (hm : m.length = n) (hi : i ≤ n) (hz : zs.length = (n - i) * 5) :
    (w.setRow g (cur.toList.take (i * 5) ++ zs ++ cur.toList.drop (i * 5 + (n - i) * 5)).toArray).ownsRow base 54 5 (.slice (some ⟨g, 0, none⟩) i cap) i (ftCells (m.take i)) := by
  have hti : (m.take i).length = i := by rw [List.length_take]; omega
  refine ⟨by rw [ftCells_len, hti], .inr ⟨g, cap, _, rfl, hb, setRow_heap w g cur _ _ _ hg, by omega, hmx, ?_, ?_⟩⟩
  · simp only [List.size_toArray, List.length_append, List.length_take, List.length_drop, Array.length_toList, hsz, hz]
    omega
  · simp only [List.append_assoc]
    rw [List.take_append_of_le_length (by simp only [List.length_take, Array.length_toList, hsz]; omega), List.take_take, Nat.min_self, ftCells_take, ← ht, List.take_take, Nat.min_eq_left (by omega)]
theorem FtOwn.mem {w w' : World} {base : Nat} {v v' : Value} {l m : FtL} (h : FtOwn w base v l) (hk : ∀ b, v.ownBlock ≠ some b → b < w.heap.size → w'.heap[b]? = w.heap[b]?) (hm : ∀ x ∈ m, x ∈ l) (ho : w'.ownsRow base 54 5 v' m.length (ftCells m)) (hv : v'.ownBlock = v.ownBlock) : FtOwn w' base v' m := by
  refine ⟨ho, fun x hx => ?_, fun x hx g hg => h.ap x (hm x hx) g (by rw [← hv]; exact hg)⟩
  obtain ⟨h1, h2⟩ := h.fs x (hm x hx)
  refine ⟨h1, ?_⟩
  rcases h2 with h2 | ⟨g', cap, cur, e, hb, hh, r⟩
  · exact .inl h2
  · have hlt : g' < w.heap.size := by
      rcases Nat.lt_or_ge g' w.heap.size with h | h
      · exact h
      · rw [Array.getElem?_eq_none h] at hh; cases hh
    refine .inr ⟨g', cap, cur, e, hb, (hk g' (fun hg => ?_) hlt).trans hh, r⟩
    have := h.ap x (hm x hx) g' hg
    rw [e] at this
    exact this rfl

set_option maxHeartbeats 8000000 in
set_option maxRecDepth 100000 in
theorem delete9_any (w0 w : World) (g : Nat) (d : Int) (A : Option Addr) (n c : Nat) (l : FtL) (hb : Below w0.heap.size w0 w) (hown : FtOwn w w0.heap.size (.slice A n c) l) (hln : l.length = n) (hn : n ≤ 60) (hd : w.cell? ⟨g, 0, none⟩ = some (.int .i64 d)) (hg : g < w.heap.size) (hga : ∀ k, (Value.slice A n c).ownBlock = some k → k ≠ g) :
    Calls Tryz.prog 67 #[.slice A n c, .func (.func 69) #[] #[.pointer (some ⟨g, 0, none⟩)]] w (AllPost w0 (onP (fts l) d)) := by
  have HI := Lib.hid (index9_any g d A n c l w (by have := hln; subst this; exact hown.sl) hn hd hg)
  have Hb := Lib.hid hb
  have Hown := Lib.hid hown
  have Hln := Lib.hid hln
  have Hd := Lib.hid hd
  have Hga := Lib.hid hga
  have hs0 : w0.heap.size ≤ w.heap.size := hb.size
  clear hb hown hln hd hga
  go_enter Tryz.func67, Tryz.ntmps67
  go_upto_region 2 with (first
    | (go_at_call 175; refine HI.out.mono ?_; rintro e w1 ⟨k0, rfl, hidx, hb1⟩; have Hidx := Lib.hid hidx; have Hb1 := Lib.hid hb1; have hs1 := hb1.size; clear hidx hb1)
    | fail)
  rcases Hidx.out with ⟨rfl, hall⟩ | ⟨j0, rfl, hj0, htk⟩
  · go_wp2
    go_ret
    exact ⟨l, _, rfl, Hown.out.below Hb1.out, hall.symm, Hb.out.trans (Hb1.out.mono hs0)⟩
  · have hj0n : j0 < n := by rw [fts_len, Hln.out] at hj0; exact hj0
    have Htk := Lib.hid htk
    have hnn : ¬ ((j0 : Int) = -1) := by omega
    have hnq : ((j0 : Int) == -1) = false := by simp
    obtain ⟨J0, hJ0⟩ : ∃ J0 : Nat, J0 = j0 + 1 := ⟨_, rfl⟩
    have HJ0 := Lib.hid hJ0
    have hw0 : IntKind.i64.wrap ((j0 : Int) + 1) = (J0 : Int) := by rw [hJ0, show ((j0 : Int) + 1) = ((j0 + 1 : Nat) : Int) from by omega]; exact IntWalk.i64_in _ (by omega)
    clear hJ0
    clear htk hj0
    obtain ⟨gA, cA, hA, hgb, hgl, hnc, hcm, -, -⟩ := own_at (Hown.out.o) (by rw [Hln.out]; omega)
    injection hA with e1 e2 e3
    subst e1 e3
    clear e2
    have hgA : gA ≠ g := Hga.out gA rfl
    replace hnc : n ≤ c := by have := Hln.out; omega
    unfold maxLen at hcm
    go_upto_region 5 with fail
    go_loopw [5, 6, 7] (fun iv jv _ wr => ∃ (i j : Nat) (m : FtL), iv = .int .i64 (i : Int) ∧ jv = .int .i64 (j : Int) ∧ i < j ∧ j ≤ n ∧ m.length = n ∧ (∀ x ∈ m, x ∈ l) ∧ fts (m.take i) = onP ((fts l).take j) d ∧ m.drop j = l.drop j ∧ FtOwn wr w0.heap.size (.slice (some ⟨gA, 0, none⟩) n c) m ∧ w1.grownBy wr (some gA)) (fun _ jv _ _ => n - (intOf jv).toNat)
    case atStart => exact ⟨j0, J0, l, rfl, rfl, by have := HJ0.out; omega, by have := HJ0.out; omega, Hln.out, fun x hx => hx, by rw [HJ0.out, Htk.out]; simp [fts, List.map_take], rfl, Hown.out.below Hb1.out, World.grownBy.refl _ _⟩
    case round =>
      obtain ⟨i, j, m, rfl, rfl, hij, hjn, hmn, hmem, hti, hdj, hom, hgr⟩ := hrel
      obtain ⟨wo, rfl⟩ : ∃ wo : World, wo = wr := ⟨_, rfl⟩
      have Hmn := Lib.hid hmn
      have Hmem := Lib.hid hmem
      have Hti := Lib.hid hti
      have Hdj := Lib.hid hdj
      have Hom := Lib.hid hom
      have Hgr := Lib.hid hgr
      have hso := hgr.size
      clear hmn hmem hti hdj hom hgr
      by_cases hlt : j < n
      · have hlt' : (j : Int) < (n : Int) := by omega
        have hmj : j < m.length := by rw [Hmn.out]; exact hlt
        have hlj : j < l.length := by rw [Hln.out]; exact hlt
        have hlf : j < (fts l).length := by rw [fts_len]; exact hlj
        have heq : m[j] = l[j] := by
          have h1 : (m.drop j)[0]? = (l.drop j)[0]? := by rw [Hdj.out]
          rw [List.getElem?_drop, List.getElem?_drop, Nat.add_zero, List.getElem?_eq_getElem hmj, List.getElem?_eq_getElem hlj] at h1
          exact Option.some.inj h1
        have Ht := Lib.hid (onP_take (fts l) d j hlf)
        rw [fts_get l j hlj, ← heq, ← Hti.out] at Ht
        have Hmj : Hid (m[j] ∈ m) := Lib.hid (List.getElem_mem hmj)
        have Hd2 : Hid (m.drop (j + 1) = l.drop (j + 1)) := Lib.hid (by
          have := congrArg (List.drop 1) Hdj.out
          rwa [List.drop_drop, List.drop_drop] at this)
        obtain ⟨b', off', hbe, hbl, c0, c1, c2, c3, c4, hS⟩ := (show SlFt wo (some ⟨gA, 0, none⟩) m.length c m from (by have := Hom.out; rw [← Hmn.out] at this; exact this.sl)).at j hmj
        injection hbe with hbe
        injection hbe with hb1 hb2
        subst hb1 hb2
        rw [Nat.zero_add] at c0 c1 c2 c3 c4
        obtain ⟨x, hx⟩ : ∃ x, x = m[j] := ⟨_, rfl⟩
        rw [← hx] at c0 c1 c2 c3 c4 hS Ht Hmj heq
        clear hS hx heq
        go_upto_region 8 with fail
        obtain ⟨wa, hwa⟩ : ∃ wa : World, wa = wo.alloc (.cells #[.int .i64 x.1.num, .int .i64 x.1.kd, .int .i64 x.1.fr, .int .i64 x.1.un, .slice x.2.a x.1.rg.length x.2.c] 54) := ⟨_, rfl⟩
        rw [← hwa]
        have hra : wa.heap[wo.heap.size]? = some (.cells #[.int .i64 x.1.num, .int .i64 x.1.kd, .int .i64 x.1.fr, .int .i64 x.1.un, .slice x.2.a x.1.rg.length x.2.c] 54 (0, 0)) := by rw [hwa]; exact heap_alloc_new wo _
        have Hra := Lib.hid hra
        have Hba : Hid (Below wo.heap.size wo wa) := Lib.hid (by rw [hwa]; exact (by repeat' (first | with_reducible exact Below.refl _ _ | with_reducible refine below_drewN ?_ _ | with_reducible refine Below.drew ?_ | with_reducible refine Below.alloc ?_ ?_ _ | with_reducible refine Below.setCell ?_ ?_ _ | with_reducible refine Below.trans ?_ (Below.mono (by with_reducible assumption) ?_) | (simp; done) | (simp; omega) | omega)))
        have hsa : wo.heap.size < wa.heap.size := by rw [hwa]; simp
        have HO := Lib.hid (on1_any x.1 x.2 g d wa (by
          have h1 := World.cell?_of_block (a := ⟨g, 0, none⟩) ((Hba.out.block g (by omega)).trans (Hgr.out.block g (by omega) (fun e => by injection e with e; exact hgA e.symm)))
          rw [h1]
          exact (Hb1.out.cell (p := ⟨g, 0, none⟩) hg).trans Hd.out) (by omega))
        have d0 := cell_of_row _ _ 0 _ _ _ hra
        have d1 := cell_of_row _ _ 1 _ _ _ hra
        have d2 := cell_of_row _ _ 2 _ _ _ hra
        have d3 := cell_of_row _ _ 3 _ _ _ hra
        have d4 := cell_of_row _ _ 4 _ _ _ hra
        clear hwa hra c0 c1 c2 c3 c4
        cases hq : isThere d x.1 with
        | false =>
          rw [hq] at HO Ht
          clear hq
          go_wp2_with (first
            | (go_at_call 69; refine HO.out.mono ?_; rintro e w2 ⟨rfl, hb2⟩; have Hb2 := Lib.hid (Hba.out.trans (hb2.mono (by omega))); clear hb2)
            | fail)
          go_roundw
          case rel => exact ⟨i, j + 1, m, rfl, by go_num, by omega, by omega, Hmn.out, Hmem.out, by rw [Ht.out]; rfl, Hd2.out, Hom.out.below Hb2.out, only_below Hgr.out Hb2.out hso⟩
          case measure => simp [intOf]; omega
        | true =>
          rw [hq] at HO Ht
          clear hq
          go_upto_region 9 with (first
            | (go_at_call 69
               refine HO.out.mono ?_
               rintro e w2 ⟨rfl, hb2⟩
               have hrb := (hb2.block wo.heap.size hsa).trans Hra.out
               have Hb2 := Lib.hid (Hba.out.trans (hb2.mono (by omega)))
               have Ho2 := Lib.hid (Hom.out.below Hb2.out)
               have Hg2 := Lib.hid (only_below Hgr.out Hb2.out hso)
               have f0 := cell_of_row _ _ 0 _ _ _ hrb
               have f1 := cell_of_row _ _ 1 _ _ _ hrb
               have f2 := cell_of_row _ _ 2 _ _ _ hrb
               have f3 := cell_of_row _ _ 3 _ _ _ hrb
               have f4 := cell_of_row _ _ 4 _ _ _ hrb
               clear hrb hb2 d0 d1 d2 d3 d4)
            | fail)
          have him : i < m.length := by rw [Hmn.out]; omega
          obtain ⟨k0, k1, k2, k3, k4⟩ := ftCells_at m i him
          obtain ⟨hcell, hfr⟩ : (∀ j u, (ftCells m)[j]? = some u → w2.cell? ⟨gA, j, none⟩ = some u) ∧ ∀ j, w2.frozen? ⟨gA, j, none⟩ = false := by
            obtain ⟨g', c', hAe, _, _, _, _, h1, h2⟩ := own_at Ho2.out.o (by rw [Hmn.out]; omega)
            injection hAe with e1 _ _
            injection e1 with e1
            injection e1 with e1
            subst e1
            exact ⟨h1, h2⟩
          have s0 := hcell _ _ k0
          have s1 := hcell _ _ k1
          have s2 := hcell _ _ k2
          have s3 := hcell _ _ k3
          have s4 := hcell _ _ k4
          have t0 := hfr (i * 5)
          have t1 := hfr (i * 5 + 1)
          have t2 := hfr (i * 5 + 2)
          have t3 := hfr (i * 5 + 3)
          have t4 := hfr (i * 5 + 4)
          have hin' : (i : Int) < (n : Int) := by omega
          have hin2 : i < n := by omega
          clear k0 k1 k2 k3 k4 hcell hfr
          go_wp2
          go_roundw
          case rel =>
            have Hset : Hid (FtOwn (((((w2.setCell ⟨gA, i * 5, none⟩ (.int .i64 x.1.num)).setCell ⟨gA, i * 5 + 1, none⟩ (.int .i64 x.1.kd)).setCell ⟨gA, i * 5 + 2, none⟩ (.int .i64 x.1.fr)).setCell ⟨gA, i * 5 + 3, none⟩ (.int .i64 x.1.un)).setCell ⟨gA, i * 5 + 4, none⟩ (.slice x.2.a x.1.rg.length x.2.c)) w0.heap.size (.slice (some ⟨gA, 0, none⟩) n c) (m.set i x)) := Lib.hid (by
              refine Ho2.out.mem (fun b hne hb => ?_) (fun y hy => ?_) ?_ rfl
              · have hne2 : b ≠ gA := fun e => hne (by rw [e]; rfl)
                rw [Below.heap_setCell _ _ _ _ hne2, Below.heap_setCell _ _ _ _ hne2, Below.heap_setCell _ _ _ _ hne2, Below.heap_setCell _ _ _ _ hne2, Below.heap_setCell _ _ _ _ hne2]
              · rcases List.mem_or_eq_of_mem_set hy with h | rfl
                · exact h
                · exact Hmj.out
              · rw [List.length_set, ftCells_set m i x him]
                have h5 := Ho2.out.o
                rw [Hmn.out] at h5 ⊢
                exact own_setN (own_setN (own_setN (own_setN (own_setN h5 _ _) _ _) _ _) _ _) _ _)
            refine ⟨i + 1, j + 1, m.set i x, by go_num, by go_num, by omega, by omega, by rw [List.length_set]; exact Hmn.out, fun y hy => ?_, ?_, ?_, Hset.out, ?_⟩
            · rcases List.mem_or_eq_of_mem_set hy with h | rfl
              · exact Hmem.out _ h
              · exact Hmem.out _ Hmj.out
            · rw [Ht.out, if_pos trivial, List.take_succ_eq_append_getElem (by rw [List.length_set]; exact him), List.getElem_set_self, List.take_set_of_le (Nat.le_refl _)]
              simp [fts]
            · rw [List.drop_set_of_lt (by omega)]; exact Hd2.out
            · exact only_setCell (only_setCell (only_setCell (only_setCell (only_setCell Hg2.out (.inl rfl) _) (.inl rfl) _) (.inl rfl) _) (.inl rfl) _) (.inl rfl) _
          case measure => simp [intOf]; omega
      · have hlt' : ¬ (j : Int) < (n : Int) := by omega
        obtain rfl : j = n := by omega
        have Hend : Hid (fts (m.take i) = onP (fts l) d) := Lib.hid (by rw [Hti.out, List.take_of_length_le (by rw [fts_len, Hln.out]; omega)])
        have hin : (i : Int) ≤ (j : Int) := by omega
        have hic : (i : Int) ≤ (c : Int) := by omega
        have hi0 : (0 : Int) ≤ (i : Int) := by omega
        have hci : ¬ c = i := by omega
        have hci2 : ¬ (c : Int) = (i : Int) := by omega
        have ho := Hom.out.o
        rw [Hmn.out] at ho
        obtain ⟨_, h2⟩ := ho
        rcases h2 with ⟨h3, _⟩ | ⟨g', cap', cur, h3, hgb2, hgh, hcap2, hmx2, hsz2, htk2⟩
        · cases h3
        injection h3 with e1 _ e3
        injection e1 with e1
        injection e1 with e1
        subst e1 e3
        obtain ⟨zs, hzs, hclr⟩ := run_clear_ft wo 0 gA (i * 5) (j - i) (c - i) cur hgh (by rw [hsz2]; omega) (by omega)
        have Hown9 := Lib.hid (own_head (w' := wo) hgb2 hgh hsz2 hcap2 hmx2 htk2 Hmn.out (Nat.le_of_lt hij) hzs)
        have Hcl := Lib.hid hclr
        have Hgh := Lib.hid hgh
        obtain ⟨cur3, hcur3⟩ : ∃ c3, (cur.toList.take (i * 5) ++ zs ++ cur.toList.drop (i * 5 + (j - i) * 5)).toArray = c3 := ⟨_, rfl⟩
        rw [hcur3] at Hown9 Hcl
        have hclr0 := Hcl.out
        clear hgh hsz2 htk2 hcur3 hclr hzs hgb2
        go_wp2
        go_ret
        have hgw : w1.grownBy (wo.setRow gA cur3) (some gA) := only_setRow9 Hgr.out gA cur3 (.inl rfl)
        refine ⟨m.take i, _, rfl, Hom.out.mem (fun b hne hb => ?_) (fun x hx => List.mem_of_mem_take hx) (by rw [show (m.take i).length = i from by rw [List.length_take, Hmn.out]; omega]; exact Hown9.out) rfl, Hend.out, below_only (Hb.out.trans (Hb1.out.mono hs0)) hgw (by omega) (by omega)⟩
        have hne2 : gA ≠ b := fun e => hne (by rw [← e]; rfl)
        simp [World.setRow, Array.getElem?_modify, hne2]
set_option maxHeartbeats 4000000 in
theorem on_any (A : Option Addr) (n c : Nat) (l : FtL) (d : Int) (w : World) (hA : SlFt w A n c l) (hl : LyOk (fts l)) (hd : 0 ≤ d ∧ d ≤ 36864) :
    Calls Tryz.prog 19 #[.slice A n c, .int .i64 d] w fun e w' => ∃ (m : FtL) (v : Value), e = .returned (.tuple #[v, .int .i64 0]) ∧ FtOwn w' w.heap.size v m ∧ fts m = onP (fts l) d ∧ Below w.heap.size w w' := by
  have HA := Lib.hid hA
  have HL := Lib.hid hl
  have Hln := Lib.hid hA.len
  have hl60 := hl.len
  clear hA hl
  go_enter Tryz.func19, Tryz.ntmps19
  go_upto_region 1 with fail
  obtain ⟨w1, hw1⟩ : ∃ w1 : World, w1 = w.alloc (.cells #[.int .i64 d] 3) := ⟨_, rfl⟩
  rw [← hw1]
  have hr1 : w1.heap[w.heap.size]? = some (.cells #[.int .i64 d] 3 (0, 0)) := by rw [hw1]; exact heap_alloc_new w _
  have Hr1 := Lib.hid hr1
  have Hb1 : Hid (Below w.heap.size w w1) := Lib.hid (by rw [hw1]; exact (by repeat' (first | with_reducible exact Below.refl _ _ | with_reducible refine below_drewN ?_ _ | with_reducible refine Below.drew ?_ | with_reducible refine Below.alloc ?_ ?_ _ | with_reducible refine Below.setCell ?_ ?_ _ | with_reducible refine Below.trans ?_ (Below.mono (by with_reducible assumption) ?_) | (simp; done) | (simp; omega) | omega)))
  have hs1 : w.heap.size < w1.heap.size := by rw [hw1]; simp
  have HA1 := Lib.hid (HA.out.below Hb1.out)
  have d1 := cell_of_row _ _ 0 _ _ _ hr1
  clear hw1 hr1
  go_wp2_with (first
    | (go_at_call 66
       refine (right_any A n c l d _ HA1.out HL.out hd).mono ?_
       rintro e w2 ⟨rfl, hb2⟩
       have Hb2 := Lib.hid (Hb1.out.trans (hb2.mono (by omega)))
       have Hr2 := Lib.hid ((hb2.block w.heap.size hs1).trans Hr1.out)
       have HA2 := Lib.hid (HA1.out.below hb2)
       have hs2 : w.heap.size < w2.heap.size := Nat.lt_of_lt_of_le hs1 hb2.size
       clear hb2 d1)
    | (go_at_call 68
       refine (all_any A n c l _ HA2.out HL.out).mono ?_
       rintro e w3 ⟨m, v, rfl, hown3, hfm, hb3⟩
       obtain ⟨A3, c3, rfl, _, _, _⟩ := own_slice hown3.o
       have Hr3 := Lib.hid ((hb3.block w.heap.size hs2).trans Hr2.out)
       have hml : m.length ≤ 60 := by have h := congrArg List.length hfm; rw [fts_len] at h; omega
       have HD := Lib.hid (delete9_any w w3 w.heap.size d A3 m.length c3 m (Hb2.out.trans (hb3.mono (by omega))) (hown3.rebase (by omega)) rfl hml (cell_of_row _ _ 0 _ _ _ Hr3.out) (Nat.lt_of_lt_of_le hs2 hb3.size) (fun k hk e => by have := own_base hown3.o k hk; omega))
       rw [hfm] at HD
       obtain ⟨nm, hnm⟩ : ∃ nm, m.length = nm := ⟨_, rfl⟩
       rw [hnm] at HD ⊢
       clear hown3 hb3 hfm hml hnm)
    | (go_at_call 67
       refine HD.out.mono ?_
       rintro e w4 ⟨m4, v4, rfl, hown4, hfm4, hb4⟩
       have Hown4 := Lib.hid hown4
       have Hfm4 := Lib.hid hfm4
       have Hb4 := Lib.hid hb4
       clear hown4 hfm4 hb4)
    | fail)
  go_ret2
  exact ⟨m4, v4, rfl, Hown4.out, Hfm4.out, Hb4.out⟩
end Go.Proofs.YtfmkmhhghmdakaaGreatDoor
namespace Go.Proofs.YtfmkmhhghmdakaaGreatDoor
open Go.RowKit Go.Shelf
set_option linter.unusedVariables false
set_option linter.unusedSimpArgs false

theorem own_keep {w w' : World} {base : Nat} {e : TypeId} {size n : Nat} {v : Value} {xs : List Value} (h : w.ownsRow base e size v n xs) (hk : ∀ b, b < w.heap.size → base ≤ b → w'.heap[b]? = w.heap[b]?) : w'.ownsRow base e size v n xs := by
  obtain ⟨h1, h2⟩ := h
  refine ⟨h1, ?_⟩
  rcases h2 with h2 | ⟨g', cap, cur, rfl, hb, hh, r⟩
  · exact .inl h2
  · have hlt : g' < w.heap.size := by
      rcases Nat.lt_or_ge g' w.heap.size with h | h
      · exact h
      · rw [Array.getElem?_eq_none h] at hh; cases hh
    exact .inr ⟨g', cap, cur, rfl, hb, (hk g' hlt hb).trans hh, r⟩
theorem own_lt {w : World} {base : Nat} {e : TypeId} {size n : Nat} {v : Value} {xs : List Value} (h : w.ownsRow base e size v n xs) : ∀ g, v.ownBlock = some g → g < w.heap.size := by
  intro g hg
  rcases h.2 with ⟨rfl, _⟩ | ⟨g', cap, cur, rfl, _, hh, _⟩
  · simp [Value.ownBlock] at hg
  · have e : g' = g := by simpa [Value.ownBlock] using hg
    subst e
    rcases Nat.lt_or_ge g' w.heap.size with h | h
    · exact h
    · rw [Array.getElem?_eq_none h] at hh; cases hh
theorem own_grown {w w' : World} {base : Nat} {e : TypeId} {size n : Nat} {v : Value} {xs : List Value} {row : Option Nat} (h : w.ownsRow base e size v n xs) (hg : w.grownBy w' row) (hr : ∀ g, v.ownBlock = some g → row ≠ some g) : w'.ownsRow base e size v n xs := by
  obtain ⟨h1, h2⟩ := h
  refine ⟨h1, ?_⟩
  rcases h2 with h2 | ⟨g', cap, cur, rfl, hb, hh, r⟩
  · exact .inl h2
  · have hlt : g' < w.heap.size := by
      rcases Nat.lt_or_ge g' w.heap.size with h | h
      · exact h
      · rw [Array.getElem?_eq_none h] at hh; cases hh
    exact .inr ⟨g', cap, cur, rfl, hb, (hg.block g' hlt (fun e => hr g' (by simp [Value.ownBlock]) e.symm)).trans hh, r⟩
theorem own_setNe {w : World} {base : Nat} {e : TypeId} {size n : Nat} {v : Value} {xs : List Value} (h : w.ownsRow base e size v n xs) {p : Addr} (hp : ∀ g, v.ownBlock = some g → g ≠ p.block) (u : Value) : (w.setCell p u).ownsRow base e size v n xs :=
  own_grown h (only_setCell (World.grownBy.refl _ _) (.inl rfl) u) (fun g hg e => hp g hg (by injection e with e; exact e.symm))

end Go.Proofs.YtfmkmhhghmdakaaGreatDoor

namespace Go.Proofs.YtfmkmhhghmdakaaGreatDoor
open Go.RowKit Go.Shelf
set_option linter.unusedVariables false
set_option linter.unusedSimpArgs false

/-- Regions that lie in a world. -/
abbrev GS (w : World) := { x : List R4 × LV // SlR w x.2.a x.1.length x.2.c x.1 }
instance (w : World) : Inhabited (GS w) := ⟨⟨([], ⟨none, 0⟩), SlR.nil w⟩⟩
def gsOf {w : World} {l : RL} (h : ∀ x ∈ l, SlR w x.2.a x.1.length x.2.c x.1) : List (GS w) := l.attach.map fun x => ⟨x.1, h x.1 x.2⟩
theorem gsOf_len {w : World} {l : RL} (h : ∀ x ∈ l, SlR w x.2.a x.1.length x.2.c x.1) : (gsOf h).length = l.length := by simp [gsOf]
theorem gsOf_get {w : World} {l : RL} (h : ∀ x ∈ l, SlR w x.2.a x.1.length x.2.c x.1) (j : Nat) (hj : j < l.length) : ((gsOf h)[j]'(by rw [gsOf_len]; exact hj)).1 = l[j] := by simp [gsOf]
theorem gsOf_any {w : World} {l : RL} (h : ∀ x ∈ l, SlR w x.2.a x.1.length x.2.c x.1) (q : List R4 × LV → Bool) : (gsOf h).any (fun x => q x.1) = l.any q := by
  rw [Bool.eq_iff_iff, List.any_eq_true, List.any_eq_true]
  constructor
  · rintro ⟨x, hx, hq⟩
    obtain ⟨y, hy, rfl⟩ := List.mem_map.1 hx
    exact ⟨y.1, y.2, hq⟩
  · rintro ⟨x, hx, hq⟩
    exact ⟨⟨x, h x hx⟩, List.mem_map.2 ⟨⟨x, hx⟩, List.mem_attach _ _, rfl⟩, hq⟩

set_option maxHeartbeats 1000000 in
theorem containsG_any (p : List R4 × LV → Bool) (f : Nat) (lb : Array Value) (eg : ∀ args w, (callFunc f args).run Tryz.prog w = .ok (.enter f args) w) (A : Option Addr) (n c : Nat) (l : RL) (w : World) (hA : SlG w A n c l)
    (hp : PredBelow Tryz.prog f lb (fun x : GS w => .agg #[rgC x.1]) (fun x => p x.1) w) :
    Calls Tryz.prog 71 #[.slice A n c, .func (.func f) #[] lb] w fun e w' => e = .returned (.bool (l.any p)) ∧ Below w.heap.size w w' := by
  have hx := hA.len
  have hn := Nat.le_trans hA.cap hA.top
  unfold maxLen at hn
  rcases Nat.eq_zero_or_pos n with h0 | h0
  · subst h0
    obtain rfl : l = [] := List.length_eq_zero_iff.1 hx
    clear hA hp eg
    go_enter Tryz.func71, Tryz.ntmps71
    go_wp2
    go_loop [8] (fun i => i = .int .i64 0) (fun _ => 0)
    case atStart => rfl
    case round =>
      subst hrel
      go_wp2
      go_ret
      exact ⟨rfl, Below.refl _ _⟩
  · obtain ⟨b1, o1, rfl, hb1, hc1⟩ := hA.lies.resolve_left (by omega)
    have hgl := gsOf_len hA.fits
    refine (AnyQ.slices_ContainsFunc Tryz.layContainsRegion 1 Tryz.isAgg33 Tryz.sizeOf33 (fun x : GS w => [rgC x.1]) (fun _ => rfl) (fun x => p x.1) f lb eg b1 o1 n c (gsOf hA.fits) w hp (by omega) (by omega) hb1 ?_).mono ?_
    · intro j hj i v hv
      have hj' : j < l.length := by omega
      rw [getElem!_pos (gsOf hA.fits) j (by omega), gsOf_get hA.fits j hj'] at hv
      have hi : i = 0 := by
        rcases Nat.eq_zero_or_pos i with h | h
        · exact h
        · rw [List.getElem?_eq_none (by simp; omega)] at hv; cases hv
      subst hi
      simp at hv
      subst hv
      rw [Nat.mul_one, Nat.add_zero]
      exact hc1 j _ (by simp [rgCells, hj'])
    · rintro e w' ⟨rfl, hb⟩
      rw [List.take_of_length_le (by omega), gsOf_any hA.fits p]
      exact ⟨rfl, hb⟩

set_option maxHeartbeats 400000 in
theorem validF (w : World) : PredBelow Tryz.prog 72 #[] (fun x : GS w => .agg #[rgC x.1]) (fun x => !validP x.1.1) w := by
  intro W x hb
  obtain ⟨⟨l, v⟩, hx⟩ := x
  refine Calls.mono (show Calls Tryz.prog 72 #[.agg #[.slice v.a l.length v.c]] W fun e w' => e = .returned (.bool (!validP l)) ∧ Below W.heap.size W w' from ?_) ?_
  · have HV := Lib.hid (fun W' (hW : Below W.heap.size W W') => valid_any v.a l.length v.c l W' ((hx.below hb).below hW))
    generalize validP l = x at *
    clear hx
    go_enter Tryz.func72, Tryz.ntmps72
    go_wp2_with (first | (go_at_call 48; refine (HV.out _ (by repeat' (first | with_reducible exact Below.refl _ _ | with_reducible refine below_drewN ?_ _ | with_reducible refine Below.drew ?_ | with_reducible refine Below.alloc ?_ ?_ _ | with_reducible refine Below.setCell ?_ ?_ _ | with_reducible refine Below.trans ?_ (Below.mono (by with_reducible assumption) ?_) | (simp; done) | (simp; omega) | omega))).mono ?_; rintro e w1 ⟨rfl, hb1⟩) | fail)
    go_ret
    exact ⟨rfl, (by repeat' (first | with_reducible exact Below.refl _ _ | with_reducible assumption | with_reducible refine below_drewN ?_ _ | with_reducible refine Below.drew ?_ | with_reducible refine Below.alloc ?_ ?_ _ | with_reducible refine Below.setCell ?_ ?_ _ | with_reducible refine Below.trans ?_ (Below.mono (by with_reducible assumption) ?_) | with_reducible refine below_only ?_ (by with_reducible assumption) ?_ ?_ | (simp; done) | (simp; omega) | omega))⟩
  · rintro e w' ⟨rfl, h⟩
    exact ⟨rfl, hb.trans (h.mono hb.size)⟩

set_option maxHeartbeats 1000000 in
theorem canonical_big (A : Option Addr) (n c : Nat) (l : List R4) (w : World) (hA : SlR w A n c l) (hn1 : n ≤ 50000) (hc1 : (cutsP l).length ≤ 100) (hl : ∀ q ∈ l, q.l < q.r) :
    Calls Tryz.prog 134 #[.slice A n c] w fun e w' => ∃ v, e = .returned v ∧ w'.ownsRow w.heap.size 68 4 v (canonP l).length (rCells (canonP l)) ∧ Below w.heap.size w w' := by
  have hn := hA.len
  have HA := Lib.hid hA
  have Hl := Lib.hid hl
  have Hcl := Lib.hid hc1
  clear hc1
  have Hflat : Hid (cutsP [l].flatten = cutsP l) := Lib.hid (by simp)
  have Hcan : Hid (buildP (rowP l) (cutsP l) = canonP l) := Lib.hid rfl
  have Hrl := Lib.hid (fun y => rowP_len l y)
  have eg : ∀ args w, (callFunc 218 args).run Tryz.prog w = .ok (.enter 218 args) w := enters_of Tryz.func218 (by kernel_rfl) rfl
  have Eg := Lib.hid eg
  clear hA hl eg
  go_enter Tryz.func134, Tryz.ntmps134
  go_wp2_with (first
    | (go_at_call 137
       refine (cuts_any (some ⟨w.heap.size + 1, 0, none⟩) 1 1 [l] _ rfl (by omega) (fun i hi => ⟨w.heap.size + 1, 0, A, n, c, rfl, by simp, by obtain rfl : i = 0 := (by simpa using hi); exact cell_of_row _ (w.heap.size + 1) 0 _ _ _ (heap_alloc2_new w _ _), by obtain rfl : i = 0 := (by simpa using hi); exact HA.out.below (by repeat' (first | with_reducible exact Below.refl _ _ | with_reducible refine below_drewN ?_ _ | with_reducible refine Below.drew ?_ | with_reducible refine Below.alloc ?_ ?_ _ | with_reducible refine Below.setCell ?_ ?_ _ | with_reducible refine Below.trans ?_ (Below.mono (by with_reducible assumption) ?_) | (simp; done) | (simp; omega) | omega))⟩) (by simp; omega)).mono ?_
       rintro e w1 ⟨v1, rfl, hown1, hb1⟩
       rw [Hflat.out] at hown1
       obtain ⟨C, cc, rfl, hC⟩ := SlI.of_own hown1
       have HC := Lib.hid hC
       have Hb1 : Hid (Below w.heap.size w w1) := Lib.hid (show Below w.heap.size w w1 from (by have hbq := hb1; exact (by repeat' (first | with_reducible exact Below.refl _ _ | with_reducible assumption | with_reducible refine below_drewN ?_ _ | with_reducible refine Below.drew ?_ | with_reducible refine Below.alloc ?_ ?_ _ | with_reducible refine Below.setCell ?_ ?_ _ | with_reducible refine Below.trans ?_ (Below.mono (by with_reducible assumption) ?_) | with_reducible refine below_only ?_ (by with_reducible assumption) ?_ ?_ | (simp; done) | (simp; omega) | omega))))
       have hs1 : w.heap.size < w1.heap.size := (by have := hb1.size; simp at this; omega)
       have cg1 : w1.cell? ⟨w.heap.size, 0, none⟩ = some (.slice A n c) := (hb1.cell (p := ⟨w.heap.size, 0, none⟩) (by simp; omega)).trans (cell_of_row _ w.heap.size 0 _ _ _ ((Below.heap_alloc _ _ _ (by simp)).trans (heap_alloc_new w _)))
       clear hown1 hb1 hC)
    | (go_at_call 136
       refine (build_any 218 #[.pointer (some ⟨w.heap.size, 0, none⟩)] (rowP l) n C (cutsP l).length cc (cutsP l) w1 HC.out (by have := Hcl.out; omega) (fun y => by have := Hrl.out y; omega) (by omega) (by have h1 := Nat.mul_le_mul_right n Hcl.out; omega) Eg.out (fun W y hW => canonRow_any w.heap.size A n c l y W ((hW.cell (p := ⟨w.heap.size, 0, none⟩) hs1).trans cg1) (HA.out.below (Hb1.out.trans (hW.mono (Nat.le_of_lt hs1)))) (by omega) Hl.out)).mono ?_
       rintro e w2 ⟨v2, rfl, hown2, hb2⟩
       rw [Hcan.out] at hown2
       have Hown2 := Lib.hid hown2
       have Hb2 := Lib.hid hb2
       clear hown2 hb2)
    | fail)
  go_ret
  exact ⟨v2, rfl, own_rebase Hown2.out (Nat.le_of_lt hs1), Hb1.out.trans (Hb2.out.mono (Nat.le_of_lt hs1))⟩

/-- What Limited and Joined return. -/
def limP (l : List R4) : List R4 × Int := if 120 < l.length then ([], 1) else (l, 0)
set_option maxHeartbeats 1000000 in
theorem joined_big (A : Option Addr) (n c : Nat) (l : List R4) (w : World) (hA : SlR w A n c l) (hn1 : n ≤ 50000) (hc1 : (cutsP l).length ≤ 100) (hl : ∀ q ∈ l, q.l < q.r) :
    Calls Tryz.prog 76 #[.slice A n c] w (RegPost w (limP (canonP l))) := by
  have HC := Lib.hid (fun W (hW : Below w.heap.size w W) => canonical_big A n c l W (hA.below hW) hn1 hc1 hl)
  generalize canonP l = k at *
  clear hA hl hc1
  by_cases hk : 120 < k.length
  · have e0 : limP k = ([], 1) := by unfold limP; rw [if_pos hk]
    rw [e0]
    clear e0
    go_enter Tryz.func76, Tryz.ntmps76
    go_wp2_with (first
      | (go_at_call 134; refine (HC.out _ (by repeat' (first | with_reducible exact Below.refl _ _ | with_reducible refine below_drewN ?_ _ | with_reducible refine Below.drew ?_ | with_reducible refine Below.alloc ?_ ?_ _ | with_reducible refine Below.setCell ?_ ?_ _ | with_reducible refine Below.trans ?_ (Below.mono (by with_reducible assumption) ?_) | (simp; done) | (simp; omega) | omega))).mono ?_; rintro e w2 ⟨v2, rfl, hown2, hb2⟩; have hr2 : w2.heap[w.heap.size]? = some (.cells #[.slice none 0 0] 33 (0, 0)) := (hb2.block _ (by simp)).trans (heap_alloc_new w _); have Hr2 := Lib.hid hr2; have hs2 : w.heap.size < w2.heap.size := (by have := hb2.size; simp at this; omega); obtain ⟨C, cc, rfl, -⟩ := SlR.of_own hown2; have Hb2 : Hid (Below w.heap.size w w2) := Lib.hid (show Below w.heap.size w w2 from (by have hbq := hb2; exact (by repeat' (first | with_reducible exact Below.refl _ _ | with_reducible assumption | with_reducible refine below_drewN ?_ _ | with_reducible refine Below.drew ?_ | with_reducible refine Below.alloc ?_ ?_ _ | with_reducible refine Below.setCell ?_ ?_ _ | with_reducible refine Below.trans ?_ (Below.mono (by with_reducible assumption) ?_) | with_reducible refine below_only ?_ (by with_reducible assumption) ?_ ?_ | (simp; done) | (simp; omega) | omega)))); clear hown2 hb2 hr2)
      | (go_at_call 56; refine (limited_big C k.length cc _ hk).mono ?_; rintro e w3 ⟨rfl, hb3⟩; have hr3 : w3.heap[w.heap.size]? = some (.cells #[.slice none 0 0] 33 (0, 0)) := (hb3.block _ hs2).trans Hr2.out; have cr3 := cell_of_row w3 w.heap.size 0 _ _ _ hr3; have fr3 := frozen_of_row w3 w.heap.size 0 _ _ hr3; have csame : (w3.setCell ⟨w.heap.size, 0, none⟩ (.slice none 0 0)).cell? ⟨w.heap.size, 0, none⟩ = some (.slice none 0 0) := (by rw [cell_of_row _ w.heap.size 0 _ _ _ (heap_setCell_same w3 w.heap.size 0 _ _ _ hr3)]; simp); have Hb3 := Lib.hid hb3; clear hb3 hr3)
      | fail)
    refine bodyPost_ret (v := .tuple #[.agg #[.slice none 0 0], .int .i64 1]) (by simp [results, Tryz.results76, go_sem, *]) rfl ?_
    exact ⟨_, rfl, World.ownsRow_nil _ _ _ _, (Hb2.out.trans (Hb3.out.mono (Nat.le_of_lt hs2))).setCell (Nat.le_refl _) _⟩
  · have e0 : limP k = (k, 0) := by unfold limP; rw [if_neg hk]
    rw [e0]
    clear e0
    have hk' : k.length ≤ 120 := by omega
    go_enter Tryz.func76, Tryz.ntmps76
    go_wp2_with (first
      | (go_at_call 134; refine (HC.out _ (by repeat' (first | with_reducible exact Below.refl _ _ | with_reducible refine below_drewN ?_ _ | with_reducible refine Below.drew ?_ | with_reducible refine Below.alloc ?_ ?_ _ | with_reducible refine Below.setCell ?_ ?_ _ | with_reducible refine Below.trans ?_ (Below.mono (by with_reducible assumption) ?_) | (simp; done) | (simp; omega) | omega))).mono ?_; rintro e w2 ⟨v2, rfl, hown2, hb2⟩; have hr2 : w2.heap[w.heap.size]? = some (.cells #[.slice none 0 0] 33 (0, 0)) := (hb2.block _ (by simp)).trans (heap_alloc_new w _); have Hr2 := Lib.hid hr2; have hs2 : w.heap.size < w2.heap.size := (by have := hb2.size; simp at this; omega); obtain ⟨C, cc, rfl, -⟩ := SlR.of_own hown2; have Hown2 := Lib.hid hown2; have Hb2 : Hid (Below w.heap.size w w2) := Lib.hid (show Below w.heap.size w w2 from (by have hbq := hb2; exact (by repeat' (first | with_reducible exact Below.refl _ _ | with_reducible assumption | with_reducible refine below_drewN ?_ _ | with_reducible refine Below.drew ?_ | with_reducible refine Below.alloc ?_ ?_ _ | with_reducible refine Below.setCell ?_ ?_ _ | with_reducible refine Below.trans ?_ (Below.mono (by with_reducible assumption) ?_) | with_reducible refine below_only ?_ (by with_reducible assumption) ?_ ?_ | (simp; done) | (simp; omega) | omega)))); clear hown2 hb2 hr2)
      | (go_at_call 56; refine (limited_ok C k.length cc _ hk').mono ?_; rintro e w3 ⟨rfl, hb3⟩; have hr3 : w3.heap[w.heap.size]? = some (.cells #[.slice none 0 0] 33 (0, 0)) := (hb3.block _ hs2).trans Hr2.out; have cr3 := cell_of_row w3 w.heap.size 0 _ _ _ hr3; have fr3 := frozen_of_row w3 w.heap.size 0 _ _ hr3; have csame : (w3.setCell ⟨w.heap.size, 0, none⟩ (.slice C k.length cc)).cell? ⟨w.heap.size, 0, none⟩ = some (.slice C k.length cc) := (by rw [cell_of_row _ w.heap.size 0 _ _ _ (heap_setCell_same w3 w.heap.size 0 _ _ _ hr3)]; simp); have Hown3 := Lib.hid (ownsRow_below Hown2.out hb3); have Hb3 := Lib.hid hb3; clear hb3 hr3)
      | fail)
    refine bodyPost_ret (v := .tuple #[.agg #[.slice C k.length cc], .int .i64 0]) (by simp [results, Tryz.results76, go_sem, *]) rfl ?_
    have hlow := own_base Hown3.out
    refine ⟨_, rfl, ?_, (Hb2.out.trans (Hb3.out.mono (Nat.le_of_lt hs2))).setCell (Nat.le_refl _) _⟩
    exact own_other (own_rebase Hown3.out (by simp)) (only_setCell (g := w.heap.size) (World.grownBy.refl _ _) (.inl rfl) _) (fun k hk e => by injection e with e; have := hlow k hk; simp at this; omega)
end Go.Proofs.YtfmkmhhghmdakaaGreatDoor
namespace Go.Proofs.YtfmkmhhghmdakaaGreatDoor
open Go.RowKit Go.Shelf
set_option linter.unusedVariables false
set_option linter.unusedSimpArgs false

/-- Of which kind a kind is. -/
def sortK (k : Int) : Int := if k ≤ 7 then 0 else if k ≤ 11 then 1 else 2
set_option maxHeartbeats 4000000 in
theorem sort_any9 (k : Int) (h : 0 ≤ k ∧ k ≤ 15) (w : World) : Calls Tryz.prog 255 #[.int .i64 k] w fun e w' => e = .returned (.int .i64 (sortK k)) ∧ w' = w := by
  rcases (show k = 0 ∨ k = 1 ∨ k = 2 ∨ k = 3 ∨ k = 4 ∨ k = 5 ∨ k = 6 ∨ k = 7 ∨ k = 8 ∨ k = 9 ∨ k = 10 ∨ k = 11 ∨ k = 12 ∨ k = 13 ∨ k = 14 ∨ k = 15 by omega) with rfl | rfl | rfl | rfl | rfl | rfl | rfl | rfl | rfl | rfl | rfl | rfl | rfl | rfl | rfl | rfl
  all_goals go_enter Tryz.func255, Tryz.ntmps255
  all_goals go_wp2
  all_goals go_ret
  all_goals exact ⟨rfl, rfl⟩
set_option maxHeartbeats 1000000 in
theorem of1_any (k wh : Int) (hk : 0 ≤ k ∧ k ≤ 15) (g : Nat) (w : World) (hc : w.cell? ⟨g, 0, none⟩ = some (.int .i64 wh)) :
    Calls Tryz.prog 254 #[.int .i64 k, .pointer (some ⟨g, 0, none⟩)] w fun e w' => e = .returned (.bool (decide (sortK k = wh))) ∧ Below w.heap.size w w' := by
  have HS := Lib.hid (sort_any9 k hk)
  obtain ⟨s, hs⟩ : ∃ s, sortK k = s := ⟨_, rfl⟩
  rw [hs] at HS ⊢
  clear hs
  go_enter Tryz.func254, Tryz.ntmps254
  go_upto_region 1 with fail
  go_region_held3 (fun w' => w'.cell? ⟨g, 0, none⟩ = some (.int .i64 wh)) (first | go_keep | ((repeat' apply And.intro) <;> go_keep))
    (first
      | (go_at_call 255; refine (HS.out _).mono ?_; rintro e w' ⟨rfl, rfl⟩)
      | fail)
  all_goals go_wp2
  all_goals go_ret
  all_goals exact ⟨(by first | rfl | simp), (by repeat' (first | with_reducible exact Below.refl _ _ | with_reducible refine below_drewN ?_ _ | with_reducible refine Below.drew ?_ | with_reducible refine Below.alloc ?_ ?_ _ | with_reducible refine Below.setCell ?_ ?_ _ | with_reducible refine Below.trans ?_ (Below.mono (by with_reducible assumption) ?_) | (simp; done) | (simp; omega) | omega))⟩
/-- The rectangles of the features that are there, and are of a kind of kinds. -/
def pickD (l : List Ft) (d wh : Int) : List R4 := (l.filter fun f => isThere d f && decide (sortK f.kd = wh)).flatMap Ft.rg
theorem pickD_take (l : List Ft) (d wh : Int) (k : Nat) (h : k < l.length) : pickD (l.take (k + 1)) d wh = if (isThere d l[k] && decide (sortK l[k].kd = wh)) = true then pickD (l.take k) d wh ++ l[k].rg else pickD (l.take k) d wh := by
  unfold pickD
  rw [List.take_succ_eq_append_getElem h, List.filter_append, List.flatMap_append]
  by_cases hc : (isThere d l[k] && decide (sortK l[k].kd = wh)) = true
  · rw [if_pos hc]; congr 1; rw [List.filter_cons, if_pos hc]; simp
  · rw [if_neg hc, List.filter_cons, if_neg hc]; simp
theorem pickD_len (l : List Ft) (d wh : Int) (b : Nat) (h : ∀ x ∈ l, x.rg.length ≤ b) : (pickD l d wh).length ≤ b * l.length := by
  unfold pickD
  induction l with
  | nil => simp
  | cons x t ih =>
    have h1 := ih fun y hy => h y (List.mem_cons_of_mem _ hy)
    have h2 := h x (by simp)
    rw [List.filter_cons, List.length_cons, Nat.mul_add]
    split
    · rw [List.flatMap_cons, List.length_append]; omega
    · omega
theorem cuts9_len (l : List R4) : (cutsP l).length ≤ 2 * l.length := by
  refine Nat.le_trans (asc_all _).2.2 (Nat.le_of_eq ?_)
  induction l with
  | nil => rfl
  | cons q t ih => simp [yEdges] at *; omega
theorem SlR.rd {w : World} {A : Option Addr} {n c : Nat} {l : List R4} (h : SlR w A n c l) : Reads w w.heap.size 4 A n (rCells l) := h.lies.reads (size := 4) (by rw [rCells_len, h.len])
set_option maxHeartbeats 4000000 in
set_option maxRecDepth 100000 in
theorem rects_any9 (A : Option Addr) (n c g : Nat) (l : FtL) (d wh : Int) (w : World) (hA : SlFt w A n c l) (hl : LyOk (fts l)) (hc : w.cell? ⟨g, 0, none⟩ = some (.int .i64 wh)) (hg : g < w.heap.size) :
    Calls Tryz.prog 253 #[.slice A n c, .int .i64 d, .func (.func 254) #[] #[.pointer (some ⟨g, 0, none⟩)]] w fun e w' => ∃ v, e = .returned v ∧ w'.ownsRow w.heap.size 68 4 v (pickD (fts l) d wh).length (rCells (pickD (fts l) d wh)) ∧ Below w.heap.size w w' := by
  obtain ⟨i0, hi, hz0, hz1, hz2⟩ := info_parts Tryz.infoRect
  have hln := hA.len
  have hn60 : n ≤ 60 := by have := hl.len; rw [fts_len] at this; omega
  have HA := Lib.hid hA
  have HL := Lib.hid hl
  have Hln := Lib.hid hln
  have Hc := Lib.hid hc
  clear hA hl hln hc
  go_enter Tryz.func253, Tryz.ntmps253
  go_upto_region 3 with fail
  go_loopw [7, 9, 12] (fun lv _ iv wr => ∃ k : Nat, k ≤ n ∧ iv = .int .i64 (k : Int) ∧ wr.ownsRow w.heap.size 68 4 lv (pickD ((fts l).take k) d wh).length (rCells (pickD ((fts l).take k) d wh)) ∧ Below w.heap.size w wr) (fun _ _ iv _ => n - (intOf iv).toNat)
  case atStart => exact ⟨0, Nat.zero_le _, rfl, World.ownsRow_nil _ _ _ _, Below.refl _ _⟩
  case round =>
    obtain ⟨k, hk, rfl, hown, hbw⟩ := hrel
    obtain ⟨wo, rfl⟩ : ∃ wo : World, wo = wr := ⟨_, rfl⟩
    have Hown := Lib.hid hown
    have Hbw := Lib.hid hbw
    have hsw := hbw.size
    clear hown hbw
    by_cases hkn : k < n
    · have hkn' : (k : Int) < (n : Int) := by omega
      have hkl : k < l.length := by rw [Hln.out]; exact hkn
      have hkf : k < (fts l).length := by rw [fts_len]; exact hkl
      obtain ⟨b, off, rfl, hbl, c0, c1, c2, c3, c4, hS⟩ := (HA.out.below Hbw.out).at k hkl
      have hok := HL.out.ok l[k].1 (List.mem_map_of_mem (List.getElem_mem hkl))
      have hrl : l[k].1.rg.length ≤ 120 := (valid_parts hok.rg).1
      have hkd := hok.kd
      have Hs := Lib.hid (pickD_take (fts l) d wh k hkf)
      rw [fts_get l k hkl] at Hs
      have hPl : (pickD ((fts l).take k) d wh).length ≤ 120 * 60 := by
        refine Nat.le_trans (pickD_len _ d wh 120 fun x hx => (valid_parts (HL.out.ok x (List.mem_of_mem_take hx)).rg).1) (Nat.mul_le_mul_left _ ?_)
        rw [List.length_take]; omega
      obtain ⟨x, hx⟩ : ∃ x, x = l[k] := ⟨_, rfl⟩
      rw [← hx] at c0 c1 c2 c3 c4 hS hrl hkd Hs
      have HS := Lib.hid hS
      have HP : Hid ((pickD ((fts l).take (k + 1)) d wh) = (pickD ((fts l).take (k + 1)) d wh)) := Lib.hid rfl
      have HT := Lib.hid (fun W => there_any x.1 x.2 d W)
      have HO := Lib.hid (fun W (h : W.cell? ⟨g, 0, none⟩ = some (.int .i64 wh)) => of1_any x.1.kd wh hkd g W h)
      generalize pickD ((fts l).take k) d wh = P at *
      generalize decide (sortK x.1.kd = wh) = b2 at *
      generalize isThere d x.1 = b1 at *
      clear hS hok hx hkd
      go_upto_region 5 with fail
      obtain ⟨w1, hw1⟩ : ∃ w1 : World, w1 = wo.alloc (.cells #[.int .i64 x.1.num, .int .i64 x.1.kd, .int .i64 x.1.fr, .int .i64 x.1.un, .slice x.2.a x.1.rg.length x.2.c] 54) := ⟨_, rfl⟩
      rw [← hw1]
      have hr1 : w1.heap[wo.heap.size]? = some (.cells #[.int .i64 x.1.num, .int .i64 x.1.kd, .int .i64 x.1.fr, .int .i64 x.1.un, .slice x.2.a x.1.rg.length x.2.c] 54 (0, 0)) := by rw [hw1]; exact heap_alloc_new wo _
      have Hr1 := Lib.hid hr1
      have Hb1 : Hid (Below wo.heap.size wo w1) := Lib.hid (by rw [hw1]; exact (by repeat' (first | with_reducible exact Below.refl _ _ | with_reducible refine below_drewN ?_ _ | with_reducible refine Below.drew ?_ | with_reducible refine Below.alloc ?_ ?_ _ | with_reducible refine Below.setCell ?_ ?_ _ | with_reducible refine Below.trans ?_ (Below.mono (by with_reducible assumption) ?_) | (simp; done) | (simp; omega) | omega)))
      have hs1 : wo.heap.size < w1.heap.size := by rw [hw1]; simp
      have d0 := cell_of_row _ _ 0 _ _ _ hr1
      have d1 := cell_of_row _ _ 1 _ _ _ hr1
      have d2 := cell_of_row _ _ 2 _ _ _ hr1
      have d3 := cell_of_row _ _ 3 _ _ _ hr1
      have d4 := cell_of_row _ _ 4 _ _ _ hr1
      clear hw1 hr1 c0 c1 c2 c3 c4
      cases b1 with
      | false =>
        go_wp2_with (first
          | (go_at_call 70
             refine (HT.out _).mono ?_
             rintro e w2 ⟨rfl, hb2⟩
             have hr2 := (hb2.block wo.heap.size hs1).trans Hr1.out
             have Hr2 := Lib.hid hr2
             have Hb2 := Lib.hid (Hb1.out.trans (hb2.mono (by omega)))
             have hs2 : wo.heap.size < w2.heap.size := Nat.lt_of_lt_of_le hs1 hb2.size
             have e1 := cell_of_row _ _ 1 _ _ _ hr2
             have e4 := cell_of_row _ _ 4 _ _ _ hr2
             clear hb2 hr2 d0 d1 d2 d3 d4)
          | fail)
        go_roundw
        case rel => exact ⟨k + 1, by omega, by go_num, by rw [Hs.out]; exact ownsRow_below Hown.out Hb2.out, Hbw.out.trans (Hb2.out.mono hsw)⟩
        case measure => simp [intOf]; omega
      | true =>
        cases b2 with
        | false =>
          go_wp2_with (first
            | (go_at_call 70
               refine (HT.out _).mono ?_
               rintro e w2 ⟨rfl, hb2⟩
               have hr2 := (hb2.block wo.heap.size hs1).trans Hr1.out
               have Hr2 := Lib.hid hr2
               have Hb2 := Lib.hid (Hb1.out.trans (hb2.mono (by omega)))
               have hs2 : wo.heap.size < w2.heap.size := Nat.lt_of_lt_of_le hs1 hb2.size
               have e1 := cell_of_row _ _ 1 _ _ _ hr2
               have e4 := cell_of_row _ _ 4 _ _ _ hr2
               clear hb2 hr2 d0 d1 d2 d3 d4)
            | (go_at_call 254
               refine (HO.out _ ((Hb2.out.cell (p := ⟨g, 0, none⟩) (by show g < wo.heap.size; omega)).trans ((Hbw.out.cell (p := ⟨g, 0, none⟩) hg).trans Hc.out))).mono ?_
               rintro e w3 ⟨rfl, hb3⟩
               have hr3 := (hb3.block wo.heap.size hs2).trans Hr2.out
               have Hb3 := Lib.hid (Hb2.out.trans (hb3.mono (by omega)))
               have hs3 : wo.heap.size ≤ w3.heap.size := Nat.le_trans (Nat.le_of_lt hs2) hb3.size
               have g4 := cell_of_row _ _ 4 _ _ _ hr3
               clear hb3 hr3 e1 e4)
            | fail)
          go_roundw
          case rel => exact ⟨k + 1, by omega, by go_num, by rw [Hs.out]; exact ownsRow_below Hown.out Hb3.out, Hbw.out.trans (Hb3.out.mono hsw)⟩
          case measure => simp [intOf]; omega
        | true =>
          go_wp2_with (first
            | (go_at_call 70
               refine (HT.out _).mono ?_
               rintro e w2 ⟨rfl, hb2⟩
               have hr2 := (hb2.block wo.heap.size hs1).trans Hr1.out
               have Hr2 := Lib.hid hr2
               have Hb2 := Lib.hid (Hb1.out.trans (hb2.mono (by omega)))
               have hs2 : wo.heap.size < w2.heap.size := Nat.lt_of_lt_of_le hs1 hb2.size
               have e1 := cell_of_row _ _ 1 _ _ _ hr2
               have e4 := cell_of_row _ _ 4 _ _ _ hr2
               clear hb2 hr2 d0 d1 d2 d3 d4)
            | (go_at_call 254
               refine (HO.out _ ((Hb2.out.cell (p := ⟨g, 0, none⟩) (by show g < wo.heap.size; omega)).trans ((Hbw.out.cell (p := ⟨g, 0, none⟩) hg).trans Hc.out))).mono ?_
               rintro e w3 ⟨rfl, hb3⟩
               have hr3 := (hb3.block wo.heap.size hs2).trans Hr2.out
               have Hb3 := Lib.hid (Hb2.out.trans (hb3.mono (by omega)))
               have hs3 : wo.heap.size ≤ w3.heap.size := Nat.le_trans (Nat.le_of_lt hs2) hb3.size
               have g4 := cell_of_row _ _ 4 _ _ _ hr3
               clear hb3 hr3 e1 e4)
            | (at_builtin
               go_loud (refine wpList_append_any _ rfl (.tmp 25) (.tmp 28) _ rfl w.heap.size 68 i0 _ 4 32 Tryz.underlying31 hi hz0 hz1 hz2 rfl (by omega) _ P.length (rCells P) rfl (ownsRow_below Hown.out Hb3.out) wo.heap.size x.2.a x.1.rg.length x.2.c (rCells x.1.rg) rfl (HS.out.rd.below Hb3.out) (rCells_one _) (by simp only [maxLen]; omega) (by omega) (Nat.le_trans hsw hs3) ?_)
               intro v5 w5 hown5 hg5 hat5
               have Hown5 := Lib.hid hown5
               have Hb5 := Lib.hid ((Hbw.out.trans (Hb3.out.mono hsw)).grown hg5 (Nat.le_trans hsw hs3) (own_base (ownsRow_below Hown.out Hb3.out)))
               clear hown5 hg5 hat5)
            | fail)
          go_roundw
          case rel => exact ⟨k + 1, by omega, by go_num, by rw [Hs.out, Bool.and_true, if_pos rfl, List.length_append, rCells_app]; exact Hown5.out, Hb5.out⟩
          case measure => simp [intOf]; omega
    · have hkn' : ¬ (k : Int) < (n : Int) := by omega
      have Hend : Hid ((fts l).take k = fts l) := Lib.hid (List.take_of_length_le (by rw [fts_len, Hln.out]; omega))
      rw [Hend.out] at Hown
      go_wp2
      go_ret
      exact ⟨_, rfl, Hown.out, Hbw.out⟩
set_option maxHeartbeats 2000000 in
set_option maxRecDepth 100000 in
theorem zoneOf_any (A : Option Addr) (n c : Nat) (l : FtL) (d wh : Int) (w : World) (hA : SlFt w A n c l) (hl : LyOk (fts l)) (hs : ∀ x ∈ fts l, x.rg.length ≤ 6) (h4 : n ≤ 4) :
    Calls Tryz.prog 185 #[.slice A n c, .int .i64 d, .int .i64 wh] w (RegPost w (limP (canonP (pickD (fts l) d wh)))) := by
  have HA := Lib.hid hA
  have HL := Lib.hid hl
  have hPl : (pickD (fts l) d wh).length ≤ 6 * 4 := Nat.le_trans (pickD_len _ d wh 6 hs) (Nat.mul_le_mul_left _ (by rw [fts_len, hA.len]; exact h4))
  have hpos : ∀ q ∈ pickD (fts l) d wh, q.l < q.r := fun q hq => by
    obtain ⟨f, hf, hq⟩ := List.mem_flatMap.1 hq
    exact ok_pos (valid_parts (hl.ok f (List.mem_filter.1 hf).1).rg).2.1 q hq
  have hcut : (cutsP (pickD (fts l) d wh)).length ≤ 100 := Nat.le_trans (cuts9_len _) (by omega)
  have HJ := Lib.hid (fun B m e W (h : SlR W B m e (pickD (fts l) d wh)) => joined_big B m e _ W h (by have := h.len; omega) hcut hpos)
  have HR := Lib.hid (fun W (h : SlFt W A n c l) (hc : W.cell? ⟨w.heap.size, 0, none⟩ = some (.int .i64 wh)) (hg : w.heap.size < W.heap.size) => rects_any9 A n c w.heap.size l d wh W h hl hc hg)
  generalize pickD (fts l) d wh = P at *
  generalize limP (canonP P) = res at *
  obtain ⟨R, er⟩ := res
  clear hA hl hpos hcut
  go_enter Tryz.func185, Tryz.ntmps185
  go_upto_region 1 with fail
  obtain ⟨w1, hw1⟩ : ∃ w1 : World, w1 = (w.alloc (.cells #[.int .i64 wh] 3)).alloc (.cells #[.slice none 0 0] 33) := ⟨_, rfl⟩
  rw [← hw1]
  have hr1 : w1.heap[w.heap.size]? = some (.cells #[.int .i64 wh] 3 (0, 0)) := by rw [hw1]; exact (Below.heap_alloc _ _ _ (by simp)).trans (heap_alloc_new w _)
  have Hz1 : Hid (w1.heap[w.heap.size + 1]? = some (.cells #[.slice none 0 0] 33 (0, 0))) := Lib.hid (by rw [hw1]; exact heap_alloc2_new w _ _)
  have Hb1 : Hid (Below w.heap.size w w1) := Lib.hid (by rw [hw1]; exact (by repeat' (first | with_reducible exact Below.refl _ _ | with_reducible refine below_drewN ?_ _ | with_reducible refine Below.drew ?_ | with_reducible refine Below.alloc ?_ ?_ _ | with_reducible refine Below.setCell ?_ ?_ _ | with_reducible refine Below.trans ?_ (Below.mono (by with_reducible assumption) ?_) | (simp; done) | (simp; omega) | omega)))
  have hs1 : w1.heap.size = w.heap.size + 2 := by rw [hw1]; simp
  have HA1 := Lib.hid (HA.out.below Hb1.out)
  have Hd0 := Lib.hid (cell_of_row _ _ 0 _ _ _ hr1)
  have Hs1 := Lib.hid hs1
  clear hw1 hr1 hs1
  go_wp2_with (first
    | (go_at_call 253
       refine (HR.out _ HA1.out Hd0.out (by have := Hs1.out; omega)).mono ?_
       rintro e w2 ⟨v2, rfl, hown2, hb2⟩
       obtain ⟨B2, c2, rfl, hS2⟩ := SlR.of_own hown2
       have hs1 := Hs1.out
       have Hz2 := Lib.hid ((hb2.block (w.heap.size + 1) (by omega)).trans Hz1.out)
       have Hb2 := Lib.hid (Hb1.out.trans (hb2.mono (by omega)))
       have hs2 : w.heap.size + 2 ≤ w2.heap.size := by have := hb2.size; omega
       have HS2 := Lib.hid hS2
       clear hown2 hb2 hs1 hS2)
    | (go_at_call 76
       refine (HJ.out _ _ _ _ HS2.out).mono ?_
       rintro e w3 ⟨v3, rfl, hown3, hb3⟩
       dsimp only at hown3
       obtain ⟨A3, c3, rfl, _, _, _⟩ := own_slice hown3
       have Hown3 := Lib.hid (own_rebase (base' := w.heap.size + 2) hown3 (by omega))
       have hz3 := (hb3.block (w.heap.size + 1) (by omega)).trans Hz2.out
       have Hz3 := Lib.hid hz3
       have Hb3 := Lib.hid (Hb2.out.trans (hb3.mono (by omega)))
       have z0 := cell_of_row _ _ 0 _ _ _ hz3
       have f0 := frozen_of_row _ _ 0 _ _ hz3
       have csame : (w3.setCell ⟨w.heap.size + 1, 0, none⟩ (.slice A3 R.length c3)).cell? ⟨w.heap.size + 1, 0, none⟩ = some (.slice A3 R.length c3) := by
         rw [cell_of_row _ (w.heap.size + 1) 0 _ _ _ (heap_setCell_same w3 (w.heap.size + 1) 0 _ _ _ hz3)]
         simp
       clear hown3 hb3 hz3)
    | fail)
  refine bodyPost_ret (v := .tuple #[.agg #[.slice A3 R.length c3], .int .i64 er]) (by simp [results, Tryz.results185, go_sem, *]) rfl ?_
  refine ⟨_, rfl, ?_, Hb3.out.setCell (Nat.le_succ _) _⟩
  exact own_other (own_rebase Hown3.out (by omega)) (only_setCell (g := w.heap.size + 1) (World.grownBy.refl _ _) (.inl rfl) _) (fun k hk e => by injection e with e; have := own_base Hown3.out k hk; omega)
end Go.Proofs.YtfmkmhhghmdakaaGreatDoor
namespace Go.Proofs.YtfmkmhhghmdakaaGreatDoor
open Go.RowKit Go.Shelf
set_option linter.unusedVariables false
set_option linter.unusedSimpArgs false

/-- What a call leaves that returns rectangles in a row of their own. -/
def RcPost (w : World) (xs : List R4) (e : Ending) (w' : World) : Prop := ∃ v, e = .returned v ∧ w'.ownsRow w.heap.size 68 4 v xs.length (rCells xs) ∧ Below w.heap.size w w'
set_option maxHeartbeats 4000000 in
set_option maxRecDepth 100000 in
theorem growRc_any (k : Nat) (w : World) (hn : k ≤ 2000000) :
    Calls Tryz.prog 188 #[.slice none 0 0, .int .i64 (k : Int)] w (RcPost w []) := by
  obtain ⟨i0, hi, hz0, hz1, hz2⟩ := info_parts Tryz.infoRect
  by_cases h0 : k = 0
  · subst h0
    go_enter Tryz.func188, Tryz.ntmps188
    go_wp2
    go_ret
    exact ⟨_, rfl, World.ownsRow_nil _ _ _ _, Below.refl _ _⟩
  · have tb : Tryz.t68.bytes = 32 := by kernel_rfl
    have hf : ¬ 281474976710656 < Builtin.nextslicecap k 0 * 32 := by
      have := growslice_fits (need := k) (old := 0) (bytes := 32) (by omega) (by omega)
      omega
    have key : Hid (RcPost w [] (.returned (.slice (some ⟨w.heap.size, 0, none⟩) 0 (grownCap w k 0 68))) ((w.alloc (Obj.cells (Builtin.zeroCells #[Value.int IntKind.i64 0, Value.int IntKind.i64 0, Value.int IntKind.i64 0, Value.int IntKind.i64 0] k ++ Builtin.zeroCells #[Value.int IntKind.i64 0, Value.int IntKind.i64 0, Value.int IntKind.i64 0, Value.int IntKind.i64 0] (grownCap w k 0 68 - k)) 68)).drew)) := by
      have hGn := grownCap_ge w k 0 68
      have hGm := grownCap_le_maxLen w k 0 68 (by unfold maxLen; omega)
      generalize grownCap w k 0 68 = G at *
      refine ⟨_, rfl, World.ownsRow.drew (World.ownsRow_made w _ G (Nat.le_refl _) hGm ?_), (by repeat' (first | with_reducible exact Below.refl _ _ | with_reducible refine below_drewN ?_ _ | with_reducible refine Below.drew ?_ | with_reducible refine Below.alloc ?_ ?_ _ | with_reducible refine Below.setCell ?_ ?_ _ | with_reducible refine Below.trans ?_ (Below.mono (by with_reducible assumption) ?_) | (simp; done) | (simp; omega) | omega))⟩
      rw [Array.size_append, size_zeroCells, size_zeroCells]
      simp
      omega
    go_enter Tryz.func188, Tryz.ntmps188
    go_wp2
    go_ret
    exact key.out

/-- How many spans the first of two slices have, and which. -/
def lenR2 (n m : Nat) : Nat → Nat
  | 0 => 0
  | 1 => n
  | _ => n + m
def catR2 (xs ys : List R4) : Nat → List R4
  | 0 => []
  | 1 => [] ++ xs
  | _ => ([] ++ xs) ++ ys
set_option maxHeartbeats 4000000 in
set_option maxRecDepth 100000 in
theorem concatRc_any (g : Nat) (A B : Option Addr) (n c m d : Nat) (xs ys : List R4) (w : World)
    (h0 : w.cell? ⟨g, 0, none⟩ = some (.slice A n c)) (h1 : w.cell? ⟨g, 1, none⟩ = some (.slice B m d)) (hg : g < w.heap.size)
    (hn : xs.length ≤ 100000) (hm : ys.length ≤ 100000) (hA : SlR w A n c xs) (hB : SlR w B m d ys) :
    Calls Tryz.prog 82 #[.slice (some ⟨g, 0, none⟩) 2 2] w (RcPost w (xs ++ ys)) := by
  obtain ⟨i0, hi, hz0, hz1, hz2⟩ := info_parts Tryz.infoRect
  have hx := hA.len.symm
  have hy := hB.len.symm
  have HA := hA.rd
  have HB := hB.rd
  rw [← hx] at hn
  rw [← hy] at hm
  have Hx := Lib.hid hx
  have Hy := Lib.hid hy
  have HA := Lib.hid HA
  have HB := Lib.hid HB
  clear hx hy hA hB
  go_enter Tryz.func82, Tryz.ntmps82
  go_wp2
  go_loop [3, 11] (fun s i => ∃ k : Nat, k ≤ 2 ∧ i = .int .i64 (k : Int) ∧ s = .int .i64 (lenR2 n m k : Nat)) (fun _ i => 2 - (intOf i).toNat)
  case atStart => exact ⟨0, by omega, rfl, rfl⟩
  case round =>
    obtain ⟨k, hk, rfl, rfl⟩ := hrel
    rcases (show k = 0 ∨ k = 1 ∨ k = 2 by omega) with rfl | rfl | rfl
    · have e1 : lenR2 n m 0 = 0 := rfl
      rw [e1]
      clear e1
      go_wp2
      go_round
      case rel => exact ⟨1, by omega, rfl, by simp [lenR2]⟩
      case measure => simp [intOf]
    · have e1 : lenR2 n m 1 = n := rfl
      rw [e1]
      clear e1
      go_wp2
      go_round
      case rel => exact ⟨2, by omega, rfl, by simp [lenR2]⟩
      case measure => simp [intOf]
    · have e1 : lenR2 n m 2 = n + m := rfl
      rw [e1]
      clear e1
      go_wp2_with fail
      refine (growRc_any (n + m) w (by omega)).mono ?_
      rintro e w1 ⟨v1, rfl, hown1, hb1⟩
      have Hown1 := Lib.hid hown1
      clear hown1
      go_wp2
      go_loopw [6, 27] (fun v i wr => ∃ k : Nat, k ≤ 2 ∧ i = .int .i64 (k : Int) ∧ RcPost w (catR2 xs ys k) (.returned v) wr) (fun _ i _ => 2 - (intOf i).toNat)
      case atStart => exact ⟨0, by omega, rfl, v1, rfl, Hown1.out, hb1⟩
      case round =>
        obtain ⟨k, hk, rfl, v, hv, hown, hb⟩ := hrel
        injection hv with hv
        subst hv
        have c0 := (hb.cell (p := ⟨g, 0, none⟩) hg).trans h0
        have c1 := (hb.cell (p := ⟨g, 1, none⟩) hg).trans h1
        have Hown := Lib.hid hown
        clear hown
        have hsz := hb.size
        rcases (show k = 0 ∨ k = 1 ∨ k = 2 by omega) with rfl | rfl | rfl
        · go_wp2_with (at_builtin
                       refine wpList_append_any _ rfl (.tmp 31) (.tmp 32) _ rfl w.heap.size 68 i0 _ 4 32 Tryz.underlying31 hi hz0 hz1 hz2 rfl (by omega) _ 0 [] rfl
                         Hown.out w.heap.size A n c (rCells xs) rfl (HA.out.below hb) (rCells_one xs) (by simp only [maxLen]; omega) (by omega) hsz ?_
                       intro v2 w2 hown2 hg2 hat2)
          go_roundw
          case rel =>
            refine ⟨1, by omega, rfl, v2, rfl, ?_, hb.grown hg2 hsz (own_base Hown.out)⟩
            have e1 : (catR2 xs ys 1).length = 0 + n := by simp [catR2, Hx.out]
            rw [e1]
            exact hown2
          case measure => simp [intOf]
        · have e1 : Hid ((catR2 xs ys 1).length = n) := by show (catR2 xs ys 1).length = n; simp [catR2, Hx.out]
          rw [e1.out] at Hown
          go_wp2_with (at_builtin
                       refine wpList_append_any _ rfl (.tmp 31) (.tmp 32) _ rfl w.heap.size 68 i0 _ 4 32 Tryz.underlying31 hi hz0 hz1 hz2 rfl (by omega) _ n (rCells (catR2 xs ys 1)) rfl
                         Hown.out w.heap.size B m d (rCells ys) rfl (HB.out.below hb) (rCells_one ys) (by simp only [maxLen]; omega) (by omega) hsz ?_
                       intro v2 w2 hown2 hg2 hat2)
          go_roundw
          case rel =>
            refine ⟨2, by omega, rfl, v2, rfl, ?_, hb.grown hg2 hsz (own_base Hown.out)⟩
            have e1 : (catR2 xs ys 2).length = n + m := by simp [catR2, Hx.out, Hy.out]
            have e2 : rCells (catR2 xs ys 2) = rCells (catR2 xs ys 1) ++ rCells ys := by simp only [catR2]; rw [rCells_app]
            rw [e1, e2]
            exact hown2
          case measure => simp [intOf]
        · go_wp2
          go_ret
          exact ⟨_, rfl, Hown.out, hb⟩

end Go.Proofs.YtfmkmhhghmdakaaGreatDoor
namespace Go.Proofs.YtfmkmhhghmdakaaGreatDoor
open Go.RowKit Go.Shelf
set_option linter.unusedVariables false
set_option linter.unusedSimpArgs false

/-- A layer of the law: few features, canonical, none soft. -/
structure ZOk (l : List Ft) : Prop where
  ly : LyOk l
  reg : ∀ x ∈ l, Reg 9 6 x.rg
  len : l.length ≤ 4
  soft : ∀ x ∈ l, ¬ (8 ≤ x.kd ∧ x.kd ≤ 11)
theorem canonP_nil : canonP [] = [] := List.length_eq_zero_iff.1 (by have := canonP_len []; simpa using this)
theorem validP_nil : validP [] = true := Reg.valid (s := 9) (m := 0) ⟨fun q hq => (by cases hq), canonP_nil, Nat.le_refl _⟩ (by omega) (by omega)
theorem limP_nil : limP (canonP []) = ([], 0) := by rw [canonP_nil]; rfl
theorem ZOk.soft_none {l : List Ft} (h : ZOk l) (d : Int) : pickD l d 1 = [] := by
  unfold pickD
  have : (l.filter fun f => isThere d f && decide (sortK f.kd = 1)) = [] := by
    refine List.filter_eq_nil_iff.2 fun x hx => ?_
    have h1 := h.soft x hx
    have h2 : ¬ sortK x.kd = 1 := by unfold sortK; (repeat' split) <;> omega
    simp [h2]
  rw [this]; rfl
theorem pickD_hard (l : List Ft) (d : Int) : pickD l d 0 = hardR (onP l d) := by
  unfold pickD hardR onP
  rw [List.filter_filter]
  congr 1
  refine List.filter_congr fun x hx => ?_
  have : decide (sortK x.kd = 0) = decide (x.kd < 8) := by
    unfold sortK
    rw [Bool.eq_iff_iff, decide_eq_true_iff, decide_eq_true_iff]
    (repeat' split) <;> omega
  rw [this, Bool.and_comm]
set_option maxHeartbeats 2000000 in
theorem zcheck_any (A : Option Addr) (n c : Nat) (l : FtL) (d most : Int) (B : Option Addr) (m e : Nat) (a : List R4) (w : World) (hA : SlFt w A n c l) (hl : LyOk (fts l)) (hd : 0 ≤ d ∧ d ≤ 36864) (hB : SlR w B m e a) (hv : validP a = true) (hm : 0 ≤ most ∧ most ≤ 268435456) :
    Calls Tryz.prog 79 #[.slice A n c, .int .i64 d, .int .i64 most, .agg #[.slice B m e]] w fun e w' => e = .returned (.int .i64 0) ∧ Below w.heap.size w w' := by
  have HO := Lib.hid (fun W (h : SlFt W A n c l) => on_any A n c l d W h hl hd)
  have HV : Hid (∀ W, SlR W B m e a → Calls Tryz.prog 48 #[.agg #[.slice B m e]] W fun e w' => e = .returned (.bool true) ∧ Below W.heap.size W w') := Lib.hid (fun W h => by have := valid_any B m e a W h; rw [hv] at this; exact this)
  have HA := Lib.hid hA
  have HB := Lib.hid hB
  have n1 : ¬ most < 0 := by omega
  have n2 : ¬ (268435456 : Int) < most := by omega
  clear hA hl hB hv
  go_enter Tryz.func79, Tryz.ntmps79
  go_upto_region 1 with fail
  obtain ⟨w1, hw1⟩ : ∃ w1 : World, w1 = w.alloc (.cells #[.slice B m e] 33) := ⟨_, rfl⟩
  rw [← hw1]
  have Hr1 : Hid (w1.heap[w.heap.size]? = some (.cells #[.slice B m e] 33 (0, 0))) := Lib.hid (by rw [hw1]; exact heap_alloc_new w _)
  have Hb1 : Hid (Below w.heap.size w w1) := Lib.hid (by rw [hw1]; exact (by repeat' (first | with_reducible exact Below.refl _ _ | with_reducible refine below_drewN ?_ _ | with_reducible refine Below.drew ?_ | with_reducible refine Below.alloc ?_ ?_ _ | with_reducible refine Below.setCell ?_ ?_ _ | with_reducible refine Below.trans ?_ (Below.mono (by with_reducible assumption) ?_) | (simp; done) | (simp; omega) | omega)))
  have hs1 : w.heap.size < w1.heap.size := by rw [hw1]; simp
  have HA1 := Lib.hid (HA.out.below Hb1.out)
  have HB1 := Lib.hid (HB.out.below Hb1.out)
  clear hw1
  go_wp2_with (first
    | (go_at_call 19
       refine (HO.out _ HA1.out).mono ?_
       rintro e w2 ⟨m2, v2, rfl, -, -, hb2⟩
       have c2 := cell_of_row _ _ 0 _ _ _ ((hb2.block w.heap.size hs1).trans Hr1.out)
       have Hb2 := Lib.hid (Hb1.out.trans (hb2.mono (by omega)))
       have HB2 := Lib.hid (HB1.out.below hb2)
       have hs2 : w.heap.size ≤ w2.heap.size := Hb2.out.size
       clear hb2)
    | (go_at_call 48; refine (HV.out _ HB2.out).mono ?_; rintro e w3 ⟨rfl, hb3⟩; have Hb3 := Lib.hid (Hb2.out.trans (hb3.mono hs2)); clear hb3)
    | fail)
  go_ret
  exact ⟨rfl, Hb3.out⟩
set_option maxHeartbeats 2000000 in
set_option maxRecDepth 100000 in
theorem hard_any (A : Option Addr) (n c : Nat) (l : FtL) (d : Int) (w : World) (hA : SlFt w A n c l) (hl : ZOk (fts l)) (hd : 0 ≤ d ∧ d ≤ 36864) :
    Calls Tryz.prog 80 #[.slice A n c, .int .i64 d] w (RegPost w (limP (canonP (pickD (fts l) d 0)))) := by
  have HC := Lib.hid (fun W (h : SlFt W A n c l) => zcheck_any A n c l d 0 none 0 0 [] W h hl.ly hd (SlR.nil W) validP_nil (by omega))
  have hn4 : n ≤ 4 := by have := hl.len; rw [fts_len, hA.len] at this; exact this
  have HZ := Lib.hid (fun W (h : SlFt W A n c l) => zoneOf_any A n c l d 0 W h hl.ly (fun x hx => (hl.reg x hx).len) hn4)
  have HA := Lib.hid hA
  generalize limP (canonP (pickD (fts l) d 0)) = res at *
  obtain ⟨R, er⟩ := res
  clear hA hl hn4
  go_enter Tryz.func80, Tryz.ntmps80
  go_upto_region 1 with fail
  obtain ⟨w1, hw1⟩ : ∃ w1 : World, w1 = w.alloc (.cells #[.slice none 0 0] 33) := ⟨_, rfl⟩
  rw [← hw1]
  have Hz1 : Hid (w1.heap[w.heap.size]? = some (.cells #[.slice none 0 0] 33 (0, 0))) := Lib.hid (by rw [hw1]; exact heap_alloc_new w _)
  have Hb1 : Hid (Below w.heap.size w w1) := Lib.hid (by rw [hw1]; exact (by repeat' (first | with_reducible exact Below.refl _ _ | with_reducible refine below_drewN ?_ _ | with_reducible refine Below.drew ?_ | with_reducible refine Below.alloc ?_ ?_ _ | with_reducible refine Below.setCell ?_ ?_ _ | with_reducible refine Below.trans ?_ (Below.mono (by with_reducible assumption) ?_) | (simp; done) | (simp; omega) | omega)))
  have hs1 : w.heap.size < w1.heap.size := by rw [hw1]; simp
  have HA1 := Lib.hid (HA.out.below Hb1.out)
  clear hw1
  go_wp2_with (first
    | (go_at_call 79
       refine (HC.out _ HA1.out).mono ?_
       rintro e w2 ⟨rfl, hb2⟩
       have Hz2 := Lib.hid ((hb2.block w.heap.size hs1).trans Hz1.out)
       have Hb2 := Lib.hid (Hb1.out.trans (hb2.mono (by omega)))
       have HA2 := Lib.hid (HA1.out.below hb2)
       have hs2 : w.heap.size < w2.heap.size := Nat.lt_of_lt_of_le hs1 hb2.size
       clear hb2)
    | (go_at_call 185
       refine (HZ.out _ HA2.out).mono ?_
       rintro e w3 ⟨v3, rfl, hown3, hb3⟩
       dsimp only at hown3
       obtain ⟨A3, c3, rfl, _, _, _⟩ := own_slice hown3
       have Hown3 := Lib.hid (own_rebase (base' := w.heap.size + 1) hown3 (by omega))
       have hz3 := (hb3.block w.heap.size hs2).trans Hz2.out
       have Hb3 := Lib.hid (Hb2.out.trans (hb3.mono (by omega)))
       have z0 := cell_of_row _ _ 0 _ _ _ hz3
       have f0 := frozen_of_row _ _ 0 _ _ hz3
       have csame : (w3.setCell ⟨w.heap.size, 0, none⟩ (.slice A3 R.length c3)).cell? ⟨w.heap.size, 0, none⟩ = some (.slice A3 R.length c3) := by
         rw [cell_of_row _ w.heap.size 0 _ _ _ (heap_setCell_same w3 w.heap.size 0 _ _ _ hz3)]
         simp
       clear hown3 hb3 hz3)
    | fail)
  refine bodyPost_ret (v := .tuple #[.agg #[.slice A3 R.length c3], .int .i64 er]) (by simp [results, Tryz.results80, go_sem, *]) rfl ?_
  refine ⟨_, rfl, ?_, Hb3.out.setCell (Nat.le_refl _) _⟩
  exact own_other (own_rebase Hown3.out (by omega)) (only_setCell (g := w.heap.size) (World.grownBy.refl _ _) (.inl rfl) _) (fun k hk e => by injection e with e; have := own_base Hown3.out k hk; omega)
set_option maxHeartbeats 1000000 in
theorem soft1_fn (w : World) : BoolFn 186 #[] andB w := by
  intro W x y _
  show Calls Tryz.prog 186 #[.bool x, .bool y] W _
  cases x <;> cases y
  all_goals go_enter Tryz.func186, Tryz.ntmps186
  all_goals go_wp2
  all_goals go_ret
  all_goals exact ⟨rfl, (by repeat' (first | with_reducible exact Below.refl _ _ | with_reducible refine below_drewN ?_ _ | with_reducible refine Below.drew ?_ | with_reducible refine Below.alloc ?_ ?_ _ | with_reducible refine Below.setCell ?_ ?_ _ | with_reducible refine Below.trans ?_ (Below.mono (by with_reducible assumption) ?_) | (simp; done) | (simp; omega) | omega))⟩
set_option maxHeartbeats 1000000 in
theorem elig1_fn (w : World) : BoolFn 83 #[] notB w := by
  intro W x y _
  show Calls Tryz.prog 83 #[.bool x, .bool y] W _
  cases x <;> cases y
  all_goals go_enter Tryz.func83, Tryz.ntmps83
  all_goals go_wp2
  all_goals go_ret
  all_goals exact ⟨rfl, (by repeat' (first | with_reducible exact Below.refl _ _ | with_reducible refine below_drewN ?_ _ | with_reducible refine Below.drew ?_ | with_reducible refine Below.alloc ?_ ?_ _ | with_reducible refine Below.setCell ?_ ?_ _ | with_reducible refine Below.trans ?_ (Below.mono (by with_reducible assumption) ?_) | (simp; done) | (simp; omega) | omega))⟩
set_option maxHeartbeats 4000000 in
set_option maxRecDepth 100000 in
theorem soft_any (A : Option Addr) (n c : Nat) (l : FtL) (d : Int) (B : Option Addr) (m e : Nat) (a : List R4) (k : Nat) (w : World) (hA : SlFt w A n c l) (hl : ZOk (fts l)) (hd : 0 ≤ d ∧ d ≤ 36864) (hB : SlR w B m e a) (ha : Reg 9 k a) (hk : k ≤ 120) :
    Calls Tryz.prog 81 #[.slice A n c, .int .i64 d, .int .i64 5, .agg #[.slice B m e]] w (RegPost w ([], 0)) := by
  have HC := Lib.hid (fun W (h : SlFt W A n c l) (h2 : SlR W B m e a) => zcheck_any A n c l d 5 B m e a W h hl.ly hd h2 (ha.valid (by omega) hk) (by omega))
  have hn4 : n ≤ 4 := by have := hl.len; rw [fts_len, hA.len] at this; exact this
  have HZ : Hid (∀ W, SlFt W A n c l → Calls Tryz.prog 185 #[.slice A n c, .int .i64 d, .int .i64 1] W (RegPost W ([], 0))) := Lib.hid (fun W h => by
    have := zoneOf_any A n c l d 1 W h hl.ly (fun x hx => (hl.reg x hx).len) hn4
    rw [hl.soft_none, limP_nil] at this
    exact this)
  have HJ : Hid (∀ W, Calls Tryz.prog 76 #[.slice none 0 0] W (RegPost W ([], 0))) := Lib.hid (fun W => by
    have := joined_big none 0 0 [] W (SlR.nil W) (by omega) (Nat.le_trans (cuts9_len []) (by rw [List.length_nil]; omega)) (fun q hq => by cases hq)
    rw [limP_nil] at this
    exact this)
  have eg : ∀ args w, (callFunc 186 args).run Tryz.prog w = .ok (.enter 186 args) w := enters_of Tryz.func186 (by kernel_rfl) rfl
  have hch : chooseP andB [] a = [] := (choose_nil (how := andB) rfl (s := 9) (fun q hq => by cases hq) ha.ins).2 (fun x y => by rfl)
  have HCh : Hid (∀ W (D : Option Addr) (f : Nat), SlR W D 0 f [] → SlR W B m e a → Calls Tryz.prog 54 #[.slice D 0 f, .slice B m e, .func (.func 186) #[] #[]] W fun e w' => ∃ v, e = .returned v ∧ w'.ownsRow W.heap.size 68 4 v 0 [] ∧ Below W.heap.size W w') := Lib.hid (fun W D f h1 h2 => by
    have := choose_any D B 0 f m e 186 #[] andB [] a W h1 h2 (by omega) (by have := h2.len; have := ha.len; omega) (fun q hq => by cases hq) ha.ins.pos eg (soft1_fn W)
    rw [hch] at this
    exact this)
  have HA := Lib.hid hA
  have HB := Lib.hid hB
  clear hA hl hB ha hn4 eg hch
  go_enter Tryz.func81, Tryz.ntmps81
  go_upto_region 1 with fail
  obtain ⟨w1, hw1⟩ : ∃ w1 : World, w1 = (w.alloc (.cells #[.slice B m e] 33)).alloc (.cells #[.slice none 0 0] 33) := ⟨_, rfl⟩
  rw [← hw1]
  have hr1 : w1.heap[w.heap.size]? = some (.cells #[.slice B m e] 33 (0, 0)) := by rw [hw1]; exact (Below.heap_alloc _ _ _ (by simp)).trans (heap_alloc_new w _)
  have Hz1 : Hid (w1.heap[w.heap.size + 1]? = some (.cells #[.slice none 0 0] 33 (0, 0))) := Lib.hid (by rw [hw1]; exact heap_alloc2_new w _ _)
  have Hr1 := Lib.hid hr1
  have Hb1 : Hid (Below w.heap.size w w1) := Lib.hid (by rw [hw1]; exact (by repeat' (first | with_reducible exact Below.refl _ _ | with_reducible refine below_drewN ?_ _ | with_reducible refine Below.drew ?_ | with_reducible refine Below.alloc ?_ ?_ _ | with_reducible refine Below.setCell ?_ ?_ _ | with_reducible refine Below.trans ?_ (Below.mono (by with_reducible assumption) ?_) | (simp; done) | (simp; omega) | omega)))
  have hs1 : w.heap.size + 1 < w1.heap.size := by rw [hw1]; simp
  have HA1 := Lib.hid (HA.out.below Hb1.out)
  have HB1 := Lib.hid (HB.out.below Hb1.out)
  have c1 := cell_of_row _ _ 0 _ _ _ hr1
  clear hw1 hr1
  go_upto_region 5 with (first
    | (go_at_call 79
       refine (HC.out _ HA1.out HB1.out).mono ?_
       rintro e w2 ⟨rfl, hb2⟩
       have Hz2 := Lib.hid ((hb2.block (w.heap.size + 1) hs1).trans Hz1.out)
       have Hr2 := Lib.hid ((hb2.block w.heap.size (by omega)).trans Hr1.out)
       have Hb2 := Lib.hid (Hb1.out.trans (hb2.mono (by omega)))
       have HA2 := Lib.hid (HA1.out.below hb2)
       have HB2 := Lib.hid (HB1.out.below hb2)
       have hs2 : w.heap.size + 1 < w2.heap.size := Nat.lt_of_lt_of_le hs1 hb2.size
       clear hb2 c1)
    | (go_at_call 185
       refine (HZ.out _ HA2.out).mono ?_
       rintro e w3 ⟨v3, rfl, hown3, hb3⟩
       dsimp only at hown3
       obtain ⟨A3, c3, rfl, _, _, _⟩ := own_slice hown3
       simp only [List.length_nil] at hown3
       have HS3 : Hid (SlR w3 A3 0 c3 []) := Lib.hid (SlR.ofR (l := []) hown3)
       have Hz3 := Lib.hid ((hb3.block (w.heap.size + 1) hs2).trans Hz2.out)
       have Hr3 := Lib.hid ((hb3.block w.heap.size (by omega)).trans Hr2.out)
       have Hb3 := Lib.hid (Hb2.out.trans (hb3.mono (by omega)))
       have HB3 := Lib.hid (HB2.out.below hb3)
       have hs3 : w.heap.size + 1 < w3.heap.size := Nat.lt_of_lt_of_le hs2 hb3.size
       clear hown3 hb3)
    | fail)
  try simp only [List.length_nil]
  obtain ⟨w4, hw4⟩ : ∃ w4 : World, w4 = w3.alloc (.cells #[.slice A3 0 c3] 33) := ⟨_, rfl⟩
  rw [← hw4]
  have Hx4 : Hid (w4.heap[w3.heap.size]? = some (.cells #[.slice A3 0 c3] 33 (0, 0))) := Lib.hid (by rw [hw4]; exact heap_alloc_new w3 _)
  have Hb34 : Hid (Below w3.heap.size w3 w4) := Lib.hid (by rw [hw4]; exact (by repeat' (first | with_reducible exact Below.refl _ _ | with_reducible refine below_drewN ?_ _ | with_reducible refine Below.drew ?_ | with_reducible refine Below.alloc ?_ ?_ _ | with_reducible refine Below.setCell ?_ ?_ _ | with_reducible refine Below.trans ?_ (Below.mono (by with_reducible assumption) ?_) | (simp; done) | (simp; omega) | omega)))
  have hs4 : w3.heap.size < w4.heap.size := by rw [hw4]; simp
  have Hz4 := Lib.hid ((Hb34.out.block (w.heap.size + 1) hs3).trans Hz3.out)
  have Hr4 := Lib.hid ((Hb34.out.block w.heap.size (by omega)).trans Hr3.out)
  have Hb4 := Lib.hid (Hb3.out.trans (Hb34.out.mono (by omega)))
  have HB4 := Lib.hid (HB3.out.below Hb34.out)
  have HS4 := Lib.hid (HS3.out.below Hb34.out)
  have x4 := cell_of_row _ _ 0 _ _ _ Hx4.out
  have r4 := cell_of_row _ _ 0 _ _ _ Hr4.out
  clear hw4
  go_upto_region 11 with (first
    | (go_at_call 54
       refine (HCh.out _ _ _ HS4.out HB4.out).mono ?_
       rintro e w5 ⟨v5, rfl, hown5, hb5⟩
       obtain ⟨A5, c5, rfl, _, _, _⟩ := own_slice hown5
       have Hz5 := Lib.hid ((hb5.block (w.heap.size + 1) (by omega)).trans Hz4.out)
       have Hb5 := Lib.hid (Hb4.out.trans (hb5.mono (by omega)))
       have hs5 : w.heap.size + 1 < w5.heap.size := Nat.lt_of_lt_of_le (by omega) hb5.size
       clear hown5 hb5 x4 r4)
    | fail)
  go_loopw [13, 14, 15] (fun rv ov _ wr => rv = .slice A5 0 c5 ∧ ov = .slice none 0 0 ∧ wr = w5) (fun _ _ _ _ => 0)
  case atStart => exact ⟨rfl, rfl, rfl⟩
  case round =>
    obtain ⟨rfl, rfl, rfl⟩ := hrel
    go_wp2_with (first
      | (go_at_call 76
         refine (HJ.out _).mono ?_
         rintro e w6 ⟨v6, rfl, hown6, hb6⟩
         dsimp only at hown6
         obtain ⟨A6, c6, rfl, _, _, _⟩ := own_slice hown6
         have hz6 := (hb6.block (w.heap.size + 1) hs5).trans Hz5.out
         have Hb6 := Lib.hid (Hb5.out.trans (hb6.mono (by omega)))
         have Hown6 := Lib.hid (own_rebase (base' := w.heap.size + 2) hown6 (by omega))
         have z0 := cell_of_row _ _ 0 _ _ _ hz6
         have f0 := frozen_of_row _ _ 0 _ _ hz6
         have csame : (w6.setCell ⟨w.heap.size + 1, 0, none⟩ (.slice A6 0 c6)).cell? ⟨w.heap.size + 1, 0, none⟩ = some (.slice A6 0 c6) := by
           rw [cell_of_row _ (w.heap.size + 1) 0 _ _ _ (heap_setCell_same w6 (w.heap.size + 1) 0 _ _ _ hz6)]
           simp
         clear hown6 hb6 hz6)
      | fail)
    refine bodyPost_ret (v := .tuple #[.agg #[.slice A6 0 c6], .int .i64 0]) (by simp [results, Tryz.results81, go_sem, *]) rfl ?_
    refine ⟨_, rfl, ?_, Hb6.out.setCell (Nat.le_succ _) _⟩
    exact own_other (own_rebase Hown6.out (by omega)) (only_setCell (g := w.heap.size + 1) (World.grownBy.refl _ _) (.inl rfl) _) (fun k hk e => by injection e with e; have := own_base Hown6.out k hk; omega)
end Go.Proofs.YtfmkmhhghmdakaaGreatDoor
namespace Go.Proofs.YtfmkmhhghmdakaaGreatDoor
open Go.RowKit Go.Shelf
set_option linter.unusedVariables false
set_option linter.unusedSimpArgs false

set_option maxHeartbeats 8000000 in
set_option maxRecDepth 100000 in
theorem eligible_any (A : Option Addr) (n c : Nat) (l : FtL) (d : Int) (B : Option Addr) (m e : Nat) (a : List R4) (k : Nat) (w : World) (hA : SlFt w A n c l) (hl : ZOk (fts l)) (hd : 0 ≤ d ∧ d ≤ 36864) (hB : SlR w B m e a) (ha : Reg 9 k a) (hk : k ≤ 120) :
    Calls Tryz.prog 22 #[.agg #[.slice B m e], .slice A n c, .int .i64 d, .int .i64 5] w (RegPost w (fineP a (onP (fts l) d), 0)) := by
  obtain ⟨H, hH⟩ : ∃ H, H = canonP (hardR (onP (fts l) d)) := ⟨_, rfl⟩
  have hin : InS 9 (hardR (onP (fts l) d)) := hardR_ins fun f hf => (hl.reg f (List.mem_filter.1 hf).1).ins
  have hHi : InS 9 H := by rw [hH]; exact canonP_in hin
  have hHl : H.length ≤ 81 := by rw [hH]; exact canonP_side (s := 9) hin
  have hlim : limP (canonP (pickD (fts l) d 0)) = (H, 0) := by
    rw [pickD_hard, ← hH]
    unfold limP
    rw [if_neg (by omega)]
  have hfine : fineP a (onP (fts l) d) = chooseP notB a H := by unfold fineP; rw [← hH, List.append_nil]
  have hFl : (chooseP notB a H).length ≤ 120 := by
    have := (choose_reg notB rfl 9 ha.ins hHi).len; omega
  have HC := Lib.hid (fun W (h : SlFt W A n c l) (h2 : SlR W B m e a) => zcheck_any A n c l d 5 B m e a W h hl.ly hd h2 (ha.valid (by omega) hk) (by omega))
  have HHd : Hid (∀ W, SlFt W A n c l → Calls Tryz.prog 80 #[.slice A n c, .int .i64 d] W (RegPost W (H, 0))) := Lib.hid (fun W h => by
    have := hard_any A n c l d W h hl hd
    rw [hlim] at this
    exact this)
  have HSo := Lib.hid (fun W (h : SlFt W A n c l) (h2 : SlR W B m e a) => soft_any A n c l d B m e a k W h hl hd h2 ha hk)
  have eg : ∀ args w, (callFunc 83 args).run Tryz.prog w = .ok (.enter 83 args) w := enters_of Tryz.func83 (by kernel_rfl) rfl
  have HCh := Lib.hid (fun W (D : Option Addr) (N f : Nat) (h1 : SlR W B m e a) (h2 : SlR W D N f H) => choose_any B D m e N f 83 #[] notB a H W h1 h2 (by have := h1.len; have := ha.len; omega) (by have := h2.len; omega) ha.ins.pos hHi.pos eg (elig1_fn W))
  have hml : m ≤ 120 := by have := hB.len; have := ha.len; omega
  rw [hfine]
  generalize chooseP notB a H = F at *
  have HA := Lib.hid hA
  have HB := Lib.hid hB
  have HHl := Lib.hid hHl
  clear hA hl hB ha eg hfine hlim hHi hin hH hHl
  go_enter Tryz.func22, Tryz.ntmps22
  go_upto_region 1 with fail
  obtain ⟨w1, hw1⟩ : ∃ w1 : World, w1 = (w.alloc (.cells #[.slice B m e] 33)).alloc (.cells #[.slice none 0 0] 33) := ⟨_, rfl⟩
  rw [← hw1]
  have hr1 : w1.heap[w.heap.size]? = some (.cells #[.slice B m e] 33 (0, 0)) := by rw [hw1]; exact (Below.heap_alloc _ _ _ (by simp)).trans (heap_alloc_new w _)
  have Hz1 : Hid (w1.heap[w.heap.size + 1]? = some (.cells #[.slice none 0 0] 33 (0, 0))) := Lib.hid (by rw [hw1]; exact heap_alloc2_new w _ _)
  have Hr1 := Lib.hid hr1
  have Hb1 : Hid (Below w.heap.size w w1) := Lib.hid (by rw [hw1]; exact (by repeat' (first | with_reducible exact Below.refl _ _ | with_reducible refine below_drewN ?_ _ | with_reducible refine Below.drew ?_ | with_reducible refine Below.alloc ?_ ?_ _ | with_reducible refine Below.setCell ?_ ?_ _ | with_reducible refine Below.trans ?_ (Below.mono (by with_reducible assumption) ?_) | (simp; done) | (simp; omega) | omega)))
  have hs1 : w.heap.size + 1 < w1.heap.size := by rw [hw1]; simp
  have HA1 := Lib.hid (HA.out.below Hb1.out)
  have HB1 := Lib.hid (HB.out.below Hb1.out)
  have c1 := cell_of_row _ _ 0 _ _ _ hr1
  clear hw1 hr1
  go_upto_region 5 with (first
    | (go_at_call 79
       refine (HC.out _ HA1.out HB1.out).mono ?_
       rintro e w2 ⟨rfl, hb2⟩
       have Hz2 := Lib.hid ((hb2.block (w.heap.size + 1) hs1).trans Hz1.out)
       have Hr2 := Lib.hid ((hb2.block w.heap.size (by omega)).trans Hr1.out)
       have Hb2 := Lib.hid (Hb1.out.trans (hb2.mono (by omega)))
       have HA2 := Lib.hid (HA1.out.below hb2)
       have HB2 := Lib.hid (HB1.out.below hb2)
       have hs2 : w.heap.size + 1 < w2.heap.size := Nat.lt_of_lt_of_le hs1 hb2.size
       clear hb2 c1)
    | (go_at_call 80
       refine (HHd.out _ HA2.out).mono ?_
       rintro e w3 ⟨v3, rfl, hown3, hb3⟩
       dsimp only at hown3
       obtain ⟨A3, c3, rfl, _, _, _⟩ := own_slice hown3
       have HS3 : Hid (SlR w3 A3 H.length c3 H) := Lib.hid (SlR.ofR hown3)
       have Hz3 := Lib.hid ((hb3.block (w.heap.size + 1) hs2).trans Hz2.out)
       have Hr3 := Lib.hid ((hb3.block w.heap.size (by omega)).trans Hr2.out)
       have Hb3 := Lib.hid (Hb2.out.trans (hb3.mono (by omega)))
       have HA3 := Lib.hid (HA2.out.below hb3)
       have HB3 := Lib.hid (HB2.out.below hb3)
       have hs3 : w.heap.size + 1 < w3.heap.size := Nat.lt_of_lt_of_le hs2 hb3.size
       clear hown3 hb3)
    | fail)
  obtain ⟨w4, hw4⟩ : ∃ w4 : World, w4 = w3.alloc (.cells #[.slice A3 H.length c3] 33) := ⟨_, rfl⟩
  rw [← hw4]
  have Hx4 : Hid (w4.heap[w3.heap.size]? = some (.cells #[.slice A3 H.length c3] 33 (0, 0))) := Lib.hid (by rw [hw4]; exact heap_alloc_new w3 _)
  have Hb34 : Hid (Below w3.heap.size w3 w4) := Lib.hid (by rw [hw4]; exact (by repeat' (first | with_reducible exact Below.refl _ _ | with_reducible refine below_drewN ?_ _ | with_reducible refine Below.drew ?_ | with_reducible refine Below.alloc ?_ ?_ _ | with_reducible refine Below.setCell ?_ ?_ _ | with_reducible refine Below.trans ?_ (Below.mono (by with_reducible assumption) ?_) | (simp; done) | (simp; omega) | omega)))
  have hs4 : w3.heap.size < w4.heap.size := by rw [hw4]; simp
  have Hz4 := Lib.hid ((Hb34.out.block (w.heap.size + 1) hs3).trans Hz3.out)
  have Hr4 := Lib.hid ((Hb34.out.block w.heap.size (by omega)).trans Hr3.out)
  have Hb4 := Lib.hid (Hb3.out.trans (Hb34.out.mono (by omega)))
  have HA4 := Lib.hid (HA3.out.below Hb34.out)
  have HB4 := Lib.hid (HB3.out.below Hb34.out)
  have HS4 := Lib.hid (HS3.out.below Hb34.out)
  have r4 := cell_of_row _ _ 0 _ _ _ Hr4.out
  obtain ⟨X, hX⟩ : ∃ X, X = w3.heap.size := ⟨_, rfl⟩
  rw [← hX] at Hx4 hs4 hs3 ⊢
  clear hw4 hX Hb34
  go_upto_region 8 with (first
    | (go_at_call 81
       refine (HSo.out _ HA4.out HB4.out).mono ?_
       rintro e w5 ⟨v5, rfl, hown5, hb5⟩
       dsimp only at hown5
       obtain ⟨A5, c5, rfl, _, _, _⟩ := own_slice hown5
       have HS5 : Hid (SlR w5 A5 0 c5 []) := Lib.hid (SlR.ofR (l := []) hown5)
       have Hz5 := Lib.hid ((hb5.block (w.heap.size + 1) (by omega)).trans Hz4.out)
       have Hr5 := Lib.hid ((hb5.block w.heap.size (by omega)).trans Hr4.out)
       have Hx5 := Lib.hid ((hb5.block X hs4).trans Hx4.out)
       have Hb5 := Lib.hid (Hb4.out.trans (hb5.mono (by omega)))
       have HB5 := Lib.hid (HB4.out.below hb5)
       have HH5 := Lib.hid (HS4.out.below hb5)
       have hs5 : X < w5.heap.size := Nat.lt_of_lt_of_le hs4 hb5.size
       clear hown5 hb5 r4)
    | fail)
  try simp only [List.length_nil]
  obtain ⟨w6, hw6⟩ : ∃ w6 : World, w6 = w5.alloc (.cells #[.slice A5 0 c5] 33) := ⟨_, rfl⟩
  rw [← hw6]
  have Hy6 : Hid (w6.heap[w5.heap.size]? = some (.cells #[.slice A5 0 c5] 33 (0, 0))) := Lib.hid (by rw [hw6]; exact heap_alloc_new w5 _)
  have Hb56 : Hid (Below w5.heap.size w5 w6) := Lib.hid (by rw [hw6]; exact (by repeat' (first | with_reducible exact Below.refl _ _ | with_reducible refine below_drewN ?_ _ | with_reducible refine Below.drew ?_ | with_reducible refine Below.alloc ?_ ?_ _ | with_reducible refine Below.setCell ?_ ?_ _ | with_reducible refine Below.trans ?_ (Below.mono (by with_reducible assumption) ?_) | (simp; done) | (simp; omega) | omega)))
  have hs6 : w5.heap.size < w6.heap.size := by rw [hw6]; simp
  have Hz6 := Lib.hid ((Hb56.out.block (w.heap.size + 1) (by omega)).trans Hz5.out)
  have Hr6 := Lib.hid ((Hb56.out.block w.heap.size (by omega)).trans Hr5.out)
  have Hx6 := Lib.hid ((Hb56.out.block X hs5).trans Hx5.out)
  have Hb6 := Lib.hid (Hb5.out.trans (Hb56.out.mono (by omega)))
  have HB6 := Lib.hid (HB5.out.below Hb56.out)
  have HS6 := Lib.hid (HS5.out.below Hb56.out)
  have HH6 := Lib.hid (HH5.out.below Hb56.out)
  obtain ⟨Y, hY⟩ : ∃ Y, Y = w5.heap.size := ⟨_, rfl⟩
  rw [← hY] at Hy6 hs6 hs5 ⊢
  clear hw6 hY Hb56
  go_upto_region 10 with fail
  have r6 := cell_of_row _ _ 0 _ _ _ Hr6.out
  have x6 := cell_of_row _ _ 0 _ _ _ Hx6.out
  have y6 := cell_of_row _ _ 0 _ _ _ Hy6.out
  obtain ⟨NH, hNH⟩ : ∃ NH, H.length = NH := ⟨_, rfl⟩
  have HNH := Lib.hid hNH
  rw [hNH] at x6 HH6 ⊢
  clear hNH
  have hw0 : w.heap.size < w6.heap.size := by omega
  have hXX := heap_alloc_new w6 (.cells #[.slice A3 NH c3, .slice A5 0 c5] 31)
  have HCo := Lib.hid (concatRc_any w6.heap.size A3 A5 NH c3 0 c5 H [] (w6.alloc (.cells #[.slice A3 NH c3, .slice A5 0 c5] 31)).drew (cell_of_row _ _ 0 _ _ _ hXX) (cell_of_row _ _ 1 _ _ _ hXX) (by show _ < (w6.alloc _).heap.size; simp) (by have := HHl.out; omega) (by simp) (HH6.out.below (by repeat' (first | with_reducible exact Below.refl _ _ | with_reducible refine below_drewN ?_ _ | with_reducible refine Below.drew ?_ | with_reducible refine Below.alloc ?_ ?_ _ | with_reducible refine Below.setCell ?_ ?_ _ | with_reducible refine Below.trans ?_ (Below.mono (by with_reducible assumption) ?_) | (simp; done) | (simp; omega) | omega))) (HS6.out.below (by repeat' (first | with_reducible exact Below.refl _ _ | with_reducible refine below_drewN ?_ _ | with_reducible refine Below.drew ?_ | with_reducible refine Below.alloc ?_ ?_ _ | with_reducible refine Below.setCell ?_ ?_ _ | with_reducible refine Below.trans ?_ (Below.mono (by with_reducible assumption) ?_) | (simp; done) | (simp; omega) | omega))))
  clear hXX
  rw [List.append_nil] at HCo
  have r6' : w6.drew.cell? ⟨w.heap.size, 0, none⟩ = some (.slice B m e) := r6
  have x6' : w6.drew.cell? ⟨X, 0, none⟩ = some (.slice A3 NH c3) := x6
  have y6' : w6.drew.cell? ⟨Y, 0, none⟩ = some (.slice A5 0 c5) := y6
  refine wp_region_held_two (S := fun w' => w'.cell? ⟨w.heap.size, 0, none⟩ = some (.slice B m e) ∧ w'.cell? ⟨X, 0, none⟩ = some (.slice A3 NH c3) ∧ w'.cell? ⟨Y, 0, none⟩ = some (.slice A5 0 c5)) 9 (by kernel_rfl) (by kernel_rfl) ?_
  have hHeld : (fun w' : World => w'.cell? ⟨w.heap.size, 0, none⟩ = some (.slice B m e) ∧ w'.cell? ⟨X, 0, none⟩ = some (.slice A3 NH c3) ∧ w'.cell? ⟨Y, 0, none⟩ = some (.slice A5 0 c5)) w6.drew := ⟨r6', x6', y6'⟩
  simp only [List.take_succ_cons, List.take_zero, List.replicate]
  refine wpAnyH_take (i := 0) (v := ?vva0) rfl (by kernel_rfl) (by kernel_rfl) (by kernel_rfl) (fun _ _ _ h => h) (Or.inl ⟨by rfl, ?hya0⟩) hHeld ?resta0; (case hya0 => (intro w hSw; (try dsimp only at hSw); go_simp; all_goals (with_reducible rfl))); simp only [Act.put, List.getElem_toArray, List.getElem_cons_zero, List.getElem_cons_succ, List.setIfInBounds_toArray, List.set_cons_zero, List.set_cons_succ]
  refine wpAnyH_take (i := 1) (v := ?vva1) rfl (by kernel_rfl) (by kernel_rfl) (by kernel_rfl) (fun _ _ _ h => h) (Or.inl ⟨by rfl, ?hya1⟩) hHeld ?resta1; (case hya1 => (intro w hSw; (try dsimp only at hSw); go_simp; all_goals (with_reducible rfl))); simp only [Act.put, List.getElem_toArray, List.getElem_cons_zero, List.getElem_cons_succ, List.setIfInBounds_toArray, List.set_cons_zero, List.set_cons_succ]
  refine wpAnyH_take (i := 2) (v := ?vva2) rfl (by kernel_rfl) (by kernel_rfl) (by kernel_rfl) (fun _ _ _ h => h) (Or.inl ⟨by rfl, ?hya2⟩) hHeld ?resta2; (case hya2 => (intro w hSw; (try dsimp only at hSw); go_simp; all_goals (with_reducible rfl))); simp only [Act.put, List.getElem_toArray, List.getElem_cons_zero, List.getElem_cons_succ, List.setIfInBounds_toArray, List.set_cons_zero, List.set_cons_succ]
  refine wpAnyH_take (i := 3) (v := ?vva3) rfl (by kernel_rfl) (by kernel_rfl) (by kernel_rfl) (fun _ _ _ h => h) (Or.inl ⟨by rfl, ?hya3⟩) hHeld ?resta3; (case hya3 => (intro w hSw; (try dsimp only at hSw); go_simp; all_goals (with_reducible rfl))); simp only [Act.put, List.getElem_toArray, List.getElem_cons_zero, List.getElem_cons_succ, List.setIfInBounds_toArray, List.set_cons_zero, List.set_cons_succ]
  refine wpAnyH_take (i := 4) (v := ?vva4) rfl (by kernel_rfl) (by kernel_rfl) (by kernel_rfl) (fun _ _ _ h => h) (Or.inl ⟨by rfl, ?hya4⟩) hHeld ?resta4; (case hya4 => (intro w hSw; (try dsimp only at hSw); go_simp; all_goals (with_reducible rfl))); simp only [Act.put, List.getElem_toArray, List.getElem_cons_zero, List.getElem_cons_succ, List.setIfInBounds_toArray, List.set_cons_zero, List.set_cons_succ]
  refine wpAnyH_take (i := 5) (v := ?vva5) rfl (by kernel_rfl) (by kernel_rfl) (by kernel_rfl) (fun _ _ _ h => h) (Or.inl ⟨by rfl, ?hya5⟩) hHeld ?resta5; (case hya5 => (intro w hSw; (try dsimp only at hSw); go_simp; all_goals (with_reducible rfl))); simp only [Act.put, List.getElem_toArray, List.getElem_cons_zero, List.getElem_cons_succ, List.setIfInBounds_toArray, List.set_cons_zero, List.set_cons_succ]
  refine wpAnyH_ready (rs := [6]) (by kernel_rfl) (by simp) ?_; refine AllReadyH.cons rfl (fun K hK => ?_) AllReadyH.nil
  go_simp
  refine hK.out _ _ ⟨(World.cell?_alloc_lt w6.drew _ _ (show w.heap.size < w6.heap.size from hw0)).trans r6', (World.cell?_alloc_lt w6.drew _ _ (show X < w6.heap.size by omega)).trans x6', (World.cell?_alloc_lt w6.drew _ _ (show Y < w6.heap.size from hs6)).trans y6'⟩ (fun hHeld => ?_)
  clear hK K
  (try simp only [Act.put, List.setIfInBounds_toArray, List.set_cons_zero, List.set_cons_succ])
  refine wpAnyH_ready (rs := [7]) (by kernel_rfl) (by simp) ?_; refine AllReadyH.cons rfl (fun K hK => ?_) AllReadyH.nil
  go_simp
  go_at_call 82
  refine HCo.out.mono ?_
  rintro e w7 ⟨v7, rfl, hown7, hb7⟩
  obtain ⟨A7, c7, rfl, _, _, _⟩ := own_slice hown7
  have HS7 := Lib.hid (SlR.ofR hown7)
  rw [HNH.out] at HS7 ⊢
  have Hb67 : Hid (Below w6.heap.size w6 w7) := Lib.hid ((Below.drew ((Below.refl w6.heap.size w6).alloc (Nat.le_refl _) _)).trans (hb7.mono (by show _ ≤ (w6.alloc _).heap.size; simp)))
  have hs7 : w6.heap.size ≤ w7.heap.size := Hb67.out.size
  have r7 := cell_of_row _ _ 0 _ _ _ ((Hb67.out.block w.heap.size hw0).trans Hr6.out)
  have x7 := cell_of_row _ _ 0 _ _ _ ((Hb67.out.block X (by omega)).trans Hx6.out)
  have y7 := cell_of_row _ _ 0 _ _ _ ((Hb67.out.block Y hs6).trans Hy6.out)
  rw [HNH.out] at x7
  have HB7 := Lib.hid (HB6.out.below Hb67.out)
  have Hb7 := Lib.hid (Hb6.out.trans (Hb67.out.mono (by omega)))
  have Hz7 := Lib.hid ((Hb67.out.block (w.heap.size + 1) (by omega)).trans Hz6.out)
  clear hown7 hb7
  refine hK.out _ _ ⟨r7, x7, y7⟩ (fun hHeld => ?_)
  clear hK K
  (try simp only [Act.put, List.setIfInBounds_toArray, List.set_cons_zero, List.set_cons_succ])
  refine wpAnyH_ready (rs := [8]) (by kernel_rfl) (by simp) ?_; refine AllReadyH.cons rfl (fun K hK => ?_) AllReadyH.nil
  go_simp
  go_at_call 54
  refine (HCh.out _ _ _ _ HB7.out HS7.out).mono ?_
  rintro e w8 ⟨v8, rfl, hown8, hb8⟩
  obtain ⟨A8, c8, rfl, _, _, _⟩ := own_slice hown8
  have r8 := cell_of_row _ _ 0 _ _ _ ((hb8.block w.heap.size (by omega)).trans ((Hb67.out.block w.heap.size hw0).trans Hr6.out))
  have x8 := cell_of_row _ _ 0 _ _ _ ((hb8.block X (by omega)).trans ((Hb67.out.block X (by omega)).trans Hx6.out))
  have y8 := cell_of_row _ _ 0 _ _ _ ((hb8.block Y (by omega)).trans ((Hb67.out.block Y hs6).trans Hy6.out))
  rw [HNH.out] at x8
  have Hown8 := Lib.hid (own_rebase (base' := w.heap.size + 2) hown8 (by omega))
  have Hb8 := Lib.hid (Hb7.out.trans (hb8.mono (by omega)))
  have Hz8 := Lib.hid ((hb8.block (w.heap.size + 1) (by omega)).trans Hz7.out)
  have hs8 : w6.heap.size ≤ w8.heap.size := Nat.le_trans hs7 hb8.size
  clear hown8 hb8
  refine hK.out _ _ ⟨r8, x8, y8⟩ (fun hHeld => ?_)
  clear hK K
  (try simp only [Act.put, List.setIfInBounds_toArray, List.set_cons_zero, List.set_cons_succ])
  refine wpAnyH_done (by kernel_rfl) ?_ _
  show wpAnyH _ _ _ _ _ _ _ _ _
  clear hHeld r6 x6 y6 r6' x6' y6' r7 x7 y7 r8 x8 y8
  have hHeld : (fun _ : World => True) w8 := trivial
  refine wpAnyH_ready (rs := [9]) (by kernel_rfl) (by simp) ?_; refine AllReadyH.cons rfl (fun K hK => ?_) AllReadyH.nil
  go_simp
  go_at_call 56
  refine (limited_ok A8 F.length c8 _ hFl).mono ?_
  rintro e w9 ⟨rfl, hb9⟩
  have hz9 := (hb9.block (w.heap.size + 1) (by omega)).trans Hz8.out
  have Hb9 := Lib.hid (Hb8.out.trans (hb9.mono (by omega)))
  have Hown9 := Lib.hid (ownsRow_below Hown8.out hb9)
  have z9 := cell_of_row _ _ 0 _ _ _ hz9
  have f9 := frozen_of_row _ _ 0 _ _ hz9
  have csame : (w9.setCell ⟨w.heap.size + 1, 0, none⟩ (.slice A8 F.length c8)).cell? ⟨w.heap.size + 1, 0, none⟩ = some (.slice A8 F.length c8) := by
    rw [cell_of_row _ (w.heap.size + 1) 0 _ _ _ (heap_setCell_same w9 (w.heap.size + 1) 0 _ _ _ hz9)]
    simp
  clear hb9 hz9
  refine hK.out _ _ trivial (fun hHeld => ?_)
  clear hK K
  (try simp only [Act.put, List.setIfInBounds_toArray, List.set_cons_zero, List.set_cons_succ])
  refine wpAnyH_take (i := 10) (v := ?vvb10) rfl (by kernel_rfl) (by kernel_rfl) (by kernel_rfl) (fun _ _ _ h => h) (Or.inl ⟨by rfl, ?hyb10⟩) hHeld ?restb10; (case hyb10 => (intro w hSw; (try dsimp only at hSw); go_simp; all_goals (with_reducible rfl))); simp only [Act.put, List.getElem_toArray, List.getElem_cons_zero, List.getElem_cons_succ, List.setIfInBounds_toArray, List.set_cons_zero, List.set_cons_succ]
  refine wpAnyH_take (i := 11) (v := ?vvb11) rfl (by kernel_rfl) (by kernel_rfl) (by kernel_rfl) (fun _ _ _ h => h) (Or.inl ⟨by rfl, ?hyb11⟩) hHeld ?restb11; (case hyb11 => (intro w hSw; (try dsimp only at hSw); go_simp; all_goals (with_reducible rfl))); simp only [Act.put, List.getElem_toArray, List.getElem_cons_zero, List.getElem_cons_succ, List.setIfInBounds_toArray, List.set_cons_zero, List.set_cons_succ]
  refine wpAnyH_ready (rs := [12]) (by kernel_rfl) (by simp) ?_; refine AllReadyH.cons rfl (fun K hK => ?_) AllReadyH.nil
  go_simp
  go_wp2_with fail
  refine hK.out _ _ trivial (fun hHeld => ?_)
  clear hK K
  (try simp only [Act.put, List.setIfInBounds_toArray, List.set_cons_zero, List.set_cons_succ])
  refine wpAnyH_ready (rs := [13]) (by kernel_rfl) (by simp) ?_; refine AllReadyH.cons rfl (fun K hK => ?_) AllReadyH.nil
  go_simp
  refine hK.out _ _ trivial (fun hHeld => ?_)
  clear hK K
  (try simp only [Act.put, List.setIfInBounds_toArray, List.set_cons_zero, List.set_cons_succ])
  refine wpAnyH_done (by kernel_rfl) ?_ _
  clear hHeld
  go_wp2
  refine bodyPost_ret (v := .tuple #[.agg #[.slice A8 F.length c8], .int .i64 0]) (by simp [results, Tryz.results22, go_sem, *]) rfl ?_
  refine ⟨_, rfl, ?_, Hb9.out.setCell (Nat.le_succ _) _⟩
  exact own_other (own_rebase Hown9.out (by omega)) (only_setCell (g := w.heap.size + 1) (World.grownBy.refl _ _) (.inl rfl) _) (fun k hk e => by injection e with e; have := own_base Hown9.out k hk; omega)
end Go.Proofs.YtfmkmhhghmdakaaGreatDoor
namespace Go.Proofs.YtfmkmhhghmdakaaGreatDoor
open Go.RowKit Go.Shelf
set_option linter.unusedVariables false
set_option linter.unusedSimpArgs false

/-- What Zones has found after some features. -/
def zkP (m : List Ft) (x y : Int) : List Int := (m.filter fun f => hasP f.rg x y).map Ft.kd
theorem zkP_take (m : List Ft) (x y : Int) (k : Nat) (h : k < m.length) : zkP (m.take (k + 1)) x y = if hasP m[k].rg x y = true then zkP (m.take k) x y ++ [m[k].kd] else zkP (m.take k) x y := by
  unfold zkP
  rw [List.take_succ_eq_append_getElem h, List.filter_append, List.map_append]
  by_cases hc : hasP m[k].rg x y = true
  · rw [if_pos hc, List.filter_cons, if_pos hc]; simp
  · rw [if_neg hc, List.filter_cons, if_neg hc]; simp
theorem zkP_len (m : List Ft) (x y : Int) : (zkP m x y).length ≤ m.length := by
  unfold zkP
  rw [List.length_map]
  exact List.length_filter_le _ _
theorem zkP_zones {m : List Ft} (hv : ∀ f ∈ m, validP f.rg = true) (x y : Int) : asc (zkP m x y) = zonesP m x y := by
  unfold zkP zonesP
  congr 2
  refine List.filter_congr fun f hf => ?_
  unfold hasP
  rw [hv f hf, Bool.true_and]
set_option maxHeartbeats 4000000 in
set_option maxRecDepth 100000 in
theorem zones_any (A : Option Addr) (n c : Nat) (l : FtL) (x y d : Int) (w : World) (hA : SlFt w A n c l) (hl : LyOk (fts l)) (hd : 0 ≤ d ∧ d ≤ 36864) :
    Calls Tryz.prog 24 #[.slice A n c, .int .i64 x, .int .i64 y, .int .i64 d] w fun e w' => ∃ v, e = .returned (.tuple #[v, .int .i64 0]) ∧ w'.ownsRow w.heap.size 3 1 v (zonesP (onP (fts l) d) x y).length ((zonesP (onP (fts l) d) x y).map (.int .i64)) ∧ Below w.heap.size w w' := by
  obtain ⟨i0, hi, hz0, hz1, hz2⟩ := info_parts Tryz.infoInt
  have HO := Lib.hid (on_any A n c l d w hA hl hd)
  have hv : ∀ f ∈ onP (fts l) d, validP f.rg = true := fun f hf => (hl.ok f (List.mem_filter.1 hf).1).rg
  have hol : (onP (fts l) d).length ≤ 60 := Nat.le_trans (List.length_filter_le _ _) hl.len
  have HZ := Lib.hid (zkP_zones hv x y)
  clear hA hl hv
  generalize onP (fts l) d = on at *
  go_enter Tryz.func24, Tryz.ntmps24
  go_upto_region 6 with (first
    | (go_at_call 19
       refine HO.out.mono ?_
       rintro e w1 ⟨m, v1, rfl, hown1, hfm, hb1⟩
       obtain ⟨A1, c1, rfl, _, _, _⟩ := own_slice hown1.o
       have HS := Lib.hid hown1.sl
       have Hfm := Lib.hid hfm
       have Hb1 := Lib.hid hb1
       have hs1 : w.heap.size ≤ w1.heap.size := hb1.size
       have Hml : Hid (m.length = on.length) := Lib.hid (by have h := congrArg List.length hfm; rwa [fts_len] at h)
       obtain ⟨nm, hnm⟩ : ∃ nm, m.length = nm := ⟨_, rfl⟩
       have Hnm := Lib.hid hnm
       rw [hnm] at HS ⊢
       clear hown1 hfm hb1 hnm)
    | fail)
  have hnm60 : nm ≤ 60 := by have h1 := Hml.out; have h2 := Hnm.out; omega
  go_loopw [12, 14, 26] (fun lv _ iv wr => ∃ k : Nat, k ≤ nm ∧ iv = .int .i64 (k : Int) ∧ wr.ownsRow w1.heap.size 3 1 lv (zkP ((fts m).take k) x y).length ((zkP ((fts m).take k) x y).map (.int .i64)) ∧ Below w1.heap.size w1 wr) (fun _ _ iv _ => nm - (intOf iv).toNat)
  case atStart => exact ⟨0, Nat.zero_le _, rfl, World.ownsRow_nil _ _ _ _, Below.refl _ _⟩
  case round =>
    obtain ⟨k, hk, rfl, hown, hbw⟩ := hrel
    obtain ⟨wo, rfl⟩ : ∃ wo : World, wo = wr := ⟨_, rfl⟩
    have Hown := Lib.hid hown
    have Hbw := Lib.hid hbw
    have hsw := hbw.size
    clear hown hbw
    by_cases hkn : k < nm
    · have hkn' : (k : Int) < (nm : Int) := by omega
      have hkl : k < m.length := by rw [Hnm.out]; exact hkn
      have hkf : k < (fts m).length := by rw [fts_len]; exact hkl
      obtain ⟨b, off, rfl, hbl, c0, c1', c2, c3, c4, hS⟩ := (HS.out.below Hbw.out).at k hkl
      have Hs := Lib.hid (zkP_take (fts m) x y k hkf)
      rw [fts_get m k hkl] at Hs
      have hPl : (zkP ((fts m).take k) x y).length ≤ 60 := by
        refine Nat.le_trans (zkP_len _ x y) ?_
        rw [List.length_take]; omega
      obtain ⟨q, hq⟩ : ∃ q, q = m[k] := ⟨_, rfl⟩
      rw [← hq] at c0 c1' c2 c3 c4 hS Hs
      have HSq := Lib.hid hS
      have HH := Lib.hid (fun W (h : SlR W q.2.a q.1.rg.length q.2.c q.1.rg) => has_any q.2.a q.1.rg.length q.2.c q.1.rg x y W h)
      generalize zkP ((fts m).take k) x y = P at *
      generalize hasP q.1.rg x y = b1 at *
      clear hS hq
      go_upto_region 8 with fail
      obtain ⟨w2, hw2⟩ : ∃ w2 : World, w2 = wo.alloc (.cells #[.int .i64 q.1.num, .int .i64 q.1.kd, .int .i64 q.1.fr, .int .i64 q.1.un, .slice q.2.a q.1.rg.length q.2.c] 54) := ⟨_, rfl⟩
      rw [← hw2]
      have hr2 : w2.heap[wo.heap.size]? = some (.cells #[.int .i64 q.1.num, .int .i64 q.1.kd, .int .i64 q.1.fr, .int .i64 q.1.un, .slice q.2.a q.1.rg.length q.2.c] 54 (0, 0)) := by rw [hw2]; exact heap_alloc_new wo _
      have Hr2 := Lib.hid hr2
      have Hb2 : Hid (Below wo.heap.size wo w2) := Lib.hid (by rw [hw2]; exact (by repeat' (first | with_reducible exact Below.refl _ _ | with_reducible refine below_drewN ?_ _ | with_reducible refine Below.drew ?_ | with_reducible refine Below.alloc ?_ ?_ _ | with_reducible refine Below.setCell ?_ ?_ _ | with_reducible refine Below.trans ?_ (Below.mono (by with_reducible assumption) ?_) | (simp; done) | (simp; omega) | omega)))
      have hs2 : wo.heap.size < w2.heap.size := by rw [hw2]; simp
      have HSq2 := Lib.hid (HSq.out.below Hb2.out)
      have d4 := cell_of_row _ _ 4 _ _ _ hr2
      clear hw2 hr2 c0 c1' c2 c3 c4
      cases b1 with
      | false =>
        go_wp2_with (first
          | (go_at_call 84; refine (HH.out _ HSq2.out).mono ?_; rintro e w3 ⟨rfl, hb3⟩; have Hb3 := Lib.hid (Hb2.out.trans (hb3.mono (by omega))); clear hb3)
          | fail)
        go_roundw
        case rel => exact ⟨k + 1, by omega, by go_num, by rw [Hs.out]; exact ownsRow_below Hown.out Hb3.out, Hbw.out.trans (Hb3.out.mono hsw)⟩
        case measure => simp [intOf]; omega
      | true =>
        go_wp2_with (first
          | (go_at_call 84
             refine (HH.out _ HSq2.out).mono ?_
             rintro e w3 ⟨rfl, hb3⟩
             have hr3 := (hb3.block wo.heap.size hs2).trans Hr2.out
             have Hb3 := Lib.hid (Hb2.out.trans (hb3.mono (by omega)))
             have hs3 : wo.heap.size ≤ w3.heap.size := Hb3.out.size
             have e1 := cell_of_row _ _ 1 _ _ _ hr3
             clear hb3 hr3 d4)
          | (at_builtin
             refine wpList_append_any _ rfl (.tmp 35) (.tmp 38) _ rfl w1.heap.size 3 i0 _ 1 8 Tryz.underlying22 hi hz0 hz1 hz2 rfl (by omega) _ P.length (P.map (Value.int .i64)) rfl
               ((ownsRow_below Hown.out Hb3.out).alloc _) _ _ 1 1 [.int .i64 q.1.kd] rfl ⟨rfl, fun _ => ⟨_, rfl, Nat.lt_succ_self _, fun j u hu => (by exact news_any _ _ _ j u hu)⟩⟩ (by simp [Value.oneCell']) (by simp only [maxLen]; omega) (by omega) (by simp; omega) ?_
             intro v5 w5 hown5 hg5 hat5
             have Hown5 := Lib.hid hown5
             have Hb5 := Lib.hid (((Hbw.out.trans (Hb3.out.mono hsw)).alloc (Nat.le_trans hsw hs3) (.cells #[.int .i64 q.1.kd] 3)).grown hg5 (by simp; omega) (own_base Hown.out))
             clear hown5 hg5 hat5)
          | fail)
        go_roundw
        case rel => exact ⟨k + 1, by omega, by go_num, by rw [Hs.out, if_pos trivial, List.length_append, List.map_append]; exact Hown5.out, Hb5.out⟩
        case measure => simp [intOf]; omega
    · have hkn' : ¬ (k : Int) < (nm : Int) := by omega
      have Hend : Hid ((fts m).take k = on) := Lib.hid (by rw [List.take_of_length_le (by rw [fts_len, Hnm.out]; omega), Hfm.out])
      rw [Hend.out] at Hown
      have hzl : (zkP on x y).length < 4611686018427387904 := by have := zkP_len on x y; omega
      go_wp2_with (first
        | (go_at_call 85
           refine (sort_own _ Hown.out hzl).mono ?_
           rintro e w5 ⟨rfl, hown5, hg5⟩
           have Hown5 : Hid (w5.ownsRow w1.heap.size 3 1 u12 (srt (zkP on x y)).length ((srt (zkP on x y)).map (.int .i64))) := Lib.hid (by rw [srt_len]; exact hown5)
           have Hb5 := Lib.hid (Hbw.out.grown hg5 hsw (own_base Hown.out))
           clear hown5 hg5)
        | (go_at_call 86
           refine (compact_own _ Hown5.out).mono ?_
           rintro e w6 ⟨v6, rfl, hown6, hg6, -⟩
           have Hown6 := Lib.hid hown6
           have Hb6 := Lib.hid (Hb5.out.grown hg6 Hb5.out.size (own_base Hown5.out))
           clear hown6 hg6)
        | fail)
      go_ret2
      refine ⟨v6, rfl, ?_, Hb1.out.trans (Hb6.out.mono hs1)⟩
      rw [← HZ.out]
      exact own_rebase Hown6.out hs1
set_option maxHeartbeats 4000000 in
set_option maxRecDepth 100000 in
/-- Ints, of lists that are the same. -/
theorem ints_any (A B : Option Addr) (n c d : Nat) (l : List Int) (w : World) (hA : SlI w A n c l) (hB : SlI w B n d l) :
    Calls Tryz.prog 26 #[.slice A n c, .slice B n d] w fun e w' => e = .returned (.bool true) ∧ Below w.heap.size w w' := by
  have hcap := hA.cap
  have htop := hA.top
  unfold maxLen at htop
  have HA := Lib.hid hA
  have HB := Lib.hid hB
  have Hln := Lib.hid hA.len
  clear hA hB
  go_enter Tryz.func26, Tryz.ntmps26
  go_upto_region 4 with fail
  go_loopw [5, 13] (fun _ iv wr => ∃ k : Nat, k ≤ n ∧ iv = .int .i64 (k : Int) ∧ Below w.heap.size w wr) (fun _ iv _ => n - (intOf iv).toNat)
  case atStart => exact ⟨0, Nat.zero_le _, rfl, Below.refl _ _⟩
  case round =>
    obtain ⟨k, hk, rfl, hbw⟩ := hrel
    obtain ⟨wo, rfl⟩ : ∃ wo : World, wo = wr := ⟨_, rfl⟩
    have Hbw := Lib.hid hbw
    clear hbw
    by_cases hkn : k < n
    · have hkn' : (k : Int) < (n : Int) := by omega
      have hkl : k < l.length := by rw [Hln.out]; exact hkn
      obtain ⟨b, off, rfl, hbl, c0⟩ := (HA.out.below Hbw.out).at k hkl
      obtain ⟨b2, off2, rfl, hbl2, c1⟩ := (HB.out.below Hbw.out).at k hkl
      generalize l[k] = z at *
      go_upto_region 6 with fail
      go_quiet (fail)
      go_wp2
      go_roundw
      case rel => exact ⟨k + 1, by omega, by go_num, ⟨Hbw.out.os, Hbw.out.tape, Hbw.out.output, Hbw.out.size, Hbw.out.block⟩⟩
      case measure => simp [intOf]; omega
    · have hkn' : ¬ (k : Int) < (n : Int) := by omega
      go_wp2
      go_ret
      exact ⟨rfl, Hbw.out⟩
end Go.Proofs.YtfmkmhhghmdakaaGreatDoor
