/- Contract: spoilt: a draw in which something is another thing. -/
import Derived.Test.YtbkkmgofjhaaoaaEu
import Derived.Test.YtbkkmgofjhaaoaaE9
namespace Go.Proofs.Ytbkkmgofjhaaoaa
open Go.RowKit
set_option linter.unusedVariables false
set_option linter.unusedSimpArgs false

def drawZero : Obj := .cells #[.int .i64 0, .slice none 0 0, .slice none 0 0, .slice none 0 0, .slice none 0 0] 26 (0, 0)
/-- A draw in a block X, beside a result's block R and a tape. -/
structure SP (w W : World) (g R X : Nat) (q : DV) (d : Dr) (r : List Int) : Prop where
  blk : W.heap[X]? = some (.cells #[.int .i64 d.st, .slice q.a1 d.se.length q.c1, .slice q.a2 d.sd.length q.c2, .slice q.a3 d.sx.length q.c3, .slice q.a4 d.rv.length q.c4] 26 (0, 0))
  rb : W.heap[R]? = some drawZero
  dr : OwnD W (R + 1) q d
  fX : Free q d X
  tp : TapeAt W g r
  gr : w.grownBy W (some g)
  hg : g < w.heap.size
  hR : w.heap.size ≤ R
  hX : R < X
  lt : X < W.heap.size
theorem own_take {w : World} {base : Nat} {e : TypeId} {n k c : Nat} {A : Option Addr} {xs : List Value} (h : w.ownsRow base e 1 (.slice A n c) n xs) (hk : k ≤ n) : w.ownsRow base e 1 (.slice A k c) k (xs.take k) := by
  obtain ⟨h1, h2⟩ := h
  refine ⟨by rw [List.length_take]; omega, ?_⟩
  rcases h2 with ⟨h3, h4⟩ | ⟨g, cap, cur, h3, hb, hh, hnc, hcm, hs, ht⟩
  · injection h3 with e1 e2 e3
    subst e1 e3
    have : k = 0 := by omega
    subst this
    exact .inl ⟨rfl, rfl⟩
  · injection h3 with e1 e2 e3
    subst e1 e3
    refine .inr ⟨g, c, cur, rfl, hb, hh, by omega, hcm, hs, ?_⟩
    rw [← ht, List.take_take]
    congr 1
    omega
theorem ownBlock_len (A : Option Addr) (n m c : Nat) : (Value.slice A n c).ownBlock = (Value.slice A m c).ownBlock := by
  rcases A with _ | ⟨b, o, s⟩ <;> rfl
section
variable {w W W' : World} {g R X : Nat} {q : DV} {d d' : Dr} {r r' : List Int}
theorem SP.tape (h : SP w W g R X q d r) (hn : W.grownBy W' (some g)) (ht : TapeAt W' g r') : SP w W' g R X q d r' := by
  have h1 := h.lt
  have h2 := h.hX
  have h3 := h.hR
  have h4 := h.hg
  exact ⟨(hn.block _ h1 (fun e => by injection e with e; omega)).trans h.blk, (hn.block _ (by omega) (fun e => by injection e with e; omega)).trans h.rb, h.dr.old hn (by omega), h.fX, ht, only_trans h.gr hn, h4, h3, h2, Nat.lt_of_lt_of_le h1 hn.size⟩
theorem SP.drew (h : SP w W g R X q d r) : SP w W.drew g R X q d r := ⟨h.blk, h.rb, h.dr.below (Below.drew (Below.refl _ _)), h.fX, h.tp.drew, only_drew h.gr, h.hg, h.hR, h.hX, h.lt⟩
theorem SP.state (h : SP w W g R X q d r) (s : Int) : SP w (W.setCell ⟨X, 0, none⟩ (.int .i64 s)) g R X q { d with st := s } r := by
  have h1 := h.lt
  have h2 := h.hX
  have h3 := h.hR
  have h4 := h.hg
  have hn : W.grownBy (W.setCell ⟨X, 0, none⟩ (.int .i64 s)) (some X) := only_setCell (World.grownBy.refl _ _) (.inl rfl) _
  refine ⟨?_, (hn.block _ (by omega) (fun e => by injection e with e; omega)).trans h.rb, (h.dr.free hn h.fX).state s, h.fX, h.tp.grown hn (fun y hy => by injection hy with hy; omega), only_grown h.gr hn (fun y hy => by injection hy with hy; omega), h4, h3, h2, Nat.lt_of_lt_of_le h1 hn.size⟩
  have := heap_setCell_same W X 0 _ _ (.int .i64 s) h.blk
  rw [this]
  simp
theorem SP.cut (h : SP w W g R X q d r) {k : Nat} (hk : k ≤ d.se.length) : SP w (W.setCell ⟨X, 1, none⟩ (.slice q.a1 k q.c1)) g R X q { d with se := d.se.take k } r := by
  have h1 := h.lt
  have h2 := h.hX
  have h3 := h.hR
  have h4 := h.hg
  have hn : W.grownBy (W.setCell ⟨X, 1, none⟩ (.slice q.a1 k q.c1)) (some X) := only_setCell (World.grownBy.refl _ _) (.inl rfl) _
  have hl : (d.se.take k).length = k := by rw [List.length_take]; omega
  have hd := h.dr.free hn h.fX
  have o1 := own_take hd.o1 hk
  rw [← List.map_take] at o1
  refine ⟨?_, (hn.block _ (by omega) (fun e => by injection e with e; omega)).trans h.rb, ⟨by rw [hl]; exact o1, hd.o2, hd.o3, hd.o4, ?_, ?_, ?_, hd.n23, hd.n24, hd.n34⟩, ⟨?_, h.fX.2⟩, h.tp.grown hn (fun y hy => by injection hy with hy; omega), only_grown h.gr hn (fun y hy => by injection hy with hy; omega), h4, h3, h2, Nat.lt_of_lt_of_le h1 hn.size⟩
  · have := heap_setCell_same W X 1 _ _ (.slice q.a1 k q.c1) h.blk
    rw [this, hl]
    simp
  · intro y hy; rw [ownBlock_len q.a1 _ d.se.length] at hy; exact hd.n12 y hy
  · intro y hy; rw [ownBlock_len q.a1 _ d.se.length] at hy; exact hd.n13 y hy
  · intro y hy; rw [ownBlock_len q.a1 _ d.se.length] at hy; exact hd.n14 y hy
  · rw [ownBlock_len q.a1 _ d.se.length]; exact h.fX.1
theorem SP.row (h : SP w W g R X q d r) {b k : Nat} {u : Value} (hd : OwnD (W.setCell ⟨b, k, none⟩ u) (R + 1) q d') (hbR : R + 1 ≤ b) (hbX : b ≠ X) (e0 : d'.st = d.st) (e1 : d'.se.length = d.se.length) (e2 : d'.sd.length = d.sd.length) (e3 : d'.sx.length = d.sx.length) (e4 : d'.rv.length = d.rv.length) :
    SP w (W.setCell ⟨b, k, none⟩ u) g R X q d' r := by
  have h1 := h.lt
  have h2 := h.hX
  have h3 := h.hR
  have h4 := h.hg
  have hn : W.grownBy (W.setCell ⟨b, k, none⟩ u) (some b) := only_setCell (World.grownBy.refl _ _) (.inl rfl) _
  refine ⟨?_, (hn.block _ (by omega) (fun e => by injection e with e; omega)).trans h.rb, hd, ?_, h.tp.grown hn (fun y hy => by injection hy with hy; omega), only_grown h.gr hn (fun y hy => by injection hy with hy; omega), h4, h3, h2, Nat.lt_of_lt_of_le h1 hn.size⟩
  · rw [e0, e1, e2, e3, e4]
    exact (hn.block _ h1 (fun e => by injection e with e; exact hbX e.symm)).trans h.blk
  · unfold Free
    rw [e1, e2, e3, e4]
    exact h.fX
/-- What spoilt leaves. -/
def SpPost (w : World) (g : Nat) (e : Ending) (w' : World) : Prop := ∃ (q : DV) (d : Dr) (r : List Int), e = .returned (.agg #[.int .i64 d.st, .slice q.a1 d.se.length q.c1, .slice q.a2 d.sd.length q.c2, .slice q.a3 d.sx.length q.c3, .slice q.a4 d.rv.length q.c4]) ∧ OwnD w' w.heap.size q d ∧ d.small ∧ TapeAt w' g r ∧ w.grownBy w' (some g)
theorem SP.fin (h : SP w W g w.heap.size X q d r) (hs : d.small) : SpPost w g (.returned (.agg #[.int .i64 d.st, .slice q.a1 d.se.length q.c1, .slice q.a2 d.sd.length q.c2, .slice q.a3 d.sx.length q.c3, .slice q.a4 d.rv.length q.c4])) ((((((W.setCell ⟨w.heap.size, 0, none⟩ (.int .i64 d.st)).setCell ⟨w.heap.size, 1, none⟩ (.slice q.a1 d.se.length q.c1)).setCell ⟨w.heap.size, 2, none⟩ (.slice q.a2 d.sd.length q.c2)).setCell ⟨w.heap.size, 3, none⟩ (.slice q.a3 d.sx.length q.c3)).setCell ⟨w.heap.size, 4, none⟩ (.slice q.a4 d.rv.length q.c4))) := by
  have h4 := h.hg
  exact ⟨q, d, r, rfl, (h.dr.old box5_only (by omega)).rebase (by omega), hs, h.tp.grown box5_only (fun y hy => by injection hy with hy; omega), only_grown h.gr box5_only (fun y hy => by injection hy with hy; omega)⟩
theorem SP.res (h : SP w W g w.heap.size X q d r) : DC ((((((W.setCell ⟨w.heap.size, 0, none⟩ (.int .i64 d.st)).setCell ⟨w.heap.size, 1, none⟩ (.slice q.a1 d.se.length q.c1)).setCell ⟨w.heap.size, 2, none⟩ (.slice q.a2 d.sd.length q.c2)).setCell ⟨w.heap.size, 3, none⟩ (.slice q.a3 d.sx.length q.c3)).setCell ⟨w.heap.size, 4, none⟩ (.slice q.a4 d.rv.length q.c4))) w.heap.size q d := DC.of (t := 26) (box5 h.rb)
theorem SP.zero (h : SP w W g R X q d r) : DC W R ⟨none, 0, none, 0, none, 0, none, 0⟩ zeroD := DC.of (t := 26) h.rb
end

set_option maxHeartbeats 16000000 in
set_option maxRecDepth 100000 in
theorem spoilt_any (g : Nat) (r : List Int) (b : Int) (w : World) (ht : TapeAt w g r) (hb : -9223372036854775808 ≤ b ∧ b ≤ 9223372036854775807) :
    Calls Try.prog 14 #[.pointer (some ⟨g, 0, none⟩), .int .i64 b] w (SpPost w g) := by
  obtain ⟨hb1, hb2⟩ := hb
  have hg := ht.lt
  have Ht := Lib.hid ht
  have hfield := run_field
  have HL : Hid (∀ r W, TapeAt W g r → Calls Try.prog 11 #[.pointer (some ⟨g, 0, none⟩), .int .i64 2] W (LotsPost W g)) := Lib.hid (fun r W h => lots_any g r 2 W h (by omega) (by omega))
  have HNx : Hid (∀ (r : List Int) (m : Int) W, TapeAt W g r → m ≤ 9223372036854775807 → Calls Try.prog 13 #[.pointer (some ⟨g, 0, none⟩), .int .i64 m] W (NextPost W g r (nx r m))) := Lib.hid (fun r m W h hm => next_any g r m W h hm)
  clear ht
  go_enter Try.func14, Try.ntmps14
  go_upto_region 2 with (first
    | (go_at_call 11
       refine (HL.out r _ (Ht.out.alloc _)).mono ?_
       rintro e w2 ⟨q, d, A1, a1, B1, b1, n, l, k, r2, rfl, hown2, hlen2, hm1, hm4, _, _, _, _, ht2, hg2⟩
       have Hown := Lib.hid hown2
       have Hlen := Lib.hid hlen2
       have Htp := Lib.hid ht2
       have Hgr := Lib.hid hg2
       clear hown2 hlen2 ht2 hg2)
    | fail)
  have HS0 : Hid (SP w (w2.alloc (.cells #[.int .i64 d.st, .slice q.a1 d.se.length q.c1, .slice q.a2 d.sd.length q.c2, .slice q.a3 d.sx.length q.c3, .slice q.a4 d.rv.length q.c4] 26)) g w.heap.size w2.heap.size q d r2) := Lib.hid (by
    have hs := Hgr.out.size
    rw [World.size_alloc] at hs
    have o := Hown.out
    rw [World.size_alloc] at o
    have ba : Below w2.heap.size w2 (w2.alloc (.cells #[.int .i64 d.st, .slice q.a1 d.se.length q.c1, .slice q.a2 d.sd.length q.c2, .slice q.a3 d.sx.length q.c3, .slice q.a4 d.rv.length q.c4] 26)) := (Below.refl _ _).alloc (Nat.le_refl _) _
    exact ⟨heap_alloc_new w2 _, (ba.block _ (by omega)).trans ((Hgr.out.block _ (by simp) (fun e => by injection e with e; omega)).trans (heap_alloc_new w _)), o.below ba, Free.young o (Nat.le_refl _), Htp.out.below ba (by omega), only_below (only_trans (only_alloc (World.grownBy.refl _ _) _) Hgr.out) ba (by omega), hg, Nat.le_refl _, by omega, by simp⟩)
  obtain ⟨X, hX⟩ : ∃ X, w2.heap.size = X := ⟨_, rfl⟩
  rw [hX] at HS0 ⊢
  generalize w2.alloc (.cells #[.int .i64 d.st, .slice q.a1 d.se.length q.c1, .slice q.a2 d.sd.length q.c2, .slice q.a3 d.sx.length q.c3, .slice q.a4 d.rv.length q.c4] 26) = w3 at *
  have hl1 : d.se.length = n := Hlen.out.1
  have hn1 := nx_bd r2 (d.se.length : Int) (by omega)
  obtain ⟨k, hk⟩ : ∃ k : Nat, nx r2 (d.se.length : Int) = (k : Int) := Int.eq_ofNat_of_zero_le hn1.1
  have hk1 : (k : Int) < (d.se.length : Int) := by omega
  have hk2 : (k : Int) < (d.sd.length : Int) := by have := Hlen.out.2.1; omega
  have hk3 : (k : Int) < (d.sx.length : Int) := by have := Hlen.out.2.2.1; omega
  have hk4 : (k : Int) < (d.rv.length : Int) := by have := Hlen.out.2.2.2; omega
  have hse4 : (d.se.length : Int) ≤ 4 := by omega
  have Hsm : Hid (∀ d' : Dr, d'.se.length ≤ 4 → d'.sd.length = d.sd.length → d'.sx.length = d.sx.length → d'.rv.length = d.rv.length → d'.small) := Lib.hid (fun d' h1 h2 h3 h4 => by have := Hlen.out; unfold Lens at this; unfold Dr.small; omega)
  have HN1 : Hid (Calls Try.prog 13 #[.pointer (some ⟨g, 0, none⟩), .int .i64 (d.se.length : Int)] w3 (NextPost w3 g r2 (k : Int))) := Lib.hid (by have := HNx.out r2 (d.se.length : Int) w3 HS0.out.tp (by omega); rw [hk] at this; exact this)
  clear hX Hown Htp Hgr HL Ht hl1 hn1 hk Hlen
  have hbk := DC.of HS0.out.blk; have p0 := hbk.c0; have p1 := hbk.c1; have p2 := hbk.c2; have p3 := hbk.c3; have p4 := hbk.c4; have pf0 := hbk.f 0; have pf1 := hbk.f 1; have pf2 := hbk.f 2; have pf3 := hbk.f 3; have pf4 := hbk.f 4; clear hbk
  go_upto_region 3 with (first | (go_at_call 13; refine HN1.out.mono ?_; rintro e w4 ⟨rfl, ht4, hg4⟩; have HS1 := Lib.hid (HS0.out.tape hg4 ht4); clear ht4 hg4) | fail)
  clear p0 p1 p2 p3 p4 pf0 pf1 pf2 pf3 pf4
  have hny := nx_bd r2.tail 7 (by omega)
  obtain ⟨y, hy⟩ : ∃ y, nx r2.tail 7 = y := ⟨_, rfl⟩
  have HN2 := HNx.out r2.tail 7 w4 HS1.out.tp (by omega)
  rw [hy] at HN2 hny
  have HN2 := Lib.hid HN2
  clear hy HN1 HNx HS0
  by_cases hy1 : y = 1
  · subst hy1
    go_upto_region 14 with (first | (go_at_call 13; refine HN2.out.mono ?_; rintro e w5 ⟨rfl, ht5, hg5⟩; have HS2 := Lib.hid (HS1.out.tape hg5 ht5); have hbk := DC.of HS2.out.blk; have p0 := hbk.c0; have p1 := hbk.c1; have p2 := hbk.c2; have p3 := hbk.c3; have p4 := hbk.c4; have pf0 := hbk.f 0; have pf1 := hbk.f 1; have pf2 := hbk.f 2; have pf3 := hbk.f 3; have pf4 := hbk.f 4; clear hbk; clear ht5 hg5) | fail)
    have HS3 := Lib.hid (HS2.out.state b)
    clear p0 p1 p2 p3 p4 pf0 pf1 pf2 pf3 pf4
    obtain ⟨d2, hd2⟩ : ∃ x, ({ d with st := b } : Dr) = x := ⟨_, rfl⟩
    have hs : d2.small := by rw [← hd2]; exact Hsm.out _ (by show d.se.length ≤ 4; omega) rfl rfl rfl
    rw [hd2] at HS3
    generalize w5.setCell ⟨X, 0, none⟩ (.int .i64 b) = w6 at *
    clear HS2 HS1 HN2 hd2 hk1 hk2 hk3 hk4 hse4
    have HF := Lib.hid (HS3.out.fin hs)
    have hbk := DC.of HS3.out.blk; have p0 := hbk.c0; have p1 := hbk.c1; have p2 := hbk.c2; have p3 := hbk.c3; have p4 := hbk.c4; have pf0 := hbk.f 0; have pf1 := hbk.f 1; have pf2 := hbk.f 2; have pf3 := hbk.f 3; have pf4 := hbk.f 4; clear hbk
    have hbk := HS3.out.zero; have z0 := hbk.c0; have z1 := hbk.c1; have z2 := hbk.c2; have z3 := hbk.c3; have z4 := hbk.c4; have zf0 := hbk.f 0; have zf1 := hbk.f 1; have zf2 := hbk.f 2; have zf3 := hbk.f 3; have zf4 := hbk.f 4; clear hbk
    have HZ := Lib.hid HS3.out.res
    go_wp2
    have hbk := HZ.out
    have y0 := hbk.c0; have y1 := hbk.c1; have y2 := hbk.c2; have y3 := hbk.c3; have y4 := hbk.c4
    clear hbk
    refine bodyPost_ret (v := .agg #[.int .i64 d2.st, .slice q.a1 d2.se.length q.c1, .slice q.a2 d2.sd.length q.c2, .slice q.a3 d2.sx.length q.c3, .slice q.a4 d2.rv.length q.c4]) (by simp only [results, Try.results14, go_sem, y0, y1, y2, y3, y4]; first | rfl | simp [go_sem, *]) rfl HF.out
  by_cases hy2 : y = 2
  · subst hy2
    have hkl : k < d.sd.length := by omega
    obtain ⟨bR, cR, hve, hR1, hR2, hR3, hR4, hcell, hfro⟩ := own_at HS1.out.dr.o2 (by omega)
    injection hve with he1 _ he2
    have Hq := Lib.hid he1
    have hbX : bR ≠ X := fun e => by have := HS1.out.fX.2.1; rw [he1, e] at this; exact this rfl
    unfold maxLen at hR4
    have Hk : Hid (∀ W r', SP w W g w.heap.size X q d r' → W.cell? ⟨bR, k, none⟩ = some (.bool (d.sd[k]'hkl)) ∧ W.frozen? ⟨bR, k, none⟩ = false) := Lib.hid (fun W r' h => by
      obtain ⟨bR', cR', hve', _, _, _, _, hcell', hfro'⟩ := own_at h.dr.o2 (by omega)
      injection hve' with he1' _ _
      rw [he1] at he1'
      injection he1' with he1'
      injection he1' with he1'
      subst he1'
      exact ⟨hcell' k _ (by simp [hkl]), hfro' k⟩)
    obtain ⟨v, hv⟩ : ∃ v, d.sd[k] = v := ⟨_, rfl⟩
    simp only [hv] at Hk
    clear hcell hfro hv he1 he2 hR2
    go_upto_region 7 with (first | (go_at_call 13; refine HN2.out.mono ?_; rintro e w5 ⟨rfl, ht5, hg5⟩; have HS2 := Lib.hid (HS1.out.tape hg5 ht5); have hbk := DC.of HS2.out.blk; have p0 := hbk.c0; have p1 := hbk.c1; have p2 := hbk.c2; have p3 := hbk.c3; have p4 := hbk.c4; have pf0 := hbk.f 0; have pf1 := hbk.f 1; have pf2 := hbk.f 2; have pf3 := hbk.f 3; have pf4 := hbk.f 4; clear hbk; clear ht5 hg5) | fail)
    clear p0 p1 p2 p3 p4 pf0 pf1 pf2 pf3 pf4
    have HX1 := Lib.hid HS2.out.drew
    obtain ⟨ck, fk⟩ := Hk.out _ _ HX1.out
    have cx : w5.drew.cell? ⟨X, 2, none⟩ = some (.slice (some ⟨bR, 0, none⟩) d.sd.length q.c2) := by rw [← Hq.out]; exact (DC.of HX1.out.blk).c2
    refine wp_region_held_two (S := (fun w' : World => w'.cell? ⟨X, 2, none⟩ = some (.slice (some ⟨bR, 0, none⟩) d.sd.length q.c2) ∧ w'.cell? ⟨bR, k, none⟩ = some (.bool v))) 10 (by kernel_rfl) (by kernel_rfl) ?_
    have hHeld : (fun w' : World => w'.cell? ⟨X, 2, none⟩ = some (.slice (some ⟨bR, 0, none⟩) d.sd.length q.c2) ∧ w'.cell? ⟨bR, k, none⟩ = some (.bool v)) w5.drew := ⟨cx, ck⟩
    simp only [List.take_succ_cons, List.take_zero, List.replicate]
    refine wpAnyH_take (i := 0) (v := ?vva0) rfl (by kernel_rfl) (by kernel_rfl) (by kernel_rfl) (fun _ _ _ h => h) (Or.inl ⟨by rfl, ?hya0⟩) hHeld ?resta0; (case hya0 => (intro w hSw; (try dsimp only at hSw); go_simp; all_goals (with_reducible rfl))); simp only [Act.put, List.setIfInBounds_toArray, List.set_cons_zero, List.set_cons_succ]
    refine wpAnyH_take (i := 1) (v := ?vva1) rfl (by kernel_rfl) (by kernel_rfl) (by kernel_rfl) (fun _ _ _ h => h) (Or.inl ⟨by rfl, ?hya1⟩) hHeld ?resta1; (case hya1 => (intro w hSw; (try dsimp only at hSw); go_simp; all_goals (with_reducible rfl))); simp only [Act.put, List.setIfInBounds_toArray, List.set_cons_zero, List.set_cons_succ]
    refine wpAnyH_take (i := 2) (v := ?vva2) rfl (by kernel_rfl) (by kernel_rfl) (by kernel_rfl) (fun _ _ _ h => h) (Or.inl ⟨by rfl, ?hya2⟩) hHeld ?resta2; (case hya2 => (intro w hSw; (try dsimp only at hSw); go_simp; all_goals (with_reducible rfl))); simp only [Act.put, List.setIfInBounds_toArray, List.set_cons_zero, List.set_cons_succ]
    refine wpAnyH_take (i := 3) (v := ?vva3) rfl (by kernel_rfl) (by kernel_rfl) (by kernel_rfl) (fun _ _ _ h => h) (Or.inl ⟨by rfl, ?hya3⟩) hHeld ?resta3; (case hya3 => (intro w hSw; (try dsimp only at hSw); go_simp; all_goals (with_reducible rfl))); simp only [Act.put, List.setIfInBounds_toArray, List.set_cons_zero, List.set_cons_succ]
    refine wpAnyH_take (i := 4) (v := ?vva4) rfl (by kernel_rfl) (by kernel_rfl) (by kernel_rfl) (fun _ _ _ h => h) (Or.inl ⟨by rfl, ?hya4⟩) hHeld ?resta4; (case hya4 => (intro w hSw; (try dsimp only at hSw); go_simp; all_goals (with_reducible rfl))); simp only [Act.put, List.setIfInBounds_toArray, List.set_cons_zero, List.set_cons_succ]
    refine wpAnyH_take (i := 5) (v := ?vva5) rfl (by kernel_rfl) (by kernel_rfl) (by kernel_rfl) (fun _ _ _ h => h) (Or.inl ⟨by rfl, ?hya5⟩) hHeld ?resta5; (case hya5 => (intro w hSw; (try dsimp only at hSw); go_simp; all_goals (with_reducible rfl))); simp only [Act.put, List.setIfInBounds_toArray, List.set_cons_zero, List.set_cons_succ]
    refine wpAnyH_take (i := 6) (v := ?vva6) rfl (by kernel_rfl) (by kernel_rfl) (by kernel_rfl) (fun _ _ _ h => h) (Or.inl ⟨by rfl, ?hya6⟩) hHeld ?resta6; (case hya6 => (intro w hSw; (try dsimp only at hSw); go_simp; all_goals (with_reducible rfl))); simp only [Act.put, List.setIfInBounds_toArray, List.set_cons_zero, List.set_cons_succ]
    refine wpAnyH_take (i := 7) (v := ?vva7) rfl (by kernel_rfl) (by kernel_rfl) (by kernel_rfl) (fun _ _ _ h => h) (Or.inl ⟨by rfl, ?hya7⟩) hHeld ?resta7; (case hya7 => (intro w hSw; (try dsimp only at hSw); go_simp; all_goals (with_reducible rfl))); simp only [Act.put, List.setIfInBounds_toArray, List.set_cons_zero, List.set_cons_succ]
    refine wpAnyH_take (i := 8) (v := ?vva8) rfl (by kernel_rfl) (by kernel_rfl) (by kernel_rfl) (fun _ _ _ h => h) (Or.inl ⟨by rfl, ?hya8⟩) hHeld ?resta8; (case hya8 => (intro w hSw; (try dsimp only at hSw); go_simp; all_goals (with_reducible rfl))); simp only [Act.put, List.setIfInBounds_toArray, List.set_cons_zero, List.set_cons_succ]
    refine wpAnyH_take (i := 9) (v := ?vva9) rfl (by kernel_rfl) (by kernel_rfl) (by kernel_rfl) (fun _ _ _ h => h) (Or.inl ⟨by rfl, ?hya9⟩) hHeld ?resta9; (case hya9 => (intro w hSw; (try dsimp only at hSw); go_simp; all_goals (with_reducible rfl))); simp only [Act.put, List.setIfInBounds_toArray, List.set_cons_zero, List.set_cons_succ]
    refine wpAnyH_done (by kernel_rfl) ?_ _
    show wpAnyH _ _ _ _ _ _ _ _ _
    clear hHeld
    have hHeld : (fun _ : World => True) w5.drew := trivial
    refine wpAnyH_ready (rs := [10]) (by kernel_rfl) (by simp) ?_; refine AllReadyH.cons rfl (fun K hK => ?_) AllReadyH.nil
    go_simp
    go_wp2_with fail
    refine hK.out _ _ trivial (fun hHeld => ?_)
    clear hK K
    (try simp only [Act.put, List.setIfInBounds_toArray, List.set_cons_zero, List.set_cons_succ])
    refine wpAnyH_done (by kernel_rfl) ?_ _
    clear hHeld
    have HS3 : Hid (SP w (w5.setCell ⟨bR, k, none⟩ (.bool (!v))).drew g w.heap.size X q { d with sd := d.sd.set k (!v) } r2.tail.tail) := Lib.hid (HX1.out.row (HX1.out.dr.set2 Hq.out k (!v)) hR1 hbX rfl rfl (by simp) rfl rfl)
    obtain ⟨d2, hd2⟩ : ∃ x, ({ d with sd := d.sd.set k (!v) } : Dr) = x := ⟨_, rfl⟩
    have hs : d2.small := by rw [← hd2]; exact Hsm.out _ (by show d.se.length ≤ 4; omega) (by simp) rfl rfl
    rw [hd2] at HS3
    go_upto_region 14 with fail
    generalize (w5.setCell ⟨bR, k, none⟩ (.bool (!v))).drew = w6 at *
    clear HS2 HS1 HN2 hd2 hk1 hk2 hk3 hk4 hse4 HX1 Hk ck fk cx hbX
    have HF := Lib.hid (HS3.out.fin hs)
    have hbk := DC.of HS3.out.blk; have p0 := hbk.c0; have p1 := hbk.c1; have p2 := hbk.c2; have p3 := hbk.c3; have p4 := hbk.c4; have pf0 := hbk.f 0; have pf1 := hbk.f 1; have pf2 := hbk.f 2; have pf3 := hbk.f 3; have pf4 := hbk.f 4; clear hbk
    have hbk := HS3.out.zero; have z0 := hbk.c0; have z1 := hbk.c1; have z2 := hbk.c2; have z3 := hbk.c3; have z4 := hbk.c4; have zf0 := hbk.f 0; have zf1 := hbk.f 1; have zf2 := hbk.f 2; have zf3 := hbk.f 3; have zf4 := hbk.f 4; clear hbk
    have HZ := Lib.hid HS3.out.res
    go_wp2
    have hbk := HZ.out
    have y0 := hbk.c0; have y1 := hbk.c1; have y2 := hbk.c2; have y3 := hbk.c3; have y4 := hbk.c4
    clear hbk
    refine bodyPost_ret (v := .agg #[.int .i64 d2.st, .slice q.a1 d2.se.length q.c1, .slice q.a2 d2.sd.length q.c2, .slice q.a3 d2.sx.length q.c3, .slice q.a4 d2.rv.length q.c4]) (by simp only [results, Try.results14, go_sem, y0, y1, y2, y3, y4]; first | rfl | simp [go_sem, *]) rfl HF.out
  by_cases hy3 : y = 3
  · subst hy3
    have hkl : k < d.rv.length := by omega
    obtain ⟨bR, cR, hve, hR1, hR2, hR3, hR4, hcell, hfro⟩ := own_at HS1.out.dr.o4 (by omega)
    injection hve with he1 _ he2
    have Hq := Lib.hid he1
    have hbX : bR ≠ X := fun e => by have := HS1.out.fX.2.2.2; rw [he1, e] at this; exact this rfl
    unfold maxLen at hR4
    have Hk : Hid (∀ W r', SP w W g w.heap.size X q d r' → W.cell? ⟨bR, k, none⟩ = some (.bool (d.rv[k]'hkl)) ∧ W.frozen? ⟨bR, k, none⟩ = false) := Lib.hid (fun W r' h => by
      obtain ⟨bR', cR', hve', _, _, _, _, hcell', hfro'⟩ := own_at h.dr.o4 (by omega)
      injection hve' with he1' _ _
      rw [he1] at he1'
      injection he1' with he1'
      injection he1' with he1'
      subst he1'
      exact ⟨hcell' k _ (by simp [hkl]), hfro' k⟩)
    obtain ⟨v, hv⟩ : ∃ v, d.rv[k] = v := ⟨_, rfl⟩
    simp only [hv] at Hk
    clear hcell hfro hv he1 he2 hR2
    go_upto_region 9 with (first | (go_at_call 13; refine HN2.out.mono ?_; rintro e w5 ⟨rfl, ht5, hg5⟩; have HS2 := Lib.hid (HS1.out.tape hg5 ht5); have hbk := DC.of HS2.out.blk; have p0 := hbk.c0; have p1 := hbk.c1; have p2 := hbk.c2; have p3 := hbk.c3; have p4 := hbk.c4; have pf0 := hbk.f 0; have pf1 := hbk.f 1; have pf2 := hbk.f 2; have pf3 := hbk.f 3; have pf4 := hbk.f 4; clear hbk; clear ht5 hg5) | fail)
    clear p0 p1 p2 p3 p4 pf0 pf1 pf2 pf3 pf4
    have HX1 := Lib.hid HS2.out.drew
    obtain ⟨ck, fk⟩ := Hk.out _ _ HX1.out
    have cx : w5.drew.cell? ⟨X, 4, none⟩ = some (.slice (some ⟨bR, 0, none⟩) d.rv.length q.c4) := by rw [← Hq.out]; exact (DC.of HX1.out.blk).c4
    refine wp_region_held_two (S := (fun w' : World => w'.cell? ⟨X, 4, none⟩ = some (.slice (some ⟨bR, 0, none⟩) d.rv.length q.c4) ∧ w'.cell? ⟨bR, k, none⟩ = some (.bool v))) 10 (by kernel_rfl) (by kernel_rfl) ?_
    have hHeld : (fun w' : World => w'.cell? ⟨X, 4, none⟩ = some (.slice (some ⟨bR, 0, none⟩) d.rv.length q.c4) ∧ w'.cell? ⟨bR, k, none⟩ = some (.bool v)) w5.drew := ⟨cx, ck⟩
    simp only [List.take_succ_cons, List.take_zero, List.replicate]
    refine wpAnyH_take (i := 0) (v := ?vvb0) rfl (by kernel_rfl) (by kernel_rfl) (by kernel_rfl) (fun _ _ _ h => h) (Or.inl ⟨by rfl, ?hyb0⟩) hHeld ?restb0; (case hyb0 => (intro w hSw; (try dsimp only at hSw); go_simp; all_goals (with_reducible rfl))); simp only [Act.put, List.setIfInBounds_toArray, List.set_cons_zero, List.set_cons_succ]
    refine wpAnyH_take (i := 1) (v := ?vvb1) rfl (by kernel_rfl) (by kernel_rfl) (by kernel_rfl) (fun _ _ _ h => h) (Or.inl ⟨by rfl, ?hyb1⟩) hHeld ?restb1; (case hyb1 => (intro w hSw; (try dsimp only at hSw); go_simp; all_goals (with_reducible rfl))); simp only [Act.put, List.setIfInBounds_toArray, List.set_cons_zero, List.set_cons_succ]
    refine wpAnyH_take (i := 2) (v := ?vvb2) rfl (by kernel_rfl) (by kernel_rfl) (by kernel_rfl) (fun _ _ _ h => h) (Or.inl ⟨by rfl, ?hyb2⟩) hHeld ?restb2; (case hyb2 => (intro w hSw; (try dsimp only at hSw); go_simp; all_goals (with_reducible rfl))); simp only [Act.put, List.setIfInBounds_toArray, List.set_cons_zero, List.set_cons_succ]
    refine wpAnyH_take (i := 3) (v := ?vvb3) rfl (by kernel_rfl) (by kernel_rfl) (by kernel_rfl) (fun _ _ _ h => h) (Or.inl ⟨by rfl, ?hyb3⟩) hHeld ?restb3; (case hyb3 => (intro w hSw; (try dsimp only at hSw); go_simp; all_goals (with_reducible rfl))); simp only [Act.put, List.setIfInBounds_toArray, List.set_cons_zero, List.set_cons_succ]
    refine wpAnyH_take (i := 4) (v := ?vvb4) rfl (by kernel_rfl) (by kernel_rfl) (by kernel_rfl) (fun _ _ _ h => h) (Or.inl ⟨by rfl, ?hyb4⟩) hHeld ?restb4; (case hyb4 => (intro w hSw; (try dsimp only at hSw); go_simp; all_goals (with_reducible rfl))); simp only [Act.put, List.setIfInBounds_toArray, List.set_cons_zero, List.set_cons_succ]
    refine wpAnyH_take (i := 5) (v := ?vvb5) rfl (by kernel_rfl) (by kernel_rfl) (by kernel_rfl) (fun _ _ _ h => h) (Or.inl ⟨by rfl, ?hyb5⟩) hHeld ?restb5; (case hyb5 => (intro w hSw; (try dsimp only at hSw); go_simp; all_goals (with_reducible rfl))); simp only [Act.put, List.setIfInBounds_toArray, List.set_cons_zero, List.set_cons_succ]
    refine wpAnyH_take (i := 6) (v := ?vvb6) rfl (by kernel_rfl) (by kernel_rfl) (by kernel_rfl) (fun _ _ _ h => h) (Or.inl ⟨by rfl, ?hyb6⟩) hHeld ?restb6; (case hyb6 => (intro w hSw; (try dsimp only at hSw); go_simp; all_goals (with_reducible rfl))); simp only [Act.put, List.setIfInBounds_toArray, List.set_cons_zero, List.set_cons_succ]
    refine wpAnyH_take (i := 7) (v := ?vvb7) rfl (by kernel_rfl) (by kernel_rfl) (by kernel_rfl) (fun _ _ _ h => h) (Or.inl ⟨by rfl, ?hyb7⟩) hHeld ?restb7; (case hyb7 => (intro w hSw; (try dsimp only at hSw); go_simp; all_goals (with_reducible rfl))); simp only [Act.put, List.setIfInBounds_toArray, List.set_cons_zero, List.set_cons_succ]
    refine wpAnyH_take (i := 8) (v := ?vvb8) rfl (by kernel_rfl) (by kernel_rfl) (by kernel_rfl) (fun _ _ _ h => h) (Or.inl ⟨by rfl, ?hyb8⟩) hHeld ?restb8; (case hyb8 => (intro w hSw; (try dsimp only at hSw); go_simp; all_goals (with_reducible rfl))); simp only [Act.put, List.setIfInBounds_toArray, List.set_cons_zero, List.set_cons_succ]
    refine wpAnyH_take (i := 9) (v := ?vvb9) rfl (by kernel_rfl) (by kernel_rfl) (by kernel_rfl) (fun _ _ _ h => h) (Or.inl ⟨by rfl, ?hyb9⟩) hHeld ?restb9; (case hyb9 => (intro w hSw; (try dsimp only at hSw); go_simp; all_goals (with_reducible rfl))); simp only [Act.put, List.setIfInBounds_toArray, List.set_cons_zero, List.set_cons_succ]
    refine wpAnyH_done (by kernel_rfl) ?_ _
    show wpAnyH _ _ _ _ _ _ _ _ _
    clear hHeld
    have hHeld : (fun _ : World => True) w5.drew := trivial
    refine wpAnyH_ready (rs := [10]) (by kernel_rfl) (by simp) ?_; refine AllReadyH.cons rfl (fun K hK => ?_) AllReadyH.nil
    go_simp
    go_wp2_with fail
    refine hK.out _ _ trivial (fun hHeld => ?_)
    clear hK K
    (try simp only [Act.put, List.setIfInBounds_toArray, List.set_cons_zero, List.set_cons_succ])
    refine wpAnyH_done (by kernel_rfl) ?_ _
    clear hHeld
    have HS3 : Hid (SP w (w5.setCell ⟨bR, k, none⟩ (.bool (!v))).drew g w.heap.size X q { d with rv := d.rv.set k (!v) } r2.tail.tail) := Lib.hid (HX1.out.row (HX1.out.dr.set4 Hq.out k (!v)) hR1 hbX rfl rfl rfl rfl (by simp))
    obtain ⟨d2, hd2⟩ : ∃ x, ({ d with rv := d.rv.set k (!v) } : Dr) = x := ⟨_, rfl⟩
    have hs : d2.small := by rw [← hd2]; exact Hsm.out _ (by show d.se.length ≤ 4; omega) rfl rfl (by simp)
    rw [hd2] at HS3
    go_upto_region 14 with fail
    generalize (w5.setCell ⟨bR, k, none⟩ (.bool (!v))).drew = w6 at *
    clear HS2 HS1 HN2 hd2 hk1 hk2 hk3 hk4 hse4 HX1 Hk ck fk cx hbX
    have HF := Lib.hid (HS3.out.fin hs)
    have hbk := DC.of HS3.out.blk; have p0 := hbk.c0; have p1 := hbk.c1; have p2 := hbk.c2; have p3 := hbk.c3; have p4 := hbk.c4; have pf0 := hbk.f 0; have pf1 := hbk.f 1; have pf2 := hbk.f 2; have pf3 := hbk.f 3; have pf4 := hbk.f 4; clear hbk
    have hbk := HS3.out.zero; have z0 := hbk.c0; have z1 := hbk.c1; have z2 := hbk.c2; have z3 := hbk.c3; have z4 := hbk.c4; have zf0 := hbk.f 0; have zf1 := hbk.f 1; have zf2 := hbk.f 2; have zf3 := hbk.f 3; have zf4 := hbk.f 4; clear hbk
    have HZ := Lib.hid HS3.out.res
    go_wp2
    have hbk := HZ.out
    have y0 := hbk.c0; have y1 := hbk.c1; have y2 := hbk.c2; have y3 := hbk.c3; have y4 := hbk.c4
    clear hbk
    refine bodyPost_ret (v := .agg #[.int .i64 d2.st, .slice q.a1 d2.se.length q.c1, .slice q.a2 d2.sd.length q.c2, .slice q.a3 d2.sx.length q.c3, .slice q.a4 d2.rv.length q.c4]) (by simp only [results, Try.results14, go_sem, y0, y1, y2, y3, y4]; first | rfl | simp [go_sem, *]) rfl HF.out
  by_cases hy4 : y = 4
  · subst hy4
    have hkl : k < d.sx.length := by omega
    obtain ⟨bR, cR, hve, hR1, hR2, hR3, hR4, hcell, hfro⟩ := own_at HS1.out.dr.o3 (by omega)
    injection hve with he1 _ he2
    have Hq := Lib.hid he1
    have hbX : bR ≠ X := fun e => by have := HS1.out.fX.2.2.1; rw [he1, e] at this; exact this rfl
    unfold maxLen at hR4
    have Hk : Hid (∀ W r', SP w W g w.heap.size X q d r' → W.cell? ⟨bR, k, none⟩ = some (.int .u64 (d.sx[k]'hkl)) ∧ W.frozen? ⟨bR, k, none⟩ = false) := Lib.hid (fun W r' h => by
      obtain ⟨bR', cR', hve', _, _, _, _, hcell', hfro'⟩ := own_at h.dr.o3 (by omega)
      injection hve' with he1' _ _
      rw [he1] at he1'
      injection he1' with he1'
      injection he1' with he1'
      subst he1'
      exact ⟨hcell' k _ (by simp [hkl]), hfro' k⟩)
    clear hcell hfro he2 hR2
    obtain ⟨bw, hbw⟩ : ∃ x, IntKind.u64.wrap b = x := ⟨_, rfl⟩
    go_upto_region 14 with (first | (go_at_call 13; refine HN2.out.mono ?_; rintro e w5 ⟨rfl, ht5, hg5⟩; have HS2 := Lib.hid (HS1.out.tape hg5 ht5); have hbk := DC.of HS2.out.blk; have p0 := hbk.c0; have p1 := hbk.c1; have p2 := hbk.c2; have p3 := hbk.c3; have p4 := hbk.c4; have pf0 := hbk.f 0; have pf1 := hbk.f 1; have pf2 := hbk.f 2; have pf3 := hbk.f 3; have pf4 := hbk.f 4; clear hbk; obtain ⟨ck, fk⟩ := Hk.out _ _ HS2.out; rw [Hq.out] at p3; clear ht5 hg5) | fail)
    have HS3 : Hid (SP w (w5.setCell ⟨bR, k, none⟩ (.int .u64 bw)) g w.heap.size X q { d with sx := d.sx.set k bw } r2.tail.tail) := Lib.hid (HS2.out.row (HS2.out.dr.set3 Hq.out k bw) hR1 hbX rfl rfl rfl (by simp) rfl)
    clear p0 p1 p2 p3 p4 pf0 pf1 pf2 pf3 pf4
    obtain ⟨d2, hd2⟩ : ∃ x, ({ d with sx := d.sx.set k bw } : Dr) = x := ⟨_, rfl⟩
    have hs : d2.small := by rw [← hd2]; exact Hsm.out _ (by show d.se.length ≤ 4; omega) rfl (by simp) rfl
    rw [hd2] at HS3
    generalize (w5.setCell ⟨bR, k, none⟩ (.int .u64 bw)) = w6 at *
    clear HS2 HS1 HN2 hd2 hk1 hk2 hk3 hk4 hse4 Hk ck fk hbX he1 hbw
    have HF := Lib.hid (HS3.out.fin hs)
    have hbk := DC.of HS3.out.blk; have p0 := hbk.c0; have p1 := hbk.c1; have p2 := hbk.c2; have p3 := hbk.c3; have p4 := hbk.c4; have pf0 := hbk.f 0; have pf1 := hbk.f 1; have pf2 := hbk.f 2; have pf3 := hbk.f 3; have pf4 := hbk.f 4; clear hbk
    have hbk := HS3.out.zero; have z0 := hbk.c0; have z1 := hbk.c1; have z2 := hbk.c2; have z3 := hbk.c3; have z4 := hbk.c4; have zf0 := hbk.f 0; have zf1 := hbk.f 1; have zf2 := hbk.f 2; have zf3 := hbk.f 3; have zf4 := hbk.f 4; clear hbk
    have HZ := Lib.hid HS3.out.res
    go_wp2
    have hbk := HZ.out
    have y0 := hbk.c0; have y1 := hbk.c1; have y2 := hbk.c2; have y3 := hbk.c3; have y4 := hbk.c4
    clear hbk
    refine bodyPost_ret (v := .agg #[.int .i64 d2.st, .slice q.a1 d2.se.length q.c1, .slice q.a2 d2.sd.length q.c2, .slice q.a3 d2.sx.length q.c3, .slice q.a4 d2.rv.length q.c4]) (by simp only [results, Try.results14, go_sem, y0, y1, y2, y3, y4]; first | rfl | simp [go_sem, *]) rfl HF.out
  by_cases hy5 : y = 5
  · subst hy5
    obtain ⟨bR, cR, hve, hR1, hR2, hR3, hR4, hcell, hfro⟩ := own_at HS1.out.dr.o1 (by omega)
    injection hve with he1 _ he2
    have Hq := Lib.hid he1
    have Hc := Lib.hid he2
    unfold maxLen at hR4
    have hkc : (k : Int) ≤ (q.c1 : Int) := by omega
    have hlc : (d.se.length : Int) ≤ (q.c1 : Int) := by omega
    clear hcell hfro he1 he2 hR2
    go_upto_region 14 with (first | (go_at_call 13; refine HN2.out.mono ?_; rintro e w5 ⟨rfl, ht5, hg5⟩; have HS2 := Lib.hid (HS1.out.tape hg5 ht5); have hbk := DC.of HS2.out.blk; have p0 := hbk.c0; have p1 := hbk.c1; have p2 := hbk.c2; have p3 := hbk.c3; have p4 := hbk.c4; have pf0 := hbk.f 0; have pf1 := hbk.f 1; have pf2 := hbk.f 2; have pf3 := hbk.f 3; have pf4 := hbk.f 4; clear hbk; rw [Hq.out] at p1; clear ht5 hg5) | fail)
    have HS3 := Lib.hid (HS2.out.cut (k := k) (by omega))
    rw [Hq.out] at HS3
    clear p0 p1 p2 p3 p4 pf0 pf1 pf2 pf3 pf4
    obtain ⟨d2, hd2⟩ : ∃ x, ({ d with se := d.se.take k } : Dr) = x := ⟨_, rfl⟩
    have hs : d2.small := by rw [← hd2]; exact Hsm.out _ (by show (d.se.take k).length ≤ 4; rw [List.length_take]; omega) rfl rfl rfl
    rw [hd2] at HS3
    generalize (w5.setCell ⟨X, 1, none⟩ (.slice (some ⟨bR, 0, none⟩) k q.c1)) = w6 at *
    clear HS2 HS1 HN2 hd2 hk1 hk2 hk3 hk4 hse4 hkc hlc hR3 Hc
    have HF := Lib.hid (HS3.out.fin hs)
    have hbk := DC.of HS3.out.blk; have p0 := hbk.c0; have p1 := hbk.c1; have p2 := hbk.c2; have p3 := hbk.c3; have p4 := hbk.c4; have pf0 := hbk.f 0; have pf1 := hbk.f 1; have pf2 := hbk.f 2; have pf3 := hbk.f 3; have pf4 := hbk.f 4; clear hbk
    have hbk := HS3.out.zero; have z0 := hbk.c0; have z1 := hbk.c1; have z2 := hbk.c2; have z3 := hbk.c3; have z4 := hbk.c4; have zf0 := hbk.f 0; have zf1 := hbk.f 1; have zf2 := hbk.f 2; have zf3 := hbk.f 3; have zf4 := hbk.f 4; clear hbk
    have HZ := Lib.hid HS3.out.res
    go_wp2
    have hbk := HZ.out
    have y0 := hbk.c0; have y1 := hbk.c1; have y2 := hbk.c2; have y3 := hbk.c3; have y4 := hbk.c4
    clear hbk
    refine bodyPost_ret (v := .agg #[.int .i64 d2.st, .slice q.a1 d2.se.length q.c1, .slice q.a2 d2.sd.length q.c2, .slice q.a3 d2.sx.length q.c3, .slice q.a4 d2.rv.length q.c4]) (by simp only [results, Try.results14, go_sem, y0, y1, y2, y3, y4]; first | rfl | simp [go_sem, *]) rfl HF.out
  · go_upto_region 14 with (first | (go_at_call 13; refine HN2.out.mono ?_; rintro e w5 ⟨rfl, ht5, hg5⟩; have HS2 := Lib.hid (HS1.out.tape hg5 ht5); skip; clear ht5 hg5) | fail)
    obtain ⟨d2, hd2⟩ : ∃ x, d = x := ⟨_, rfl⟩
    have hs : d2.small := by rw [← hd2]; exact Hsm.out _ (by omega) rfl rfl rfl
    subst hd2
    have HF := Lib.hid (HS2.out.fin hs)
    have hbk := DC.of HS2.out.blk; have p0 := hbk.c0; have p1 := hbk.c1; have p2 := hbk.c2; have p3 := hbk.c3; have p4 := hbk.c4; have pf0 := hbk.f 0; have pf1 := hbk.f 1; have pf2 := hbk.f 2; have pf3 := hbk.f 3; have pf4 := hbk.f 4; clear hbk
    have hbk := HS2.out.zero; have z0 := hbk.c0; have z1 := hbk.c1; have z2 := hbk.c2; have z3 := hbk.c3; have z4 := hbk.c4; have zf0 := hbk.f 0; have zf1 := hbk.f 1; have zf2 := hbk.f 2; have zf3 := hbk.f 3; have zf4 := hbk.f 4; clear hbk
    have HZ := Lib.hid HS2.out.res
    go_wp2
    have hbk := HZ.out
    have y0 := hbk.c0; have y1 := hbk.c1; have y2 := hbk.c2; have y3 := hbk.c3; have y4 := hbk.c4
    clear hbk
    refine bodyPost_ret (v := .agg #[.int .i64 d.st, .slice q.a1 d.se.length q.c1, .slice q.a2 d.sd.length q.c2, .slice q.a3 d.sx.length q.c3, .slice q.a4 d.rv.length q.c4]) (by simp only [results, Try.results14, go_sem, y0, y1, y2, y3, y4]; first | rfl | simp [go_sem, *]) rfl HF.out
end Go.Proofs.Ytbkkmgofjhaaoaa
