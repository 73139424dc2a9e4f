/- The walk of DeterminedAnswers. -/
import Derived.Test.YtepcelekjjalfaaRs
import Derived.Test.YtepcelekjjalfaaLe
import Derived.Test.YtepcelekjjalfaaAp
import Derived.Deep.DeepCutAuto
import Derived.Deep.CutBlock
namespace Go.Proofs.Ytepcelekjjalfaa
open Go.RowKit
set_option linter.unusedVariables false

theorem only_grown {a b c : World} {g : Nat} {row : Option Nat} (h : a.grownBy b (some g)) (k : b.grownBy c row) (hr : ∀ x, row = some x → a.heap.size ≤ x) : a.grownBy c (some g) :=
  ⟨k.os.trans h.os, k.tape.trans h.tape, k.output.trans h.output, Nat.le_trans h.size k.size, fun i hi hne => (k.block i (Nat.lt_of_lt_of_le hi h.size) (fun e => by have := hr i e.symm; omega)).trans (h.block i hi hne)⟩
theorem factCells_one (L : List Fct) : ∀ u ∈ factCells L, u.oneCell' = true := by
  intro u hu
  simp only [factCells, List.mem_flatMap] at hu
  obtain ⟨f, _, hf⟩ := hu
  simp [Fct.cells] at hf
  rcases hf with h | h | h | h | h | h <;> (rw [h]; rfl)
theorem own_zero1 (w : World) (o : Obj) (t : TypeId) (size : Nat) (base : Nat) (hb : base ≤ w.heap.size) : ((w.alloc o).alloc (.cells #[] t)).ownsRow base t size (.slice (some ⟨w.heap.size + 1, 0, none⟩) 0 0) 0 [] := by
  have h := own_zero (w.alloc o) base t size (by simp; omega)
  rwa [World.size_alloc] at h
theorem news_far {W wa : World} {B : Nat} {cs : Array Value} {t : TypeId} {row : Option Nat} (h : W.heap[B]? = some (.cells cs t (0, 0))) (hg : W.grownBy wa row) (hne : some B ≠ row) : ∀ j u, cs.toList[j]? = some u → wa.cell? ((⟨B, 0, none⟩ : Addr).add j) = some u := by
  have hlt : B < W.heap.size := by
    rcases Nat.lt_or_ge B W.heap.size with h' | h'
    · exact h'
    · rw [Array.getElem?_eq_none h'] at h; cases h
  exact World.news_of_block ((hg.block B hlt hne).trans h)
theorem alloc_second (w : World) (o o' : Obj) : ((w.alloc o).alloc o').drew.heap[w.heap.size + 1]? = some o' := by
  have h := heap_alloc_new (w.alloc o) o'
  rw [World.size_alloc] at h
  exact h
theorem alloc_first (w : World) (o o' : Obj) : ((w.alloc o).alloc o').drew.heap[w.heap.size]? = some o :=
  (Below.heap_alloc (w.alloc o) o' w.heap.size (by simp)).trans (heap_alloc_new w o)
/-- Block b is just the cells of a fact. -/
def FactAt (w : World) (b : Nat) (f : Fct) : Prop := w.heap[b]? = some (.cells #[.int .i64 f.d, .int .i64 f.u, .int .i64 f.s, .int .i64 f.k, .int .i64 f.a, .int .i64 f.b] 28 (0, 0))
theorem FactAt.lt {w : World} {b : Nat} {f : Fct} (h : FactAt w b f) : b < w.heap.size := by
  rcases Nat.lt_or_ge b w.heap.size with h' | h'
  · exact h'
  · unfold FactAt at h; rw [Array.getElem?_eq_none h'] at h; cases h
theorem FactAt.cells {w : World} {b : Nat} {f : Fct} (h : FactAt w b f) : w.cell? ⟨b, 0, none⟩ = some (.int .i64 f.d) ∧ w.cell? ⟨b, 1, none⟩ = some (.int .i64 f.u) ∧ w.cell? ⟨b, 2, none⟩ = some (.int .i64 f.s) ∧ w.cell? ⟨b, 3, none⟩ = some (.int .i64 f.k) ∧ w.cell? ⟨b, 4, none⟩ = some (.int .i64 f.a) ∧ w.cell? ⟨b, 5, none⟩ = some (.int .i64 f.b) := by
  refine ⟨?_, ?_, ?_, ?_, ?_, ?_⟩ <;> (rw [cell_of_row w b _ _ _ _ h]; rfl)
theorem FactAt.below {w w' : World} {b B : Nat} {f : Fct} (h : FactAt w b f) (hb : Below B w w') (hB : b < B) : FactAt w' b f := (hb.block b hB).trans h
theorem FactAt.only {w w' : World} {b g : Nat} {f : Fct} (h : FactAt w b f) (hg : w.grownBy w' (some g)) (hne : b ≠ g) : FactAt w' b f := (hg.block b h.lt (by intro e; injection e; exact hne (by assumption))).trans h
theorem FactAt.alloc {w : World} {b : Nat} {f : Fct} (h : FactAt w b f) (o : Obj) : FactAt (w.alloc o) b f := h.below ((Below.refl _ _).alloc (Nat.le_refl _) o) h.lt
theorem FactAt.new (w : World) (f : Fct) : FactAt (w.alloc (.cells #[.int .i64 f.d, .int .i64 f.u, .int .i64 f.s, .int .i64 f.k, .int .i64 f.a, .int .i64 f.b] 28)) w.heap.size f := heap_alloc_new w _
theorem FactAt.far {w : World} {b : Nat} {f : Fct} (h : FactAt w b f) {p : Addr} (hp : b ≠ p.block) (u : Value) : FactAt (w.setCell p u) b f := (Below.heap_setCell w p u b hp).trans h
theorem FactAt.set {w : World} {b : Nat} {f : Fct} (h : FactAt w b f) (i : Nat) (x : Int) (f' : Fct)
    (hf : #[Value.int .i64 f'.d, .int .i64 f'.u, .int .i64 f'.s, .int .i64 f'.k, .int .i64 f'.a, .int .i64 f'.b] = #[Value.int .i64 f.d, .int .i64 f.u, .int .i64 f.s, .int .i64 f.k, .int .i64 f.a, .int .i64 f.b].setIfInBounds i (.int .i64 x)) : FactAt (w.setCell ⟨b, i, none⟩ (.int .i64 x)) b f' := by
  unfold FactAt at h ⊢
  rw [hf, heap_setCell_same w b i _ _ _ h]

set_option maxRecDepth 100000 in
set_option maxHeartbeats 8000000 in
theorem answers_main (A : Option Addr) (n c : Nat) (zs : List Int) (fr : Fct) (A2 : Option Addr) (n2 c2 : Nat) (L2 : List Fct) (width oby : Int) (w : World) (hn : zs.length = n) (hc : n ≤ c) (hm : c ≤ maxLen) (hw : ∀ z ∈ zs, (Lit.int .i64 z).wf = true) (hA : Lies w A n (zs.map (.int .i64)))
    (hn2 : L2.length = n2) (h25 : n2 ≤ 25) (hA2 : Lies w A2 n2 (factCells L2)) (hwd : -9223372036854775808 ≤ width ∧ width ≤ 9223372036854775807) :
    Calls Try.prog 3 #[.slice A n c, .agg #[.int .i64 fr.d, .int .i64 fr.u, .int .i64 fr.s, .int .i64 fr.k, .int .i64 fr.a, .int .i64 fr.b], .slice A2 n2 c2, .int .i64 width, .int .i64 oby] w fun e w' => e = .returned (.bool true) ∧ Below w.heap.size w w' := by
  obtain ⟨i0, hi, hz0, hz1, hz2⟩ := info_parts Try.infoFact
  have Hnew := Lib.hid (fun W h => new_any A n c zs W hn hc hm hw h)
  have HA := Lib.hid hA
  clear hn hc hm hw hA
  generalize zs.take 400 = r at *
  have Hf : Hid (∀ g W, TapeAt W g r → Calls Try.prog 10 #[.pointer (some ⟨g, 0, none⟩)] W (TakePost W g (fRest r) (.agg #[.int .i64 (factOf r).d, .int .i64 (factOf r).u, .int .i64 (factOf r).s, .int .i64 (factOf r).k, .int .i64 (factOf r).a, .int .i64 (factOf r).b]))) := fun g W h => fact_any g r W h
  generalize factOf r = f at *
  generalize fRest r = r1 at *
  have hy := nx_bd r1 8 (by omega)
  have Hn1 : Hid (∀ g W, TapeAt W g r1 → Calls Try.prog 11 #[.pointer (some ⟨g, 0, none⟩), .int .i64 8] W (NextPost W g r1 (nx r1 8))) := fun g W h => next_any g r1 8 W h (by omega)
  generalize nx r1 8 = y at *
  have hy2 := nx_bd r1.tail 6 (by omega)
  have Hn3 : Hid (∀ g W, TapeAt W g r1.tail → Calls Try.prog 11 #[.pointer (some ⟨g, 0, none⟩), .int .i64 6] W (NextPost W g r1.tail (nx r1.tail 6))) := fun g W h => next_any g r1.tail 6 W h (by omega)
  obtain ⟨m, hm⟩ := Int.eq_ofNat_of_zero_le hy2.1
  rw [hm] at Hn3 hy2
  clear hm
  have hm5 : m ≤ 5 := by omega
  have hmw := modV_bd width 202 (by omega)
  have Hmw := Lib.hid (fun W => mod_any width 202 W hwd (by omega))
  generalize modV width 202 = mw at *
  have HA2 := Lib.hid hA2
  have Hn2 := Lib.hid hn2
  clear hA2 hn2
  go_enter Try.func3, Try.ntmps3
  go_wp2_with fail
  refine (Hnew.out _ (HA.out.alloc _)).mono ?_
  rintro e w1 ⟨g, rfl, hg, ht, hb1⟩
  obtain ⟨hc1, hf1⟩ := bcell hb1
  have hgl := ht.lt
  have hl1 : w.heap.size < w1.heap.size := by have := hb1.size; simp at this; omega
  simp at hg
  have ng : ¬ w.heap.size = g := by omega
  go_wp2_with fail
  refine (Hf.out g _ ht).mono ?_
  rintro e w2 ⟨rfl, ht2, hg2⟩
  obtain ⟨hc2, hf2⟩ := tcell hg2
  have hs2 := hg2.size
  have hl2 : w.heap.size < w2.heap.size := by omega
  have n0 : ¬ w2.heap.size = g := by omega
  have n1 : ¬ w2.heap.size + 1 = g := by omega
  go_wp2_with fail
  refine (Hn1.out g _ (by repeat' (first | with_reducible assumption | with_reducible refine TapeAt.alloc ?_ _ | with_reducible refine TapeAt.drewN ?_ _ | with_reducible refine TapeAt.drew ?_ | with_reducible refine TapeAt.setCell ?_ ?_ _ | with_reducible refine TapeAt.below ?_ (by with_reducible assumption) ?_ | (simp; omega) | omega))).mono ?_
  rintro e w3 ⟨rfl, ht3, hg3⟩
  obtain ⟨hc3, hf3⟩ := tcell hg3
  have hl3 : w2.heap.size + 1 < w3.heap.size := by have := hg3.size; simp at this; omega
  have hl3' : w2.heap.size < w3.heap.size := by omega
  have hl3'' : w.heap.size < w3.heap.size := by omega
  have ht3' := Lib.hid ht3
  have hB3 := Lib.hid ((by repeat' (first | with_reducible exact Below.refl _ _ | with_reducible assumption | with_reducible refine below_drewN ?_ _ | with_reducible refine Below.drew ?_ | with_reducible refine Below.alloc ?_ ?_ _ | with_reducible refine Below.setCell ?_ ?_ _ | with_reducible refine Below.trans ?_ (Below.mono (by with_reducible assumption) ?_) | with_reducible refine below_only ?_ (by with_reducible assumption) ?_ ?_ | (simp; done) | (simp; omega) | omega)) : Below w.heap.size w w3)
  have FO : FactAt w3 (w2.heap.size + 1) f := by
    have h := (FactAt.new (w2.alloc (.cells #[.int .i64 f.d, .int .i64 f.u, .int .i64 f.s, .int .i64 f.k, .int .i64 f.a, .int .i64 f.b] 28)) f).only hg3 (by simpa using n1)
    rwa [World.size_alloc] at h
  have FF : FactAt w3 w2.heap.size f := (((FactAt.new _ f : FactAt _ w2.heap.size f).alloc _).only hg3 n0)
  have FR : FactAt w3 w.heap.size fr := (((((FactAt.new _ fr : FactAt _ w.heap.size fr).below hb1 (by simp)).only hg2 ng).alloc _).alloc _).only hg3 ng
  go_upto_block 0 with fail
  go_cut [] (fun wx => ∃ o : Fct, FactAt wx (w2.heap.size + 1) o ∧ FactAt wx w2.heap.size f ∧ FactAt wx w.heap.size fr ∧ TapeAt wx g r1.tail ∧ Below w.heap.size w wx ∧ w3.heap.size ≤ wx.heap.size)
  case first =>
    have HO := Lib.hid FO
    have HF := Lib.hid FF
    have HR := Lib.hid FR
    obtain ⟨o0, o1, o2, o3, o4, o5⟩ := FO.cells
    have of0 : ∀ i, w3.frozen? ⟨w2.heap.size + 1, i, none⟩ = false := fun i => frozen_of_row w3 _ i _ _ FO
    clear FO FF FR hc1 hf1 hc2 hf2 hc3 hf3
    go_wp2
    all_goals go_meet
    all_goals first
      | exact ⟨f, HO.out, HF.out, HR.out, ht3'.out, hB3.out, Nat.le_refl _⟩
      | exact ⟨⟨oby, f.u, f.s, f.k, f.a, f.b⟩, HO.out.set 0 oby _ rfl, HF.out.far (by simp) _, HR.out.far (by simp; omega) _, ht3'.out.setCell (by simp; omega) _, hB3.out.setCell (by simp; omega) _, by simp⟩
      | exact ⟨⟨f.d, oby, f.s, f.k, f.a, f.b⟩, HO.out.set 1 oby _ rfl, HF.out.far (by simp) _, HR.out.far (by simp; omega) _, ht3'.out.setCell (by simp; omega) _, hB3.out.setCell (by simp; omega) _, by simp⟩
      | exact ⟨⟨f.d, f.u, oby, f.k, f.a, f.b⟩, HO.out.set 2 oby _ rfl, HF.out.far (by simp) _, HR.out.far (by simp; omega) _, ht3'.out.setCell (by simp; omega) _, hB3.out.setCell (by simp; omega) _, by simp⟩
      | exact ⟨⟨f.d, f.u, f.s, oby, f.a, f.b⟩, HO.out.set 3 oby _ rfl, HF.out.far (by simp) _, HR.out.far (by simp; omega) _, ht3'.out.setCell (by simp; omega) _, hB3.out.setCell (by simp; omega) _, by simp⟩
      | exact ⟨⟨f.d, f.u, f.s, f.k, oby, f.b⟩, HO.out.set 4 oby _ rfl, HF.out.far (by simp) _, HR.out.far (by simp; omega) _, ht3'.out.setCell (by simp; omega) _, hB3.out.setCell (by simp; omega) _, by simp⟩
      | exact ⟨⟨f.d, f.u, f.s, f.k, f.a, oby⟩, HO.out.set 5 oby _ rfl, HF.out.far (by simp) _, HR.out.far (by simp; omega) _, ht3'.out.setCell (by simp; omega) _, hB3.out.setCell (by simp; omega) _, by simp⟩
  case rest =>
    obtain ⟨o, FO', FF', FR', htc, hBc, hsc⟩ := hcut
    clear ht ht2 ht3 ht3' hB3 FO FF FR hg2 hg3 hb1 hc1 hf1 hc2 hf2 hc3 hf3
    go_wp2_with fail
    refine (Hn3.out g _ htc).mono ?_
    rintro e w4 ⟨rfl, ht4, hg4⟩
    have hs4 := hg4.size
    have FO4 := FO'.only hg4 n1
    have FF4 := FF'.only hg4 n0
    have FR4 := FR'.only hg4 ng
    have hgc := htc.lt
    have hB4 : Below w.heap.size w w4 := (by repeat' (first | with_reducible exact Below.refl _ _ | with_reducible assumption | with_reducible refine below_drewN ?_ _ | with_reducible refine Below.drew ?_ | with_reducible refine Below.alloc ?_ ?_ _ | with_reducible refine Below.setCell ?_ ?_ _ | with_reducible refine Below.trans ?_ (Below.mono (by with_reducible assumption) ?_) | with_reducible refine below_only ?_ (by with_reducible assumption) ?_ ?_ | (simp; done) | (simp; omega) | omega))
    clear FO' FF' FR' htc hBc hg4 Hn3 Hn1 Hf Hnew HA
    go_wp2_with fail
    go_loopw [14, 15] (fun v i wr => ∃ j : Nat, j ≤ m ∧ i = .int .i64 ((m : Int) - (j : Int)) ∧ wr.ownsRow w4.heap.size 28 6 v j (factCells (tf j r1.tail.tail).1) ∧ TapeAt wr g (tf j r1.tail.tail).2 ∧ w4.grownBy wr (some g)) (fun _ i _ => (intOf i).toNat)
    case atStart => exact ⟨0, Nat.zero_le _, by go_num, World.ownsRow_nil _ _ _ _, ht4, World.grownBy.refl _ _⟩
    case round =>
      obtain ⟨j, hj, rfl, hown, htr, hgr⟩ := hrel
      have hgl4 := ht4.lt
      have hsr := hgr.size
      generalize hr' : (tf j r1.tail.tail).2 = r' at *
      generalize hL : (tf j r1.tail.tail).1 = L at *
      by_cases hjm : j < m
      · have Htf : Hid (tf (j + 1) r1.tail.tail = (L ++ [factOf r'], fRest r')) := by
          show tf (j + 1) r1.tail.tail = _
          rw [tf, hL, hr']
        clear hL hr'
        have Hf' : Hid (∀ W, TapeAt W g r' → Calls Try.prog 10 #[.pointer (some ⟨g, 0, none⟩)] W (TakePost W g (fRest r') (.agg #[.int .i64 (factOf r').d, .int .i64 (factOf r').u, .int .i64 (factOf r').s, .int .i64 (factOf r').k, .int .i64 (factOf r').a, .int .i64 (factOf r').b]))) := fun W h => fact_any g r' W h
        generalize factOf r' = f' at *
        generalize fRest r' = r'' at *
        have Hcells : Hid (factCells (L ++ [f']) = factCells L ++ [.int .i64 f'.d, .int .i64 f'.u, .int .i64 f'.s, .int .i64 f'.k, .int .i64 f'.a, .int .i64 f'.b]) := by
          show factCells (L ++ [f']) = _
          simp [factCells, Fct.cells]
        have ab := own_base hown
        have Hown := Lib.hid hown
        clear hown
        go_wp2_with fail
        refine (Hf'.out _ htr).mono ?_
        rintro e w7 ⟨rfl, ht7, hg7⟩
        have hs7 := hg7.size
        have Hown7 := Lib.hid (ownsRow_only Hown.out hg7 (by omega))
        go_wp2_with (at_builtin
                     refine wpList_append_lies _ rfl _ _ 29 rfl w4.heap.size 28 i0 (.agg #[.int .i64 0, .int .i64 0, .int .i64 0, .int .i64 0, .int .i64 0, .int .i64 0]) 6 48 Try.underlying29 hi hz0 hz1 hz2 rfl (by omega) u14 j (factCells L) rfl (Hown7.out.alloc _) ⟨w7.heap.size, 0, none⟩ 1 1 [.int .i64 f'.d, .int .i64 f'.u, .int .i64 f'.s, .int .i64 f'.k, .int .i64 f'.a, .int .i64 f'.b] rfl rfl (World.news_of_block (cs := #[.int .i64 f'.d, .int .i64 f'.u, .int .i64 f'.s, .int .i64 f'.k, .int .i64 f'.a, .int .i64 f'.b]) (t := 28) (fr := (0, 0)) (heap_alloc_new w7 _)) ?_ (by omega) ?_ ?_ ?_ (w7.heap.size + 1) ?_ ?_
                     · simp [Value.oneCell']
                     · unfold maxLen; omega
                     · omega
                     · simp; omega
                     · simp
                     intro gg cap w9 hown9 hgrow hat hltg)
        go_roundw
        case rel =>
          refine ⟨j + 1, by omega, by go_num, ?_, ?_, ?_⟩
          · rw [Htf.out]
            show World.ownsRow _ _ _ _ _ _ (factCells (L ++ [f']))
            rw [Hcells.out]
            exact hown9
          · rw [Htf.out]
            exact TapeAt.grown (ht7.alloc _) hgrow (fun x hx => by have := ab x hx; omega)
          · exact only_grown (only_alloc (only_trans hgr hg7) _) hgrow ab
        case measure => simp [intOf]; omega
      · have hjm' : j = m := by omega
        subst hjm'
        obtain ⟨A3, c3, rfl, hl3', _, _⟩ := own_slice hown
        have HL3 := Lib.hid hl3'
        have hLl : L.length = j := by rw [← hL]; exact (tf_props j _ 0 (by omega) (by omega)).1
        have HLl := Lib.hid hLl
        have FO5 := FO4.only hgr n1
        have FF5 := FF4.only hgr n0
        have FR5 := FR4.only hgr ng
        have hB5 : Below w.heap.size w wr := (by repeat' (first | with_reducible exact Below.refl _ _ | with_reducible assumption | with_reducible refine below_drewN ?_ _ | with_reducible refine Below.drew ?_ | with_reducible refine Below.alloc ?_ ?_ _ | with_reducible refine Below.setCell ?_ ?_ _ | with_reducible refine Below.trans ?_ (Below.mono (by with_reducible assumption) ?_) | with_reducible refine below_only ?_ (by with_reducible assumption) ?_ ?_ | (simp; done) | (simp; omega) | omega))
        clear hown hl3' hLl hL hr' htr hgr FO4 FF4 FR4 hB4 ht4
        go_wp2_with (go_at_call 12; refine (Hmw.out _).mono ?_; rintro e w6 ⟨rfl, rfl⟩)
        have HFO := Lib.hid FO5
        have HFF := Lib.hid FF5
        have HFR := Lib.hid FR5
        have HB5 := Lib.hid hB5
        clear FO5 FF5 FR5 hB5 hg hgl hgl4 hsr hs4 hsc hgc hl3 hl3' hl3'' hl2 hs2 hl1 n0 n1 ng
        obtain ⟨wo, rfl⟩ : ∃ wo : World, wo = wr := ⟨_, rfl⟩
        go_loopw [92] (fun i wx => ∃ k : Nat, k ≤ 2 ∧ i = .int .i64 (k : Int) ∧ Below wo.heap.size wo wx ∧ Lies wx (some ⟨wo.heap.size, 0, none⟩) 2 [.int .i64 width, .int .i64 mw]) (fun i _ => 2 - (intOf i).toNat)
        case atStart => exact ⟨0, by omega, rfl, (by repeat' (first | with_reducible exact Below.refl _ _ | with_reducible refine below_drewN ?_ _ | with_reducible refine Below.drew ?_ | with_reducible refine Below.alloc ?_ ?_ _ | with_reducible refine Below.setCell ?_ ?_ _ | with_reducible refine Below.trans ?_ (Below.mono (by with_reducible assumption) ?_) | (simp; done) | (simp; omega) | omega)), Lies.new _ _ _ _ _ rfl _ rfl⟩
        case round =>
          obtain ⟨wx, rfl⟩ : ∃ wx : World, wx = wr := ⟨_, rfl⟩
          obtain ⟨k, hk, rfl, hbx, hlx⟩ := hrel
          have hsx := hbx.size
          by_cases hk2 : k < 2
          · obtain ⟨wv, cwv⟩ : ∃ wv : Int, wx.cell? ⟨wo.heap.size, k, none⟩ = some (.int .i64 wv) := by
              obtain ⟨b, off, e, _, hc⟩ := hlx.resolve_left (by omega)
              injection e with e
              injection e with e1 e2
              subst e1 e2
              rcases (show k = 0 ∨ k = 1 by omega) with rfl | rfl
              · exact ⟨width, by simpa using hc 0 _ rfl⟩
              · exact ⟨mw, by simpa using hc 1 _ rfl⟩
            have hkd : decide ((k : Int) < 2) = true := by simp; omega
            obtain ⟨p0, p1, p2, p3, p4, p5⟩ := (HFF.out.below hbx HFF.out.lt).cells
            obtain ⟨q0, q1, q2, q3, q4, q5⟩ := (HFO.out.below hbx HFO.out.lt).cells
            obtain ⟨r0, r1', r2', r3, r4, r5⟩ := (HFR.out.below hbx HFR.out.lt).cells
            go_wp2_with fail
            have hxl : Hid (Lies (wx.alloc (.cells #[.int .i64 f.d, .int .i64 f.u, .int .i64 f.s, .int .i64 f.k, .int .i64 f.a, .int .i64 f.b, .int .i64 o.d, .int .i64 o.u, .int .i64 o.s, .int .i64 o.k, .int .i64 o.a, .int .i64 o.b, .int .i64 fr.d, .int .i64 fr.u, .int .i64 fr.s, .int .i64 fr.k, .int .i64 fr.a, .int .i64 fr.b] 28)) (some ⟨wx.heap.size, 0, none⟩) 3 (factCells [f, o, fr])) := Lies.new _ _ _ _ _ rfl _ rfl
            clear p0 p1 p2 p3 p4 p5 q0 q1 q2 q3 q4 q5 r0 r1' r2' r3 r4 r5 cwv
            have Hbx := Lib.hid hbx
            have Hlx := Lib.hid hlx
            clear hbx hlx
            go_loopw [101] (fun i wy => ∃ k2 : Nat, k2 ≤ 3 ∧ i = .int .i64 (k2 : Int) ∧ Below wx.heap.size wx wy ∧ Lies wy (some ⟨wx.heap.size, 0, none⟩) 3 (factCells [f, o, fr])) (fun i _ => 3 - (intOf i).toNat)
            case atStart => exact ⟨0, by omega, rfl, (by repeat' (first | with_reducible exact Below.refl _ _ | with_reducible refine below_drewN ?_ _ | with_reducible refine Below.drew ?_ | with_reducible refine Below.alloc ?_ ?_ _ | with_reducible refine Below.setCell ?_ ?_ _ | with_reducible refine Below.trans ?_ (Below.mono (by with_reducible assumption) ?_) | (simp; done) | (simp; omega) | omega)), hxl.out⟩
            case round =>
              obtain ⟨wy, rfl⟩ : ∃ wy : World, wy = wr := ⟨_, rfl⟩
              obtain ⟨k2, hk2', rfl, hby, hly⟩ := hrel
              have hsy := hby.size
              by_cases hk3 : k2 < 3
              · obtain ⟨b, off, e, hbl, hc⟩ := hly.resolve_left (by omega)
                injection e with e
                injection e with e1 e2
                subst e1 e2
                obtain ⟨i0', i1, i2, i3, i4, i5⟩ := factCells_at [f, o, fr] k2 (by simpa using hk3)
                have c0 := hc _ _ i0'
                have c1 := hc _ _ i1
                have c2' := hc _ _ i2
                have c3' := hc _ _ i3
                have c4 := hc _ _ i4
                have c5 := hc _ _ i5
                simp only [Nat.zero_add] at c0 c1 c2' c3' c4 c5
                clear i0' i1 i2 i3 i4 i5 hc
                generalize hx : [f, o, fr][k2]'(by simpa using hk3) = x at *
                clear hx
                have T1 := Lib.hid (lineT_any x.d x.u x.s x.k x.a x.b wv)
                have T2 := Lib.hid (lineR_any x.d x.u x.s x.k x.a x.b wv)
                have T3 := Lib.hid (checkF_any x.d x.u x.s x.k x.a x.b wv)
                have T4 := Lib.hid (checkR_any x.d x.u x.s x.k x.a x.b wv)
                generalize lineV x.d x.u x.s x.k x.a x.b wv = q at *
                generalize checkF x.d x.u x.s x.k x.a x.b wv = z at *
                have Hby := Lib.hid hby
                have Hly := Lib.hid hly
                clear hby hly
                go_wp2_with fail
                refine (T1.out _).mono ?_
                rintro e w7 ⟨rfl, hb7⟩
                obtain ⟨hc7, hf7⟩ := bcell hb7
                have hl7 : wy.heap.size < w7.heap.size := by have := hb7.size; simp at this; omega
                go_wp2_with fail
                refine (T2.out _).mono ?_
                rintro e w8 ⟨rfl, hb8⟩
                obtain ⟨hc8, hf8⟩ := bcell hb8
                have hl8 : wy.heap.size < w8.heap.size := by have := hb8.size; omega
                go_wp2_with fail
                have d0 : w8.cell? ⟨wy.heap.size, 0, none⟩ = some (.int .i64 x.d) := by rw [hc8 _ _ hl7, hc7 _ _ (by simp)]; go_simp
                have d1 : w8.cell? ⟨wy.heap.size, 1, none⟩ = some (.int .i64 x.u) := by rw [hc8 _ _ hl7, hc7 _ _ (by simp)]; go_simp
                have d2 : w8.cell? ⟨wy.heap.size, 2, none⟩ = some (.int .i64 x.s) := by rw [hc8 _ _ hl7, hc7 _ _ (by simp)]; go_simp
                have d3 : w8.cell? ⟨wy.heap.size, 3, none⟩ = some (.int .i64 x.k) := by rw [hc8 _ _ hl7, hc7 _ _ (by simp)]; go_simp
                have d4 : w8.cell? ⟨wy.heap.size, 4, none⟩ = some (.int .i64 x.a) := by rw [hc8 _ _ hl7, hc7 _ _ (by simp)]; go_simp
                have d5 : w8.cell? ⟨wy.heap.size, 5, none⟩ = some (.int .i64 x.b) := by rw [hc8 _ _ hl7, hc7 _ _ (by simp)]; go_simp
                clear hc7 hf7 hc8 hf8 c0 c1 c2' c3' c4 c5
                go_region_held3 (fun w' => w'.cell? ⟨wy.heap.size, 0, none⟩ = some (.int .i64 x.d) ∧ w'.cell? ⟨wy.heap.size, 1, none⟩ = some (.int .i64 x.u) ∧ w'.cell? ⟨wy.heap.size, 2, none⟩ = some (.int .i64 x.s) ∧ w'.cell? ⟨wy.heap.size, 3, none⟩ = some (.int .i64 x.k) ∧ w'.cell? ⟨wy.heap.size, 4, none⟩ = some (.int .i64 x.a) ∧ w'.cell? ⟨wy.heap.size, 5, none⟩ = some (.int .i64 x.b))
                  (first
                    | go_keep
                    | (refine ⟨?_, ?_, ?_, ?_, ?_, ?_⟩ <;> (rw [hc10 _ _ (by first | assumption | (simp; omega) | omega)]; go_keep))
                    | (refine ⟨?_, ?_, ?_, ?_, ?_, ?_⟩ <;> (rw [hc9 _ _ (by first | assumption | (simp; omega) | omega)]; go_keep)))
                  (first
                    | (go_at_call 15; refine (T3.out _).mono ?_; rintro e w9 ⟨rfl, hb9⟩; obtain ⟨hc9, hf9⟩ := bcell hb9; have hl9 : wy.heap.size < w9.heap.size := (by have := hb9.size; (try simp at this); omega))
                    | (go_at_call 16; refine (T4.out _).mono ?_; rintro e w10 ⟨rfl, hb10⟩; obtain ⟨hc10, hf10⟩ := bcell hb10; have hl10 : wy.heap.size < w10.heap.size := (by have := hb10.size; (try simp at this); omega)))
                go_wp2
                go_roundw
                case rel => exact ⟨k2 + 1, by omega, by go_num, (by have := Hby.out; exact (by repeat' (first | with_reducible exact Below.refl _ _ | with_reducible refine below_drewN ?_ _ | with_reducible refine Below.drew ?_ | with_reducible refine Below.alloc ?_ ?_ _ | with_reducible refine Below.setCell ?_ ?_ _ | with_reducible refine Below.trans ?_ (Below.mono (by with_reducible assumption) ?_) | (simp; done) | (simp; omega) | omega))), Hly.out.below (by repeat' (first | with_reducible exact Below.refl _ _ | with_reducible refine below_drewN ?_ _ | with_reducible refine Below.drew ?_ | with_reducible refine Below.alloc ?_ ?_ _ | with_reducible refine Below.setCell ?_ ?_ _ | with_reducible refine Below.trans ?_ (Below.mono (by with_reducible assumption) ?_) | (simp; done) | (simp; omega) | omega))⟩
                case measure => simp [intOf]; omega
              · have Hby := Lib.hid hby
                clear hby hly
                have FOy := (HFO.out.below (Hbx.out.trans (Hby.out.mono hsx)) HFO.out.lt).cells
                obtain ⟨q0, q1, q2, q3, q4, q5⟩ := FOy
                have hoy : w2.heap.size + 1 < wy.heap.size := by have := HFO.out.lt; omega
                go_upto_region 35 with fail
                go_cut [150, 151, 152] (fun s150 s151 s152 wz => ∃ (G : Nat) (A4 : Option Addr) (c4 : Nat), s150 = .slice (some ⟨G, 0, none⟩) 3 3 ∧ s151 = .int .i64 3 ∧ s152 = .int .i64 0 ∧ Lies wz (some ⟨G, 0, none⟩) 3 [.slice A3 j c3, .slice A2 n2 c2, .slice A4 (j + 1) c4] ∧ Lies wz A4 (j + 1) (factCells (L ++ [o])) ∧ Below wy.heap.size wy wz)
                case first =>
                  have hl3y : Lies wy A3 j (factCells L) := (HL3.out.below (((Below.refl wo.heap.size wo).trans Hbx.out).trans (Hby.out.mono hsx)))
                  have hcl : (factCells L).length = j * 6 := by rw [factCells_len, HLl.out]
                  have hone : ∀ u ∈ factCells L, u.oneCell' = true := factCells_one L
                  go_region_held3 (fun w' => w'.cell? ⟨w2.heap.size + 1, 0, none⟩ = some (.int .i64 o.d) ∧ w'.cell? ⟨w2.heap.size + 1, 1, none⟩ = some (.int .i64 o.u) ∧ w'.cell? ⟨w2.heap.size + 1, 2, none⟩ = some (.int .i64 o.s) ∧ w'.cell? ⟨w2.heap.size + 1, 3, none⟩ = some (.int .i64 o.k) ∧ w'.cell? ⟨w2.heap.size + 1, 4, none⟩ = some (.int .i64 o.a) ∧ w'.cell? ⟨w2.heap.size + 1, 5, none⟩ = some (.int .i64 o.b))
                    (first
                      | go_keep
                      | (refine ⟨?_, ?_, ?_, ?_, ?_, ?_⟩ <;> (rw [hgb.cell_far _ (by simp; omega) (by intro e; have := hva _ e.symm; simp at this; omega)]; go_keep))
                      | (refine ⟨?_, ?_, ?_, ?_, ?_, ?_⟩ <;> (rw [hga.cell_far _ (by simp; omega) (by simp [Value.ownBlock]; omega)]; go_keep)))
                    (first
                      | (refine step_append_any _ rfl (.tmp 144) (.tmp 145) 29 rfl wy.heap.size 28 i0 (.agg #[.int .i64 0, .int .i64 0, .int .i64 0, .int .i64 0, .int .i64 0, .int .i64 0]) 6 48 Try.underlying29 hi hz0 hz1 hz2 rfl (by omega) (.slice (some _) 0 0) 0 [] rfl ?_ _ A3 j c3 (factCells L) rfl (Lies.reads (Lies.below hl3y (by repeat' (first | with_reducible exact Below.refl _ _ | with_reducible refine below_drewN ?_ _ | with_reducible refine Below.drew ?_ | with_reducible refine Below.alloc ?_ ?_ _ | with_reducible refine Below.setCell ?_ ?_ _ | with_reducible refine Below.trans ?_ (Below.mono (by with_reducible assumption) ?_) | (simp; done) | (simp; omega) | omega))) hcl) hone (by unfold maxLen; omega) (by omega) (by first | (simp; done) | (simp; omega) | omega) ?_
                         · first
                             | with_reducible exact (own_zero wy _ _ _ (Nat.le_refl _)).drew
                             | with_reducible exact ((own_zero wy _ _ _ (Nat.le_refl _)).alloc _).drew
                             | with_reducible exact (own_zero1 wy _ _ _ _ (Nat.le_refl _)).drew
                         intro va wa howna hga hata
                         simp only [Nat.zero_add, List.nil_append] at howna
                         have hva := own_base howna
                         have hsa : wy.heap.size < wa.heap.size := (by have := hga.size; simp at this; omega))
                      | (refine step_append_lies _ rfl (.tmp 146) (.tmp 148) 29 rfl wy.heap.size 28 i0 (.agg #[.int .i64 0, .int .i64 0, .int .i64 0, .int .i64 0, .int .i64 0, .int .i64 0]) 6 48 Try.underlying29 hi hz0 hz1 hz2 rfl (by omega) va j (factCells L) rfl ?_ _ 1 1 [.int .i64 o.d, .int .i64 o.u, .int .i64 o.s, .int .i64 o.k, .int .i64 o.a, .int .i64 o.b] rfl rfl ?_ (by simp [Value.oneCell']) (by omega) (by unfold maxLen; omega) (by omega) (by first | (simp; done) | (simp; omega) | omega) _ rfl ?_
                         · first
                             | with_reducible exact howna
                             | with_reducible exact howna.alloc _
                         · first
                             | with_reducible exact World.news_of_block (cs := #[.int .i64 o.d, .int .i64 o.u, .int .i64 o.s, .int .i64 o.k, .int .i64 o.a, .int .i64 o.b]) (t := 28) (fr := (0, 0)) (heap_alloc_new wa _)
                             | with_reducible exact news_far (cs := #[.int .i64 o.d, .int .i64 o.u, .int .i64 o.s, .int .i64 o.k, .int .i64 o.a, .int .i64 o.b]) (t := 28) (alloc_second wy _ _) hga (by simp [Value.ownBlock])
                             | with_reducible exact news_far (cs := #[.int .i64 o.d, .int .i64 o.u, .int .i64 o.s, .int .i64 o.k, .int .i64 o.a, .int .i64 o.b]) (t := 28) (alloc_first wy _ _) hga (by simp [Value.ownBlock])
                         intro gg cap wb hownb hgb hatb hltb))
                  all_goals go_wp2
                  all_goals go_meet
                  all_goals
                    have b1 : Below wy.heap.size wy wa := Below.grown (by repeat' (first | with_reducible exact Below.refl _ _ | with_reducible refine below_drewN ?_ _ | with_reducible refine Below.drew ?_ | with_reducible refine Below.alloc ?_ ?_ _ | with_reducible refine Below.setCell ?_ ?_ _ | with_reducible refine Below.trans ?_ (Below.mono (by with_reducible assumption) ?_) | (simp; done) | (simp; omega) | omega)) hga (by first | (simp; done) | (simp; omega)) (by intro x hx; simp [Value.ownBlock] at hx; omega)
                    have b2 : Below wy.heap.size wy wb := by
                      first
                        | with_reducible exact Below.grown b1 hgb (by omega) hva
                        | with_reducible exact Below.grown (b1.alloc (by omega) _) hgb (by simp; omega) hva
                    have hsb := b2.size
                    refine ⟨wb.heap.size, some ⟨gg, 0, none⟩, cap, rfl, rfl, rfl, Lies.new _ _ _ _ _ rfl _ rfl, ?_, Below.alloc b2 (by omega) _⟩
                    refine Lies.alloc ?_ _
                    have e1 : factCells (L ++ [o]) = factCells L ++ [.int .i64 o.d, .int .i64 o.u, .int .i64 o.s, .int .i64 o.k, .int .i64 o.a, .int .i64 o.b] := by simp [factCells, Fct.cells]
                    rw [e1]
                    exact Lies.of_own hownb
                case rest =>
                  obtain ⟨wz, rfl⟩ : ∃ wz : World, wz = wc := ⟨_, rfl⟩
                  obtain ⟨G, A4, c4, rfl, rfl, rfl, hlG, hlA4, hbz⟩ := hcut
                  have hwz : Hid (Below wo.heap.size wo wz) := (((Hbx.out).trans (Hby.out.mono hsx)).trans (hbz.mono (by have := Hby.out.size; omega)))
                  have hwz2 : Hid (Below wx.heap.size wx wz) := Hby.out.trans (hbz.mono Hby.out.size)
                  have Hsl : Hid (∀ k3 : Nat, k3 < 3 → ∃ (A' : Option Addr) (n' c' : Nat) (L' : List Fct), wz.cell? ⟨G, k3, none⟩ = some (.slice A' n' c') ∧ G < wz.heap.size ∧ L'.length = n' ∧ n' ≤ 25 ∧ Lies wz A' n' (factCells L')) := by
                    intro k3 hk3
                    obtain ⟨b, off, e, hbG, hc⟩ := hlG.resolve_left (by omega)
                    injection e with e
                    injection e with e1 e2
                    subst e1 e2
                    rcases (show k3 = 0 ∨ k3 = 1 ∨ k3 = 2 by omega) with rfl | rfl | rfl
                    · exact ⟨A3, j, c3, L, by simpa using hc 0 _ rfl, hbG, HLl.out, by omega, HL3.out.below hwz.out⟩
                    · exact ⟨A2, n2, c2, L2, by simpa using hc 1 _ rfl, hbG, Hn2.out, h25, HA2.out.below (HB5.out.trans (hwz.out.mono (by have := HB5.out.size; omega)))⟩
                    · exact ⟨A4, j + 1, c4, L ++ [o], by simpa using hc 2 _ rfl, hbG, by simp [HLl.out], by omega, hlA4⟩
                  clear hlG hlA4 hbz
                  go_wp2_with fail
                  go_loopw [152] (fun i wr => ∃ k3 : Nat, k3 ≤ 3 ∧ i = .int .i64 (k3 : Int) ∧ Below wz.heap.size wz wr) (fun i _ => 3 - (intOf i).toNat)
                  case atStart => exact ⟨0, by omega, rfl, Below.refl _ _⟩
                  case round =>
                    obtain ⟨wv1, rfl⟩ : ∃ wv1 : World, wv1 = wr := ⟨_, rfl⟩
                    obtain ⟨k3, hk3, rfl, hbv⟩ := hrel
                    have hsv := hbv.size
                    by_cases hk4 : k3 < 3
                    · obtain ⟨A', n', c', L', hcell, hGl, hl', hn', hli⟩ := Hsl.out k3 hk4
                      have hcv := (hbv.cell (p := ⟨G, k3, none⟩) hGl).trans hcell
                      have S1 : Hid (∀ W, Lies W A' n' (factCells L') → Calls Try.prog 17 #[.slice A' n' c', .int .i64 wv] W (SumPost W L' wv)) := fun W h => sumT_any A' n' c' wv W L' hl' (by unfold maxLen; omega) h
                      have S2 : Hid (∀ W, Lies W A' n' (factCells L') → Calls Try.prog 18 #[.slice A' n' c', .int .i64 wv] W (SumPost W L' wv)) := fun W h => sumRf_any A' n' c' wv W L' hl' (by unfold maxLen; omega) h
                      have hlv := Lib.hid (hli.below hbv)
                      have Hbv := Lib.hid hbv
                      clear hcell hl' hli hbv
                      go_wp2_with fail
                      refine (S1.out _ hlv.out).mono ?_
                      rintro e w7 ⟨v7, rfl, hv7, hb7⟩
                      obtain ⟨A7, c7, rfl, hl7, hn7, hm7⟩ := own_slice hv7
                      go_wp2_with fail
                      refine (S2.out _ (hlv.out.below hb7)).mono ?_
                      rintro e w8 ⟨v8, rfl, hv8, hb8⟩
                      obtain ⟨A8, c8, rfl, hl8, hn8, hm8⟩ := own_slice hv8
                      have HI : Hid (Calls Try.prog 19 #[.slice A7 (sumRV L' wv).length c7, .slice A8 (sumRV L' wv).length c8] w8 fun e w' => e = .returned (.bool true) ∧ Below w8.heap.size w8 w') := by
                        have := ints_any A7 A8 _ _ c7 c8 (sumRV L' wv) (sumRV L' wv) w8 rfl rfl (by omega) (by omega) (hl7.below hb8) hl8
                        rwa [show sameL (sumRV L' wv) (sumRV L' wv) = true by simp [sameL]] at this
                      have hs7 := hb7.size
                      have hs8 := hb8.size
                      clear hv7 hl7 hn7 hm7 hv8 hl8 hn8 hm8 S1 S2
                      generalize sumDV L' wv = Dv at *
                      generalize sumNV L' wv = Nv at *
                      generalize sumE L' wv = Ev at *
                      generalize (sumRV L' wv).length = lv at *
                      go_wp2_with (go_at_call 19; refine HI.out.mono ?_; rintro e w9 ⟨rfl, hb9⟩)
                      go_roundw
                      case rel => exact ⟨k3 + 1, by omega, by go_num, by have := Hbv.out; exact (by repeat' (first | with_reducible exact Below.refl _ _ | with_reducible refine below_drewN ?_ _ | with_reducible refine Below.drew ?_ | with_reducible refine Below.alloc ?_ ?_ _ | with_reducible refine Below.setCell ?_ ?_ _ | with_reducible refine Below.trans ?_ (Below.mono (by with_reducible assumption) ?_) | (simp; done) | (simp; omega) | omega))⟩
                      case measure => simp [intOf]; omega
                    · have hw1 : Hid (Below wo.heap.size wo wv1) := hwz.out.trans (hbv.mono hwz.out.size)
                      have hl1 : Hid (Lies wv1 (some ⟨wo.heap.size, 0, none⟩) 2 [.int .i64 width, .int .i64 mw]) := Hlx.out.below (hwz2.out.trans (hbv.mono hwz2.out.size))
                      clear hbv
                      go_wp2
                      go_roundw
                      case rel => exact ⟨k + 1, by omega, by go_num, hw1.out, hl1.out⟩
                      case measure => simp [intOf]; omega
          · go_wp2_with (go_at_call 8; refine (awake28_any _).mono ?_; rintro e w9 ⟨rfl, hb9⟩)
            go_ret
            have hs5 := HB5.out.size
            have hx1 : Below w.heap.size w wx := HB5.out.trans (hbx.mono HB5.out.size)
            exact ⟨rfl, (by repeat' (first | with_reducible exact Below.refl _ _ | with_reducible assumption | with_reducible refine below_drewN ?_ _ | with_reducible refine Below.drew ?_ | with_reducible refine Below.alloc ?_ ?_ _ | with_reducible refine Below.setCell ?_ ?_ _ | with_reducible refine Below.trans ?_ (Below.mono (by with_reducible assumption) ?_) | with_reducible refine below_only ?_ (by with_reducible assumption) ?_ ?_ | (simp; done) | (simp; omega) | omega))⟩
end Go.Proofs.Ytepcelekjjalfaa
