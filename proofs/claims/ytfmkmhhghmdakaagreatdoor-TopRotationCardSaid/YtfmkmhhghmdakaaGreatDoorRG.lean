import Derived.Outline
import Derived.Lib.AppendZerosOnto
import Derived.Test.YtfmkmhhghmdakaaGreatDoorRC
import Derived.Test.YtfmkmhhghmdakaaGreatDoorRD
import Derived.Test.YtfmkmhhghmdakaaGreatDoorRF
namespace Go.Proofs.YtfmkmhhghmdakaaGreatDoor
open Go.RowKit Go.Shelf Go.Lib Go.Sort
set_option linter.unusedVariables false
set_option linter.unusedSimpArgs false
set_option maxHeartbeats 64000000
set_option maxRecDepth 100000
theorem sCells_app (a b : List (Sg Unit)) : sCells (a ++ b) = sCells a ++ sCells b := by simp [sCells]
theorem sCells_one (l : List (Sg Unit)) : ∀ u ∈ sCells l, u.oneCell' = true := by
  intro u hu
  simp only [sCells, List.mem_flatMap] at hu
  obtain ⟨s, _, hu⟩ := hu
  simp [encSp] at hu
  rcases hu with rfl | rfl <;> rfl
def SpPost (w : World) (l : List (Sg Unit)) (e : Ending) (w' : World) : Prop := ∃ v, e = .returned v ∧ w'.ownsRow w.heap.size 256 2 v l.length (sCells l) ∧ Below w.heap.size w w'
theorem growS_any (k : Nat) (w : World) (hn : k ≤ 2000000) :
    Calls Tryz.prog 293 #[.slice none 0 0, .int .i64 (k : Int)] w (SpPost w []) := by
  obtain ⟨i0, hi, hz0, hz1, hz2⟩ := info_parts Tryz.infoSpan
  by_cases h0 : k = 0
  · subst h0
    go_enter Tryz.func293, Tryz.ntmps293
    go_wp2
    go_ret
    exact ⟨_, rfl, World.ownsRow_nil _ _ _ _, Below.refl _ _⟩
  · have tb : Tryz.t256.bytes = 16 := by kernel_rfl
    have hf : ¬ 281474976710656 < Builtin.nextslicecap k 0 * 16 := by
      have := growslice_fits (need := k) (old := 0) (bytes := 16) (by omega) (by omega)
      omega
    have key : Hid (SpPost w [] (.returned (.slice (some ⟨w.heap.size, 0, none⟩) 0 (grownCap w k 0 256))) ((w.alloc (Obj.cells (Builtin.zeroCells #[Value.int IntKind.i64 0, Value.int IntKind.i64 0] k ++ Builtin.zeroCells #[Value.int IntKind.i64 0, Value.int IntKind.i64 0] (grownCap w k 0 256 - k)) 256)).drew)) := by
      have hGn := grownCap_ge w k 0 256
      have hGm := grownCap_le_maxLen w k 0 256 (by unfold maxLen; omega)
      generalize grownCap w k 0 256 = G at *
      refine ⟨_, rfl, World.ownsRow.drew (World.ownsRow_made w _ G (Nat.le_refl _) hGm ?_), gBel⟩
      rw [Array.size_append, size_zeroCells, size_zeroCells]
      simp
      omega
    go_enter Tryz.func293, Tryz.ntmps293
    go_wp2
    go_ret
    exact key.out
def lenS2 (n m : Nat) : Nat → Nat
  | 0 => 0
  | 1 => n
  | _ => n + m
def catS2 (xs ys : List (Sg Unit)) : Nat → List (Sg Unit)
  | 0 => []
  | 1 => [] ++ xs
  | _ => ([] ++ xs) ++ ys
theorem SlS.reads {w : World} {A : Option Addr} {n c : Nat} {l : List (Sg Unit)} (h : SlS w (.slice A n c) l) : n = l.length ∧ Reads w w.heap.size 2 A l.length (sCells l) ∧ n ≤ c ∧ c ≤ maxLen := by
  obtain ⟨A', c', he, h1, h2, h3⟩ := h
  injection he with e1 e2 e3
  subst e1 e2 e3
  exact ⟨rfl, h3.reads (sCells_len l), h1, h2⟩
theorem concatS_any (g : Nat) (A B : Option Addr) (n c m d : Nat) (xs ys : List (Sg Unit)) (w : World)
    (h0 : w.cell? ⟨g, 0, none⟩ = some (.slice A n c)) (h1 : w.cell? ⟨g, 1, none⟩ = some (.slice B m d)) (hg : g < w.heap.size)
    (hn : xs.length ≤ 100000) (hm : ys.length ≤ 100000) (hA : SlS w (.slice A n c) xs) (hB : SlS w (.slice B m d) ys) :
    Calls Tryz.prog 221 #[.slice (some ⟨g, 0, none⟩) 2 2] w (SpPost w (xs ++ ys)) := by
  obtain ⟨i0, hi, hz0, hz1, hz2⟩ := info_parts Tryz.infoSpan
  obtain ⟨hx, HA, _, _⟩ := hA.reads
  obtain ⟨hy, HB, _, _⟩ := hB.reads
  rw [← hx] at HA hn
  rw [← hy] at HB hm
  have Hx := Lib.hid hx
  have Hy := Lib.hid hy
  have HA := Lib.hid HA
  have HB := Lib.hid HB
  clear hx hy hA hB
  go_enter Tryz.func221, Tryz.ntmps221
  go_wp2
  go_loop [3, 11] (fun s i => ∃ k : Nat, k ≤ 2 ∧ i = .int .i64 (k : Int) ∧ s = .int .i64 (lenS2 n m k : Nat)) (fun _ i => 2 - (intOf i).toNat)
  case atStart => exact ⟨0, by omega, rfl, rfl⟩
  case round =>
    obtain ⟨k, hk, rfl, rfl⟩ := hrel
    rcases (show k = 0 ∨ k = 1 ∨ k = 2 by omega) with rfl | rfl | rfl
    · have e1 : lenS2 n m 0 = 0 := rfl
      rw [e1]
      clear e1
      go_wp2
      go_round
      case rel => exact ⟨1, by omega, rfl, by simp [lenS2]⟩
      case measure => simp [intOf]
    · have e1 : lenS2 n m 1 = n := rfl
      rw [e1]
      clear e1
      go_wp2
      go_round
      case rel => exact ⟨2, by omega, rfl, by simp [lenS2]⟩
      case measure => simp [intOf]
    · have e1 : lenS2 n m 2 = n + m := rfl
      rw [e1]
      clear e1
      go_wp2_with fail
      refine (growS_any (n + m) w (by omega)).mono ?_
      rintro e w1 ⟨v1, rfl, hown1, hb1⟩
      have Hown1 := Lib.hid hown1
      clear hown1
      go_wp2
      go_loopw [6, 27] (fun v i wr => ∃ k : Nat, k ≤ 2 ∧ i = .int .i64 (k : Int) ∧ SpPost w (catS2 xs ys k) (.returned v) wr) (fun _ i _ => 2 - (intOf i).toNat)
      case atStart => exact ⟨0, by omega, rfl, v1, rfl, Hown1.out, hb1⟩
      case round =>
        obtain ⟨k, hk, rfl, v, hv, hown, hb⟩ := hrel
        injection hv with hv
        subst hv
        have c0 := (hb.cell (p := ⟨g, 0, none⟩) hg).trans h0
        have c1 := (hb.cell (p := ⟨g, 1, none⟩) hg).trans h1
        have Hown := Lib.hid hown
        clear hown
        have hsz := hb.size
        rcases (show k = 0 ∨ k = 1 ∨ k = 2 by omega) with rfl | rfl | rfl
        · go_wp2_with (at_builtin
                       refine wpList_append_any _ rfl (.tmp 31) (.tmp 32) _ rfl w.heap.size 256 i0 _ 2 16 Tryz.underlying195 hi hz0 hz1 hz2 rfl (by omega) _ 0 [] rfl
                         Hown.out w.heap.size A n c (sCells xs) rfl (HA.out.below hb) (sCells_one xs) (by simp only [maxLen]; omega) (by omega) hsz ?_
                       intro v2 w2 hown2 hg2 hat2)
          go_roundw
          case rel =>
            refine ⟨1, by omega, rfl, v2, rfl, ?_, hb.grown hg2 hsz (own_base Hown.out)⟩
            have e1 : (catS2 xs ys 1).length = 0 + n := by simp [catS2, Hx.out]
            rw [e1]
            exact hown2
          case measure => simp [intOf]
        · have e1 : Hid ((catS2 xs ys 1).length = n) := by show (catS2 xs ys 1).length = n; simp [catS2, Hx.out]
          rw [e1.out] at Hown
          go_wp2_with (at_builtin
                       refine wpList_append_any _ rfl (.tmp 31) (.tmp 32) _ rfl w.heap.size 256 i0 _ 2 16 Tryz.underlying195 hi hz0 hz1 hz2 rfl (by omega) _ n (sCells (catS2 xs ys 1)) rfl
                         Hown.out w.heap.size B m d (sCells ys) rfl (HB.out.below hb) (sCells_one ys) (by simp only [maxLen]; omega) (by omega) hsz ?_
                       intro v2 w2 hown2 hg2 hat2)
          go_roundw
          case rel =>
            refine ⟨2, by omega, rfl, v2, rfl, ?_, hb.grown hg2 hsz (own_base Hown.out)⟩
            have e1 : (catS2 xs ys 2).length = n + m := by simp [catS2, Hx.out, Hy.out]
            have e2 : sCells (catS2 xs ys 2) = sCells (catS2 xs ys 1) ++ sCells ys := by simp only [catS2]; rw [sCells_app]
            rw [e1, e2]
            exact hown2
          case measure => simp [intOf]
        · go_wp2
          go_ret
          exact ⟨_, rfl, Hown.out, hb⟩
theorem containsS_any (p : Sg Unit → Bool) (f : Nat) (lb : Array Value) (eg : ∀ args w, (callFunc f args).run Tryz.prog w = .ok (.enter f args) w) (u : Value) (l : List (Sg Unit)) (w : World) (hA : SlS w u l)
    (hp : PredBelow Tryz.prog f lb (fun q : Sg Unit => .agg (encSp q).toArray) p w) :
    Calls Tryz.prog 250 #[u, .func (.func f) #[] lb] w fun e w' => e = .returned (.bool (l.any p)) ∧ Below w.heap.size w w' := by
  obtain ⟨A, c, rfl, hc1, hm1, hl1⟩ := hA
  have hn := Nat.le_trans hc1 hm1
  unfold maxLen at hn
  rcases Nat.eq_zero_or_pos l.length with h0 | h0
  · obtain rfl : l = [] := List.length_eq_zero_iff.1 h0
    clear hl1 hp eg
    go_enter Tryz.func250, Tryz.ntmps250
    go_wp2
    go_loop [8] (fun i => i = .int .i64 0) (fun _ => 0)
    case atStart => rfl
    case round =>
      subst hrel
      go_wp2
      go_ret
      exact ⟨rfl, Below.refl _ _⟩
  · obtain ⟨b1, o1, rfl, hb1, hcc1⟩ := hl1.resolve_left (by omega)
    refine (AnyQ.slices_ContainsFunc Tryz.layContainsSpan 2 Tryz.isAgg256 Tryz.sizeOf256 encSp (fun _ => rfl) p f lb eg b1 o1 l.length c l w hp (by omega) (by omega) hb1 ?_).mono ?_
    · intro j hj i v hv
      obtain ⟨h0, h1⟩ := sCells_at l j hj
      rw [getElem!_pos l j hj] at hv
      have hi : i < 2 := by
        rcases Nat.lt_or_ge i 2 with h | h
        · exact h
        · rw [List.getElem?_eq_none (by simpa [encSp] using h)] at hv; cases hv
      rcases (show i = 0 ∨ i = 1 by omega) with rfl | rfl
      · simp [encSp] at hv; subst hv; exact hcc1 _ _ h0
      · simp [encSp] at hv; subst hv; rw [Nat.add_assoc]; exact hcc1 _ _ h1
    · rintro e w' ⟨rfl, hb⟩
      rw [List.take_of_length_le (by omega)]
      exact ⟨rfl, hb⟩
theorem insidePred (gx : Nat) (x : Int) (w : World) (hx : w.cell? ⟨gx, 0, none⟩ = some (.int .i64 x)) (hgx : gx < w.heap.size) :
    PredBelow Tryz.prog 294 #[.pointer (some ⟨gx, 0, none⟩)] (fun q : Sg Unit => .agg (encSp q).toArray) (fun q => inS q x) w := by
  intro W q hb
  refine Calls.mono (show Calls Tryz.prog 294 #[.agg #[.int .i64 q.1, .int .i64 q.2.1], .pointer (some ⟨gx, 0, none⟩)] W fun e w' => e = .returned (.bool (inS q x)) ∧ Below W.heap.size W w' from ?_) ?_
  · have cx := (hb.cell (p := ⟨gx, 0, none⟩) hgx).trans hx
    have hgx' : gx < W.heap.size := Nat.lt_of_lt_of_le hgx hb.size
    have Hh : Hid (inS q x = (decide (q.1 ≤ x) && decide (x < q.2.1))) := Lib.hid rfl
    generalize inS q x = res at *
    clear hx hb hgx
    by_cases h1 : q.1 ≤ x
    · by_cases h2 : x < q.2.1
      · have hR : res = true := by rw [Hh.out]; simp [h1, h2]
        subst hR
        go_enter Tryz.func294, Tryz.ntmps294
        go_wp2
        go_ret
        exact ⟨rfl, gBel⟩
      · have hR : res = false := by rw [Hh.out]; simp [h2]
        subst hR
        go_enter Tryz.func294, Tryz.ntmps294
        go_wp2
        go_ret
        exact ⟨rfl, gBel⟩
    · have hR : res = false := by rw [Hh.out]; simp [h1]
      subst hR
      go_enter Tryz.func294, Tryz.ntmps294
      go_wp2
      go_ret
      exact ⟨rfl, gBel⟩
  · rintro e w' ⟨rfl, h⟩
    exact ⟨rfl, hb.trans (h.mono hb.size)⟩
theorem insideS_any (u : Value) (l : List (Sg Unit)) (x : Int) (w : World) (hA : SlS w u l) :
    Calls Tryz.prog 222 #[u, .int .i64 x] w fun e w' => e = .returned (.bool (inR l x)) ∧ Below w.heap.size w w' := by
  have HA := Lib.hid hA
  have Hr : Hid (inR l x = l.any fun q => inS q x) := Lib.hid rfl
  generalize inR l x = res at *
  have eg : ∀ args w, (callFunc 294 args).run Tryz.prog w = .ok (.enter 294 args) w := enters_of Tryz.func294 (by kernel_rfl) rfl
  have Eg := Lib.hid eg
  clear hA eg
  go_enter Tryz.func222, Tryz.ntmps222
  go_wp2_with (first
    | (go_at_call 250
       refine (containsS_any (fun q => inS q x) 294 #[.pointer (some ⟨w.heap.size, 0, none⟩)] Eg.out u l _ (HA.out.below gBel) (insidePred _ x _ (cell_of_row _ w.heap.size 0 _ _ _ (heap_alloc_new w _)) (by simp))).mono ?_
       rintro e w1 ⟨rfl, hb1⟩
       rw [← Hr.out])
    | fail)
  go_ret
  exact ⟨rfl, gBelo⟩
end Go.Proofs.YtfmkmhhghmdakaaGreatDoor
namespace Go.Proofs.YtfmkmhhghmdakaaGreatDoor
open Go.RowKit
set_option linter.unusedVariables false
set_option linter.unusedSimpArgs false
set_option maxHeartbeats 64000000
set_option maxRecDepth 100000
theorem sEdges_take_succ (l : List (Sg Unit)) (k : Nat) (h : k < l.length) : sEdges (l.take (k + 1)) = sEdges (l.take k) ++ [l[k].1, l[k].2.1] := by
  rw [List.take_succ_eq_append_getElem h]; unfold sEdges; rw [List.flatMap_append]; rfl
theorem sEdges_len (l : List (Sg Unit)) : (sEdges l).length = 2 * l.length := by
  induction l with
  | nil => rfl
  | cons q t ih => simp [sEdges] at ih ⊢; omega
theorem merge_any (f : Nat) (lb : Array Value) (how : Bool → Bool → Bool) (va vb : Value) (la lc : List (Sg Unit)) (w : World) (hA : SlS w va la) (hB : SlS w vb lc) (hn : la.length ≤ 100000) (hm : lc.length ≤ 100000)
    (eg : ∀ args w, (callFunc f args).run Tryz.prog w = .ok (.enter f args) w)
    (HF : ∀ W x y, Below w.heap.size w W → Calls Tryz.prog f (#[.bool x, .bool y] ++ lb) W fun e w' => e = .returned (.bool (how x y)) ∧ Below W.heap.size W w') :
    Calls Tryz.prog 139 #[va, vb, .func (.func f) #[] lb] w (SpPost w (mergeP how la lc)) := by
  obtain ⟨i0, hi, hz0, hz1, hz2⟩ := info_parts Tryz.infoSpan
  obtain ⟨j0, hj, hy0, hy1, hy2⟩ := info_parts Tryz.infoInt
  obtain ⟨A, ca, rfl, hA1, hA2, hA3⟩ := id hA
  obtain ⟨B, cb, rfl, hB1, hB2, hB3⟩ := id hB
  have HA := Lib.hid hA
  have HB := Lib.hid hB
  have HFh := Lib.hid HF
  have Hm : Hid (mergeP how la lc = foldC (fun x => opt (how (inR la x) (inR lc x))) (asc (sEdges (la ++ lc))) []) := Lib.hid rfl
  have Hac : Hid (asc (sEdges (la ++ lc)) = Lib.compact (srt (sEdges (la ++ lc)))) := Lib.hid rfl
  obtain ⟨al, hal⟩ : ∃ al, la ++ lc = al := ⟨_, rfl⟩
  have hall : al.length ≤ 200000 := by rw [← hal, List.length_append]; omega
  rw [hal] at Hm Hac
  obtain ⟨N, hN⟩ : ∃ N, la.length = N := ⟨_, rfl⟩
  obtain ⟨M, hM⟩ : ∃ M, lc.length = M := ⟨_, rfl⟩
  have HN := Lib.hid hN
  have HM := Lib.hid hM
  have Hal := Lib.hid hal
  rw [hN] at HA ⊢
  rw [hM] at HB ⊢
  clear hA hB HF hA1 hA2 hA3 hB1 hB2 hB3 hal hN hM
  go_enter Tryz.func139, Tryz.ntmps139
  go_upto_region 3 with (first
    | (go_at_call 221
       refine (concatS_any w.heap.size A B N ca M cb la lc _ (cell_of_row _ w.heap.size 0 _ _ _ (heap_alloc_new w _)) (cell_of_row _ w.heap.size 1 _ _ _ (heap_alloc_new w _)) (by simp) hn hm (HA.out.below gBel) (HB.out.below gBel)).mono ?_
       rintro e w0 ⟨v0, rfl, hown0, hb0⟩
       rw [Hal.out] at hown0
       obtain ⟨Sd, sc, rfl, hSl, hSc, hSm⟩ := own_slice hown0
       have HSl := Lib.hid hSl
       have Hb0 : Hid (Below w.heap.size w w0) := Lib.hid (show Below w.heap.size w w0 from (by have hbq := hb0; exact gBelo))
       clear hown0 hb0 hSl)
    | fail)
  have hs0 := Hb0.out.size
  go_loopw [7, 9, 19] (fun o _ i wr => ∃ k : Nat, k ≤ al.length ∧ i = .int .i64 (k : Int) ∧ wr.ownsRow w0.heap.size 3 1 o (sEdges (al.take k)).length ((sEdges (al.take k)).map (.int .i64)) ∧ Below w0.heap.size w0 wr) (fun _ _ i _ => al.length - (intOf i).toNat)
  case atStart => exact ⟨0, Nat.zero_le _, rfl, World.ownsRow_nil _ _ _ _, Below.refl _ _⟩
  case round =>
    obtain ⟨k, hk, rfl, hown, hbw⟩ := hrel
    have hsw := hbw.size
    have Hown := Lib.hid hown
    have Hbw := Lib.hid hbw
    clear hown
    by_cases hkn : k < al.length
    · obtain ⟨b, off, rfl, hb, hcs⟩ := (HSl.out.below hbw).resolve_left (by omega)
      obtain ⟨i1, i2⟩ := sCells_at al k hkn
      have c0 := hcs _ _ i1
      have c1 : wr.cell? ⟨b, off + k * 2 + 1, none⟩ = some (.int .i64 al[k].2.1) := hcs _ _ i2
      have Hnext := Lib.hid (sEdges_take_succ al k hkn)
      have hlen : (sEdges (al.take k)).length ≤ 400000 := by rw [sEdges_len, List.length_take]; omega
      have hkn' : (k : Int) < (al.length : Int) := by omega
      generalize al[k] = s at *
      generalize sEdges (al.take k) = es at *
      clear hbw hcs i1 i2
      go_wp2_with (first
        | (at_builtin
           refine wpList_append_any _ rfl (.tmp 23) (.tmp 28) _ rfl w0.heap.size 3 j0 _ 1 8 Tryz.underlying22 hj hy0 hy1 hy2 rfl (by omega) _ es.length (es.map (.int .i64)) rfl
             ((Hown.out.alloc _).alloc _) _ _ 2 2 [.int .i64 s.1, .int .i64 s.2.1] rfl ⟨rfl, fun _ => ⟨_, rfl, Nat.lt_succ_self _, fun j u hu => (by exact World.news_of_block (heap_alloc2_new wr _ (.cells #[.int .i64 s.1, .int .i64 s.2.1] 3)) j u hu)⟩⟩ (by simp [Value.oneCell']) (by simp only [maxLen]; omega) (by omega) (by simp; omega) ?_
           intro v5 w5 hown5 hg5 hat5)
        | fail)
      go_roundw
      case rel =>
        refine ⟨k + 1, by omega, by go_num, ?_, Below.grown (((Hbw.out.alloc hsw _).alloc (by simp; omega) _)) hg5 (by simp; omega) (own_base Hown.out)⟩
        rw [Hnext.out, List.length_append, List.map_append]
        exact hown5
      case measure => simp [intOf]; omega
    · have Hown3 : Hid (wr.ownsRow w0.heap.size 3 1 u7 (sEdges al).length ((sEdges al).map (.int .i64))) := Lib.hid (by have := Hown.out; rw [List.take_of_length_le (by omega)] at this; exact this)
      have hel : (sEdges al).length ≤ 400000 := by rw [sEdges_len]; omega
      have Hsr := Lib.hid (srt_len (sEdges al))
      have hkn' : ¬ (k : Int) < (al.length : Int) := by omega
      have hub := Lib.hid (own_base Hown3.out)
      have Hasc := Lib.hid (asc_all (sEdges al)).2.2
      clear hbw Hown
      obtain ⟨ex, hex⟩ : ∃ ex, asc (sEdges al) = ex := ⟨_, rfl⟩
      rw [hex] at Hm Hac Hasc
      clear hex
      generalize sEdges al = es at *
      go_wp2_with fail
      refine (sort_own _ Hown3.out (by omega)).mono ?_
      rintro e w1 ⟨rfl, hown1, hg1⟩
      have Hown1 : Hid (w1.ownsRow w0.heap.size 3 1 u7 (srt es).length ((srt es).map (.int .i64))) := Lib.hid (by rw [Hsr.out]; exact hown1)
      have Hb1 : Hid (Below w0.heap.size w0 w1) := Lib.hid (Hbw.out.grown hg1 hsw hub.out)
      clear hown1 hg1
      go_wp2_with fail
      refine (compact_own _ Hown1.out).mono ?_
      rintro e w2 ⟨v2, rfl, hown2, hg2, hv2⟩
      have Hb2 : Hid (Below w.heap.size w w2) := Lib.hid (Hb0.out.trans ((Hb1.out.grown hg2 Hb1.out.size hub.out).mono hs0))
      rw [← Hac.out] at hown2
      obtain ⟨C, cc, rfl, hC⟩ := SlI.of_own hown2
      have HC := Lib.hid hC
      clear hown2 hg2 hv2 hC
      have hs2 := Hb2.out.size
      have hex4 : ex.length ≤ 400000 := by have := Hasc.out; omega
      obtain ⟨E, hE⟩ : ∃ E, ex.length = E := ⟨_, rfl⟩
      have HEl := Lib.hid hE
      rw [hE] at HC hex4 ⊢
      clear hE
      have HinA : Hid (∀ W x, Below w2.heap.size w2 W → Calls Tryz.prog 222 #[.slice A N ca, .int .i64 x] W fun e w' => e = .returned (.bool (inR la x)) ∧ Below W.heap.size W w') := Lib.hid (fun W x hW => insideS_any _ la x W (HA.out.below (Hb2.out.trans (hW.mono hs2))))
      have HinB : Hid (∀ W x, Below w2.heap.size w2 W → Calls Tryz.prog 222 #[.slice B M cb, .int .i64 x] W fun e w' => e = .returned (.bool (inR lc x)) ∧ Below W.heap.size W w') := Lib.hid (fun W x hW => insideS_any _ lc x W (HB.out.below (Hb2.out.trans (hW.mono hs2))))
      have HFx : Hid (∀ W x y, Below w2.heap.size w2 W → Calls Tryz.prog f (#[.bool x, .bool y] ++ lb) W fun e w' => e = .returned (.bool (how x y)) ∧ Below W.heap.size W w') := Lib.hid (fun W x y hW => HFh.out W x y (Hb2.out.trans (hW.mono hs2)))
      go_upto_region 11 with fail
      go_loopw [10, 11, 12, 13] (fun o i _ _ wr => ∃ (j : Nat) (acc : List (Sg Unit)), i = .int .i64 ((j : Int) + 1) ∧ j ≤ E ∧ wr.ownsRow w2.heap.size 256 2 o acc.length (sCells acc) ∧ Below w2.heap.size w2 wr ∧ Hid (foldC (fun x => opt (how (inR la x) (inR lc x))) (ex.drop j) acc = foldC (fun x => opt (how (inR la x) (inR lc x))) ex []) ∧ Hid (acc.length ≤ j)) (fun _ i _ _ _ => E + 1 - (intOf i).toNat)
      case atStart => exact ⟨0, [], rfl, Nat.zero_le _, World.ownsRow_nil _ _ _ _, Below.refl _ _, Lib.hid rfl, Lib.hid (Nat.le_refl _)⟩
      case round =>
        obtain ⟨j, acc, rfl, hjE, hown, hbr, Hrun, Hacc⟩ := hrel
        have hsr := hbr.size
        have Hown := Lib.hid hown
        have Hbr := Lib.hid hbr
        clear hown
        by_cases hj : j + 1 < E
        · have hj1 : j < ex.length := by have := HEl.out; omega
          have hj2 : j + 1 < ex.length := by have := HEl.out; omega
          obtain ⟨xb, xo, hCe, hxb, cxa⟩ := HC.out.at j hj1
          obtain ⟨xb', xo', hCe', _, cxb⟩ := HC.out.at (j + 1) hj2
          rw [hCe] at hCe'
          injection hCe' with hCe'
          injection hCe' with e1 e2 _
          subst e1 e2 hCe
          have Hdrop := Lib.hid (foldC_drop (fun x => opt (how (inR la x) (inR lc x))) ex j hj2 acc)
          generalize ex[j] = x at *
          generalize ex[j + 1] = x' at *
          have cx0 := (hbr.cell (p := ⟨xb, xo + j, none⟩) hxb).trans cxa
          have cx1 := (hbr.cell (p := ⟨xb, xo + (j + 1), none⟩) hxb).trans cxb
          have Hch : Hid (how (inR la x) (inR lc x) = how (inR la x) (inR lc x)) := Lib.hid rfl
          have HiA := Lib.hid (fun W hW => HinA.out W x hW)
          have HiB := Lib.hid (fun W hW => HinB.out W x hW)
          have HFy := Lib.hid (fun W hW => HFx.out W (inR la x) (inR lc x) hW)
          generalize inR la x = ia at *
          generalize inR lc x = ic at *
          generalize how ia ic = ch at *
          have hj' : (j : Int) + 1 < (E : Int) := by omega
          have hwj : IntKind.i64.wrap ((j : Int) + 1 - 1) = (j : Int) := by rw [IntWalk.i64_in _ (by omega)]; omega
          have hwj2 : IntKind.i64.wrap (j : Int) = (j : Int) := IntWalk.i64_in _ (by omega)
          have hj0 : (0 : Int) ≤ (j : Int) := by omega
          have hj01 : (0 : Int) ≤ (j : Int) + 1 := by omega
          have hjl : (j : Int) < (E : Int) := by omega
          have hxbr : xb < wr.heap.size := by omega
          clear cxa cxb hbr
          have hal : acc.length ≤ 400000 := by have := Hacc.out; omega
          go_upto_region 14 with fail
          cases ch with
          | false =>
            go_upto_region 15 with (first
              | (go_at_call_of 222 (Value.slice A N ca)
                 refine (HiA.out _ (Hbr.out.trans (Below.mono gBel hsr))).mono ?_
                 rintro e wA ⟨rfl, hA4⟩
                 have HA4 : Hid (Below wr.heap.size wr wA) := Lib.hid (show Below wr.heap.size wr wA from (by have hbq := hA4; exact gBelo))
                 clear hA4)
              | (go_at_call_of 222 (Value.slice B M cb)
                 refine (HiB.out _ (Hbr.out.trans ((HA4.out.trans (Below.mono gBel HA4.out.size)).mono hsr))).mono ?_
                 rintro e wB ⟨rfl, hB4⟩
                 have HB4 : Hid (Below wr.heap.size wr wB) := Lib.hid (HA4.out.trans (Below.mono (show Below wA.heap.size wA wB from (by have hbq := hB4; exact gBelo)) HA4.out.size))
                 clear hB4)
              | (go_at_fn f
                 refine (HFy.out _ (Hbr.out.trans ((HB4.out.trans (Below.mono gBel HB4.out.size)).mono hsr))).mono ?_
                 rintro e w4 ⟨rfl, hb4⟩
                 have Hb4 : Hid (Below wr.heap.size wr w4) := Lib.hid (HB4.out.trans (Below.mono (show Below wB.heap.size wB w4 from (by have hbq := hb4; exact gBelo)) HB4.out.size))
                 clear hb4)
              | fail)
            have hs4 := Hb4.out.size
            have cx04 := (Hb4.out.cell (p := ⟨xb, xo + j, none⟩) hxbr).trans cx0
            have cx14 := (Hb4.out.cell (p := ⟨xb, xo + (j + 1), none⟩) hxbr).trans cx1
            have Hown4 := Lib.hid (ownsRow_below Hown.out Hb4.out)
            have hsw4 : w2.heap.size ≤ w4.heap.size := by omega
            clear cx0 cx1
            go_wp2
            go_roundw
            case rel => exact ⟨j + 1, acc, by go_num, by omega, Hown4.out, Hbr.out.trans (Hb4.out.mono hsr), Lib.hid (by rw [← Hrun.out, Hdrop.out]; rfl), Lib.hid (by have := Hacc.out; omega)⟩
            case measure => simp [intOf]; omega
          | true =>
            go_upto_region 15 with (first
              | (go_at_call_of 222 (Value.slice A N ca)
                 refine (HiA.out _ (Hbr.out.trans (Below.mono gBel hsr))).mono ?_
                 rintro e wA ⟨rfl, hA4⟩
                 have HA4 : Hid (Below wr.heap.size wr wA) := Lib.hid (show Below wr.heap.size wr wA from (by have hbq := hA4; exact gBelo))
                 clear hA4)
              | (go_at_call_of 222 (Value.slice B M cb)
                 refine (HiB.out _ (Hbr.out.trans ((HA4.out.trans (Below.mono gBel HA4.out.size)).mono hsr))).mono ?_
                 rintro e wB ⟨rfl, hB4⟩
                 have HB4 : Hid (Below wr.heap.size wr wB) := Lib.hid (HA4.out.trans (Below.mono (show Below wA.heap.size wA wB from (by have hbq := hB4; exact gBelo)) HA4.out.size))
                 clear hB4)
              | (go_at_fn f
                 refine (HFy.out _ (Hbr.out.trans ((HB4.out.trans (Below.mono gBel HB4.out.size)).mono hsr))).mono ?_
                 rintro e w4 ⟨rfl, hb4⟩
                 have Hb4 : Hid (Below wr.heap.size wr w4) := Lib.hid (HB4.out.trans (Below.mono (show Below wB.heap.size wB w4 from (by have hbq := hb4; exact gBelo)) HB4.out.size))
                 clear hb4)
              | fail)
            have hs4 := Hb4.out.size
            have cx04 := (Hb4.out.cell (p := ⟨xb, xo + j, none⟩) hxbr).trans cx0
            have cx14 := (Hb4.out.cell (p := ⟨xb, xo + (j + 1), none⟩) hxbr).trans cx1
            have Hown4 := Lib.hid (ownsRow_below Hown.out Hb4.out)
            have hsw4 : w2.heap.size ≤ w4.heap.size := by omega
            clear cx0 cx1
            rcases list_snoc acc with hsn | ⟨a0, q, hsn⟩
            · have Hnew : Hid (stepO acc x x' (opt true) = acc ++ [(x, x', ())]) := Lib.hid (by rw [hsn]; rfl)
              have hl0 : acc.length = 0 := by rw [hsn]; rfl
              have Hlen := Lib.hid hl0
              rw [hl0] at Hown4 hal
              obtain ⟨Bd, bc, rfl, _, _, _⟩ := own_slice Hown4.out
              clear hsn hl0
              go_upto_region 16 with fail
              go_upto_region 18 with fail
              have Hb5 : Hid (Below wr.heap.size wr w4) := Hb4
              have cx15 : w4.cell? ⟨xb, xo + (j + 1), none⟩ = some (.int .i64 x') := cx14
              have Hown5 : Hid (w4.ownsRow w2.heap.size 256 2 (.slice Bd 0 bc) 0 (sCells acc)) := Hown4
              have hsw5 : w2.heap.size ≤ w4.heap.size := hsw4
              clear cx04 cx14 Hown4
              generalize w4 = w5 at *
              go_wp2_with (first
                | (at_builtin
                   refine wpList_append_any _ rfl (.tmp 78) (.tmp 85) _ rfl w2.heap.size 256 i0 _ 2 16 Tryz.underlying195 hi hz0 hz1 hz2 rfl (by omega) _ 0 (sCells acc) rfl
                     (Hown5.out.alloc _) _ _ 1 1 [.int .i64 x, .int .i64 x'] rfl ⟨rfl, fun _ => ⟨_, rfl, Nat.lt_succ_self _, fun j u hu => (by exact news_any _ _ _ j u hu)⟩⟩ (by simp [Value.oneCell']) (by simp only [maxLen]; omega) (by omega) (by simp; omega) ?_
                   intro v6 w6 hown6 hg6 hat6)
                | fail)
              go_roundw
              case rel =>
                refine ⟨j + 1, acc ++ [(x, x', ())], by go_num, by omega, ?_, Below.grown ((Hbr.out.trans (Hb5.out.mono hsr)).alloc (by omega) _) hg6 (by simp; omega) (own_base Hown5.out), Lib.hid (by rw [← Hrun.out, Hdrop.out, ← Hnew.out]), Lib.hid (by have := Hacc.out; simp; omega)⟩
                rw [List.length_append, sCells_snoc, Hlen.out]
                exact hown6
              case measure => simp [intOf]; omega
            · have hl0 : acc.length = a0.length + 1 := by rw [hsn]; simp
              obtain ⟨nb, hnb⟩ : ∃ nb, acc.length = nb := ⟨_, rfl⟩
              obtain ⟨p, hp⟩ : ∃ p, a0.length = p := ⟨_, rfl⟩
              have hn1 : nb = p + 1 := by omega
              have hpl : p < acc.length := by omega
              have hblp : acc[p] = q := by
                have h1 : acc[p]? = some q := by rw [hsn, List.getElem?_append_right (by omega), hp]; simp
                rw [List.getElem?_eq_getElem hpl] at h1
                exact Option.some.inj h1
              have Hlen := Lib.hid hnb
              have Hn1 := Lib.hid hn1
              have Hsn := Lib.hid hsn
              have Hp := Lib.hid hp
              rw [hnb] at Hown4 hal
              obtain ⟨g, bc, rfl, hgb, hgl, hnc, hcm, hcells, hfr⟩ := own_at Hown4.out (by omega)
              have cr := hcells (p * 2 + 1) _ (sCells_at acc p hpl).2
              rw [hblp] at cr
              have Hset : Hid (∀ z : Int, sCells (a0 ++ [(q.1, z, ())]) = (sCells acc).set (p * 2 + 1) (.int .i64 z)) := Lib.hid (fun z => by
                rw [← sCells_setR acc p hpl z, hblp, hsn]
                congr 1
                rw [List.set_append_right _ _ (by omega), hp, Nat.sub_self]
                rfl)
              have hwn : IntKind.i64.wrap ((nb : Int) - 1) = (p : Int) := by rw [IntWalk.i64_in _ (by omega)]; omega
              have hnp : (p : Int) < (nb : Int) := by omega
              have hn00 : (0 : Int) < (nb : Int) := by omega
              have hp00 : (0 : Int) ≤ (p : Int) := by omega
              have hn0N : 0 < nb := by omega
              have hnpN : p < nb := by omega
              have hdn : decide (0 < nb) = true := decide_eq_true hn0N
              have hfg := hfr (p * 2 + 1)
              clear hsn hl0 hnb hp hn1 hpl hblp hcells hfr
              go_upto_region 16 with fail
              by_cases hqx : q.2.1 = x
              · have Hext : Hid (stepO acc x x' (opt true) = a0 ++ [(q.1, x', ())]) := Lib.hid (by rw [Hsn.out]; exact step_band_ext 0 0 x x' a0 q hqx)
                have hqd : (q.2.1 == x) = true := by simp [hqx]
                go_upto_region 17 with fail
                have Hb5 : Hid (Below wr.heap.size wr w4) := Hb4
                have cx15 : w4.cell? ⟨xb, xo + (j + 1), none⟩ = some (.int .i64 x') := cx14
                have cr5 : w4.cell? ⟨g, p * 2 + 1, none⟩ = some (.int .i64 q.2.1) := cr
                have fr5 : w4.frozen? ⟨g, p * 2 + 1, none⟩ = false := hfg
                have Hown5 : Hid (w4.ownsRow w2.heap.size 256 2 (.slice (some ⟨g, 0, none⟩) nb bc) nb (sCells acc)) := Hown4
                clear cx04 cx14 Hown4 cr hfg
                generalize w4 = w5 at *
                go_wp2
                go_roundw
                case rel =>
                  refine ⟨j + 1, a0 ++ [(q.1, x', ())], by go_num, by omega, ?_, (Hbr.out.trans (Hb5.out.mono hsr)).setCell hgb _, Lib.hid (by rw [← Hrun.out, Hdrop.out, ← Hext.out]), Lib.hid (by have := Hacc.out; have := Hlen.out; have := Hp.out; have := Hn1.out; simp; omega)⟩
                  have e1 : (a0 ++ [(q.1, x', ())]).length = nb := by rw [List.length_append, Hp.out, Hn1.out]; rfl
                  rw [e1, Hset.out]
                  exact own_setN Hown5.out _ _
                case measure => simp [intOf]; omega
              · have Hnew : Hid (stepO acc x x' (opt true) = acc ++ [(x, x', ())]) := Lib.hid (step_band_new x x' acc (by rw [Hsn.out]; simp; exact hqx))
                have hqd : (q.2.1 == x) = false := by simp [hqx]
                go_upto_region 18 with fail
                have Hb5 : Hid (Below wr.heap.size wr w4) := Hb4
                have cx15 : w4.cell? ⟨xb, xo + (j + 1), none⟩ = some (.int .i64 x') := cx14
                have Hown5 : Hid (w4.ownsRow w2.heap.size 256 2 (.slice (some ⟨g, 0, none⟩) nb bc) nb (sCells acc)) := Hown4
                have hsw5 : w2.heap.size ≤ w4.heap.size := hsw4
                clear cx04 cx14 Hown4 cr hfg
                generalize w4 = w5 at *
                go_wp2_with (first
                  | (at_builtin
                     refine wpList_append_any _ rfl (.tmp 78) (.tmp 85) _ rfl w2.heap.size 256 i0 _ 2 16 Tryz.underlying195 hi hz0 hz1 hz2 rfl (by omega) _ nb (sCells acc) rfl
                       (Hown5.out.alloc _) _ _ 1 1 [.int .i64 x, .int .i64 x'] rfl ⟨rfl, fun _ => ⟨_, rfl, Nat.lt_succ_self _, fun j u hu => (by exact news_any _ _ _ j u hu)⟩⟩ (by simp [Value.oneCell']) (by simp only [maxLen]; omega) (by omega) (by simp; omega) ?_
                     intro v6 w6 hown6 hg6 hat6)
                  | fail)
                go_roundw
                case rel =>
                  refine ⟨j + 1, acc ++ [(x, x', ())], by go_num, by omega, ?_, Below.grown ((Hbr.out.trans (Hb5.out.mono hsr)).alloc (by omega) _) hg6 (by simp; omega) (own_base Hown5.out), Lib.hid (by rw [← Hrun.out, Hdrop.out, ← Hnew.out]), Lib.hid (by have := Hacc.out; simp; omega)⟩
                  rw [List.length_append, sCells_snoc, Hlen.out]
                  exact hown6
                case measure => simp [intOf]; omega
        · have Hfin : Hid (mergeP how la lc = acc) := Lib.hid (by rw [Hm.out, ← Hrun.out, foldC_end _ _ _ (by have := HEl.out; omega)])
          have hj' : ¬ (j : Int) + 1 < (E : Int) := by omega
          clear hbr
          go_wp2
          go_ret
          exact ⟨_, rfl, by rw [Hfin.out]; exact own_rebase Hown.out hs2, Hb2.out.trans (Hbr.out.mono hs2)⟩
def BoolFn (f : Nat) (lb : Array Value) (how : Bool → Bool → Bool) (w : World) : Prop :=
  ∀ W x y, Below w.heap.size w W → Calls Tryz.prog f (#[.bool x, .bool y] ++ lb) W fun e w' => e = .returned (.bool (how x y)) ∧ Below W.heap.size W w'
theorem BoolFn.below {f : Nat} {lb : Array Value} {how : Bool → Bool → Bool} {w w' : World} (h : BoolFn f lb how w) (hb : Below w.heap.size w w') : BoolFn f lb how w' := fun W x y hW => h W x y (hb.trans (hW.mono hb.size))
structure ChB (W : World) (g : Nat) (A : Option Addr) (n c : Nat) (B : Option Addr) (m d f : Nat) (lb : Array Value) : Prop where
  size : g + 1 + 1 < W.heap.size
  c0 : W.cell? ⟨g, 0, none⟩ = some (.slice A n c)
  c1 : W.cell? ⟨g + 1, 0, none⟩ = some (.slice B m d)
  c2 : W.cell? ⟨g + 1 + 1, 0, none⟩ = some (.func (.func f) #[] lb)
theorem ChB.below {W W' : World} {g : Nat} {A : Option Addr} {n c : Nat} {B : Option Addr} {m d f : Nat} {lb : Array Value} (h : ChB W g A n c B m d f lb) (hb : Below W.heap.size W W') : ChB W' g A n c B m d f lb :=
  have hs := h.size
  ⟨Nat.lt_of_lt_of_le h.size hb.size, (hb.cell (p := ⟨g, 0, none⟩) (by show g < _; omega)).trans h.c0, (hb.cell (p := ⟨g + 1, 0, none⟩) (by show g + 1 < _; omega)).trans h.c1, (hb.cell (p := ⟨g + 1 + 1, 0, none⟩) h.size).trans h.c2⟩
theorem chooseRow_any (g : Nat) (A B : Option Addr) (n c m d f : Nat) (lb : Array Value) (how : Bool → Bool → Bool) (a b : List R4) (y : Int) (w : World) (hg : ChB w g A n c B m d f lb) (hA : SlR w A n c a) (hB : SlR w B m d b) (hn : n ≤ 100000) (hm : m ≤ 100000) (ha : ∀ q ∈ a, q.l < q.r) (hb : ∀ q ∈ b, q.l < q.r)
    (eg : ∀ args w, (callFunc f args).run Tryz.prog w = .ok (.enter f args) w) (HF : BoolFn f lb how w) :
    Calls Tryz.prog 138 #[.int .i64 y, .pointer (some ⟨g, 0, none⟩), .pointer (some ⟨g + 1, 0, none⟩), .pointer (some ⟨g + 1 + 1, 0, none⟩)] w fun e w' => ∃ v, e = .returned v ∧ w'.ownsRow w.heap.size 256 2 v (mergeP how (rowP a y) (rowP b y)).length (sCells (mergeP how (rowP a y) (rowP b y))) ∧ Below w.heap.size w w' := by
  have hra := rowP_len a y
  have hrb := rowP_len b y
  have hna := hA.len
  have hnb := hB.len
  have Hg := Lib.hid hg
  have HA := Lib.hid hA
  have HB := Lib.hid hB
  have Ha := Lib.hid ha
  have Hb := Lib.hid hb
  have HFh := Lib.hid HF
  have Eg := Lib.hid eg
  have hr1 : (rowP a y).length ≤ 100000 := by omega
  have hr2 : (rowP b y).length ≤ 100000 := by omega
  have HRa := Lib.hid (fun W (hW : Below w.heap.size w W) => row_any A n c a y W (HA.out.below hW) hn Ha.out)
  have HRb := Lib.hid (fun W (hW : Below w.heap.size w W) => row_any B m d b y W (HB.out.below hW) hm Hb.out)
  generalize rowP a y = ra at *
  generalize rowP b y = rb at *
  have c0 := hg.c0
  have c1 := hg.c1
  have c2 := hg.c2
  clear hg hA hB ha hb HF eg hra hrb
  go_enter Tryz.func138, Tryz.ntmps138
  go_upto_region 1 with fail
  go_region_held3 (fun w' => w'.cell? ⟨g, 0, none⟩ = some (.slice A n c) ∧ w'.cell? ⟨g + 1, 0, none⟩ = some (.slice B m d) ∧ w'.cell? ⟨g + 1 + 1, 0, none⟩ = some (.func (.func f) #[] lb))
    (first | go_keep | ((repeat' apply And.intro) <;> go_keep))
    (first
      | (go_at_call_of 140 (Value.slice A n c)
         refine (HRa.out _ gBel).mono ?_
         rintro e w1 ⟨v1, rfl, hown1, hb1⟩
         have HS1 := Lib.hid (SlS.of_own hown1)
         obtain ⟨V1, k1, rfl, _, _, _⟩ := own_slice hown1
         have Hb1 : Hid (Below w.heap.size w w1) := Lib.hid (show Below w.heap.size w w1 from (by have hbq := hb1; exact gBelo))
         have Hg1 := Lib.hid (Hg.out.below Hb1.out)
         have c01 := Hg1.out.c0
         have c11 := Hg1.out.c1
         have c21 := Hg1.out.c2
         clear hown1 hb1)
      | (go_at_call_of 140 (Value.slice B m d)
         refine (HRb.out _ (Hb1.out.trans (Below.mono gBel Hb1.out.size))).mono ?_
         rintro e w2 ⟨v2, rfl, hown2, hb2⟩
         have HS2 := Lib.hid (SlS.of_own hown2)
         obtain ⟨V2, k2, rfl, _, _, _⟩ := own_slice hown2
         have Hb2 : Hid (Below w1.heap.size w1 w2) := Lib.hid (show Below w1.heap.size w1 w2 from (by have hbq := hb2; exact gBelo))
         have Hg2 := Lib.hid (Hg1.out.below Hb2.out)
         have c02 := Hg2.out.c0
         have c12 := Hg2.out.c1
         have c22 := Hg2.out.c2
         clear hown2 hb2)
      | (go_at_call 139
         refine (merge_any f lb how _ _ ra rb _ ((HS1.out.below Hb2.out).below (Below.mono gBel (Nat.le_refl _))) (HS2.out.below gBel) hr1 hr2 Eg.out (fun W x y hW => HFh.out W x y (Hb1.out.trans ((Hb2.out.trans ((Below.trans (show Below w2.heap.size w2 _ from gBel) (hW.mono (by first | exact Nat.le_refl _ | (simp; done)))).mono Hb2.out.size)).mono Hb1.out.size)))).mono ?_
         rintro e w3 ⟨v3, rfl, hown3, hb3⟩
         have Hown3 := Lib.hid hown3
         have Hb3 : Hid (Below w2.heap.size w2 w3) := Lib.hid (show Below w2.heap.size w2 w3 from (by have hbq := hb3; exact gBelo))
         have Hg3 := Lib.hid (Hg2.out.below Hb3.out)
         have c03 := Hg3.out.c0
         have c13 := Hg3.out.c1
         have c23 := Hg3.out.c2
         clear hown3 hb3)
      | fail)
  all_goals go_wp2
  all_goals go_ret
  all_goals exact ⟨v3, rfl, own_rebase Hown3.out (Nat.le_trans Hb1.out.size Hb2.out.size), Hb1.out.trans ((Hb2.out.trans (Hb3.out.mono Hb2.out.size)).mono Hb1.out.size)⟩
theorem choose_any (A B : Option Addr) (n c m d f : Nat) (lb : Array Value) (how : Bool → Bool → Bool) (a b : List R4) (w : World) (hA : SlR w A n c a) (hB : SlR w B m d b) (hn : n ≤ 750) (hm : m ≤ 750) (ha : ∀ q ∈ a, q.l < q.r) (hb : ∀ q ∈ b, q.l < q.r)
    (eg : ∀ args w, (callFunc f args).run Tryz.prog w = .ok (.enter f args) w) (HF : BoolFn f lb how w) :
    Calls Tryz.prog 54 #[.slice A n c, .slice B m d, .func (.func f) #[] lb] w fun e w' => ∃ v, e = .returned v ∧ w'.ownsRow w.heap.size 68 4 v (chooseP how a b).length (rCells (chooseP how a b)) ∧ Below w.heap.size w w' := by
  have hna := hA.len
  have hnb := hB.len
  have HA := Lib.hid hA
  have HB := Lib.hid hB
  have Ha := Lib.hid ha
  have Hb := Lib.hid hb
  have HFh := Lib.hid HF
  have Eg := Lib.hid eg
  have Hcl : Hid ((cutsP (a ++ b)).length ≤ 2 * (n + m)) := Lib.hid (by have h1 := (asc_all (yEdges (a ++ b))).2.2; rw [yEdges_len, List.length_append] at h1; unfold cutsP; omega)
  have Hflat : Hid (cutsP [a, b].flatten = cutsP (a ++ b)) := Lib.hid (by simp)
  have Hch : Hid (buildP (fun y => mergeP how (rowP a y) (rowP b y)) (cutsP (a ++ b)) = chooseP how a b) := Lib.hid rfl
  have Hrl : Hid (∀ y, (mergeP how (rowP a y) (rowP b y)).length ≤ 2 * (n + m)) := Lib.hid (fun y => by have h1 := merge_len2 how (rowP a y) (rowP b y); have h2 := rowP_len a y; have h3 := rowP_len b y; omega)
  have eg1 : ∀ args w, (callFunc 138 args).run Tryz.prog w = .ok (.enter 138 args) w := enters_of Tryz.func138 (by kernel_rfl) rfl
  have Eg1 := Lib.hid eg1
  clear hA hB ha hb HF eg eg1
  go_enter Tryz.func54, Tryz.ntmps54
  go_upto_region 1 with fail
  obtain ⟨w1, hw1⟩ : ∃ w1 : World, w1 = ((w.alloc (.cells #[.slice A n c] 31)).alloc (.cells #[.slice B m d] 31)).alloc (.cells #[.func (.func f) #[] lb] 105) := ⟨_, rfl⟩
  rw [← hw1]
  have hg1 : ChB w1 w.heap.size A n c B m d f lb := by
    subst hw1
    refine ⟨by simp, ?_, ?_, ?_⟩
    · exact cell_of_row _ w.heap.size 0 _ _ _ ((Below.heap_alloc _ _ _ (by simp; omega)).trans ((Below.heap_alloc _ _ _ (by simp)).trans (heap_alloc_new w _)))
    · exact cell_of_row _ (w.heap.size + 1) 0 _ _ _ ((Below.heap_alloc _ _ _ (by simp)).trans (heap_alloc2_new w _ _))
    · have h3 := heap_alloc_new ((w.alloc (.cells #[.slice A n c] 31)).alloc (.cells #[.slice B m d] 31)) (.cells #[.func (.func f) #[] lb] 105)
      have h4 : (((w.alloc (.cells #[.slice A n c] 31)).alloc (.cells #[.slice B m d] 31)).alloc (.cells #[.func (.func f) #[] lb] 105)).heap[w.heap.size + 1 + 1]? = some (.cells #[.func (.func f) #[] lb] 105 (0, 0)) := by simpa using h3
      exact cell_of_row _ (w.heap.size + 1 + 1) 0 _ _ _ h4
  have c0 := hg1.c0
  have c1 := hg1.c1
  have c2 := hg1.c2
  have Hg1 := Lib.hid hg1
  have Hw1 : Hid (Below w.heap.size w w1) := Lib.hid (by rw [hw1]; exact gBel)
  have hs1 := Hw1.out.size
  clear hw1 hg1
  go_wp2_with (first
    | (go_at_call 137
       refine (cuts_any (some ⟨w1.heap.size, 0, none⟩) 2 2 [a, b] _ rfl (by omega) (fun i hi => by
         rcases (show i = 0 ∨ i = 1 by simp at hi; omega) with rfl | rfl
         · exact ⟨w1.heap.size, 0, A, n, c, rfl, by simp, cell_of_row _ w1.heap.size 0 _ _ _ (heap_alloc_new w1 _), HA.out.below (Hw1.out.trans (Below.mono gBel hs1))⟩
         · exact ⟨w1.heap.size, 0, B, m, d, rfl, by simp, cell_of_row _ w1.heap.size 1 _ _ _ (heap_alloc_new w1 _), HB.out.below (Hw1.out.trans (Below.mono gBel hs1))⟩) (by simp; omega)).mono ?_
       rintro e w2 ⟨v2, rfl, hown2, hb2⟩
       rw [Hflat.out] at hown2
       obtain ⟨C, cc, rfl, hC⟩ := SlI.of_own hown2
       have HC := Lib.hid hC
       have Hb2 : Hid (Below w1.heap.size w1 w2) := Lib.hid (show Below w1.heap.size w1 w2 from (by have hbq := hb2; exact gBelo))
       have hs2 := Hb2.out.size
       have Hg2 := Lib.hid (Hg1.out.below Hb2.out)
       clear hown2 hb2 hC)
    | (go_at_call 136
       refine (build_any 138 #[.pointer (some ⟨w.heap.size, 0, none⟩), .pointer (some ⟨w.heap.size + 1, 0, none⟩), .pointer (some ⟨w.heap.size + 1 + 1, 0, none⟩)] (fun y => mergeP how (rowP a y) (rowP b y)) (2 * (n + m)) C (cutsP (a ++ b)).length cc (cutsP (a ++ b)) w2 HC.out (by have := Hcl.out; omega) Hrl.out (by omega) (by have h1 := Nat.mul_le_mul_right (2 * (n + m)) Hcl.out; have h2 : (2 * (n + m)) * (2 * (n + m)) ≤ 3000 * 3000 := Nat.mul_le_mul (by omega) (by omega); omega) Eg1.out (fun W y hW => chooseRow_any w.heap.size A B n c m d f lb how a b y W (Hg2.out.below hW) (HA.out.below (Hw1.out.trans ((Hb2.out.trans (hW.mono hs2)).mono hs1))) (HB.out.below (Hw1.out.trans ((Hb2.out.trans (hW.mono hs2)).mono hs1))) (by omega) (by omega) Ha.out Hb.out Eg.out (HFh.out.below (Hw1.out.trans ((Hb2.out.trans (hW.mono hs2)).mono hs1))))).mono ?_
       rintro e w3 ⟨v3, rfl, hown3, hb3⟩
       rw [Hch.out] at hown3
       have Hown3 := Lib.hid hown3
       have Hb3 := Lib.hid hb3
       clear hown3 hb3)
    | fail)
  go_ret
  exact ⟨v3, rfl, own_rebase Hown3.out (Nat.le_trans hs1 hs2), Hw1.out.trans ((Hb2.out.trans (Hb3.out.mono hs2)).mono hs1)⟩
end Go.Proofs.YtfmkmhhghmdakaaGreatDoor
namespace Go.Proofs.YtfmkmhhghmdakaaGreatDoor
set_option maxHeartbeats 64000000
set_option maxRecDepth 100000
open Go.RowKit
set_option linter.unusedVariables false
set_option linter.unusedSimpArgs false
structure Bx3 (w W : World) (A : Option Addr) (n c : Nat) (B : Option Addr) (m d : Nat) : Prop where
  low : Below w.heap.size w W
  size : w.heap.size + 1 + 1 < W.heap.size
  b0 : W.heap[w.heap.size]? = some (.cells #[.slice A n c] 33 (0, 0))
  b1 : W.heap[w.heap.size + 1]? = some (.cells #[.slice B m d] 33 (0, 0))
  b2 : W.heap[w.heap.size + 1 + 1]? = some (.cells #[.slice none 0 0] 33 (0, 0))
theorem Bx3.make (w : World) (A : Option Addr) (n c : Nat) (B : Option Addr) (m d : Nat) : Bx3 w (((w.alloc (.cells #[.slice A n c] 33)).alloc (.cells #[.slice B m d] 33)).alloc (.cells #[.slice none 0 0] 33)) A n c B m d := by
  refine ⟨gBel, by simp, (Below.heap_alloc _ _ _ (by simp; omega)).trans ((Below.heap_alloc _ _ _ (by simp)).trans (heap_alloc_new w _)), (Below.heap_alloc _ _ _ (by simp)).trans (heap_alloc2_new w _ _), ?_⟩
  have h3 := heap_alloc_new ((w.alloc (.cells #[.slice A n c] 33)).alloc (.cells #[.slice B m d] 33)) (.cells #[.slice none 0 0] 33)
  simpa using h3
theorem Bx3.below {w W W' : World} {A : Option Addr} {n c : Nat} {B : Option Addr} {m d : Nat} (h : Bx3 w W A n c B m d) (hb : Below W.heap.size W W') : Bx3 w W' A n c B m d :=
  have hs := h.size
  ⟨h.low.trans (hb.mono h.low.size), Nat.lt_of_lt_of_le h.size hb.size, (hb.block _ (by omega)).trans h.b0, (hb.block _ (by omega)).trans h.b1, (hb.block _ (by omega)).trans h.b2⟩
section
variable {w W : World} {A : Option Addr} {n c : Nat} {B : Option Addr} {m d : Nat} (h : Bx3 w W A n c B m d)
include h
theorem Bx3.c0 : W.cell? ⟨w.heap.size, 0, none⟩ = some (.slice A n c) := cell_of_row _ _ 0 _ _ _ h.b0
theorem Bx3.c1 : W.cell? ⟨w.heap.size + 1, 0, none⟩ = some (.slice B m d) := cell_of_row _ _ 0 _ _ _ h.b1
theorem Bx3.c2 : W.cell? ⟨w.heap.size + 1 + 1, 0, none⟩ = some (.slice none 0 0) := cell_of_row _ _ 0 _ _ _ h.b2
theorem Bx3.f2 : W.frozen? ⟨w.heap.size + 1 + 1, 0, none⟩ = false := frozen_of_row _ _ 0 _ _ h.b2
theorem Bx3.put (v : Value) : (W.setCell ⟨w.heap.size + 1 + 1, 0, none⟩ v).cell? ⟨w.heap.size + 1 + 1, 0, none⟩ = some v := by
  rw [cell_of_row _ (w.heap.size + 1 + 1) 0 _ _ _ (heap_setCell_same W (w.heap.size + 1 + 1) 0 _ _ v h.b2)]
  rfl
end
theorem combine_any (A B : Option Addr) (n c m d f : Nat) (lb : Array Value) (how : Bool → Bool → Bool) (a b : List R4) (w : World) (hA : SlR w A n c a) (hB : SlR w B m d b)
    (eg : ∀ args w, (callFunc f args).run Tryz.prog w = .ok (.enter f args) w) (HF : BoolFn f lb how w) :
    Calls Tryz.prog 87 #[.agg #[.slice A n c], .agg #[.slice B m d], .func (.func f) #[] lb] w (RegPost w (combineP how a b)) := by
  have hna := hA.len
  have hnb := hB.len
  have HA := Lib.hid hA
  have HB := Lib.hid hB
  have HFh := Lib.hid HF
  have Eg := Lib.hid eg
  have HVa := Lib.hid (fun W (hW : Below w.heap.size w W) => valid_any A n c a W (HA.out.below hW))
  have HVb := Lib.hid (fun W (hW : Below w.heap.size w W) => valid_any B m d b W (HB.out.below hW))
  have Hx : Hid (combineP how a b = if validP a && validP b then (if 120 < (chooseP how a b).length then ([], 1) else (chooseP how a b, 0)) else ([], 7)) := Lib.hid rfl
  have Hva : Hid (validP a = true → (n ≤ 750 ∧ ∀ q ∈ a, q.l < q.r)) := Lib.hid (fun h => by
    unfold validP at h
    simp only [Bool.and_eq_true, decide_eq_true_eq] at h
    exact ⟨by omega, ok_pos h.1.2⟩)
  have Hvb : Hid (validP b = true → (m ≤ 750 ∧ ∀ q ∈ b, q.l < q.r)) := Lib.hid (fun h => by
    unfold validP at h
    simp only [Bool.and_eq_true, decide_eq_true_eq] at h
    exact ⟨by omega, ok_pos h.1.2⟩)
  generalize combineP how a b = res at *
  clear hA hB HF eg
  obtain ⟨va, hva⟩ : ∃ va, validP a = va := ⟨_, rfl⟩
  obtain ⟨vb, hvb⟩ : ∃ vb, validP b = vb := ⟨_, rfl⟩
  rw [hva] at HVa Hx Hva
  rw [hvb] at HVb Hx Hvb
  clear hva hvb
  cases va with
  | false =>
    have e0 : res = ([], 7) := by rw [Hx.out]; rfl
    subst e0
    go_enter Tryz.func87, Tryz.ntmps87
    go_upto_region 1 with fail
    obtain ⟨w1, hw1⟩ : ∃ w1 : World, w1 = ((w.alloc (.cells #[.slice A n c] 33)).alloc (.cells #[.slice B m d] 33)).alloc (.cells #[.slice none 0 0] 33) := ⟨_, rfl⟩
    rw [← hw1]
    have Hb1 : Hid (Bx3 w w1 A n c B m d) := Lib.hid (by rw [hw1]; exact Bx3.make w A n c B m d)
    clear hw1
    have c0 := Hb1.out.c0
    have c1 := Hb1.out.c1
    go_wp2_with (first
      | (go_at_call 48
         refine (HVa.out _ Hb1.out.low).mono ?_
         rintro e w2 ⟨rfl, hb2⟩
         have Hb2 := Lib.hid (Hb1.out.below hb2)
         have c02 := Hb2.out.c0
         have c12 := Hb2.out.c1
         have c22 := Hb2.out.c2
         have f22 := Hb2.out.f2
         have csame := Hb2.out.put (.slice none 0 0)
         clear hb2)
      | fail)
    refine bodyPost_ret (v := .tuple #[.agg #[.slice none 0 0], .int .i64 7]) (by simp [results, Tryz.results87, go_sem, *]) rfl ?_
    exact ⟨_, rfl, World.ownsRow_nil _ _ _ _, Hb2.out.low.setCell (by show w.heap.size ≤ w.heap.size + 1 + 1; omega) _⟩
  | true =>
    obtain ⟨hn7, ha⟩ := Hva.out rfl
    have Ha := Lib.hid ha
    clear ha Hva
    cases vb with
    | false =>
      have e0 : res = ([], 7) := by rw [Hx.out]; rfl
      subst e0
      go_enter Tryz.func87, Tryz.ntmps87
      go_upto_region 1 with fail
      obtain ⟨w1, hw1⟩ : ∃ w1 : World, w1 = ((w.alloc (.cells #[.slice A n c] 33)).alloc (.cells #[.slice B m d] 33)).alloc (.cells #[.slice none 0 0] 33) := ⟨_, rfl⟩
      rw [← hw1]
      have Hb1 : Hid (Bx3 w w1 A n c B m d) := Lib.hid (by rw [hw1]; exact Bx3.make w A n c B m d)
      clear hw1
      have c0 := Hb1.out.c0
      have c1 := Hb1.out.c1
      go_wp2_with (first
        | (go_at_call_of 48 (Value.slice A n c)
           refine (HVa.out _ Hb1.out.low).mono ?_
           rintro e w2 ⟨rfl, hb2⟩
           have Hb2 := Lib.hid (Hb1.out.below hb2)
           have c02 := Hb2.out.c0
           have c12 := Hb2.out.c1
           clear hb2)
        | (go_at_call_of 48 (Value.slice B m d)
           refine (HVb.out _ Hb2.out.low).mono ?_
           rintro e w3 ⟨rfl, hb3⟩
           have Hb3 := Lib.hid (Hb2.out.below hb3)
           have c03 := Hb3.out.c0
           have c13 := Hb3.out.c1
           have c23 := Hb3.out.c2
           have f23 := Hb3.out.f2
           have csame := Hb3.out.put (.slice none 0 0)
           clear hb3)
        | fail)
      refine bodyPost_ret (v := .tuple #[.agg #[.slice none 0 0], .int .i64 7]) (by simp [results, Tryz.results87, go_sem, *]) rfl ?_
      exact ⟨_, rfl, World.ownsRow_nil _ _ _ _, Hb3.out.low.setCell (by show w.heap.size ≤ w.heap.size + 1 + 1; omega) _⟩
    | true =>
      obtain ⟨hm7, hb⟩ := Hvb.out rfl
      have Hbp := Lib.hid hb
      clear hb Hvb
      have HC := Lib.hid (fun W (hW : Below w.heap.size w W) => choose_any A B n c m d f lb how a b W (HA.out.below hW) (HB.out.below hW) hn7 hm7 Ha.out Hbp.out Eg.out (HFh.out.below hW))
      have Hx2 : Hid (res = if 120 < (chooseP how a b).length then ([], 1) else (chooseP how a b, 0)) := Lib.hid (by rw [Hx.out]; rfl)
      clear Hx
      generalize chooseP how a b = cl at *
      by_cases hbg : 120 < cl.length
      · have e0 : res = ([], 1) := by rw [Hx2.out, if_pos hbg]
        subst e0
        go_enter Tryz.func87, Tryz.ntmps87
        go_upto_region 1 with fail
        obtain ⟨w1, hw1⟩ : ∃ w1 : World, w1 = ((w.alloc (.cells #[.slice A n c] 33)).alloc (.cells #[.slice B m d] 33)).alloc (.cells #[.slice none 0 0] 33) := ⟨_, rfl⟩
        rw [← hw1]
        have Hb1 : Hid (Bx3 w w1 A n c B m d) := Lib.hid (by rw [hw1]; exact Bx3.make w A n c B m d)
        clear hw1
        have c0 := Hb1.out.c0
        have c1 := Hb1.out.c1
        go_wp2_with (first
          | (go_at_call_of 48 (Value.slice A n c)
             refine (HVa.out _ Hb1.out.low).mono ?_
             rintro e w2 ⟨rfl, hb2⟩
             have Hb2 := Lib.hid (Hb1.out.below hb2)
             have c02 := Hb2.out.c0
             have c12 := Hb2.out.c1
             clear hb2)
          | (go_at_call_of 48 (Value.slice B m d)
             refine (HVb.out _ Hb2.out.low).mono ?_
             rintro e w3 ⟨rfl, hb3⟩
             have Hb3 := Lib.hid (Hb2.out.below hb3)
             have c03 := Hb3.out.c0
             have c13 := Hb3.out.c1
             clear hb3)
          | (go_at_call 54
             refine (HC.out _ Hb3.out.low).mono ?_
             rintro e w4 ⟨v4, rfl, hown4, hb4⟩
             obtain ⟨D, dc, rfl, _⟩ := SlR.of_own hown4
             have Hb4 := Lib.hid (Hb3.out.below hb4)
             clear hown4 hb4)
          | (go_at_call 56
             refine (limited_big D cl.length dc _ hbg).mono ?_
             rintro e w5 ⟨rfl, hb5⟩
             have Hb5 := Lib.hid (Hb4.out.below hb5)
             have c25 := Hb5.out.c2
             have f25 := Hb5.out.f2
             have csame := Hb5.out.put (.slice none 0 0)
             clear hb5)
          | fail)
        refine bodyPost_ret (v := .tuple #[.agg #[.slice none 0 0], .int .i64 1]) (by simp [results, Tryz.results87, go_sem, *]) rfl ?_
        exact ⟨_, rfl, World.ownsRow_nil _ _ _ _, Hb5.out.low.setCell (by show w.heap.size ≤ w.heap.size + 1 + 1; omega) _⟩
      · have hbg' : cl.length ≤ 120 := by omega
        have e0 : res = (cl, 0) := by rw [Hx2.out, if_neg hbg]
        subst e0
        go_enter Tryz.func87, Tryz.ntmps87
        go_upto_region 1 with fail
        obtain ⟨w1, hw1⟩ : ∃ w1 : World, w1 = ((w.alloc (.cells #[.slice A n c] 33)).alloc (.cells #[.slice B m d] 33)).alloc (.cells #[.slice none 0 0] 33) := ⟨_, rfl⟩
        rw [← hw1]
        have Hb1 : Hid (Bx3 w w1 A n c B m d) := Lib.hid (by rw [hw1]; exact Bx3.make w A n c B m d)
        clear hw1
        have c0 := Hb1.out.c0
        have c1 := Hb1.out.c1
        go_wp2_with (first
          | (go_at_call_of 48 (Value.slice A n c)
             refine (HVa.out _ Hb1.out.low).mono ?_
             rintro e w2 ⟨rfl, hb2⟩
             have Hb2 := Lib.hid (Hb1.out.below hb2)
             have c02 := Hb2.out.c0
             have c12 := Hb2.out.c1
             clear hb2)
          | (go_at_call_of 48 (Value.slice B m d)
             refine (HVb.out _ Hb2.out.low).mono ?_
             rintro e w3 ⟨rfl, hb3⟩
             have Hb3 := Lib.hid (Hb2.out.below hb3)
             have c03 := Hb3.out.c0
             have c13 := Hb3.out.c1
             clear hb3)
          | (go_at_call 54
             refine (HC.out _ Hb3.out.low).mono ?_
             rintro e w4 ⟨v4, rfl, hown4, hb4⟩
             obtain ⟨D, dc, rfl, _⟩ := SlR.of_own hown4
             have Hown4 := Lib.hid hown4
             have Hb4 := Lib.hid (Hb3.out.below hb4)
             clear hown4 hb4)
          | (go_at_call 56
             refine (limited_ok D cl.length dc _ hbg').mono ?_
             rintro e w5 ⟨rfl, hb5⟩
             have Hb5 := Lib.hid (Hb4.out.below hb5)
             have Hown5 := Lib.hid (ownsRow_below Hown4.out hb5)
             have c25 := Hb5.out.c2
             have f25 := Hb5.out.f2
             have csame := Hb5.out.put (.slice D cl.length dc)
             clear hb5)
          | fail)
        refine bodyPost_ret (v := .tuple #[.agg #[.slice D cl.length dc], .int .i64 0]) (by simp [results, Tryz.results87, go_sem, *]) rfl ?_
        exact ⟨_, rfl, own_rebase (ownsRow_setCell_below Hown5.out (a := ⟨w.heap.size + 1 + 1, 0, none⟩) Hb3.out.size _) (Nat.le_trans Hb3.out.low.size (Nat.le_refl _)), Hb5.out.low.setCell (by show w.heap.size ≤ w.heap.size + 1 + 1; omega) _⟩
theorem andB_fn (w : World) : BoolFn 88 #[] andB w := by
  intro W x y _
  show Calls Tryz.prog 88 #[.bool x, .bool y] W _
  cases x <;> cases y
  all_goals go_enter Tryz.func88, Tryz.ntmps88
  all_goals go_wp2
  all_goals go_ret
  all_goals exact ⟨rfl, gBel⟩
theorem both_any (A B : Option Addr) (n c m d : Nat) (a b : List R4) (w : World) (hA : SlR w A n c a) (hB : SlR w B m d b) :
    Calls Tryz.prog 25 #[.agg #[.slice A n c], .agg #[.slice B m d]] w (RegPost w (combineP andB a b)) := by
  have HA := Lib.hid hA
  have HB := Lib.hid hB
  have eg : ∀ args w, (callFunc 88 args).run Tryz.prog w = .ok (.enter 88 args) w := enters_of Tryz.func88 (by kernel_rfl) rfl
  have HC := Lib.hid (fun W (hW : Below w.heap.size w W) => combine_any A B n c m d 88 #[] andB a b W (HA.out.below hW) (HB.out.below hW) eg (andB_fn W))
  generalize combineP andB a b = res at *
  obtain ⟨cl, er⟩ := res
  clear hA hB eg
  go_enter Tryz.func25, Tryz.ntmps25
  go_upto_region 1 with fail
  obtain ⟨w1, hw1⟩ : ∃ w1 : World, w1 = ((w.alloc (.cells #[.slice A n c] 33)).alloc (.cells #[.slice B m d] 33)).alloc (.cells #[.slice none 0 0] 33) := ⟨_, rfl⟩
  rw [← hw1]
  have Hb1 : Hid (Bx3 w w1 A n c B m d) := Lib.hid (by rw [hw1]; exact Bx3.make w A n c B m d)
  clear hw1
  have c0 := Hb1.out.c0
  have c1 := Hb1.out.c1
  go_wp2_with (first
    | (go_at_call 87
       refine (HC.out _ Hb1.out.low).mono ?_
       rintro e w2 ⟨v2, rfl, hown2, hb2⟩
       obtain ⟨D, dc, rfl, _⟩ := SlR.of_own hown2
       have Hb2 := Lib.hid (Hb1.out.below hb2)
       have Hown2 := Lib.hid hown2
       have c22 := Hb2.out.c2
       have f22 := Hb2.out.f2
       have csame := Hb2.out.put (.slice D cl.length dc)
       clear hown2 hb2)
    | fail)
  refine bodyPost_ret (v := .tuple #[.agg #[.slice D cl.length dc], .int .i64 er]) (by simp [results, Tryz.results25, go_sem, *]) rfl ?_
  exact ⟨_, rfl, own_rebase (ownsRow_setCell_below Hown2.out (a := ⟨w.heap.size + 1 + 1, 0, none⟩) Hb1.out.size _) Hb1.out.low.size, Hb2.out.low.setCell (by show w.heap.size ≤ w.heap.size + 1 + 1; omega) _⟩
end Go.Proofs.YtfmkmhhghmdakaaGreatDoor
