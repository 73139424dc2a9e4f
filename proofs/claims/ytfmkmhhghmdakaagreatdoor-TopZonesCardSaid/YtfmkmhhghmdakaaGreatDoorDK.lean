/- Words for the walk of TopZones: rows of features and regions as slices, bits, lengths. -/
import Derived.RangeFuncNested
import Derived.Maps.OwnIn
import Derived.Maps.Views
import Derived.Lib.SlKeysI
import Derived.WideKeyEntry
import Derived.RangeFuncBound
import Derived.RangeFuncCalls
import Derived.RangeFuncLeaves
import Derived.Shelf.Abstract
import Derived.Shelf.RegionOpen
import Derived.OwnWalkIn
import Derived.TacticsInMore
import Derived.LoopNIn
import Derived.LoopIn
import Derived.Sort.CutIn
import Derived.Deep.OwnRows
import Derived.Maps.Range
import Derived.Test.YtfmkmhhghmdakaaGreatDoorDA
import Derived.Test.YtfmkmhhghmdakaaGreatDoorDC
import Derived.Test.YtfmkmhhghmdakaaGreatDoorDH
import Derived.Test.YtfmkmhhghmdakaaGreatDoorDI
import Derived.Test.YtfmkmhhghmdakaaGreatDoorDJ
namespace Go.Proofs.YtfmkmhhghmdakaaGreatDoor
open Go.RowKit Go.Maps
set_option linter.unusedVariables false

/-- A value, read as it stands. -/
def VR (v : Value) : Option (DataW Value × List MemPlace) := some (.held v, [])

section
variable {P : Program} {w : World} {k t E : TypeId} {b n : Nat} {D : DataW Value}
theorem held_look (h : w.ownsMap P k VR b n D) (K : Keyed P k) (ht : P.underlying t = some (.map k E)) {z : Value} (hz : (zeroValue E).run P w = .ok z w) {key : Value} {kl : Lit} (hkey : keyOf P k key = some kl) {v : Value} (hat : D.atKey kl (.held z) = .held v) :
    (Instr.lookup t (.map (some b)) key false).run P w = .ok v w := by
  obtain ⟨u, ps, hrun, hu⟩ := h.lookup K ht hz (zd := .held z) (zp := []) rfl hkey
  rw [hat] at hu
  simp only [VR, Option.some.injEq, Prod.mk.injEq, DataW.held.injEq] at hu
  rw [hrun, hu.1]
end

theorem wpListIn_lookup_held {F : Fence} {nF : Nat} {P : Program} (w : World) {ops : Array Oper} {rest : List Oper} {o : Oper} {a : Act} {Q : Exit → Act → World → Prop}
    (hg : o.guard = none) (m x : Operand) (t : TypeId) (hop : o.op = Op.lookup t m x false)
    (k E : TypeId) (K : Keyed P k) (ht : P.underlying t = some (.map k E)) (z : Value) (hz : (zeroValue E).run P w = .ok z w) (b n : Nat) (D : DataW Value)
    (hm : a.eval m = .map (some b)) (hown : w.ownsMap P k VR b n D) (key : Value) (kl : Lit) (hx : a.eval x = key) (hkey : keyOf P k key = some kl) (v : Value) (hat : D.atKey kl (.held z) = .held v)
    (hK : wpListIn F nF P ops Q rest (a.put o.dst v) w) : wpListIn F nF P ops Q (o :: rest) a w := by
  refine wpListIn_plain hg fun K' hK' => ?_
  have hrun := held_look hown K ht hz hkey hat
  unfold Oper.wpIn
  refine ⟨by simp [Oper.about, hop], ?_⟩
  rw [Oper.semAt_plain F _ _ (by rw [hop]; intro c hc'; cases hc')]
  simp [execOp, hop, hm, hx, hrun, Result.andThen]
  exact hK' _ _ hK
theorem wpListIn_append_any {F : Fence} {nF : Nat} {P : Program} (w : World) {ops : Array Oper} {rest : List Oper} {o : Oper} {a : Act} {Q : Exit → Act → World → Prop} (hgd : o.guard = none) (s x : Operand) (t : TypeId)
    (ho : o.op = .call { callee := .builtin .append, args := #[s, x], argTypes := #[t, t] })
    (base : Nat) (e : TypeId) (i : TypeInfo) (z : Value) (size bytes : Nat) (ht : P.underlying t = some (.slice e)) (hi : P.info? e = some i) (hz : i.zero = some z)
    (hsize : i.size = size) (hby : i.bytes = bytes) (hzs : z.cells.size = size) (hsz : 0 < size)
    (v : Value) (n : Nat) (xs : List Value) (hs : a.eval s = v) (hown : w.ownsRow base e size v n xs)
    (B : Nat) (A : Option Addr) (m c : Nat) (news : List Value) (hx : a.eval x = .slice A m c) (hr : Reads w B size A m news) (h1 : ∀ u ∈ news, u.oneCell' = true)
    (h63 : n + m ≤ maxLen) (hbytes : (n + m) * bytes ≤ 140737488355328) (hbase : base ≤ w.heap.size)
    (h : ∀ v' w', w'.ownsRow base e size v' (n + m) (xs ++ news) → w.grownBy w' v.ownBlock → (v'.ownBlock = v.ownBlock ∨ v'.ownBlock = some w.heap.size) → wpListIn F nF P ops Q rest (a.put o.dst v') w') : wpListIn F nF P ops Q (o :: rest) a w := by
  refine wpListIn_plain hgd fun K hK => ?_
  obtain ⟨v', w', hrun, h2, h3, h4⟩ := run_append_any (P := P) w base t o.type e i z size bytes ht hi hz hsize hby hzs hsz v n xs hown B A m c news hr h1 h63 hbytes hbase
  unfold Oper.wpIn
  refine ⟨by simp [Oper.about, ho, resolve, Target.leads, Sem.run_pure], ?_⟩
  rw [Oper.semAt_plain F _ _ (by rw [ho]; intro c hc'; cases hc')]
  simp [execOp, ho, resolve, invoke, builtin, hs, hx, hrun, Result.andThen]
  exact hK _ _ (h v' w' h2 h3 h4)

theorem Below.grown_none {w w' : World} (h : Below w.heap.size w w') : w.grownBy w' none := ⟨h.os, h.tape, h.output, h.size, fun k hk _ => h.block k hk⟩
/-- Whatever is a block of cells of another type than e stays. -/
structure CellsRest (e : TypeId) (W W' : World) : Prop where
  size : W.heap.size ≤ W'.heap.size
  same : ∀ (k : Nat) (cs : Array Value) (T : TypeId) (i : Nat × Nat), T ≠ e → W.heap[k]? = some (.cells cs T i) → W'.heap[k]? = some (.cells cs T i)
theorem CellsRest.refl (e : TypeId) (W : World) : CellsRest e W W := ⟨Nat.le_refl _, fun _ _ _ _ _ h => h⟩
theorem CellsRest.trans {e : TypeId} {A B C : World} (h : CellsRest e A B) (k : CellsRest e B C) : CellsRest e A C := ⟨Nat.le_trans h.size k.size, fun i cs T j hT hi => k.same i cs T j hT (h.same i cs T j hT hi)⟩
theorem CellsRest.alloc (e : TypeId) (W : World) (o : Obj) : CellsRest e W (W.alloc o) :=
  ⟨by simp, fun k cs T i _ h => (Below.heap_alloc W o k (Array.getElem?_eq_some_iff.1 h).1).trans h⟩
theorem CellsRest.below {e : TypeId} {W W' : World} (h : Below W.heap.size W W') : CellsRest e W W' := ⟨h.size, fun k cs T i _ hk => (h.block k (Array.getElem?_eq_some_iff.1 hk).1).trans hk⟩
theorem CellsRest.put (e : TypeId) (W : World) (l : Nat) (o o' : Obj) (h : W.heap[l]? = some o) (ho : o.isCells = false) : CellsRest e W (W.putObj l o') := by
  have hg := grownBy_putObj' W l o'
  refine ⟨hg.size, fun k cs T i _ hk => (hg.block k (Array.getElem?_eq_some_iff.1 hk).1 (fun e1 => ?_)).trans hk⟩
  cases e1
  rw [h] at hk
  cases hk
  cases ho
/-- What turns one block: a map, or a row of e's. -/
theorem CellsRest.grown {e : TypeId} {W W' : World} {row : Option Nat} (hg : W.grownBy W' row) (hr : ∀ g, row = some g → ∀ cs T i, W.heap[g]? = some (.cells cs T i) → T = e) : CellsRest e W W' :=
  ⟨hg.size, fun k cs T i hT hk => (hg.block k (Array.getElem?_eq_some_iff.1 hk).1 (fun e1 => hT (hr k e1.symm cs T i hk))).trans hk⟩
/-- What a round keeps for an iterator: all below n₀, and all cells but those of e's rows. -/
structure Keeps (n₀ : Nat) (e : TypeId) (W W' : World) : Prop where
  low : Below n₀ W W'
  but : CellsRest e W W'
theorem Keeps.t {n₀ : Nat} {e : TypeId} {A B C : World} (h : Keeps n₀ e A B) (k : Keeps n₀ e B C) : Keeps n₀ e A C := ⟨h.low.trans k.low, h.but.trans k.but⟩
theorem Keeps.b {n₀ : Nat} {e : TypeId} {w : World} (hn : n₀ ≤ w.heap.size) (W : World) (l : Nat) (o o' : Obj) (hl : w.heap.size ≤ l) (h : W.heap[l]? = some o) (hc : o.isCells = false) (hw : o.isWalk = false) : Keeps n₀ e W (W.putObj l o') :=
  ⟨belowK_b hn W l o o' hl h hc hw, CellsRest.put e W l o o' h hc⟩
end Go.Proofs.YtfmkmhhghmdakaaGreatDoor
namespace Go.Proofs.YtfmkmhhghmdakaaGreatDoor
open Go.RowKit Go.Shelf
set_option linter.unusedVariables false
set_option linter.unusedSimpArgs false

/-- A slice of slices of spans. -/
structure SlSS (w : World) (X : Option Addr) (n : Nat) (rows : List (List (Sg Unit))) : Prop where
  len : rows.length = n
  at' : ∀ i (h : i < rows.length), ∃ b off A c, X = some ⟨b, off, none⟩ ∧ b < w.heap.size ∧ w.cell? ⟨b, off + i, none⟩ = some (.slice A rows[i].length c) ∧ SlS w (.slice A rows[i].length c) rows[i]
def ssEdges (rows : List (List (Sg Unit))) : List Int := rows.flatMap fun r => r.flatMap fun s => [s.1, s.2.1]
theorem ssEdges_app (a b : List (List (Sg Unit))) : ssEdges (a ++ b) = ssEdges a ++ ssEdges b := by simp [ssEdges]
theorem ssEdges_one (r : List (Sg Unit)) : ssEdges [r] = sEdges r := by simp [ssEdges, sEdges]
theorem sEdges_snoc (l : List (Sg Unit)) (s : Sg Unit) : sEdges (l ++ [s]) = sEdges l ++ [s.1, s.2.1] := by simp [sEdges]
theorem sEdges_len' (l : List (Sg Unit)) : (sEdges l).length = 2 * l.length := by
  induction l with
  | nil => rfl
  | cons a t ih => simp [sEdges] at ih ⊢; omega
theorem ssEdges_len : ∀ (rows : List (List (Sg Unit))), (ssEdges rows).length = 2 * rows.flatten.length
  | [] => rfl
  | r :: t => by
    rw [show r :: t = [r] ++ t from rfl, ssEdges_app, ssEdges_one, List.length_append, sEdges_len', ssEdges_len t]
    simp
    omega
theorem SlS.at2 {w : World} {A : Option Addr} {c : Nat} {l : List (Sg Unit)} (h : SlS w (.slice A l.length c) l) (i : Nat) (hi : i < l.length) :
    ∃ b off, A = some ⟨b, off, none⟩ ∧ b < w.heap.size ∧ w.cell? ⟨b, off + i * 2, none⟩ = some (.int .i64 l[i].1) ∧ w.cell? ⟨b, off + i * 2 + 1, none⟩ = some (.int .i64 l[i].2.1) := by
  obtain ⟨A', c', e, h1, h2, h3⟩ := h
  injection e with e1 e2 e3
  subst e1
  rcases h3 with h3 | ⟨b, off, rfl, hb, hc⟩
  · omega
  · exact ⟨b, off, rfl, hb, hc _ _ (sCells_at l i hi).1, by rw [Nat.add_assoc]; exact hc _ _ (sCells_at l i hi).2⟩

set_option maxHeartbeats 8000000 in
set_option maxRecDepth 100000 in
theorem ends_any (X : Option Addr) (p pc : Nat) (rows : List (List (Sg Unit))) (w : World) (hX : SlSS w X p rows) (hpl : p ≤ 1000) (hs : rows.flatten.length ≤ 100000) :
    Calls Tryz.prog 179 #[.slice X p pc] w fun e w' => ∃ v, e = .returned v ∧ w'.ownsRow w.heap.size 3 1 v (endsP rows).length ((endsP rows).map (.int .i64)) ∧ Below w.heap.size w w' := by
  obtain ⟨i0, hi, hz0, hz1, hz2⟩ := info_parts Tryz.infoInt
  have HX := Lib.hid hX
  have Hs := Lib.hid hs
  have hp := hX.len
  clear hX hs
  go_enter Tryz.func179, Tryz.ntmps179
  go_upto_region 3 with fail
  go_loopw [3, 5, 10] (fun o _ i wr => ∃ j : Nat, j ≤ p ∧ i = .int .i64 (j : Int) ∧ wr.ownsRow w.heap.size 3 1 o (ssEdges (rows.take j)).length ((ssEdges (rows.take j)).map (.int .i64)) ∧ Below w.heap.size w wr) (fun _ _ i _ => p - (intOf i).toNat)
  case atStart => exact ⟨0, Nat.zero_le _, rfl, World.ownsRow_nil _ _ _ _, Below.refl _ _⟩
  case round =>
    obtain ⟨wo, rfl⟩ : ∃ wo : World, wo = wr := ⟨_, rfl⟩
    obtain ⟨j, hj, rfl, hown, hbo⟩ := hrel
    have hso := hbo.size
    have Hown := Lib.hid hown
    have Hbo := Lib.hid hbo
    clear hown
    by_cases hjp : j < p
    · have hjl : j < rows.length := by omega
      obtain ⟨b, off, A, c, rfl, hb, hc0, hA⟩ := HX.out.at' j hjl
      have c0 := (hbo.cell (p := ⟨b, off + j, none⟩) hb).trans hc0
      have Hnext : Hid (ssEdges (rows.take (j + 1)) = ssEdges (rows.take j) ++ sEdges rows[j]) := Lib.hid (by rw [List.take_succ_eq_append_getElem hjl, ssEdges_app, ssEdges_one])
      have hle : (ssEdges (rows.take j)).length + 2 * (rows[j]).length ≤ 200000 := by
        have h1 := Hs.out
        have h2 := congrArg List.length (congrArg ssEdges (List.take_append_drop (j + 1) rows))
        rw [ssEdges_app, List.length_append, Hnext.out, List.length_append, sEdges_len', ssEdges_len rows] at h2
        omega
      obtain ⟨n, hn⟩ : ∃ n, rows[j].length = n := ⟨_, rfl⟩
      have HA : Hid (SlS w (.slice A n c) rows[j]) := Lib.hid (by rw [← hn]; exact hA)
      rw [hn] at c0
      generalize ssEdges (rows.take j) = dn at *
      generalize rows[j] = l at *
      have hjp' : (j : Int) < (p : Int) := by omega
      have hbs : b < wo.heap.size := by omega
      have Hn := Lib.hid hn
      clear hbo hA hc0
      rw [hn] at hle
      clear hn
      go_upto_region 6 with fail
      go_loopw [3, 7, 16] (fun o _ i wr => ∃ k : Nat, k ≤ n ∧ i = .int .i64 (k : Int) ∧ wr.ownsRow w.heap.size 3 1 o (dn ++ sEdges (l.take k)).length ((dn ++ sEdges (l.take k)).map (.int .i64)) ∧ wo.heap.size ≤ wr.heap.size ∧ Below w.heap.size w wr) (fun _ _ i _ => n - (intOf i).toNat)
      case atStart => exact ⟨0, Nat.zero_le _, rfl, by simpa [sEdges] using Hown.out, Nat.le_refl _, Hbo.out⟩
      case round =>
        obtain ⟨k, hk, rfl, hown2, hwr, hbw⟩ := hrel
        have Hown2 := Lib.hid hown2
        have hsw := hbw.size
        clear hown2
        by_cases hkn : k < n
        · have hl : k < l.length := by have := Hn.out; omega
          obtain ⟨b2, o2, rfl, hb2, c1, c2⟩ := SlS.at2 (by have := HA.out.below hbw; rw [← Hn.out] at this; exact this) k hl
          have hlen : (dn ++ sEdges (l.take k)).length ≤ 400000 := by rw [List.length_append, sEdges_len', List.length_take]; omega
          have Hn2 : Hid (dn ++ sEdges (l.take (k + 1)) = (dn ++ sEdges (l.take k)) ++ [l[k].1, l[k].2.1]) := Lib.hid (by rw [List.take_succ_eq_append_getElem hl, sEdges_snoc, List.append_assoc])
          have hkn' : (k : Int) < (n : Int) := by omega
          generalize l[k] = q at *
          generalize dn ++ sEdges (l.take k) = d2 at *
          have Hbw := Lib.hid hbw
          clear hbw
          go_wp2_with (first
            | (at_builtin
               refine wpList_append_any _ rfl (.tmp 20) (.tmp 25) _ rfl w.heap.size 3 i0 _ 1 8 Tryz.underlying22 hi hz0 hz1 hz2 rfl (by omega) _ d2.length (d2.map (.int .i64)) rfl
                 ((Hown2.out.alloc _).alloc _) _ _ 2 2 [.int .i64 q.1, .int .i64 q.2.1] rfl ⟨rfl, fun _ => ⟨_, rfl, Nat.lt_succ_self _, fun j u hu => (by exact World.news_of_block (heap_alloc2_new wr _ (.cells #[.int .i64 q.1, .int .i64 q.2.1] 3)) j u hu)⟩⟩ (by simp [Value.oneCell']) (by simp only [maxLen]; omega) (by omega) (by simp; omega) ?_
               intro v5 w5 hown5 hg5 hat5)
            | fail)
          go_roundw
          case rel =>
            have hsz5 := hg5.size
            simp at hsz5
            refine ⟨k + 1, by omega, by go_num, ?_, by omega, ?_⟩
            · rw [Hn2.out, List.length_append, List.map_append]
              exact hown5
            · exact Below.grown (((Hbw.out.alloc hsw _).alloc (by simp; omega) _)) hg5 (by simp; omega) (own_base Hown2.out)
          case measure => simp [intOf]; omega
        · have e1 : l.take k = l := List.take_of_length_le (by have := Hn.out; omega)
          have Hown3 : Hid (wr.ownsRow w.heap.size 3 1 u3 (dn ++ sEdges l).length ((dn ++ sEdges l).map (.int .i64))) := Lib.hid (by have := Hown2.out; rw [e1] at this; exact this)
          have hkn' : ¬ (k : Int) < (n : Int) := by omega
          have Hbw := Lib.hid hbw
          clear e1 hbw
          go_wp2
          go_roundw
          case rel => exact ⟨j + 1, by omega, by go_num, by rw [Hnext.out]; exact Hown3.out, Hbw.out⟩
          case measure => simp [intOf]; omega
    · have hjp' : ¬ (j : Int) < (p : Int) := by omega
      have Hown3 : Hid (wo.ownsRow w.heap.size 3 1 u3 (ssEdges rows).length ((ssEdges rows).map (.int .i64))) := Lib.hid (by have := Hown.out; rw [List.take_of_length_le (by omega)] at this; exact this)
      have hel : (ssEdges rows).length ≤ 200000 := by have := Hs.out; rw [ssEdges_len]; omega
      have Hsr := Lib.hid (srt_len (ssEdges rows))
      have Hcut : Hid (endsP rows = Lib.compact (srt (ssEdges rows))) := Lib.hid rfl
      have hub := Lib.hid (own_base Hown3.out)
      clear hbo Hown
      generalize ssEdges rows = es at *
      go_wp2_with fail
      refine (sort_own _ Hown3.out (by omega)).mono ?_
      rintro e w1 ⟨rfl, hown1, hg1⟩
      have Hown1 : Hid (w1.ownsRow w.heap.size 3 1 u3 (srt es).length ((srt es).map (.int .i64))) := Lib.hid (by rw [Hsr.out]; exact hown1)
      have Hb1 : Hid (Below w.heap.size w w1) := Lib.hid (Hbo.out.grown hg1 hso hub.out)
      clear hown1 hg1
      go_wp2_with fail
      refine (compact_own _ Hown1.out).mono ?_
      rintro e w2 ⟨v2, rfl, hown2, hg2, hv2⟩
      have Hown2 := Lib.hid hown2
      have Hb2 : Hid (Below w.heap.size w w2) := Lib.hid (Hb1.out.grown hg2 Hb1.out.size hub.out)
      clear hown2 hg2 hv2
      go_wp2
      go_ret
      exact ⟨v2, rfl, by rw [Hcut.out]; exact Hown2.out, Hb2.out⟩

theorem shl_one (k : Nat) (hk : k ≤ 61) : wrap64 ((2 : Int) ^ k) = ((2 ^ k : Nat) : Int) := by
  have h1 : (2 : Nat) ^ k ≤ 2 ^ 61 := Nat.pow_le_pow_right (by omega) hk
  have h2 : ((2 ^ k : Nat) : Int) = (2 : Int) ^ k := by simp
  rw [← h2]
  generalize 2 ^ k = q at *
  unfold wrap64
  omega
theorem or_shl (m k : Nat) (hm : m < 2 ^ 62) (hk : k ≤ 61) : bits BinOp.or IntKind.i64 (m : Int) (wrap64 ((2 : Int) ^ k)) = ((m ||| true.toNat * 2 ^ k : Nat) : Int) := by
  have h1 : (2 : Nat) ^ k ≤ 2 ^ 61 := Nat.pow_le_pow_right (by omega) hk
  rw [shl_one k hk, or_i64n m (2 ^ k) hm (by omega)]
  simp
theorem withinPred (gx : Nat) (x : Int) (w : World) (hx : w.cell? ⟨gx, 0, none⟩ = some (.int .i64 x)) (hgx : gx < w.heap.size) :
    PredBelow Tryz.prog 251 #[.pointer (some ⟨gx, 0, none⟩)] (fun q : Sg Unit => .agg (encSp q).toArray) (fun q => inS q x) w := by
  intro W q hb
  refine Calls.mono (show Calls Tryz.prog 251 #[.agg #[.int .i64 q.1, .int .i64 q.2.1], .pointer (some ⟨gx, 0, none⟩)] W fun e w' => e = .returned (.bool (inS q x)) ∧ Below W.heap.size W w' from ?_) ?_
  · have cx := (hb.cell (p := ⟨gx, 0, none⟩) hgx).trans hx
    have hgx' : gx < W.heap.size := Nat.lt_of_lt_of_le hgx hb.size
    have Hh : Hid (inS q x = (decide (q.1 ≤ x) && decide (x < q.2.1))) := Lib.hid rfl
    generalize inS q x = res at *
    clear hx hb hgx
    by_cases h1 : q.1 ≤ x
    · by_cases h2 : x < q.2.1
      · have hR : res = true := by rw [Hh.out]; simp [h1, h2]
        subst hR
        go_enter Tryz.func251, Tryz.ntmps251
        go_wp2
        go_ret
        exact ⟨rfl, (by repeat' (first | with_reducible exact Below.refl _ _ | with_reducible refine below_drewN ?_ _ | with_reducible refine Below.drew ?_ | with_reducible refine Below.alloc ?_ ?_ _ | with_reducible refine Below.setCell ?_ ?_ _ | with_reducible refine Below.trans ?_ (Below.mono (by with_reducible assumption) ?_) | (simp; done) | (simp; omega) | omega))⟩
      · have hR : res = false := by rw [Hh.out]; simp [h2]
        subst hR
        go_enter Tryz.func251, Tryz.ntmps251
        go_wp2
        go_ret
        exact ⟨rfl, (by repeat' (first | with_reducible exact Below.refl _ _ | with_reducible refine below_drewN ?_ _ | with_reducible refine Below.drew ?_ | with_reducible refine Below.alloc ?_ ?_ _ | with_reducible refine Below.setCell ?_ ?_ _ | with_reducible refine Below.trans ?_ (Below.mono (by with_reducible assumption) ?_) | (simp; done) | (simp; omega) | omega))⟩
    · have hR : res = false := by rw [Hh.out]; simp [h1]
      subst hR
      go_enter Tryz.func251, Tryz.ntmps251
      go_wp2
      go_ret
      exact ⟨rfl, (by repeat' (first | with_reducible exact Below.refl _ _ | with_reducible refine below_drewN ?_ _ | with_reducible refine Below.drew ?_ | with_reducible refine Below.alloc ?_ ?_ _ | with_reducible refine Below.setCell ?_ ?_ _ | with_reducible refine Below.trans ?_ (Below.mono (by with_reducible assumption) ?_) | (simp; done) | (simp; omega) | omega))⟩
  · rintro e w' ⟨rfl, h⟩
    exact ⟨rfl, hb.trans (h.mono hb.size)⟩

theorem withinSP_take (rows : List (List (Sg Unit))) (x : Int) (k : Nat) (h : k < rows.length) : withinSP (rows.take (k + 1)) x = withinSP (rows.take k) x ||| ((inR rows[k] x).toNat * 2 ^ k) := by
  unfold withinSP
  rw [List.take_succ_eq_append_getElem h, List.map_append, List.map_cons, List.map_nil, ← maskL_or, List.length_map, List.length_take, Nat.min_eq_left (Nat.le_of_lt h)]
theorem withinSP_lt (rows : List (List (Sg Unit))) (x : Int) (h : rows.length ≤ 12) : withinSP rows x < 4096 := by
  have h1 := maskL_lt (rows.map fun r => inR r x)
  rw [List.length_map] at h1
  have h2 : 2 ^ rows.length ≤ 2 ^ 12 := Nat.pow_le_pow_right (by omega) h
  unfold withinSP
  omega
set_option maxHeartbeats 8000000 in
set_option maxRecDepth 100000 in
theorem within_any' (X : Option Addr) (p pc : Nat) (rows : List (List (Sg Unit))) (x : Int) (w : World) (hX : SlSS w X p rows) (hpl : p ≤ 12) :
    Calls Tryz.prog 180 #[.slice X p pc, .int .i64 x] w fun e w' => e = .returned (.int .i64 (withinSP rows x : Int)) ∧ Below w.heap.size w w' := by
  have hp := hX.len
  have HX := Lib.hid hX
  have eg : ∀ args w, (callFunc 251 args).run Tryz.prog w = .ok (.enter 251 args) w := enters_of Tryz.func251 (by kernel_rfl) rfl
  have Eg := Lib.hid eg
  clear hX eg
  go_enter Tryz.func180, Tryz.ntmps180
  go_upto_region 3 with fail
  go_loopw [5, 6, 7, 10] (fun s _ _ i wr => ∃ k : Nat, k ≤ p ∧ i = .int .i64 (k : Int) ∧ s = .int .i64 (withinSP (rows.take k) x : Int) ∧ Below (w.heap.size + 1) (w.alloc (.cells #[.int .i64 x] 3)) wr) (fun _ _ _ i _ => p - (intOf i).toNat)
  case atStart => exact ⟨0, Nat.zero_le _, rfl, rfl, Below.refl _ _⟩
  case round =>
    obtain ⟨k, hk, rfl, rfl, hbw⟩ := hrel
    have Hbw : Hid (Below w.heap.size w wr) := Lib.hid (((Below.refl _ w).alloc (Nat.le_refl _) _).trans (hbw.mono (by omega)))
    have hsw : w.heap.size + 1 ≤ wr.heap.size := by have := hbw.size; simpa using this
    have cx : wr.cell? ⟨w.heap.size, 0, none⟩ = some (.int .i64 x) := (hbw.cell (p := ⟨w.heap.size, 0, none⟩) (Nat.lt_succ_self _)).trans (cell_of_row _ w.heap.size 0 _ _ _ (heap_alloc_new w _))
    have HbA := Lib.hid hbw
    clear hbw
    by_cases hkn : k < p
    · have hkl : k < rows.length := by omega
      obtain ⟨b, off, A, c, rfl, hb, hc0, hA⟩ := HX.out.at' k hkl
      have c0 := (Hbw.out.cell (p := ⟨b, off + k, none⟩) hb).trans hc0
      have HA := Lib.hid (hA.below Hbw.out)
      have Hnext := Lib.hid (withinSP_take rows x k hkl)
      have hlt := withinSP_lt (rows.take k) x (by rw [List.length_take]; omega)
      have Hc := Lib.hid cx
      obtain ⟨n, hn⟩ : ∃ n, rows[k].length = n := ⟨_, rfl⟩
      rw [hn] at c0 HA
      generalize withinSP (rows.take k) x = m at *
      have hkn' : (k : Int) < (p : Int) := by omega
      have hbs : b < wr.heap.size := by have := Hbw.out.size; omega
      clear hc0 hA hn
      cases hin : inR rows[k] x with
      | true =>
        have Hin : Hid ((rows[k].any fun q => inS q x) = true) := Lib.hid hin
        rw [hin] at Hnext
        clear hin
        generalize rows[k] = row at *
        go_wp2_with (first
          | (go_at_call 250
             refine (containsS_any (fun q => inS q x) 251 #[.pointer (some ⟨w.heap.size, 0, none⟩)] Eg.out _ row _ HA.out (withinPred _ x _ Hc.out (by omega))).mono ?_
             rintro e w1 ⟨rfl, hb1⟩
             rw [Hin.out])
          | fail)
        go_roundw
        case rel => exact ⟨k + 1, by omega, by go_num, by rw [Hnext.out, or_shl m k (by omega) (by omega)], HbA.out.trans (hb1.mono (by omega))⟩
        case measure => simp [intOf]; omega
      | false =>
        have Hin : Hid ((rows[k].any fun q => inS q x) = false) := Lib.hid hin
        rw [hin] at Hnext
        clear hin
        generalize rows[k] = row at *
        go_wp2_with (first
          | (go_at_call 250
             refine (containsS_any (fun q => inS q x) 251 #[.pointer (some ⟨w.heap.size, 0, none⟩)] Eg.out _ row _ HA.out (withinPred _ x _ Hc.out (by omega))).mono ?_
             rintro e w1 ⟨rfl, hb1⟩
             rw [Hin.out])
          | fail)
        go_roundw
        case rel => exact ⟨k + 1, by omega, by go_num, by rw [Hnext.out]; simp, HbA.out.trans (hb1.mono (by omega))⟩
        case measure => simp [intOf]; omega
    · have e1 : rows.take k = rows := List.take_of_length_le (by omega)
      have hkn' : ¬ (k : Int) < (p : Int) := by omega
      rw [e1]
      clear e1
      go_wp2
      go_ret
      exact ⟨rfl, Hbw.out⟩
end Go.Proofs.YtfmkmhhghmdakaaGreatDoor
namespace Go.Proofs.YtfmkmhhghmdakaaGreatDoor
open Go.RowKit Go.Shelf
set_option linter.unusedVariables false
set_option linter.unusedSimpArgs false

theorem Tryz.infoRects : (Tryz.prog.info? 31).map (fun i => (i.zero, i.size, i.bytes)) = some (some (.slice none 0 0), 1, 24) := by kernel_rfl
theorem ownsRow_but {e' : TypeId} {W W' : World} {base : Nat} {e : TypeId} {size n : Nat} {v : Value} {xs : List Value} (h : W.ownsRow base e size v n xs) (hb : CellsRest e' W W') (he : e ≠ e') : W'.ownsRow base e size v n xs := by
  obtain ⟨h1, h2⟩ := h
  refine ⟨h1, ?_⟩
  rcases h2 with h2 | ⟨g, cap, cur, hv, hx, hh, r⟩
  · exact Or.inl h2
  · exact Or.inr ⟨g, cap, cur, hv, hx, hb.same _ _ _ _ he hh, r⟩
/-- What the iterator has captured: the cuts, the regions, their rectangles. -/
structure PcAt (W : World) (n₀ bc bl bL : Nat) (A : Option Addr) (n c : Nat) (l : RL) : Prop where
  lt : bc < W.heap.size ∧ bl < W.heap.size ∧ bL < W.heap.size
  regs : W.heap[bl]? = some (.cells #[.slice A n c] 26 (0, 0))
  len : l.length = n
  lists : ∃ v, W.heap[bL]? = some (.cells #[v] 183 (0, 0)) ∧ W.ownsRow n₀ 31 1 v n (rgCells l)
  cuts : ∃ v, W.heap[bc]? = some (.cells #[v] 22 (0, 0)) ∧ W.ownsRow n₀ 3 1 v (cutsP (rgs l).flatten).length ((cutsP (rgs l).flatten).map (.int .i64))
theorem PcAt.but {W W' : World} {n₀ bc bl bL : Nat} {A : Option Addr} {n c : Nat} {l : RL} (h : PcAt W n₀ bc bl bL A n c l) (hb : CellsRest 68 W W') : PcAt W' n₀ bc bl bL A n c l := by
  obtain ⟨v, h1, h2⟩ := h.lists
  obtain ⟨u, h3, h4⟩ := h.cuts
  have hs := hb.size
  have hl := h.lt
  exact ⟨⟨by omega, by omega, by omega⟩, hb.same _ _ _ _ (by decide) h.regs, h.len, ⟨v, hb.same _ _ _ _ (by decide) h1, ownsRow_but h2 hb (by decide)⟩, u, hb.same _ _ _ _ (by decide) h3, ownsRow_but h4 hb (by decide)⟩
/-- What pieces leaves. -/
def PcPost (w : World) (A : Option Addr) (n c : Nat) (l : RL) (e : Ending) (w' : World) : Prop :=
  ∃ bc bl bL, e = .returned (.func (.func 178) #[] #[.pointer (some ⟨bc, 0, none⟩), .pointer (some ⟨bl, 0, none⟩), .pointer (some ⟨bL, 0, none⟩)]) ∧ PcAt w' w.heap.size bc bl bL A n c l ∧ w.heap.size ≤ bc ∧ w.heap.size ≤ bl ∧ w.heap.size ≤ bL ∧ Below w.heap.size w w'

theorem rgCells_take (l : RL) (k : Nat) (h : k < l.length) : rgCells (l.take (k + 1)) = rgCells (l.take k) ++ [rgC l[k]] := by
  unfold rgCells
  rw [List.take_succ_eq_append_getElem h, List.map_append]
  rfl

set_option maxHeartbeats 8000000 in
set_option maxRecDepth 100000 in
theorem pieces_any (A : Option Addr) (n c : Nat) (l : RL) (w : World) (hA : SlG w A n c l) (hn : n ≤ 12) (hs : (rgs l).flatten.length ≤ 100000) :
    Calls Tryz.prog 73 #[.slice A n c] w (PcPost w A n c l) := by
  obtain ⟨i0, hi, hz0, hz1, hz2⟩ := info_parts Tryz.infoRects
  have hx := hA.len
  have HA := Lib.hid hA
  have Hs := Lib.hid hs
  clear hA hs
  go_enter Tryz.func73, Tryz.ntmps73
  go_upto_region 3 with fail
  go_loopw [5, 9] (fun _ i wr => ∃ (k : Nat) (v : Value), k ≤ n ∧ i = .int .i64 (k : Int) ∧ wr.heap[w.heap.size]? = some (.cells #[.slice A n c] 26 (0, 0)) ∧ wr.heap[w.heap.size + 1]? = some (.cells #[v] 183 (0, 0)) ∧ wr.ownsRow (w.heap.size + 2) 31 1 v k (rgCells (l.take k)) ∧ Below w.heap.size w wr) (fun _ i _ => n - (intOf i).toNat)
  case atStart =>
    refine ⟨0, .slice none 0 0, Nat.zero_le _, rfl, (Below.heap_alloc _ _ _ (by simp)).trans (heap_alloc_new w _), heap_alloc2_new w _ _, World.ownsRow_nil _ _ _ _, (by repeat' (first | with_reducible exact Below.refl _ _ | with_reducible refine below_drewN ?_ _ | with_reducible refine Below.drew ?_ | with_reducible refine Below.alloc ?_ ?_ _ | with_reducible refine Below.setCell ?_ ?_ _ | with_reducible refine Below.trans ?_ (Below.mono (by with_reducible assumption) ?_) | (simp; done) | (simp; omega) | omega))⟩
  case round =>
    obtain ⟨k, v, hk, rfl, hbl, hbL, hown, hbw⟩ := hrel
    have Hbl := Lib.hid hbl
    have HbL := Lib.hid hbL
    have Hown := Lib.hid hown
    have Hbw := Lib.hid hbw
    have hsw := hbw.size
    have c0 := cell_of_row _ _ 0 _ _ _ hbl
    have c1 := cell_of_row _ _ 0 _ _ _ hbL
    have f1 := frozen_of_row _ _ 0 _ _ hbL
    have hlt1 : w.heap.size + 1 < wr.heap.size := (Array.getElem?_eq_some_iff.1 hbL).1
    clear hbl hbL hown hbw
    by_cases hkn : k < n
    · have hkl : k < l.length := by omega
      obtain ⟨b, off, rfl, hb, c2, hsl⟩ := (HA.out.below Hbw.out).at k hkl
      have Hnext := Lib.hid (rgCells_take l k hkl)
      have Hrg : Hid (rgC l[k] = .slice l[k].2.a l[k].1.length l[k].2.c) := Lib.hid rfl
      obtain ⟨a0, ha0⟩ : ∃ a0, l[k].2.a = a0 := ⟨_, rfl⟩
      obtain ⟨n0, hn0⟩ : ∃ n0, l[k].1.length = n0 := ⟨_, rfl⟩
      obtain ⟨c9, hc9⟩ : ∃ c9, l[k].2.c = c9 := ⟨_, rfl⟩
      rw [ha0, hn0, hc9] at Hrg c2
      have hkn' : (k : Int) < (n : Int) := by omega
      have hlen : (rgCells (l.take k)).length = k := by simp [rgCells]; omega
      have Hlen := Lib.hid hlen
      clear hsl hlen ha0 hn0 hc9
      obtain ⟨LA, lc, rfl, _, _, _⟩ := own_slice Hown.out
      go_wp2_with (first
        | (at_builtin
           refine wpList_append_any _ rfl (.tmp 13) (.tmp 16) _ rfl (w.heap.size + 2) 31 i0 _ 1 24 Tryz.underlying183 hi hz0 hz1 hz2 rfl (by omega) _ k (rgCells (l.take k)) rfl
             ((Hown.out.alloc _).alloc _) _ _ 1 1 [.slice a0 n0 c9] rfl ⟨rfl, fun _ => ⟨_, rfl, Nat.lt_succ_self _, fun j u hu => (by exact World.news_of_block (heap_alloc2_new wr _ (.cells #[.slice a0 n0 c9] 31)) j u hu)⟩⟩ (by simp [Value.oneCell']) (by simp only [maxLen]; omega) (by omega) (by simp; omega) ?_
           intro v5 w5 hown5 hg5 hat5
           obtain ⟨VA, vc, rfl, _, _, _⟩ := own_slice hown5
           have Hown5 := Lib.hid hown5
           have hob := own_base Hown.out
           have hL5 : w5.heap[w.heap.size + 1]? = some (.cells #[.slice LA k lc] 183 (0, 0)) := (hg5.block _ (by simp; omega) (fun e => by have := hob _ e.symm; omega)).trans ((Below.heap_alloc _ _ _ (by simp; omega)).trans ((Below.heap_alloc _ _ _ (by omega)).trans HbL.out))
           have hl5 : w5.heap[w.heap.size]? = some (.cells #[.slice (some ⟨b, off, none⟩) n c] 26 (0, 0)) := (hg5.block _ (by simp; omega) (fun e => by have := hob _ e.symm; omega)).trans ((Below.heap_alloc _ _ _ (by simp; omega)).trans ((Below.heap_alloc _ _ _ (by omega)).trans Hbl.out))
           have HL5 := Lib.hid hL5
           have Hl5 := Lib.hid hl5
           have c5 := cell_of_row _ _ 0 _ _ _ hL5
           have f5 := frozen_of_row _ _ 0 _ _ hL5
           have Hb5 : Hid (Below w.heap.size w w5) := Lib.hid (((Hbw.out.alloc hsw _).alloc (by simp; omega) _).grown hg5 (by simp; omega) (fun x hx => by have := hob x hx; omega))
           clear hown5 hg5 hat5 hob hL5 hl5)
        | fail)
      go_roundw
      case rel =>
        refine ⟨k + 1, .slice VA (k + 1) vc, by omega, by go_num, ?_, ?_, ?_, ?_⟩
        · exact (Below.heap_setCell _ _ _ _ (by simp)).trans Hl5.out
        · rw [heap_setCell_same _ _ _ _ _ _ HL5.out]; rfl
        · rw [Hnext.out, Hrg.out]
          exact own_setNe Hown5.out (fun g hg => by have := own_base Hown5.out g hg; simp; omega) _
        · exact Hb5.out.setCell (by simp) _
      case measure => simp [intOf]; omega
    · have hkn' : ¬ (k : Int) < (n : Int) := by omega
      obtain rfl : k = n := by omega
      have Hown2 : Hid (wr.ownsRow (w.heap.size + 2) 31 1 v k (rgCells l)) := Lib.hid (by have := Hown.out; rw [List.take_of_length_le (by omega)] at this; exact this)
      have Hk : Hid (l.length = k) := Lib.hid hx
      obtain ⟨LA, lc, rfl, hL1, _, _⟩ := own_slice Hown.out
      have HX : Hid (∀ i, (h : i < (rgs l).length) → ∃ b off A n c, LA = some ⟨b, off, none⟩ ∧ b < wr.heap.size ∧ wr.cell? ⟨b, off + i, none⟩ = some (.slice A n c) ∧ SlR wr A n c (rgs l)[i]) := Lib.hid (by
        intro i hi
        have hil : i < l.length := by rw [rgs_len] at hi; exact hi
        rcases Lies.of_own Hown2.out with h0 | ⟨b, off, rfl, hb, hc⟩
        · omega
        · refine ⟨b, off, l[i].2.a, l[i].1.length, l[i].2.c, rfl, hb, hc i _ ?_, ?_⟩
          · simp [rgCells, hil, rgC]
          · have := HA.out.fits _ (List.getElem_mem hil)
            simp only [rgs, List.getElem_map]
            exact this.below Hbw.out)
      have Hrl : Hid ((rgs l).length = k) := Lib.hid (by rw [rgs_len]; exact hx)
      clear Hown hL1 hx
      go_wp2_with (first
        | (go_at_call 137
           refine (cuts_any LA k lc (rgs l) _ Hrl.out (by omega) HX.out Hs.out).mono ?_
           rintro e w6 ⟨v6, rfl, hown6, hb6⟩
           obtain ⟨CA, cc, rfl, _, _, _⟩ := own_slice hown6
           have Hown6 := Lib.hid hown6
           have Hb6 := Lib.hid hb6
           have hs6 := hb6.size
           clear hown6 hb6)
        | fail)
      go_ret
      have hB6 := Hb6.out
      have hlow : ∀ g o, g < wr.heap.size → wr.heap[g]? = o → (w6.alloc (.cells #[.slice CA (cutsP (rgs l).flatten).length cc] 22)).heap[g]? = o := fun g o hg ho => (Below.heap_alloc _ _ _ (by omega)).trans ((hB6.block _ hg).trans ho)
      refine ⟨w6.heap.size, w.heap.size, w.heap.size + 1, rfl, ⟨by simp; omega, hlow _ _ (by omega) Hbl.out, Hk.out, ⟨_, hlow _ _ (by omega) HbL.out, ?_⟩, _, heap_alloc_new w6 _, ?_⟩, by omega, Nat.le_refl _, by omega, ?_⟩
      · exact own_rebase (own_keep Hown2.out (fun b hb _ => hlow b _ hb rfl)) (by omega)
      · exact own_rebase (Hown6.out.alloc _) (by omega)
      · exact (Hbw.out.trans (hB6.mono (by omega))).alloc (by omega) _
end Go.Proofs.YtfmkmhhghmdakaaGreatDoor
namespace Go.Proofs.YtfmkmhhghmdakaaGreatDoor
open Go.RowKit Go.Shelf
set_option linter.unusedVariables false
set_option linter.unusedSimpArgs false
attribute [local go_sem] Oper.semAt_some

/-- A piece, with a set that is small. -/
abbrev Pc := { p : Nat × R4 // p.1 < 4096 }
def pcV (x : Pc) : Array Value := #[.int .i64 (x.1.1 : Int), .agg #[.int .i64 x.1.2.l, .int .i64 x.1.2.b, .int .i64 x.1.2.r, .int .i64 x.1.2.t]]
/-- Rows of spans that a round has made. -/
structure RowsAt (W : World) (B : Nat) (g m : Nat) (rows : List (List (Sg Unit))) (vs : List Value) : Prop where
  len : rows.length = m
  vlen : vs.length = m
  o : W.ownsRow B 195 1 (.slice (some ⟨g, 0, none⟩) m m) m vs
  fs : ∀ t (h : t < rows.length) (h' : t < vs.length), W.ownsRow B 256 2 vs[t] rows[t].length (sCells rows[t])
theorem RowsAt.but {W W' : World} {B g m : Nat} {rows : List (List (Sg Unit))} {vs : List Value} (h : RowsAt W B g m rows vs) (hb : CellsRest 68 W W') : RowsAt W' B g m rows vs :=
  ⟨h.len, h.vlen, ownsRow_but h.o hb (by decide), fun t h1 h2 => ownsRow_but (h.fs t h1 h2) hb (by decide)⟩
theorem RowsAt.slss {W : World} {B g m : Nat} {rows : List (List (Sg Unit))} {vs : List Value} (h : RowsAt W B g m rows vs) : SlSS W (some ⟨g, 0, none⟩) m rows := by
  refine ⟨h.len, fun i hi => ?_⟩
  have hv : i < vs.length := by have := h.len; have := h.vlen; omega
  have hf := h.fs i hi hv
  obtain ⟨A, c, hA, _, _, _⟩ := own_slice hf
  rcases Lies.of_own h.o with h0 | ⟨b, off, e, hb, hc⟩
  · have := h.len; omega
  · injection e with e
    injection e with e1 e2
    subst e1 e2
    exact ⟨g, 0, A, c, rfl, hb, hc i _ (by rw [List.getElem?_eq_getElem hv, hA]), SlS.of_own (by rw [← hA]; exact hf)⟩

theorem Tryz.infoSpans : (Tryz.prog.info? 195).map (fun i => (i.zero, i.size, i.bytes)) = some (some (.slice none 0 0), 1, 24) := by kernel_rfl
theorem madeCells_listR (z : Value) (n : Nat) : (madeCells #[z] n).toList = List.replicate n z := by
  refine List.ext_getElem (by simp [madeCells]) (fun i h1 h2 => ?_)
  simp [madeCells, Nat.mod_one]
theorem own_madeR (w : World) (e : TypeId) (z : Value) (n : Nat) (hn : n ≤ maxLen) : (w.alloc (.cells (madeCells #[z] n) e)).ownsRow w.heap.size e 1 (.slice (some ⟨w.heap.size, 0, none⟩) n n) n (List.replicate n z) :=
  ⟨by simp, .inr ⟨w.heap.size, n, madeCells #[z] n, rfl, Nat.le_refl _, heap_alloc_new w _, Nat.le_refl _, hn, by simp [size_madeCells], by rw [madeCells_listR]; simp⟩⟩
theorem flatten_le {α : Type} (b : Nat) : ∀ (l : List (List α)), (∀ r ∈ l, r.length ≤ b) → l.flatten.length ≤ b * l.length
  | [], _ => by simp
  | r :: t, h => by
    have h1 := h r (by simp)
    have h2 := flatten_le b t (fun r hr => h r (by simp [hr]))
    rw [List.flatten_cons, List.length_append, List.length_cons, Nat.mul_succ]
    omega
theorem flat_prefix {α : Type} (f : Nat → List α) (i : Nat) : ∀ n, i < n → (List.range i).flatMap f ++ f i <+: (List.range n).flatMap f
  | 0, h => by omega
  | n + 1, h => by
    rw [List.range_succ, List.flatMap_append]
    by_cases hi : i < n
    · exact (flat_prefix f i n hi).trans (List.prefix_append _ _)
    · obtain rfl : i = n := by omega
      simp
theorem piece_prefix (m : List (List R4)) (k s : Nat) (hk : k + 1 < (cutsP m.flatten).length) (rows : List (List (Sg Unit))) (hr : rows = m.map fun a => rowP a ((cutsP m.flatten).getD k 0)) (hs : s + 1 < (endsP rows).length) :
    (List.range k).flatMap (bandPcs m (cutsP m.flatten)) ++ (List.range s).flatMap (onePc rows ((cutsP m.flatten).getD k 0) ((cutsP m.flatten).getD (k + 1) 0) (endsP rows)) ++ onePc rows ((cutsP m.flatten).getD k 0) ((cutsP m.flatten).getD (k + 1) 0) (endsP rows) s <+: piecesP m := by
  refine List.IsPrefix.trans ?_ (flat_prefix (bandPcs m (cutsP m.flatten)) k _ (show k < (cutsP m.flatten).length - 1 by omega))
  rw [List.append_assoc, List.prefix_append_right_inj]
  have := flat_prefix (onePc rows ((cutsP m.flatten).getD k 0) ((cutsP m.flatten).getD (k + 1) 0) (endsP rows)) s _ (show s < (endsP rows).length - 1 by omega)
  unfold bandPcs rowPcs
  rw [← hr]
  exact this
set_option maxHeartbeats 8000000 in
set_option maxRecDepth 100000 in
theorem pieces1_in (l n₀ bc bl bL : Nat) (A : Option Addr) (m c n N : Nat) (L : RL) (J Jx : List Pc → World → Prop) (w0 W : World)
    (hY : ∀ pre x W, J pre W → pre.length < N → YieldAt Fence.wide (n - 1) Tryz.prog l (pcV x) W fun e W' => (e = .returned (.bool true) ∧ J (pre ++ [x]) W' ∧ Keeps n₀ 68 W W') ∨ (e = .returned (.bool false) ∧ Jx (pre ++ [x]) W'))
    (hJ : AbidesFrom W.heap.size J) (hP : PcAt W n₀ bc bl bL A m c L) (hw0 : w0.heap.size = n₀) (hlow : Below n₀ w0 W) (hA : SlG w0 A m c L) (hm : m ≤ 12) (hpos : ∀ a ∈ rgs L, ∀ q ∈ a, q.l < q.r) (hlen : ∀ a ∈ rgs L, a.length ≤ 120)
    (hN : (piecesP (rgs L)).length ≤ N) (hn : 3 ≤ n) (h0 : J [] W) :
    CallsIn Fence.wide n Tryz.prog 178 #[.func (.yield l) #[] #[], .pointer (some ⟨bc, 0, none⟩), .pointer (some ⟨bl, 0, none⟩), .pointer (some ⟨bL, 0, none⟩)] W fun e W' => (∃ v, e = .returned v) ∧
      ((∃ ys : List Pc, ys.map (·.1) = piecesP (rgs L) ∧ J ys W') ∨ (∃ pre : List Pc, pre.map (·.1) <+: piecesP (rgs L) ∧ Jx pre W')) := by
  have hfE : Fence.wide.fn 179 := trivial
  have hfW : Fence.wide.fn 180 := trivial
  have hn1 : 1 ≤ n := by omega
  have hn2 : 1 ≤ n - 1 := by omega
  have HY := Lib.hid hY
  have HJ := Lib.hid hJ
  have HP := Lib.hid hP
  have Hlow := Lib.hid hlow
  have HA := Lib.hid hA
  have Hpos := Lib.hid hpos
  have Hlen := Lib.hid hlen
  have HN := Lib.hid hN
  have H0 := Lib.hid h0
  have Hw0 := Lib.hid hw0
  clear hY hJ hP hlow hA hpos hlen hN h0 hw0
  refine callsIn_of_wp Tryz.func178 rfl trivial ?_ rfl
  simp only [Tryz.ntmps178, List.size_toArray, List.length_cons, List.length_nil, Nat.reduceAdd, Nat.reduceSub, Array.replicate_succ, Array.replicate_zero, List.push_toArray, List.append_toArray, List.nil_append, List.cons_append]
  gi_wp2_with fail
  gi_loopw [5] (fun i wr => ∃ (k : Nat) (pre : List Pc), i = .int .i64 ((k : Int) + 1) ∧ k ≤ (cutsP (rgs L).flatten).length - 1 ∧ pre.map (·.1) = (List.range k).flatMap (bandPcs (rgs L) (cutsP (rgs L).flatten)) ∧ J pre wr ∧ Keeps n₀ 68 W wr) (fun i _ => (cutsP (rgs L).flatten).length - (intOf i).toNat)
  case atStart => exact ⟨0, [], rfl, by omega, rfl, H0.out, ⟨Below.refl _ _, CellsRest.refl _ _⟩⟩
  case round =>
    obtain ⟨wA, rfl⟩ : ∃ wA : World, wA = wr := ⟨_, rfl⟩
    obtain ⟨k, pre, rfl, hk2, hpre, hj, hkp⟩ := hrel
    have Hpre := Lib.hid hpre
    have Hj := Lib.hid hj
    have Hkp := Lib.hid hkp
    have HPA := Lib.hid (HP.out.but hkp.but)
    obtain ⟨cv, hcb, hcown⟩ := HPA.out.cuts
    obtain ⟨CA, cc, rfl, hCl, hCc, hCm⟩ := own_slice hcown
    obtain ⟨C, hC⟩ : ∃ C, C = cutsP (rgs L).flatten := ⟨_, rfl⟩
    rw [← hC] at hk2 hcb hcown hCl hCc
    have HC := Lib.hid hC
    have cb := cell_of_row _ _ 0 _ _ _ hcb
    have Hcown := Lib.hid hcown
    have Hcb := Lib.hid hcb
    have cl := cell_of_row _ _ 0 _ _ _ HPA.out.regs
    have hltA := HPA.out.lt
    clear hpre hj hkp hcb hcown hCl hC
    unfold maxLen at hCm
    obtain ⟨nC, hnC⟩ : ∃ nC, C.length = nC := ⟨_, rfl⟩
    rw [hnC] at hk2 cb hCc Hcown Hcb
    have HnC := Lib.hid hnC
    clear hnC
    by_cases hkn : k + 1 < nC
    · have hkn' : (k : Int) + 1 < (nC : Int) := by omega
      have hmk := fun W : World => run_make_row' (P := Tryz.prog) 233 195 (.slice none 0 0) 24 Tryz.underlying233 Tryz.infoSpans rfl .i64 .i64 m (by omega) (by omega) W
      gi_upto_region 4 with fail
      clear hmk
      obtain ⟨wB, hwB⟩ : ∃ wB : World, wB = wA.alloc (.cells (madeCells #[.slice none 0 0] m) 195) := ⟨_, rfl⟩
      rw [← hwB]
      have HbAB : Hid (Below wA.heap.size wA wB) := Lib.hid (by rw [hwB]; exact (Below.refl _ _).alloc (Nat.le_refl _) _)
      have hsB : wA.heap.size + 1 = wB.heap.size := by rw [hwB]; simp
      have HsB := Lib.hid hsB
      have hsB' : wA.heap.size < wB.heap.size := by omega
      clear hsB
      have HR0 : Hid (wB.ownsRow wA.heap.size 195 1 (.slice (some ⟨wA.heap.size, 0, none⟩) m m) m (List.replicate m (.slice none 0 0))) := Lib.hid (by rw [hwB]; exact own_madeR wA _ _ m (by unfold maxLen; omega))
      clear hwB
      have HPB := Lib.hid (HPA.out.but (CellsRest.below HbAB.out))
      have clB := cell_of_row _ _ 0 _ _ _ HPB.out.regs
      clear cb cl
      obtain ⟨y, hy⟩ : ∃ y, y = C.getD k 0 := ⟨_, rfl⟩
      have Hy := Lib.hid hy
      obtain ⟨rows, hrows⟩ : ∃ rows, rows = (rgs L).map fun a => rowP a y := ⟨_, rfl⟩
      have Hrows := Lib.hid hrows
      clear hy hrows
      gi_upto_region 5 with fail
      gi_loopw [7, 22] (fun _ i wr => ∃ (t : Nat) (vs : List Value), t ≤ m ∧ i = .int .i64 (t : Int) ∧ vs.length = m ∧ wr.ownsRow wA.heap.size 195 1 (.slice (some ⟨wA.heap.size, 0, none⟩) m m) m vs ∧ (∀ q (h : q < rows.length) (h' : q < vs.length), q < t → wr.ownsRow (wA.heap.size + 1) 256 2 vs[q] rows[q].length (sCells rows[q])) ∧ Below wA.heap.size wA wr) (fun _ i _ => m - (intOf i).toNat)
      case atStart =>
        exact ⟨0, List.replicate m (.slice none 0 0), Nat.zero_le _, rfl, by simp, HR0.out, fun q _ _ h => absurd h (by omega), HbAB.out⟩
      case round =>
        obtain ⟨t, vs, htm, rfl, hvl, hro, hfs, hbr⟩ := hrel
        have Hvl := Lib.hid hvl
        have Hro := Lib.hid hro
        have Hfs := Lib.hid hfs
        have Hbr := Lib.hid hbr
        have HPr := Lib.hid (HPA.out.but (CellsRest.below hbr))
        have hsr := hbr.size
        clear hvl hro hfs hbr
        by_cases htm1 : t < m
        · have htm' : (t : Int) < (m : Int) := by omega
          have hltr := HPr.out.lt
          obtain ⟨lv, hLb, hLo⟩ := HPr.out.lists
          obtain ⟨gL, lc, rfl, hgL0, hgL, _, _, hLc, _⟩ := own_at hLo (by omega)
          obtain ⟨uv, hCb, hCo⟩ := HPr.out.cuts
          rw [← HC.out, HnC.out] at hCo
          obtain ⟨gC, cc', rfl, hgC0, hgC, _, _, hCc', _⟩ := own_at hCo (by omega)
          have hCk : k < C.length := by have := HnC.out; omega
          have cC := hCc' k (.int .i64 y) (by rw [List.getElem?_map, List.getElem?_eq_getElem hCk]; simp only [Option.map_some]; rw [Hy.out]; simp [List.getD, List.getElem?_eq_getElem hCk])
          have hLt : t < L.length := by have := HPr.out.len; omega
          have cL := hLc t (rgC L[t]) (by unfold rgCells; rw [List.getElem?_map, List.getElem?_eq_getElem hLt]; rfl)
          have hslr : SlR wr L[t].2.a L[t].1.length L[t].2.c L[t].1 := (HA.out.fits _ (List.getElem_mem hLt)).below (by rw [Hw0.out]; exact Hlow.out.trans (Hkp.out.low.trans (Hbr.out.mono (by have := Hkp.out.low.size; have := Hlow.out.size; have := Hw0.out; omega))))
          have Hslr := Lib.hid hslr
          have hpt : ∀ q ∈ L[t].1, q.l < q.r := Hpos.out _ (by unfold rgs; exact List.mem_map_of_mem (List.getElem_mem hLt))
          have hlt2 : L[t].1.length ≤ 120 := Hlen.out _ (by unfold rgs; exact List.mem_map_of_mem (List.getElem_mem hLt))
          have Hpt := Lib.hid hpt
          have hrt : t < rows.length := by rw [Hrows.out, List.length_map, rgs_len]; exact hLt
          have Hrt : Hid (rows[t] = rowP L[t].1 y) := Lib.hid (by simp only [Hrows.out, List.getElem_map, rgs])
          have b1 := cell_of_row _ _ 0 _ _ _ hLb
          have b2 := cell_of_row _ _ 0 _ _ _ hCb
          obtain ⟨a0, ha0⟩ : ∃ a0, L[t].2.a = a0 := ⟨_, rfl⟩
          obtain ⟨c9, hc9⟩ : ∃ c9, L[t].2.c = c9 := ⟨_, rfl⟩
          unfold rgC at cL
          rw [ha0, hc9] at cL Hslr
          generalize L[t].1 = lr at *
          have e1 : IntKind.i64.wrap (k : Int) = (k : Int) := IntWalk.i64_in _ (by omega)
          have hkn0 : k < nC := by omega
          have hvt : t < vs.length := by have := Hvl.out; omega
          obtain ⟨gR, rc, hgR, _, hgRl, _, _, hRc, hRf⟩ := own_at Hro.out (by omega)
          obtain rfl : wA.heap.size = gR := by injection hgR with e _ _; injection e with e; injection e
          have cR := Lib.hid (hRc t vs[t] (List.getElem?_eq_getElem hvt))
          have fR := Lib.hid (hRf t)
          clear hgR hRc hRf
          clear hLb hLo hLc hCb hCo hCc' hslr hpt ha0 hc9
          gi_upto_region 7 with fail
          refine wpIn_wide.2 ?_
          refine wp_region_held_tail (S := fun w' => w'.cell? ⟨bL, 0, none⟩ = some (.slice (some ⟨gL, 0, none⟩) m lc) ∧ w'.cell? ⟨gL, t, none⟩ = some (.slice a0 lr.length c9) ∧ w'.cell? ⟨bc, 0, none⟩ = some (.slice (some ⟨gC, 0, none⟩) nC cc') ∧ w'.cell? ⟨gC, k, none⟩ = some (.int .i64 y)) 12 (by kernel_rfl) (by kernel_rfl) (by kernel_rfl) ?_
          have hHeld : (fun w' : World => w'.cell? ⟨bL, 0, none⟩ = some (.slice (some ⟨gL, 0, none⟩) m lc) ∧ w'.cell? ⟨gL, t, none⟩ = some (.slice a0 lr.length c9) ∧ w'.cell? ⟨bc, 0, none⟩ = some (.slice (some ⟨gC, 0, none⟩) nC cc') ∧ w'.cell? ⟨gC, k, none⟩ = some (.int .i64 y)) wr.drew := ⟨b1, cL, b2, cC⟩
          simp only [List.take_succ_cons, List.take_zero, List.replicate]
          refine wpAnyH_take (i := 0) (v := ?vva0) rfl (by kernel_rfl) (by kernel_rfl) (by kernel_rfl) (fun _ _ _ h => h) (Or.inl ⟨by rfl, ?hya0⟩) hHeld ?resta0; (case hya0 => (intro w hSw; (try dsimp only at hSw); go_simp; all_goals (with_reducible rfl))); simp only [Act.put, List.setIfInBounds_toArray, List.set_cons_zero, List.set_cons_succ]
          refine wpAnyH_take (i := 1) (v := ?vva1) rfl (by kernel_rfl) (by kernel_rfl) (by kernel_rfl) (fun _ _ _ h => h) (Or.inl ⟨by rfl, ?hya1⟩) hHeld ?resta1; (case hya1 => (intro w hSw; (try dsimp only at hSw); go_simp; all_goals (with_reducible rfl))); simp only [Act.put, List.setIfInBounds_toArray, List.set_cons_zero, List.set_cons_succ]
          refine wpAnyH_take (i := 2) (v := ?vva2) rfl (by kernel_rfl) (by kernel_rfl) (by kernel_rfl) (fun _ _ _ h => h) (Or.inl ⟨by rfl, ?hya2⟩) hHeld ?resta2; (case hya2 => (intro w hSw; (try dsimp only at hSw); go_simp; all_goals (with_reducible rfl))); simp only [Act.put, List.setIfInBounds_toArray, List.set_cons_zero, List.set_cons_succ]
          refine wpAnyH_take (i := 3) (v := ?vva3) rfl (by kernel_rfl) (by kernel_rfl) (by kernel_rfl) (fun _ _ _ h => h) (Or.inl ⟨by rfl, ?hya3⟩) hHeld ?resta3; (case hya3 => (intro w hSw; (try dsimp only at hSw); go_simp; all_goals (with_reducible rfl))); simp only [Act.put, List.setIfInBounds_toArray, List.set_cons_zero, List.set_cons_succ]
          refine wpAnyH_take (i := 4) (v := ?vva4) rfl (by kernel_rfl) (by kernel_rfl) (by kernel_rfl) (fun _ _ _ h => h) (Or.inl ⟨by rfl, ?hya4⟩) hHeld ?resta4; (case hya4 => (intro w hSw; (try dsimp only at hSw); go_simp; all_goals (with_reducible rfl))); simp only [Act.put, List.setIfInBounds_toArray, List.set_cons_zero, List.set_cons_succ]
          refine wpAnyH_take (i := 5) (v := ?vva5) rfl (by kernel_rfl) (by kernel_rfl) (by kernel_rfl) (fun _ _ _ h => h) (Or.inl ⟨by rfl, ?hya5⟩) hHeld ?resta5; (case hya5 => (intro w hSw; (try dsimp only at hSw); go_simp; all_goals (with_reducible rfl))); simp only [Act.put, List.setIfInBounds_toArray, List.set_cons_zero, List.set_cons_succ]
          refine wpAnyH_take (i := 6) (v := ?vva6) rfl (by kernel_rfl) (by kernel_rfl) (by kernel_rfl) (fun _ _ _ h => h) (Or.inl ⟨by rfl, ?hya6⟩) hHeld ?resta6; (case hya6 => (intro w hSw; (try dsimp only at hSw); go_simp; all_goals (with_reducible rfl))); simp only [Act.put, List.setIfInBounds_toArray, List.set_cons_zero, List.set_cons_succ]
          refine wpAnyH_take (i := 7) (v := ?vva7) rfl (by kernel_rfl) (by kernel_rfl) (by kernel_rfl) (fun _ _ _ h => h) (Or.inl ⟨by rfl, ?hya7⟩) hHeld ?resta7; (case hya7 => (intro w hSw; (try dsimp only at hSw); go_simp; all_goals (with_reducible rfl))); simp only [Act.put, List.setIfInBounds_toArray, List.set_cons_zero, List.set_cons_succ]
          refine wpAnyH_take (i := 8) (v := ?vva8) rfl (by kernel_rfl) (by kernel_rfl) (by kernel_rfl) (fun _ _ _ h => h) (Or.inl ⟨by rfl, ?hya8⟩) hHeld ?resta8; (case hya8 => (intro w hSw; (try dsimp only at hSw); go_simp; all_goals (with_reducible rfl))); simp only [Act.put, List.setIfInBounds_toArray, List.set_cons_zero, List.set_cons_succ]
          refine wpAnyH_take (i := 9) (v := ?vva9) rfl (by kernel_rfl) (by kernel_rfl) (by kernel_rfl) (fun _ _ _ h => h) (Or.inl ⟨by rfl, ?hya9⟩) hHeld ?resta9; (case hya9 => (intro w hSw; (try dsimp only at hSw); go_simp; all_goals (with_reducible rfl))); simp only [Act.put, List.setIfInBounds_toArray, List.set_cons_zero, List.set_cons_succ]
          refine wpAnyH_take (i := 10) (v := ?vva10) rfl (by kernel_rfl) (by kernel_rfl) (by kernel_rfl) (fun _ _ _ h => h) (Or.inl ⟨by rfl, ?hya10⟩) hHeld ?resta10; (case hya10 => (intro w hSw; (try dsimp only at hSw); go_simp; all_goals (with_reducible rfl))); simp only [Act.put, List.setIfInBounds_toArray, List.set_cons_zero, List.set_cons_succ]
          refine wpAnyH_ready (rs := [11]) (by kernel_rfl) (by simp) ?_; refine AllReadyH.cons rfl (fun K hK => ?_) AllReadyH.nil
          go_simp
          go_at_call 140
          refine (row_any a0 lr.length c9 lr y _ (Hslr.out.drewN 1) (by omega) Hpt.out).mono ?_
          rintro e w5 ⟨v5, rfl, hown5, hb5⟩
          rw [← Hrt.out] at hown5
          obtain ⟨R5, r5, rfl, _, _, _⟩ := own_slice hown5
          have Hown5 : Hid (w5.ownsRow wr.heap.size 256 2 (.slice R5 rows[t].length r5) rows[t].length (sCells rows[t])) := Lib.hid hown5
          have Hb5 : Hid (Below wr.heap.size wr w5) := Lib.hid ((below_drewN (Below.refl wr.heap.size wr) 1).trans hb5)
          have c5 : w5.cell? ⟨wA.heap.size, t, none⟩ = some vs[t] := (Hb5.out.cell (p := ⟨wA.heap.size, t, none⟩) hgRl).trans cR.out
          have f5 : w5.frozen? ⟨wA.heap.size, t, none⟩ = false := (Hb5.out.frozen (p := ⟨wA.heap.size, t, none⟩) hgRl).trans fR.out
          clear hown5 hb5
          refine hK.out _ _ ⟨(Hb5.out.cell (p := ⟨bL, 0, none⟩) hltr.2.2).trans b1, (Hb5.out.cell (p := ⟨gL, t, none⟩) hgL).trans cL, (Hb5.out.cell (p := ⟨bc, 0, none⟩) hltr.1).trans b2, (Hb5.out.cell (p := ⟨gC, k, none⟩) hgC).trans cC⟩ (fun hHeld => ?_)
          clear hK K
          (try simp only [Act.put, List.setIfInBounds_toArray, List.set_cons_zero, List.set_cons_succ])
          refine wpAnyH_done (by kernel_rfl) ?_ _
          clear hHeld
          show wpList _ _ _ _ _ _
          simp only [List.drop_succ_cons, List.drop_zero]
          go_wp2
          gi_wp2
          go_roundw
          case rel =>
            have hsz5 := Hb5.out.size
            refine ⟨t + 1, vs.set t (.slice R5 rows[t].length r5), by omega, by go_num, by rw [List.length_set]; exact Hvl.out, own_setN (ownsRow_below Hro.out Hb5.out) t _, ?_, ?_⟩
            · intro q hq hq' hqt
              rw [List.length_set] at hq'
              by_cases hqe : q = t
              · subst hqe
                rw [List.getElem_set_self]
                exact own_setNe (own_rebase Hown5.out (by omega)) (fun g hg => by have := own_base Hown5.out g hg; show g ≠ wA.heap.size; omega) _
              · rw [List.getElem_set_ne (fun e => hqe e.symm)]
                have h7 := Hfs.out q hq hq' (by omega)
                exact own_setNe (ownsRow_below h7 Hb5.out) (fun g hg => by have := own_base h7 g hg; show g ≠ wA.heap.size; omega) _
            · exact (Hbr.out.trans (Hb5.out.mono (by omega))).setCell (by simp) _
          case measure => simp [intOf]; omega
        · have htm' : ¬ (t : Int) < (m : Int) := by omega
          obtain ⟨wF, rfl⟩ : ∃ wF : World, wF = wr := ⟨_, rfl⟩
          obtain rfl : t = m := by omega
          have hrl : rows.length = t := by rw [Hrows.out, List.length_map, rgs_len]; exact HPr.out.len
          have HRA : Hid (RowsAt wF wA.heap.size wA.heap.size t rows vs) := Lib.hid ⟨hrl, Hvl.out, Hro.out, fun q h1 h2 => own_rebase (Hfs.out q h1 h2 (by omega)) (by omega)⟩
          have Hjr : Hid (J pre wF) := Lib.hid (HJ.out pre wA wF none Hj.out (Go.Proofs.YtfmkmhhghmdakaaGreatDoor.Below.grown_none Hbr.out) (fun r e => by cases e))
          have Hkr : Hid (Keeps n₀ 68 W wF) := Lib.hid (Hkp.out.t ⟨Hbr.out.mono (by have := Hkp.out.low.size; have := Hlow.out.size; have := Hw0.out; omega), CellsRest.below Hbr.out⟩)
          have hfl : rows.flatten.length ≤ 100000 := by
            have h1 := flatten_le 120 rows (fun r hr => by
              rw [Hrows.out] at hr
              obtain ⟨a, ha, rfl⟩ := List.mem_map.1 hr
              exact Nat.le_trans (rowP_len a y) (Hlen.out a ha))
            rw [hrl] at h1
            omega
          clear Hro Hfs Hvl Hj hrl
          gi_wp2_with (first
            | (gi_at_call 179
               refine (callsIn_wide.2 (ends_any _ t t rows wF HRA.out.slss (by omega) hfl)).mono ?_
               rintro e w6 ⟨v6, rfl, hown6, hb6⟩
               obtain ⟨E6, e6, rfl, _, _, _⟩ := own_slice hown6
               have Hown6 := Lib.hid hown6
               have Hb6 := Lib.hid hb6
               clear hown6 hb6)
            | fail)
          have hs6 := Hb6.out.size
          have HR6 := Lib.hid (HRA.out.but (CellsRest.below Hb6.out))
          have HP6 := Lib.hid (HPr.out.but (CellsRest.below Hb6.out))
          have Hj6 : Hid (J pre w6) := Lib.hid (HJ.out pre wF w6 none Hjr.out (Go.Proofs.YtfmkmhhghmdakaaGreatDoor.Below.grown_none Hb6.out) (fun r e => by cases e))
          have Hk6 : Hid (Keeps n₀ 68 W w6) := Lib.hid (Hkr.out.t ⟨Hb6.out.mono (by have := Hkr.out.low.size; have := Hlow.out.size; have := Hw0.out; omega), CellsRest.below Hb6.out⟩)
          obtain ⟨nE, hnE⟩ : ∃ nE, (endsP rows).length = nE := ⟨_, rfl⟩
          have HnE := Lib.hid hnE
          obtain ⟨z, hz⟩ : ∃ z, z = C.getD (k + 1) 0 := ⟨_, rfl⟩
          have Hz := Lib.hid hz
          have HE6 : Hid (w6.ownsRow wF.heap.size 3 1 (.slice E6 nE e6) nE ((endsP rows).map (.int .i64))) := Lib.hid (by rw [← hnE]; exact Hown6.out)
          clear Hown6 hz
          rw [hnE]
          clear hnE HRA HPr Hjr Hkr
          gi_loopw [9, 10] (fun i _ wx => ∃ (s : Nat) (pre' : List Pc), i = .int .i64 ((s : Int) + 1) ∧ s ≤ nE - 1 ∧ pre'.map (·.1) = pre.map (·.1) ++ (List.range s).flatMap (onePc rows y z (endsP rows)) ∧ J pre' wx ∧ Keeps n₀ 68 w6 wx) (fun i _ _ => nE - (intOf i).toNat)
          case atStart => exact ⟨0, pre, rfl, by omega, by simp, Hj6.out, ⟨Below.refl _ _, CellsRest.refl _ _⟩⟩
          case round =>
            obtain ⟨wx, rfl⟩ : ∃ wx : World, wx = wr := ⟨_, rfl⟩
            obtain ⟨s, pre', rfl, hs1, hpre', hjx, hkx⟩ := hrel
            have Hpre' := Lib.hid hpre'
            have Hjx := Lib.hid hjx
            have Hkx := Lib.hid hkx
            clear hpre' hjx hkx
            by_cases hsn : s + 1 < nE
            · have hsn' : (s : Int) + 1 < (nE : Int) := by omega
              have hsE : s + 1 < (endsP rows).length := by have := HnE.out; omega
              have hsb : (s : Int) + 2 ≤ 9223372036854775807 := by have hml : maxLen = 2 ^ 63 - 1 := rfl; have := HnE.out; omega
              have HEx := Lib.hid (ownsRow_but HE6.out Hkx.out.but (by decide))
              obtain ⟨gE, cE, hgE, _, hgEl, _, _, hEc, _⟩ := own_at HEx.out (by omega)
              obtain ⟨rfl, rfl⟩ : E6 = some ⟨gE, 0, none⟩ ∧ e6 = cE := by injection hgE with h1 _ h3; exact ⟨h1, h3⟩
              obtain ⟨x, hx⟩ : ∃ x, x = (endsP rows).getD s 0 := ⟨_, rfl⟩
              obtain ⟨x', hx'⟩ : ∃ x', x' = (endsP rows).getD (s + 1) 0 := ⟨_, rfl⟩
              have cx : wx.cell? ⟨gE, s, none⟩ = some (.int .i64 x) := hEc s _ (by rw [List.getElem?_map, List.getElem?_eq_getElem (show s < (endsP rows).length by omega), hx]; simp [List.getD, List.getElem?_eq_getElem (show s < (endsP rows).length by omega)])
              have cx' : wx.cell? ⟨gE, s + 1, none⟩ = some (.int .i64 x') := hEc (s + 1) _ (by rw [List.getElem?_map, List.getElem?_eq_getElem hsE, hx']; simp [List.getD, List.getElem?_eq_getElem hsE])
              have Hx := Lib.hid hx
              have Hx' := Lib.hid hx'
              have HRx := Lib.hid (HR6.out.but Hkx.out.but)
              have HPx := Lib.hid (HP6.out.but Hkx.out.but)
              have hltx := HPx.out.lt
              obtain ⟨uv, hCb, hCo⟩ := HPx.out.cuts
              rw [← HC.out, HnC.out] at hCo
              obtain ⟨gC, cC, rfl, _, hgCl, _, _, hCc', _⟩ := own_at hCo (by omega)
              have hCk : k < C.length := by have := HnC.out; omega
              have hCk1 : k + 1 < C.length := by have := HnC.out; omega
              have cy : wx.cell? ⟨gC, k, none⟩ = some (.int .i64 y) := hCc' k _ (by rw [List.getElem?_map, List.getElem?_eq_getElem hCk, Hy.out]; simp [List.getD, List.getElem?_eq_getElem hCk])
              have cz : wx.cell? ⟨gC, k + 1, none⟩ = some (.int .i64 z) := hCc' (k + 1) _ (by rw [List.getElem?_map, List.getElem?_eq_getElem hCk1, Hz.out]; simp [List.getD, List.getElem?_eq_getElem hCk1])
              have cb := cell_of_row _ _ 0 _ _ _ hCb
              have e1 : IntKind.i64.wrap (s : Int) = (s : Int) := IntWalk.i64_in _ (by have hml : maxLen = 2 ^ 63 - 1 := rfl; have := HnE.out; omega)
              have e2 : IntKind.i64.wrap (k : Int) = (k : Int) := IntWalk.i64_in _ (by omega)
              have hsn0 : s < nE := by omega
              have hs01 : 0 ≤ (s : Int) + 1 := by omega
              have hk01 : 0 ≤ (k : Int) + 1 := by omega
              have hkn0 : k < nC := by omega
              clear hgE hEc hx hx' hCb hCo hCc'
              gi_upto_region 14 with (first
                | (gi_at_call 180
                   refine (callsIn_wide.2 (within_any' _ t t rows x wx HRx.out.slss (by omega))).mono ?_
                   rintro e w7 ⟨rfl, hb7⟩
                   have Hb7 := Lib.hid hb7
                   have d1 : w7.cell? ⟨gE, s, none⟩ = some (.int .i64 x) := (hb7.cell (p := ⟨gE, s, none⟩) hgEl).trans cx
                   have d2 : w7.cell? ⟨gE, s + 1, none⟩ = some (.int .i64 x') := (hb7.cell (p := ⟨gE, s + 1, none⟩) hgEl).trans cx'
                   have d3 : w7.cell? ⟨bc, 0, none⟩ = some (.slice (some ⟨gC, 0, none⟩) nC cC) := (hb7.cell (p := ⟨bc, 0, none⟩) hltx.1).trans cb
                   have d4 : w7.cell? ⟨gC, k, none⟩ = some (.int .i64 y) := (hb7.cell (p := ⟨gC, k, none⟩) hgCl).trans cy
                   have d5 : w7.cell? ⟨gC, k + 1, none⟩ = some (.int .i64 z) := (hb7.cell (p := ⟨gC, k + 1, none⟩) hgCl).trans cz
                   clear hb7)
                | fail)
              have Hj7 : Hid (J pre' w7) := Lib.hid (HJ.out pre' wx w7 none Hjx.out (Go.Proofs.YtfmkmhhghmdakaaGreatDoor.Below.grown_none Hb7.out) (fun r e => by cases e))
              have Hk7 : Hid (Keeps n₀ 68 w6 w7) := Lib.hid (Hkx.out.t ⟨Hb7.out.mono (by have := Hkx.out.low.size; have := Hk6.out.low.size; have := Hlow.out.size; have := Hw0.out; omega), CellsRest.below Hb7.out⟩)
              obtain ⟨st, hst⟩ : ∃ st, st = withinSP rows x := ⟨_, rfl⟩
              rw [← hst]
              have Hst := Lib.hid hst
              clear hst cx cx' cy cz cb
              have hst12 : st < 4096 := by rw [Hst.out]; exact withinSP_lt rows x (by rw [HRx.out.len]; omega)
              by_cases hs0 : st = 0
              · subst hs0
                refine wpIn_wide.2 ?_
                go_quiet (fail)
                gi_wp2
                go_roundw
                case rel =>
                  refine ⟨s + 1, pre', by go_num, by omega, ?_, HJ.out pre' w7 _ none Hj7.out (only_drewN (World.grownBy.refl _ _) _) (fun r e => by cases e), Hk7.out.t ⟨below_drewN (Below.refl _ _) _, ⟨Nat.le_refl _, fun _ _ _ _ _ h => h⟩⟩⟩
                  rw [Hpre'.out, List.range_succ, List.flatMap_append, List.flatMap_singleton]
                  unfold onePc
                  rw [← Hx.out, ← Hst.out, if_pos rfl, List.append_nil]
                case measure => simp [intOf]; omega
              · have hp1 : onePc rows y z (endsP rows) s = [(st, ⟨x, y, x', z⟩)] := by
                  unfold onePc
                  rw [← Hx.out, ← Hst.out, if_neg hs0, ← Hx'.out]
                obtain ⟨p, hp⟩ : ∃ p : Pc, p = ⟨(st, ⟨x, y, x', z⟩), hst12⟩ := ⟨_, rfl⟩
                have hmp : (pre' ++ [p]).map (·.1) = pre.map (·.1) ++ (List.range s).flatMap (onePc rows y z (endsP rows)) ++ onePc rows y z (endsP rows) s := by
                  rw [List.map_append, Hpre'.out, hp1, hp]
                  rfl
                have hpf : (pre' ++ [p]).map (·.1) <+: piecesP (rgs L) := by
                  rw [hmp, Hpre.out]
                  have := piece_prefix (rgs L) k s (by rw [← HC.out, HnC.out]; omega) rows (by rw [Hrows.out, Hy.out, HC.out]) hsE
                  rw [← HC.out, ← Hy.out, ← Hz.out] at this
                  rw [← HC.out]
                  exact this
                have hlN : pre'.length < N := by
                  have h1 := hpf.length_le
                  have h2 := HN.out
                  simp at h1
                  omega
                have Hmp := Lib.hid hmp
                have Hpf := Lib.hid hpf
                have Hj8 : Hid (J pre' w7.drew) := Lib.hid (HJ.out pre' w7 _ none Hj7.out (only_drew (World.grownBy.refl _ _)) (fun r e => by cases e))
                obtain ⟨fn, tmps, assign, body, hy, hR⟩ := HY.out pre' p w7.drew Hj8.out hlN
                have hs0' : ((st : Int) == 0) = false := by simp; omega
                have hs0'' : ((st : Int) != 0) = true := by simp; omega
                rw [hp] at hy
                dsimp only [pcV] at hy
                have HR := Lib.hid hR
                have Hy8 := Lib.hid hy
                clear hy
                clear hmp hpf hR hp1
                refine wpIn_region_head wideF (S := fun w' => w'.cell? ⟨gE, s, none⟩ = some (.int .i64 x) ∧ w'.cell? ⟨gE, s + 1, none⟩ = some (.int .i64 x') ∧ w'.cell? ⟨bc, 0, none⟩ = some (.slice (some ⟨gC, 0, none⟩) nC cC) ∧ w'.cell? ⟨gC, k, none⟩ = some (.int .i64 y) ∧ w'.cell? ⟨gC, k + 1, none⟩ = some (.int .i64 z)) 24 (by kernel_rfl) (by kernel_rfl) (fun _ _ h => h) ?_
                have hHeld : (fun w' : World => w'.cell? ⟨gE, s, none⟩ = some (.int .i64 x) ∧ w'.cell? ⟨gE, s + 1, none⟩ = some (.int .i64 x') ∧ w'.cell? ⟨bc, 0, none⟩ = some (.slice (some ⟨gC, 0, none⟩) nC cC) ∧ w'.cell? ⟨gC, k, none⟩ = some (.int .i64 y) ∧ w'.cell? ⟨gC, k + 1, none⟩ = some (.int .i64 z)) w7.drew := ⟨d1, d2, d3, d4, d5⟩
                simp only [List.take_succ_cons, List.take_zero, List.replicate]
                refine wpAnyH_take (i := 0) (v := ?vvb0) rfl (by kernel_rfl) (by kernel_rfl) (by kernel_rfl) (fun _ _ _ h => h) (Or.inl ⟨by rfl, ?hyb0⟩) hHeld ?restb0; (case hyb0 => (intro w hSw; (try dsimp only at hSw); go_simp; all_goals (with_reducible rfl))); simp only [Act.put, List.getElem_toArray, List.getElem_cons_zero, List.getElem_cons_succ, List.setIfInBounds_toArray, List.set_cons_zero, List.set_cons_succ]
                refine wpAnyH_take (i := 1) (v := ?vvb1) rfl (by kernel_rfl) (by kernel_rfl) (by kernel_rfl) (fun _ _ _ h => h) (Or.inl ⟨by rfl, ?hyb1⟩) hHeld ?restb1; (case hyb1 => (intro w hSw; (try dsimp only at hSw); go_simp; all_goals (with_reducible rfl))); simp only [Act.put, List.getElem_toArray, List.getElem_cons_zero, List.getElem_cons_succ, List.setIfInBounds_toArray, List.set_cons_zero, List.set_cons_succ]
                refine wpAnyH_take (i := 2) (v := ?vvb2) rfl (by kernel_rfl) (by kernel_rfl) (by kernel_rfl) (fun _ _ _ h => h) (Or.inl ⟨by rfl, ?hyb2⟩) hHeld ?restb2; (case hyb2 => (intro w hSw; (try dsimp only at hSw); go_simp; all_goals (with_reducible rfl))); simp only [Act.put, List.getElem_toArray, List.getElem_cons_zero, List.getElem_cons_succ, List.setIfInBounds_toArray, List.set_cons_zero, List.set_cons_succ]
                refine wpAnyH_take (i := 3) (v := ?vvb3) rfl (by kernel_rfl) (by kernel_rfl) (by kernel_rfl) (fun _ _ _ h => h) (Or.inl ⟨by rfl, ?hyb3⟩) hHeld ?restb3; (case hyb3 => (intro w hSw; (try dsimp only at hSw); go_simp; all_goals (with_reducible rfl))); simp only [Act.put, List.getElem_toArray, List.getElem_cons_zero, List.getElem_cons_succ, List.setIfInBounds_toArray, List.set_cons_zero, List.set_cons_succ]
                refine wpAnyH_take (i := 4) (v := ?vvb4) rfl (by kernel_rfl) (by kernel_rfl) (by kernel_rfl) (fun _ _ _ h => h) (Or.inl ⟨by rfl, ?hyb4⟩) hHeld ?restb4; (case hyb4 => (intro w hSw; (try dsimp only at hSw); go_simp; all_goals (with_reducible rfl))); simp only [Act.put, List.getElem_toArray, List.getElem_cons_zero, List.getElem_cons_succ, List.setIfInBounds_toArray, List.set_cons_zero, List.set_cons_succ]
                refine wpAnyH_take (i := 5) (v := ?vvb5) rfl (by kernel_rfl) (by kernel_rfl) (by kernel_rfl) (fun _ _ _ h => h) (Or.inl ⟨by rfl, ?hyb5⟩) hHeld ?restb5; (case hyb5 => (intro w hSw; (try dsimp only at hSw); go_simp; all_goals (with_reducible rfl))); simp only [Act.put, List.getElem_toArray, List.getElem_cons_zero, List.getElem_cons_succ, List.setIfInBounds_toArray, List.set_cons_zero, List.set_cons_succ]
                refine wpAnyH_take (i := 6) (v := ?vvb6) rfl (by kernel_rfl) (by kernel_rfl) (by kernel_rfl) (fun _ _ _ h => h) (Or.inl ⟨by rfl, ?hyb6⟩) hHeld ?restb6; (case hyb6 => (intro w hSw; (try dsimp only at hSw); go_simp; all_goals (with_reducible rfl))); simp only [Act.put, List.getElem_toArray, List.getElem_cons_zero, List.getElem_cons_succ, List.setIfInBounds_toArray, List.set_cons_zero, List.set_cons_succ]
                refine wpAnyH_take (i := 7) (v := ?vvb7) rfl (by kernel_rfl) (by kernel_rfl) (by kernel_rfl) (fun _ _ _ h => h) (Or.inl ⟨by rfl, ?hyb7⟩) hHeld ?restb7; (case hyb7 => (intro w hSw; (try dsimp only at hSw); go_simp; all_goals (with_reducible rfl))); simp only [Act.put, List.getElem_toArray, List.getElem_cons_zero, List.getElem_cons_succ, List.setIfInBounds_toArray, List.set_cons_zero, List.set_cons_succ]
                refine wpAnyH_take (i := 8) (v := ?vvb8) rfl (by kernel_rfl) (by kernel_rfl) (by kernel_rfl) (fun _ _ _ h => h) (Or.inl ⟨by rfl, ?hyb8⟩) hHeld ?restb8; (case hyb8 => (intro w hSw; (try dsimp only at hSw); go_simp; all_goals (with_reducible rfl))); simp only [Act.put, List.getElem_toArray, List.getElem_cons_zero, List.getElem_cons_succ, List.setIfInBounds_toArray, List.set_cons_zero, List.set_cons_succ]
                refine wpAnyH_take (i := 9) (v := ?vvb9) rfl (by kernel_rfl) (by kernel_rfl) (by kernel_rfl) (fun _ _ _ h => h) (Or.inl ⟨by rfl, ?hyb9⟩) hHeld ?restb9; (case hyb9 => (intro w hSw; (try dsimp only at hSw); go_simp; all_goals (with_reducible rfl))); simp only [Act.put, List.getElem_toArray, List.getElem_cons_zero, List.getElem_cons_succ, List.setIfInBounds_toArray, List.set_cons_zero, List.set_cons_succ]
                refine wpAnyH_take (i := 10) (v := ?vvb10) rfl (by kernel_rfl) (by kernel_rfl) (by kernel_rfl) (fun _ _ _ h => h) (Or.inl ⟨by rfl, ?hyb10⟩) hHeld ?restb10; (case hyb10 => (intro w hSw; (try dsimp only at hSw); go_simp; all_goals (with_reducible rfl))); simp only [Act.put, List.getElem_toArray, List.getElem_cons_zero, List.getElem_cons_succ, List.setIfInBounds_toArray, List.set_cons_zero, List.set_cons_succ]
                refine wpAnyH_take (i := 11) (v := ?vvb11) rfl (by kernel_rfl) (by kernel_rfl) (by kernel_rfl) (fun _ _ _ h => h) (Or.inl ⟨by rfl, ?hyb11⟩) hHeld ?restb11; (case hyb11 => (intro w hSw; (try dsimp only at hSw); go_simp; all_goals (with_reducible rfl))); simp only [Act.put, List.getElem_toArray, List.getElem_cons_zero, List.getElem_cons_succ, List.setIfInBounds_toArray, List.set_cons_zero, List.set_cons_succ]
                refine wpAnyH_take (i := 12) (v := ?vvb12) rfl (by kernel_rfl) (by kernel_rfl) (by kernel_rfl) (fun _ _ _ h => h) (Or.inl ⟨by rfl, ?hyb12⟩) hHeld ?restb12; (case hyb12 => (intro w hSw; (try dsimp only at hSw); go_simp; all_goals (with_reducible rfl))); simp only [Act.put, List.getElem_toArray, List.getElem_cons_zero, List.getElem_cons_succ, List.setIfInBounds_toArray, List.set_cons_zero, List.set_cons_succ]
                refine wpAnyH_take (i := 13) (v := ?vvb13) rfl (by kernel_rfl) (by kernel_rfl) (by kernel_rfl) (fun _ _ _ h => h) (Or.inl ⟨by rfl, ?hyb13⟩) hHeld ?restb13; (case hyb13 => (intro w hSw; (try dsimp only at hSw); go_simp; all_goals (with_reducible rfl))); simp only [Act.put, List.getElem_toArray, List.getElem_cons_zero, List.getElem_cons_succ, List.setIfInBounds_toArray, List.set_cons_zero, List.set_cons_succ]
                refine wpAnyH_take (i := 14) (v := ?vvb14) rfl (by kernel_rfl) (by kernel_rfl) (by kernel_rfl) (fun _ _ _ h => h) (Or.inl ⟨by rfl, ?hyb14⟩) hHeld ?restb14; (case hyb14 => (intro w hSw; (try dsimp only at hSw); go_simp; all_goals (with_reducible rfl))); simp only [Act.put, List.getElem_toArray, List.getElem_cons_zero, List.getElem_cons_succ, List.setIfInBounds_toArray, List.set_cons_zero, List.set_cons_succ]
                refine wpAnyH_take (i := 15) (v := ?vvb15) rfl (by kernel_rfl) (by kernel_rfl) (by kernel_rfl) (fun _ _ _ h => h) (Or.inl ⟨by rfl, ?hyb15⟩) hHeld ?restb15; (case hyb15 => (intro w hSw; (try dsimp only at hSw); go_simp; all_goals (with_reducible rfl))); simp only [Act.put, List.getElem_toArray, List.getElem_cons_zero, List.getElem_cons_succ, List.setIfInBounds_toArray, List.set_cons_zero, List.set_cons_succ]
                refine wpAnyH_take (i := 16) (v := ?vvb16) rfl (by kernel_rfl) (by kernel_rfl) (by kernel_rfl) (fun _ _ _ h => h) (Or.inl ⟨by rfl, ?hyb16⟩) hHeld ?restb16; (case hyb16 => (intro w hSw; (try dsimp only at hSw); go_simp; all_goals (with_reducible rfl))); simp only [Act.put, List.getElem_toArray, List.getElem_cons_zero, List.getElem_cons_succ, List.setIfInBounds_toArray, List.set_cons_zero, List.set_cons_succ]
                refine wpAnyH_take (i := 17) (v := ?vvb17) rfl (by kernel_rfl) (by kernel_rfl) (by kernel_rfl) (fun _ _ _ h => h) (Or.inl ⟨by rfl, ?hyb17⟩) hHeld ?restb17; (case hyb17 => (intro w hSw; (try dsimp only at hSw); go_simp; all_goals (with_reducible rfl))); simp only [Act.put, List.getElem_toArray, List.getElem_cons_zero, List.getElem_cons_succ, List.setIfInBounds_toArray, List.set_cons_zero, List.set_cons_succ]
                refine wpAnyH_take (i := 18) (v := ?vvb18) rfl (by kernel_rfl) (by kernel_rfl) (by kernel_rfl) (fun _ _ _ h => h) (Or.inl ⟨by rfl, ?hyb18⟩) hHeld ?restb18; (case hyb18 => (intro w hSw; (try dsimp only at hSw); go_simp; all_goals (with_reducible rfl))); simp only [Act.put, List.getElem_toArray, List.getElem_cons_zero, List.getElem_cons_succ, List.setIfInBounds_toArray, List.set_cons_zero, List.set_cons_succ]
                refine wpAnyH_take (i := 19) (v := ?vvb19) rfl (by kernel_rfl) (by kernel_rfl) (by kernel_rfl) (fun _ _ _ h => h) (Or.inl ⟨by rfl, ?hyb19⟩) hHeld ?restb19; (case hyb19 => (intro w hSw; (try dsimp only at hSw); go_simp; all_goals (with_reducible rfl))); simp only [Act.put, List.getElem_toArray, List.getElem_cons_zero, List.getElem_cons_succ, List.setIfInBounds_toArray, List.set_cons_zero, List.set_cons_succ]
                refine wpAnyH_take (i := 20) (v := ?vvb20) rfl (by kernel_rfl) (by kernel_rfl) (by kernel_rfl) (fun _ _ _ h => h) (Or.inl ⟨by rfl, ?hyb20⟩) hHeld ?restb20; (case hyb20 => (intro w hSw; (try dsimp only at hSw); go_simp; all_goals (with_reducible rfl))); simp only [Act.put, List.getElem_toArray, List.getElem_cons_zero, List.getElem_cons_succ, List.setIfInBounds_toArray, List.set_cons_zero, List.set_cons_succ]
                refine wpAnyH_take (i := 21) (v := ?vvb21) rfl (by kernel_rfl) (by kernel_rfl) (by kernel_rfl) (fun _ _ _ h => h) (Or.inl ⟨by rfl, ?hyb21⟩) hHeld ?restb21; (case hyb21 => (intro w hSw; (try dsimp only at hSw); go_simp; all_goals (with_reducible rfl))); simp only [Act.put, List.getElem_toArray, List.getElem_cons_zero, List.getElem_cons_succ, List.setIfInBounds_toArray, List.set_cons_zero, List.set_cons_succ]
                refine wpAnyH_take (i := 22) (v := ?vvb22) rfl (by kernel_rfl) (by kernel_rfl) (by kernel_rfl) (fun _ _ _ h => h) (Or.inl ⟨by rfl, ?hyb22⟩) hHeld ?restb22; (case hyb22 => (intro w hSw; (try dsimp only at hSw); go_simp; all_goals (with_reducible rfl))); simp only [Act.put, List.getElem_toArray, List.getElem_cons_zero, List.getElem_cons_succ, List.setIfInBounds_toArray, List.set_cons_zero, List.set_cons_succ]
                refine wpAnyH_take (i := 23) (v := ?vvb23) rfl (by kernel_rfl) (by kernel_rfl) (by kernel_rfl) (fun _ _ _ h => h) (Or.inl ⟨by rfl, ?hyb23⟩) hHeld ?restb23; (case hyb23 => (intro w hSw; (try dsimp only at hSw); go_simp; all_goals (with_reducible rfl))); simp only [Act.put, List.getElem_toArray, List.getElem_cons_zero, List.getElem_cons_succ, List.setIfInBounds_toArray, List.set_cons_zero, List.set_cons_succ]
                refine wpAnyH_done (by kernel_rfl) ?_ _
                clear hHeld
                show wpAnyIn _ _ _ _ _ _ _ _ _ _
                have hy := Hy8.out
                refine wpAnyIn_ready (rs := [24]) (by kernel_rfl) (by simp) ?_
                refine AllReadyIn.cons rfl (fun K hK => ?_) AllReadyIn.nil
                go_simp
                clear hy
                refine HR.out.mono ?_
                rintro e W3 (⟨rfl, hJ3, hk3⟩ | ⟨rfl, hJx3⟩)
                · have HJ3 := Lib.hid hJ3
                  have Hk3 := Lib.hid hk3
                  clear hJ3 hk3
                  refine hK _ _ ?_
                  clear hK K
                  (try simp only [Act.put, List.getElem_toArray, List.getElem_cons_zero, List.getElem_cons_succ, List.setIfInBounds_toArray, List.set_cons_zero, List.set_cons_succ])
                  refine wpAnyIn_ready (rs := [25]) (by kernel_rfl) (by simp) ?_
                  refine AllReadyIn.cons rfl (fun K hK => ?_) AllReadyIn.nil
                  go_simp
                  refine hK _ _ ?_
                  clear hK K
                  (try simp only [Act.put, List.getElem_toArray, List.getElem_cons_zero, List.getElem_cons_succ, List.setIfInBounds_toArray, List.set_cons_zero, List.set_cons_succ])
                  refine wpAnyIn_ready (rs := [26]) (by kernel_rfl) (by simp) ?_
                  refine AllReadyIn.cons rfl (fun K hK => ?_) AllReadyIn.nil
                  go_simp
                  refine hK _ _ ?_
                  clear hK K
                  (try simp only [Act.put, List.getElem_toArray, List.getElem_cons_zero, List.getElem_cons_succ, List.setIfInBounds_toArray, List.set_cons_zero, List.set_cons_succ])
                  refine wpAnyIn_done (by kernel_rfl) ?_ _
                  gi_wp2
                  go_roundw
                  case rel =>
                    refine ⟨s + 1, pre' ++ [p], by go_num, by omega, ?_, HJ3.out, Hk7.out.t (Keeps.t ⟨Below.drew (Below.refl _ _), ⟨Nat.le_refl _, fun _ _ _ _ _ h => h⟩⟩ Hk3.out)⟩
                    rw [Hmp.out, List.range_succ, List.flatMap_append, List.flatMap_singleton, List.append_assoc]
                  case measure => simp [intOf]; omega
                · have HJx3 := Lib.hid hJx3
                  clear hJx3
                  refine hK _ _ ?_
                  clear hK K
                  (try simp only [Act.put, List.getElem_toArray, List.getElem_cons_zero, List.getElem_cons_succ, List.setIfInBounds_toArray, List.set_cons_zero, List.set_cons_succ])
                  refine wpAnyIn_ready (rs := [25]) (by kernel_rfl) (by simp) ?_
                  refine AllReadyIn.cons rfl (fun K hK => ?_) AllReadyIn.nil
                  go_simp
                  refine hK _ _ ?_
                  clear hK K
                  (try simp only [Act.put, List.getElem_toArray, List.getElem_cons_zero, List.getElem_cons_succ, List.setIfInBounds_toArray, List.set_cons_zero, List.set_cons_succ])
                  refine wpAnyIn_ready (rs := [26]) (by kernel_rfl) (by simp) ?_
                  refine AllReadyIn.cons rfl (fun K hK => ?_) AllReadyIn.nil
                  go_simp
                  refine hK _ _ ?_
                  clear hK K
                  (try simp only [Act.put, List.getElem_toArray, List.getElem_cons_zero, List.getElem_cons_succ, List.setIfInBounds_toArray, List.set_cons_zero, List.set_cons_succ])
                  refine wpAnyIn_done (by kernel_rfl) ?_ _
                  gi_wp2
                  refine bodyPost_ret (results_none rfl _ _ _) rfl ?_
                  exact ⟨⟨_, rfl⟩, .inr ⟨pre' ++ [p], Hpf.out, HJx3.out⟩⟩
            · have hsn' : ¬ (s : Int) + 1 < (nE : Int) := by omega
              gi_wp2
              go_roundw
              case rel =>
                refine ⟨k + 1, pre', by go_num, by rw [← HC.out, HnC.out]; omega, ?_, Hjx.out, Hk6.out.t Hkx.out⟩
                have hss : s = (endsP rows).length - 1 := by have := HnE.out; omega
                rw [Hpre'.out, Hpre.out, List.range_succ, List.flatMap_append, hss, List.flatMap_singleton]
                unfold bandPcs rowPcs
                rw [← HC.out, ← Hy.out, ← Hz.out, ← Hrows.out]
              case measure => rw [← HC.out, HnC.out]; simp [intOf]; omega
    · have hkn' : ¬ (k : Int) + 1 < (nC : Int) := by omega
      gi_wp2
      go_end0
      refine ⟨⟨_, rfl⟩, .inl ⟨pre, ?_, Hj.out⟩⟩
      have hkk : k = nC - 1 := by omega
      rw [Hpre.out, hkk, ← HnC.out, HC.out]
      rfl

/-- The iterator of pieces, as a loop's law wants it. -/
theorem pieces_stops (n₀ bc bl bL : Nat) (A : Option Addr) (m c n : Nat) (L : RL) (w0 w : World) (hP : PcAt w n₀ bc bl bL A m c L) (hw0 : w0.heap.size = n₀) (hlow : Below n₀ w0 w) (hA : SlG w0 A m c L) (hm : m ≤ 12) (hpos : ∀ a ∈ rgs L, ∀ q ∈ a, q.l < q.r) (hlen : ∀ a ∈ rgs L, a.length ≤ 120) (hn : 3 ≤ n) :
    SeqStopsK Fence.wide n Tryz.prog 178 #[.pointer (some ⟨bc, 0, none⟩), .pointer (some ⟨bl, 0, none⟩), .pointer (some ⟨bL, 0, none⟩)] pcV (Keeps n₀ 68) (fun ys => ys.map (·.1) = piecesP (rgs L)) (fun pre => pre.map (·.1) <+: piecesP (rgs L)) (piecesP (rgs L)).length w :=
  fun l J Jx W hW hJ _ hY h0 => pieces1_in l n₀ bc bl bL A m c n _ L J Jx w0 W hY hJ (hP.but (CellsRest.below hW)) hw0 (hlow.trans (hW.mono (by have := hlow.size; omega))) hA hm hpos hlen (Nat.le_refl _) hn h0
end Go.Proofs.YtfmkmhhghmdakaaGreatDoor
namespace Go.Proofs.YtfmkmhhghmdakaaGreatDoor
open Go.RowKit Go.Shelf Go.Maps
set_option linter.unusedVariables false
set_option linter.unusedSimpArgs false

/-- Each set's rectangles lie in a row of their own. -/
structure Grp (W : World) (B : Nat) (pre : List (Nat × R4)) (D : DataW Value) (f : Nat → Value) : Prop where
  map : IsMap D
  at' : ∀ s : Nat, D.atKey (.int .i64 (s : Int)) (.held (.slice none 0 0)) = .held (f s)
  own : ∀ s, W.ownsRow B 68 4 (f s) (ofPc pre s).length (rCells (ofPc pre s))
  ap : ∀ s t, s ≠ t → ∀ g, (f s).ownBlock = some g → (f t).ownBlock ≠ some g
  has : ∀ x : Int, Maps.has D (.int .i64 x) = true ↔ ∃ p ∈ pre, ((p.1 : Nat) : Int) = x
theorem Grp.empty (W : World) (B : Nat) : Grp W B [] (.map []) (fun _ => .slice none 0 0) :=
  ⟨isMap_empty, fun _ => rfl, fun _ => World.ownsRow_nil _ _ _ _, fun _ _ _ g h => (by simp [Value.ownBlock] at h), fun x => by simp [Maps.has]⟩
theorem Grp.keep {W W' : World} {B : Nat} {pre : List (Nat × R4)} {D : DataW Value} {f : Nat → Value} (h : Grp W B pre D f) {row : Option Nat} (hg : W.grownBy W' row) (hr : ∀ r, row = some r → ∃ o : Obj, W.heap[r]? = some o ∧ o.isCells = false) : Grp W' B pre D f :=
  ⟨h.map, h.at', fun s => own_grown (h.own s) hg (fun g hgs e => by
    obtain ⟨o, ho, hc⟩ := hr g e
    rcases (h.own s).2 with ⟨hv, _⟩ | ⟨g', cap, cur, hv, _, hh, _⟩
    · rw [hv] at hgs; simp [Value.ownBlock] at hgs
    · rw [hv] at hgs
      have : g' = g := by simpa [Value.ownBlock] using hgs
      subst this
      rw [hh] at ho
      cases ho
      cases hc), h.ap, h.has⟩
theorem Grp.below {W W' : World} {B : Nat} {pre : List (Nat × R4)} {D : DataW Value} {f : Nat → Value} (h : Grp W B pre D f) (hb : Below W.heap.size W W') : Grp W' B pre D f := h.keep (Go.Proofs.YtfmkmhhghmdakaaGreatDoor.Below.grown_none hb) (fun r e => by cases e)
theorem lit_ne {s t : Int} (h : s ≠ t) : (Lit.int .i64 s) ≠ .int .i64 t := fun e => h (by injection e)
/-- Behind 'of[s] = append(of[s], r)'. -/
theorem Grp.step {W W' : World} {B : Nat} {pre : List (Nat × R4)} {D : DataW Value} {f : Nat → Value} (h : Grp W B pre D f) (p : Nat × R4) {v' : Value}
    (hown : W'.ownsRow B 68 4 v' ((ofPc pre p.1).length + 1) (rCells (ofPc pre p.1) ++ [.int .i64 p.2.l, .int .i64 p.2.b, .int .i64 p.2.r, .int .i64 p.2.t])) (hoth : ∀ t, t ≠ p.1 → W'.ownsRow B 68 4 (f t) (ofPc pre t).length (rCells (ofPc pre t)))
    (hat : v'.ownBlock = (f p.1).ownBlock ∨ ∃ g, v'.ownBlock = some g ∧ ∀ t, (f t).ownBlock ≠ some g) : Grp W' B (pre ++ [p]) (D.put (.int .i64 (p.1 : Int)) (.held v')) (fun t => if t = p.1 then v' else f t) := by
  have hk : WideAt.IsKeyLit (.int .i64 (p.1 : Int)) := trivial
  have hal : ∀ t, t ≠ p.1 → ∀ g, v'.ownBlock = some g → (f t).ownBlock ≠ some g := by
    intro t ht g hg
    rcases hat with e | ⟨g', e, hno⟩
    · rw [e] at hg
      exact h.ap p.1 t (fun e => ht e.symm) g hg
    · rw [e] at hg
      injection hg with hg
      subst hg
      exact hno t
  refine ⟨h.map.put _ _, fun s => ?_, fun s => ?_, fun s t hst g hs => ?_, fun x => ?_⟩
  · by_cases hs : s = p.1
    · subst hs
      rw [if_pos rfl]
      exact atKey_put_same h.map hk _ _
    · rw [if_neg hs, atKey_put_other (lit_ne (by omega))]
      exact h.at' s
  · rw [ofPc_snoc]
    by_cases hs : s = p.1
    · subst hs
      rw [if_pos rfl, if_pos rfl, List.length_append, rCells_snoc]
      exact hown
    · rw [if_neg hs, if_neg (fun e => hs e.symm)]
      exact hoth s hs
  · by_cases h1 : s = p.1
    · rw [if_pos h1] at hs
      rw [if_neg (fun e => hst (h1.trans e.symm))]
      exact hal t (fun e => hst (h1.trans e.symm)) g hs
    · rw [if_neg h1] at hs
      by_cases h2 : t = p.1
      · rw [if_pos h2]
        exact fun e => hal s h1 g e hs
      · rw [if_neg h2]
        exact h.ap s t hst g hs
  · by_cases hx : x = (p.1 : Int)
    · subst hx
      rw [has_put_same h.map hk]
      simp
    · rw [has_put_other (lit_ne hx), h.has]
      constructor
      · rintro ⟨q, hq, e⟩
        exact ⟨q, by simp [hq], e⟩
      · rintro ⟨q, hq, e⟩
        rcases List.mem_append.1 hq with hq | hq
        · exact ⟨q, hq, e⟩
        · rw [List.mem_singleton] at hq
          subst hq
          exact absurd e.symm hx
/-- What a look-up yields is the default, or stands in the map. -/
theorem held_in {P : Program} {w : World} {k t E : TypeId} {b n : Nat} {D : DataW Value} (h : w.ownsMap P k VR b n D) (K : Keyed P k) (ht : P.underlying t = some (.map k E)) {z : Value} (hz : (zeroValue E).run P w = .ok z w) {key : Value} {kl : Lit} (hkey : keyOf P k key = some kl) {v : Value} (hat : D.atKey kl (.held z) = .held v)
    {es : Array MapEntry} {clock : Nat} (hb : w.heap[b]? = some (.map es clock)) : v = z ∨ ∃ e ∈ es.toList, e.val = v := by
  obtain ⟨es', clock', hb', F, _, rfl⟩ := h
  rw [hb] at hb'
  injection hb' with hb'
  injection hb' with h1 h2
  subst h1
  subst h2
  rcases Maps.fit_look false K ht hz hb F hkey with ⟨_, _, hn⟩ | ⟨e0, y, he, _, _, hR, hy, _⟩
  · left
    rw [hn] at hat
    injection hat with hat
    exact hat.symm
  · right
    refine ⟨e0, he, ?_⟩
    rw [hy] at hat
    unfold VR at hR
    injection hR with hR
    rw [← hR] at hat
    injection hat
/-- What stands in the map lies in the world. -/
theorem Grp.entry_lt {P : Program} {w : World} {k t E : TypeId} {b n B : Nat} {D : DataW Value} {pre : List (Nat × R4)} {f : Nat → Value} (hg : Grp w B pre D f) (h : w.ownsMap P k VR b n D) (K : Keyed P k) (hk : P.underlying k = some (.int .i64)) (ht : P.underlying t = some (.map k E)) {z : Value} (hz : (zeroValue E).run P w = .ok z w)
    {es : Array MapEntry} {clock : Nat} (hb : w.heap[b]? = some (.map es clock)) : ∀ e ∈ es.toList, ∀ g, e.val.ownBlock = some g → g < w.heap.size := by
  intro e he g hgv
  obtain ⟨es', clock', hb', F, _, hD⟩ := h
  rw [hb] at hb'
  injection hb' with hb'
  injection hb' with h1 h2
  subst h1
  subst h2
  obtain ⟨y, hy⟩ := F.reads e he
  obtain ⟨x, hkx, hlx, hwx⟩ := Maps.keyOf_i64 hk (Go.WideElems.rd_key hy)
  rcases Maps.fit_look false K ht hz hb F (Go.WideElems.rd_key hy) with ⟨_, hno, _⟩ | ⟨e0, y0, he0, hk0, _, hR, hat, _⟩
  · exact absurd rfl (hno e he)
  · rw [← hD, hlx] at hat
    have hhas : Maps.has D (.int .i64 x) = true := Maps.has_true_of_atKey hat
    obtain ⟨p, hp, hpx⟩ := (hg.has x).1 hhas
    have h3 := hat (.held (.slice none 0 0))
    rw [← hpx, hg.at' p.1] at h3
    unfold VR at hR
    injection hR with hR
    rw [← hR] at h3
    injection h3 with h3
    have hee : e0 = e := by
      obtain ⟨i, hi, ei⟩ := List.getElem_of_mem he0
      obtain ⟨j, hj, ej⟩ := List.getElem_of_mem he
      have hn : es.toList.Pairwise (fun x y => x.key ≠ y.key) := ((Go.MapKept.stamped_iff es clock).1 F.stamped).2.2
      rcases Nat.lt_trichotomy i j with h | h | h
      · exact absurd (by rw [ei, ej]; exact hk0) (List.pairwise_iff_getElem.1 hn i j hi hj h)
      · subst h; rw [← ei, ← ej]
      · exact absurd (by rw [ei, ej]; exact hk0.symm) (List.pairwise_iff_getElem.1 hn j i hj hi h)
    subst hee
    rw [← h3] at hgv
    exact own_lt (hg.own p.1) g hgv
/-- A row is no block of another kind. -/
theorem own_kind {W : World} {base : Nat} {e : TypeId} {size n : Nat} {v : Value} {xs : List Value} (h : W.ownsRow base e size v n xs) {B : Nat} {o : Obj} (hB : W.heap[B]? = some o) (ho : ∀ cs i, o ≠ .cells cs e i) : v.ownBlock ≠ some B := by
  intro hv
  rcases h.2 with ⟨h1, _⟩ | ⟨g, cap, cur, h1, _, hh, _⟩
  · rw [h1] at hv; simp [Value.ownBlock] at hv
  · rw [h1] at hv
    have : g = B := by simpa [Value.ownBlock] using hv
    subst this
    rw [hh] at hB
    injection hB with hB
    exact ho _ _ hB.symm
theorem own_rows {W : World} {base : Nat} {e : TypeId} {size n : Nat} {v : Value} {xs : List Value} (h : W.ownsRow base e size v n xs) : ∀ g, v.ownBlock = some g → ∀ cs T i, W.heap[g]? = some (.cells cs T i) → T = e := by
  intro g hg cs T i hh
  apply Classical.byContradiction
  intro hT
  exact own_kind h hh (fun cs' i' e1 => hT (by injection e1)) hg
theorem flatMap_le {α β : Type} (b : Nat) (f : α → List β) : ∀ l : List α, (∀ a ∈ l, (f a).length ≤ b) → (l.flatMap f).length ≤ b * l.length
  | [], _ => by simp
  | a :: t, h => by
    have h1 := h a (by simp)
    have h2 := flatMap_le b f t (fun x hx => h x (by simp [hx]))
    rw [List.flatMap_cons, List.length_append, List.length_cons, Nat.mul_succ]
    omega
theorem rows_flat (y : Int) : ∀ m : List (List R4), (m.map fun a => rowP a y).flatten.length ≤ m.flatten.length
  | [] => by simp
  | a :: t => by
    have h1 := rowP_len a y
    have h2 := rows_flat y t
    simp only [List.map_cons, List.flatten_cons, List.length_append]
    omega
theorem pieces_len {m : List (List R4)} (h : m.flatten.length ≤ 45) : (piecesP m).length ≤ 8100 := by
  have hC : (cutsP m.flatten).length ≤ 90 := by
    have h1 := (asc_all (yEdges m.flatten)).2.2
    rw [yEdges_len] at h1
    unfold cutsP
    omega
  have hb : ∀ i, (bandPcs m (cutsP m.flatten) i).length ≤ 90 := by
    intro i
    unfold bandPcs rowPcs
    have hE : (endsP (m.map fun a => rowP a ((cutsP m.flatten).getD i 0))).length ≤ 90 := by
      have h1 : (endsP (m.map fun a => rowP a ((cutsP m.flatten).getD i 0))).length ≤ (ssEdges (m.map fun a => rowP a ((cutsP m.flatten).getD i 0))).length := (asc_all _).2.2
      have h2 := rows_flat ((cutsP m.flatten).getD i 0) m
      rw [ssEdges_len] at h1
      omega
    have := flatMap_le 1 (onePc (m.map fun a => rowP a ((cutsP m.flatten).getD i 0)) ((cutsP m.flatten).getD i 0) ((cutsP m.flatten).getD (i + 1) 0) (endsP (m.map fun a => rowP a ((cutsP m.flatten).getD i 0)))) (List.range ((endsP (m.map fun a => rowP a ((cutsP m.flatten).getD i 0))).length - 1)) (fun k _ => by unfold onePc; split <;> simp)
    rw [List.length_range] at this
    omega
  have h3 := flatMap_le 90 (bandPcs m (cutsP m.flatten)) (List.range ((cutsP m.flatten).length - 1)) (fun i _ => hb i)
  rw [List.length_range] at h3
  have h4 : 90 * ((cutsP m.flatten).length - 1) ≤ 90 * 90 := Nat.mul_le_mul_left 90 (by omega)
  unfold piecesP
  omega
/-- Two ascending lists with the same elements are one. -/
theorem asc_one : ∀ (l m : List Int), l.Pairwise (· < ·) → m.Pairwise (· < ·) → (∀ x, x ∈ l ↔ x ∈ m) → l = m := by
  intro l m hl hm h
  have hn : ∀ {k : List Int}, k.Pairwise (· < ·) → k.Nodup := fun hk => hk.imp fun {a b} hab e => by omega
  have hp : l.Perm m := (List.perm_ext_iff_of_nodup (hn hl) (hn hm)).2 h
  exact List.Perm.eq_of_pairwise (le := fun a b => a < b) (fun a b _ _ h1 h2 => by omega) hl hm hp
/-- The keys, sorted. -/
theorem keys_sorted {P : Program} {k : TypeId} {w : World} {b n B : Nat} {D : DataW Value} (hown : w.ownsMap P k VR b n D) (K : Keyed P k) (hk : P.underlying k = some (.int .i64)) {W : World} {pre : List (Nat × R4)} {f : Nat → Value} (h : Grp W B pre D f) {ss : List Int} (hp : ss.Perm (intKeys D)) :
    ss.mergeSort (fun x y => decide (x ≤ y)) = keysPc pre := by
  obtain ⟨es, hD, hpw, _⟩ := hown.entries K
  obtain ⟨es', hD', hko⟩ := hown.keysOf
  obtain rfl : es = es' := by rw [hD] at hD'; simpa using hD'
  have hint : ∀ q ∈ es, ∃ x, q.1 = .int .i64 x := fun q hq => by
    obtain ⟨v, hv⟩ := hko q hq
    obtain ⟨x, _, hx, _⟩ := Maps.keyOf_i64 hk hv
    exact ⟨x, hx⟩
  have hmem : ∀ x : Int, x ∈ intKeys D ↔ ∃ p ∈ pre, ((p.1 : Nat) : Int) = x := by
    intro x
    rw [← h.has x, hD, Maps.has_eq, List.any_eq_true]
    show x ∈ es.map (fun p => Go.intOf p.1) ↔ _
    rw [List.mem_map]
    constructor
    · rintro ⟨q, hq, e⟩
      obtain ⟨y, hy⟩ := hint q hq
      refine ⟨q, hq, ?_⟩
      rw [hy] at e ⊢
      simp only [Go.intOf] at e
      subst e
      simp [Lit.sameKey]
    · rintro ⟨q, hq, e⟩
      obtain ⟨y, hy⟩ := hint q hq
      refine ⟨q, hq, ?_⟩
      rw [hy] at e ⊢
      have := WideAt.sameKey_eq e
      injection this with _ this
  have hnd : (intKeys D).Nodup := by
    rw [hD]
    show (es.map fun p => Go.intOf p.1).Nodup
    refine List.pairwise_map.2 (hpw.imp_of_mem fun {p q} hp' hq' hne e => hne ?_)
    obtain ⟨a, ha⟩ := hint p hp'
    obtain ⟨b, hb⟩ := hint q hq'
    rw [ha, hb] at e ⊢
    exact congrArg _ e
  have hs1 : (ss.mergeSort fun x y => decide (x ≤ y)).Pairwise (· ≤ ·) := srt_le ss
  have hs2 : (ss.mergeSort fun x y => decide (x ≤ y)).Nodup := ((List.mergeSort_perm ss _).trans hp).nodup_iff.2 hnd
  refine asc_one _ _ ?_ (asc_all _).1 fun x => ?_
  · exact (hs1.and hs2).imp fun {a b} hab => by have := hab.1; have := hab.2; omega
  · rw [((List.mergeSort_perm ss _).trans hp).mem_iff, hmem]
    unfold keysPc
    rw [(asc_all _).2.1, List.mem_map]

/-! ## Rows of faces -/
abbrev FL := List (Fc × LV)
def fcC (x : Fc × LV) : List Value := [.int .i64 x.1.set, .slice x.2.a x.1.rg.length x.2.c]
def fcCells (l : FL) : List Value := l.flatMap fcC
theorem fcCells_snoc (l : FL) (x : Fc × LV) : fcCells (l ++ [x]) = fcCells l ++ [.int .i64 x.1.set, .slice x.2.a x.1.rg.length x.2.c] := by simp [fcCells, fcC]
theorem fcCells_at (l : FL) (i : Nat) (h : i < l.length) : (fcCells l)[i * 2]? = some (.int .i64 l[i].1.set) ∧ (fcCells l)[i * 2 + 1]? = some (.slice l[i].2.a l[i].1.rg.length l[i].2.c) := by
  induction l generalizing i with
  | nil => simp at h
  | cons o r ih =>
    have hc : fcCells (o :: r) = fcC o ++ fcCells r := by simp [fcCells]
    have hl : (fcC o).length = 2 := rfl
    rw [hc]
    rcases i with _ | i
    · simp [fcC]
    · have := ih i (by simpa using h)
      refine ⟨?_, ?_⟩ <;> (rw [List.getElem?_append_right (by rw [hl]; omega), hl])
      · rw [show (i + 1) * 2 - 2 = i * 2 from by omega]; exact this.1
      · rw [show (i + 1) * 2 + 1 - 2 = i * 2 + 1 from by omega]; exact this.2
def fcs (l : FL) : List Fc := l.map (·.1)
structure FsOwn (w : World) (base : Nat) (v : Value) (l : FL) : Prop where
  o : w.ownsRow base 63 2 v l.length (fcCells l)
  fs : ∀ x ∈ l, w.ownsRow base 68 4 (.slice x.2.a x.1.rg.length x.2.c) x.1.rg.length (rCells x.1.rg)
  ap : ∀ x ∈ l, ∀ g, v.ownBlock = some g → (Value.slice x.2.a x.1.rg.length x.2.c).ownBlock ≠ some g
section
variable {w w' : World} {base : Nat} {v : Value} {l : FL}
theorem FsOwn.nil (w : World) (base : Nat) : FsOwn w base (.slice none 0 0) [] := ⟨World.ownsRow_nil _ _ _ _, fun _ h => by simp at h, fun _ h => by simp at h⟩
theorem FsOwn.keep (h : FsOwn w base v l) (hk : ∀ b, b < w.heap.size → base ≤ b → w'.heap[b]? = w.heap[b]?) : FsOwn w' base v l := ⟨own_keep h.o hk, fun x hx => own_keep (h.fs x hx) hk, h.ap⟩
theorem FsOwn.only {g : Nat} (h : FsOwn w base v l) (hg : w.grownBy w' (some g)) (hlt : g < base) : FsOwn w' base v l := h.keep fun b hb hB => hg.block b hb (fun e => by injection e; omega)
theorem FsOwn.rebase {base' : Nat} (h : FsOwn w base v l) (hb : base' ≤ base) : FsOwn w base' v l := ⟨own_rebase h.o hb, fun x hx => own_rebase (h.fs x hx) hb, h.ap⟩
theorem FsOwn.push {wa w5 : World} (h : FsOwn w base v l) (x : Fc × LV) (hx : wa.ownsRow base 68 4 (.slice x.2.a x.1.rg.length x.2.c) x.1.rg.length (rCells x.1.rg)) (hxa : ∀ g, v.ownBlock = some g → (Value.slice x.2.a x.1.rg.length x.2.c).ownBlock ≠ some g) {v5 : Value}
    (ha : Below w.heap.size w wa) (hg : wa.grownBy w5 v.ownBlock) (hown : w5.ownsRow base 63 2 v5 (l.length + 1) (fcCells l ++ [.int .i64 x.1.set, .slice x.2.a x.1.rg.length x.2.c])) (hat : v5.ownBlock = v.ownBlock ∨ v5.ownBlock = some wa.heap.size) : FsOwn w5 base v5 (l ++ [x]) := by
  have hall : ∀ y ∈ l ++ [x], wa.ownsRow base 68 4 (.slice y.2.a y.1.rg.length y.2.c) y.1.rg.length (rCells y.1.rg) ∧ ∀ g, v.ownBlock = some g → (Value.slice y.2.a y.1.rg.length y.2.c).ownBlock ≠ some g := by
    intro y hy
    rcases List.mem_append.1 hy with h1 | h1
    · exact ⟨ownsRow_below (h.fs y h1) ha, h.ap y h1⟩
    · rw [List.mem_singleton] at h1
      subst h1
      exact ⟨hx, hxa⟩
  refine ⟨?_, fun y hy => own_grown (hall y hy).1 hg (fun g hg2 e => (hall y hy).2 g e hg2), fun y hy g hg2 e => ?_⟩
  · rw [List.length_append, fcCells_snoc]
    exact hown
  rcases hat with h0 | h0
  · exact (hall y hy).2 g (by rw [← h0]; exact hg2) e
  · rw [h0] at hg2
    injection hg2 with hg2
    have := own_lt (hall y hy).1 g e
    omega
end
/-- A row of faces, read. -/
structure SlF (w : World) (A : Option Addr) (n c : Nat) (l : FL) : Prop where
  len : l.length = n
  cap : n ≤ c
  top : c ≤ maxLen
  lies : Lies w A n (fcCells l)
  fits : ∀ x ∈ l, SlR w x.2.a x.1.rg.length x.2.c x.1.rg
theorem SlF.below {w w' : World} {A : Option Addr} {n c : Nat} {l : FL} (h : SlF w A n c l) (hb : Below w.heap.size w w') : SlF w' A n c l := ⟨h.len, h.cap, h.top, h.lies.below hb, fun x hx => (h.fits x hx).below hb⟩
theorem SlF.at {w : World} {A : Option Addr} {n c : Nat} {l : FL} (h : SlF w A n c l) (i : Nat) (hi : i < l.length) : ∃ b off, A = some ⟨b, off, none⟩ ∧ b < w.heap.size ∧ w.cell? ⟨b, off + i * 2, none⟩ = some (.int .i64 l[i].1.set) ∧ w.cell? ⟨b, off + i * 2 + 1, none⟩ = some (.slice l[i].2.a l[i].1.rg.length l[i].2.c) ∧ SlR w l[i].2.a l[i].1.rg.length l[i].2.c l[i].1.rg := by
  rcases h.lies with h0 | ⟨b, off, rfl, hb, hc⟩
  · have := h.len; omega
  · exact ⟨b, off, rfl, hb, hc _ _ (fcCells_at l i hi).1, by rw [Nat.add_assoc]; exact hc _ _ (fcCells_at l i hi).2, h.fits _ (List.getElem_mem hi)⟩
theorem FsOwn.slf {w : World} {base : Nat} {l : FL} {A : Option Addr} {c : Nat} (h : FsOwn w base (.slice A l.length c) l) : SlF w A l.length c l := by
  obtain ⟨A', c', e, h1, h2, h3⟩ := own_slice h.o
  injection e with e1 e2 e3
  subst e1 e3
  refine ⟨rfl, h2, h3, h1, fun x hx => ?_⟩
  obtain ⟨A2, c2, e, h4⟩ := SlR.of_own (h.fs x hx)
  injection e with e1 e2 e3
  rw [e1, e3]
  exact h4
theorem Tryz.infoFace : (Tryz.prog.info? 63).map (fun i => (i.zero, i.size, i.bytes)) = some (some (.agg #[.int .i64 0, .slice none 0 0]), 2, 32) := by kernel_rfl
end Go.Proofs.YtfmkmhhghmdakaaGreatDoor
namespace Go.Proofs.YtfmkmhhghmdakaaGreatDoor
open Go.RowKit Go.Shelf Go.Maps
set_option linter.unusedVariables false
set_option linter.unusedSimpArgs false
attribute [local go_sem] Oper.semAt_some

/-- What Faces leaves. -/
def FcPost (w : World) (x : List Fc × Int) (e : Ending) (w' : World) : Prop :=
  ∃ (l : FL) (v : Value), e = .returned (.tuple #[v, .int .i64 x.2]) ∧ FsOwn w' w.heap.size v l ∧ fcs l = x.1 ∧ Below w.heap.size w w'

set_option maxHeartbeats 1000000 in
theorem faces_many (A : Option Addr) (n c : Nat) (l : RL) (w : World) (hA : SlG w A n c l) (hn : 12 < n) : Calls Tryz.prog 20 #[.slice A n c] w (FcPost w (facesP (rgs l))) := by
  have e : facesP (rgs l) = ([], 1) := by unfold facesP; rw [if_pos (by rw [rgs_len, hA.len]; exact hn)]
  rw [e]
  clear e hA
  have hn' : (12 : Int) < (n : Int) := by omega
  go_enter Tryz.func20, Tryz.ntmps20
  go_wp2
  go_ret2
  exact ⟨[], _, rfl, FsOwn.nil _ _, rfl, Below.refl _ _⟩
set_option maxHeartbeats 1000000 in
theorem faces_bad (A : Option Addr) (n c : Nat) (l : RL) (w : World) (hA : SlG w A n c l) (hn : n ≤ 12) (hv : (rgs l).all validP = false) : Calls Tryz.prog 20 #[.slice A n c] w (FcPost w (facesP (rgs l))) := by
  have e : facesP (rgs l) = ([], 7) := by unfold facesP; rw [if_neg (by rw [rgs_len, hA.len]; omega), if_neg (by rw [hv]; simp)]
  rw [e]
  have hn' : ¬ (12 : Int) < (n : Int) := by omega
  have hany : (l.any fun x => !validP x.1) = true := by
    rw [any_not_all]
    have : (l.all fun x => validP x.1) = (rgs l).all validP := by simp [rgs, List.all_map]; rfl
    rw [this, hv]
    rfl
  have Hany := Lib.hid hany
  have HA := Lib.hid hA
  have eg : ∀ args w, (callFunc 72 args).run Tryz.prog w = .ok (.enter 72 args) w := enters_of Tryz.func72 (by kernel_rfl) rfl
  have Eg := Lib.hid eg
  clear e hA hany hv eg
  go_enter Tryz.func20, Tryz.ntmps20
  go_wp2_with (first
    | (go_at_call 71
       refine (containsG_any (fun x => !validP x.1) 72 #[] Eg.out A n c l _ HA.out (validF _)).mono ?_
       rintro e w1 ⟨rfl, hb1⟩
       rw [Hany.out])
    | fail)
  go_ret2
  exact ⟨[], _, rfl, FsOwn.nil _ _, rfl, hb1⟩

theorem PcAt.rebase {W : World} {n₀ n₁ bc bl bL : Nat} {A : Option Addr} {n c : Nat} {l : RL} (h : PcAt W n₀ bc bl bL A n c l) (hb : n₁ ≤ n₀) : PcAt W n₁ bc bl bL A n c l := by
  obtain ⟨v, h1, h2⟩ := h.lists
  obtain ⟨u, h3, h4⟩ := h.cuts
  exact ⟨h.lt, h.regs, h.len, ⟨v, h1, own_rebase h2 hb⟩, u, h3, own_rebase h4 hb⟩
theorem lawIntO : Keyed Tryz.prog 3 := int_keyed Tryz.underlying3
theorem zeroRects : ∀ u : World, (zeroValue 31).run Tryz.prog u = .ok (.slice none 0 0) u := Tryz.zeroValue31
theorem pieces_cut {m : List (List R4)} : ∀ p ∈ piecesP m, p.2.b ∈ cutsP m.flatten ∧ p.2.t ∈ cutsP m.flatten := by
  intro p hp
  obtain ⟨i, hi, hp⟩ := List.mem_flatMap.1 hp
  obtain ⟨k, hk, hp⟩ := List.mem_flatMap.1 hp
  rw [List.mem_range] at hi hk
  unfold onePc at hp
  split at hp
  · simp at hp
  · rw [List.mem_singleton] at hp
    subst hp
    exact ⟨getD_mem (by omega), getD_mem (by omega)⟩
theorem ofPc_cuts {m : List (List R4)} (h : m.flatten.length ≤ 45) (s : Nat) : (cutsP (ofPc (piecesP m) s)).length ≤ 90 := by
  have hC : (cutsP m.flatten).length ≤ 90 := by
    have h1 := (asc_all (yEdges m.flatten)).2.2
    rw [yEdges_len] at h1
    unfold cutsP
    omega
  refine Nat.le_trans (more_law.sub_lenO (s := 0) _ (cutsP m.flatten) (asc_all _).1 (fun e he => ?_)) hC
  have he' := ((asc_all _).2.1 e).1 he
  unfold yEdges at he'
  obtain ⟨q, hq, he'⟩ := List.mem_flatMap.1 he'
  unfold ofPc at hq
  obtain ⟨p, hp, rfl⟩ := List.mem_map.1 hq
  have hc := pieces_cut p (List.mem_filter.1 hp).1
  simp only [List.mem_cons, List.not_mem_nil, or_false] at he'
  rcases he' with rfl | rfl
  · exact hc.1
  · exact hc.2
theorem ofPc_len (l : List (Nat × R4)) (s : Nat) : (ofPc l s).length ≤ l.length := by
  unfold ofPc
  rw [List.length_map]
  exact List.length_filter_le _ _
theorem Tryz.sortsF (m : Nat) : AnyZI.SortsIn Tryz.prog Tryz.sortedA_ren Fence.wide m :=
  ⟨fun blk off cap ss W hH hblk hsz => callsIn_wide.2 (AnyM.slices_Sort_int Tryz.laySort blk off cap ss W hH hblk hsz),
   fun p cap W => callsIn_wide.2 (AnyM.slices_Sort_int_none Tryz.laySort p cap W)⟩
theorem facesP_big {m : List (List R4)} (h1 : ¬ 12 < m.length) (h2 : m.all validP = true) : facesP m = if (keysPc (piecesP m)).any (bigF m) then ([], 1) else ((keysPc (piecesP m)).map (faceOf m), 0) := by
  unfold facesP
  rw [if_neg h1, if_pos h2]
set_option maxHeartbeats 16000000 in
set_option maxRecDepth 100000 in
theorem faces_good (A : Option Addr) (n c : Nat) (l : RL) (w : World) (hA : SlG w A n c l) (hn : n ≤ 12) (hv : (rgs l).all validP = true) (hs : (rgs l).flatten.length ≤ 45) : Calls Tryz.prog 20 #[.slice A n c] w (FcPost w (facesP (rgs l))) := by
  obtain ⟨i0, hi, hz0, hz1, hz2⟩ := info_parts Tryz.infoRect
  have hn' : ¬ (12 : Int) < (n : Int) := by omega
  have hany : (l.any fun x => !validP x.1) = false := by
    rw [any_not_all]
    have : (l.all fun x => validP x.1) = (rgs l).all validP := by simp [rgs, List.all_map]; rfl
    rw [this, hv]
    rfl
  have Hany := Lib.hid hany
  have HA := Lib.hid hA
  have eg : ∀ args w, (callFunc 72 args).run Tryz.prog w = .ok (.enter 72 args) w := enters_of Tryz.func72 (by kernel_rfl) rfl
  have Eg := Lib.hid eg
  have hpos : ∀ a ∈ rgs l, ∀ q ∈ a, q.l < q.r := fun a ha => ok_pos (valid_parts (List.all_eq_true.1 hv a ha)).2.1
  have hlen : ∀ a ∈ rgs l, a.length ≤ 120 := fun a ha => (valid_parts (List.all_eq_true.1 hv a ha)).1
  have Hpos := Lib.hid hpos
  have Hlen := Lib.hid hlen
  have Hs := Lib.hid hs
  have hmm := @run_makeMap Tryz.prog
  clear hA hany eg hpos hlen hs
  refine (callsIn_wide (n := 20)).1 ?_
  have f1 : Fence.wide.fn 71 := trivial
  have f2 : Fence.wide.fn 73 := trivial
  have f3 : Fence.wide.fn 75 := trivial
  have f4 : Fence.wide.fn 74 := trivial
  have f5 : Fence.wide.fn 76 := trivial
  refine callsIn_of_wp_marks Tryz.func20 rfl trivial ?_ rfl
  simp only [Tryz.ntmps20, List.size_toArray, List.length_cons, List.length_nil, Nat.reduceAdd, Nat.reduceSub, Array.replicate_succ, Array.replicate_zero, List.push_toArray, List.append_toArray, List.nil_append, List.cons_append]
  gi_wp2_with (first
    | (gi_at_call 71
       refine (callsIn_wide.2 (containsG_any (fun x => !validP x.1) 72 #[] Eg.out A n c l _ HA.out (validF _))).mono ?_
       rintro e w1 ⟨rfl, hb1⟩
       rw [Hany.out]
       have Hb1 := Lib.hid hb1
       have hs1 := hb1.size
       clear hb1)
    | (gi_at_call 73
       refine (callsIn_wide.2 (pieces_any A n c l _ (HA.out.below (Hb1.out.trans (Below.mono (by repeat' (first | with_reducible exact Below.refl _ _ | with_reducible refine below_drewN ?_ _ | with_reducible refine Below.drew ?_ | with_reducible refine Below.alloc ?_ ?_ _ | with_reducible refine Below.setCell ?_ ?_ _ | with_reducible refine Below.trans ?_ (Below.mono (by with_reducible assumption) ?_) | (simp; done) | (simp; omega) | omega)) Hb1.out.size))) hn (by have := Hs.out; omega))).mono ?_
       rintro e w3 ⟨bc, bl, bL, rfl, hP, hbc, hbl, hbL, hb3⟩
       have HP := Lib.hid hP
       have Hb3 := Lib.hid hb3
       clear hP hb3)
    | fail)
  have hw2 : ((w1.alloc (.map #[] 0)).alloc (.cells #[.map (some w1.heap.size)] 132)).heap.size = w1.heap.size + 2 := by simp
  rw [hw2] at hbc hbl hbL
  have hb13 : Below w1.heap.size w1 w3 := (((Below.refl _ w1).alloc (Nat.le_refl _) _).alloc (by simp) _).trans (Hb3.out.mono (by rw [hw2]; omega))
  have Hb13 := Lib.hid hb13
  have hs3 : w1.heap.size + 2 ≤ w3.heap.size := by have := Hb3.out.size; rw [hw2] at this; exact this
  have HP1 : Hid (PcAt w3 w1.heap.size bc bl bL A n c l) := Lib.hid (HP.out.rebase (by rw [hw2]; omega))
  have Hbox : Hid (w3.heap[w1.heap.size + 1]? = some (.cells #[.map (some w1.heap.size)] 132 (0, 0))) := Lib.hid ((Hb3.out.block _ (by rw [hw2]; omega)).trans (heap_alloc2_new w1 _ _))
  have Hm0 : Hid (w3.ownsMap Tryz.prog 3 VR w1.heap.size 0 (.map [])) := Lib.hid (((World.ownsMap_made w1 Tryz.prog 3 VR).alloc _).kept (Go.Proofs.YtfmkmhhghmdakaaGreatDoor.Below.grown_none Hb3.out) (by simp))
  clear hb13 HP hw2
  refine wpIn_rangeFunc_ownH rfl (by omega) (gf := 178) (lb := #[.pointer (some ⟨bc, 0, none⟩), .pointer (some ⟨bl, 0, none⟩), .pointer (some ⟨bL, 0, none⟩)]) rfl trivial (enters_of Tryz.func178 (by kernel_rfl) rfl)
    (pieces_stops w1.heap.size bc bl bL A n c _ l w1 w3 HP1.out rfl Hb13.out (HA.out.below Hb1.out) hn Hpos.out Hlen.out (by omega)) (fun h k => Keeps.t h k) (Keeps.b (by omega)) (Below.refl _ _) (fun _ => rfl)
    (fun pre W => (∃ D f, W.ownsMap Tryz.prog 3 VR w1.heap.size pre.length D ∧ Grp W w1.heap.size (pre.map (·.1)) D f) ∧ W.heap[w1.heap.size + 1]? = some (.cells #[.map (some w1.heap.size)] 132 (0, 0)) ∧ Below w1.heap.size w1 W)
    (fun _ _ _ => False)
    (fun s A' B' row hs hg hr => by
      obtain ⟨⟨D, f, h1, h2⟩, h3, h4⟩ := hs
      have hne : ∀ q, row = some q → w3.heap.size ≤ q := fun q e => (hr q e).1
      exact ⟨⟨D, f, h1.kept hg (fun e => by have := hne _ e.symm; omega), h2.keep hg (fun r e => (hr r e).2)⟩, (hg.block _ (Array.getElem?_eq_some_iff.1 h3).1 (fun e => by have := hne _ e.symm; omega)).trans h3, h4.grown hg h4.size (fun q e => by have := hne q e; omega)⟩)
    (fun _ _ _ _ _ hs _ _ => hs)
    ⟨⟨_, _, Hm0.out, Grp.empty _ _⟩, Hbox.out, Hb13.out⟩
    (fun x a' W => ∃ Bx, W.heap[Bx]? = some (.cells #[.int .i64 x.1.2.l, .int .i64 x.1.2.b, .int .i64 x.1.2.r, .int .i64 x.1.2.t] 68 (0, 0)) ∧ w1.heap.size < W.heap.size ∧ (∀ es clock, W.heap[w1.heap.size]? = some (.map es clock) → ∀ e ∈ es.toList, e.val.ownBlock ≠ some Bx) ∧ a' = { tmps := #[.slice A n c, undef, .slice none 0 0, .int .i64 0, .pointer (some ⟨w1.heap.size + 1, 0, none⟩), .int .i64 (x.1.1 : Int), .pointer (some ⟨Bx, 0, none⟩), undef, undef, undef, undef, undef, .slice A n c, .int .i64 (n : Int), .bool false, .slice A n c, .bool false, .map (some w1.heap.size), .slice A n c, .func (.func 178) #[] #[.pointer (some ⟨bc, 0, none⟩), .pointer (some ⟨bl, 0, none⟩), .pointer (some ⟨bL, 0, none⟩)], .int .i64 (x.1.1 : Int), .agg #[.int .i64 x.1.2.l, .int .i64 x.1.2.b, .int .i64 x.1.2.r, .int .i64 x.1.2.t], undef, undef, undef, undef, undef, undef, undef, undef, undef, undef, undef, undef, undef, undef, undef, undef, undef, undef, undef, undef, undef, undef, undef, undef, undef, undef, undef, undef, undef, undef, undef, undef, undef, undef], defers := [] })
    (fun x a' _ X Y row hs hg hr => by
      obtain ⟨Bx, h1, h5, h6, h2⟩ := hs
      refine ⟨Bx, (hg.block _ (Array.getElem?_eq_some_iff.1 h1).1 (fun e => ?_)).trans h1, Nat.lt_of_lt_of_le h5 hg.size, fun es clock he => h6 es clock ((hg.block _ h5 (fun e => by have := (hr _ e.symm).1; omega)).symm.trans he), h2⟩
      obtain ⟨o, ho, hc⟩ := (hr Bx e.symm).2
      rw [h1] at ho
      cases ho
      cases hc)
    ?assign ?body ?done ?stop
  case assign =>
    rintro lo pre x W K ⟨⟨D, f, hm1, hg1⟩, hbx1, hb1⟩ hK
    have HK := Lib.hid hK
    have Hm1 := Lib.hid hm1
    have Hg1 := Lib.hid hg1
    have Hbx1 := Lib.hid hbx1
    have Hb1' := Lib.hid hb1
    have hsW := hb1.size
    clear hm1 hg1 hbx1 hb1 hK
    dsimp only [pcV]
    gi_wp2
    exact HK.out _ _ ((KeepsOthers.alloc _ _).from _) ⟨(Below.refl _ W).alloc hsW _, CellsRest.alloc _ _ _⟩ ⟨⟨D, f, Hm1.out.alloc _, Hg1.out.below ((Below.refl _ _).alloc (Nat.le_refl _) _)⟩, (Below.heap_alloc _ _ _ (Array.getElem?_eq_some_iff.1 Hbx1.out).1).trans Hbx1.out, Hb1'.out.alloc hsW _⟩ ⟨W.heap.size, heap_alloc_new W _, by simp; omega, fun es clock he e hee hgv => by
      have hbl := (Array.getElem?_eq_some_iff.1 Hbx1.out).1
      have := Hg1.out.entry_lt Hm1.out lawIntO Tryz.underlying3 Tryz.underlying132 (zeroRects W) ((Below.heap_alloc _ _ _ (by omega)).symm.trans he) e hee _ hgv
      omega, rfl⟩
  case body =>
    rintro lo pre x a' W hlo ⟨r, hr⟩ ⟨⟨D, f, hm1, hg1⟩, hbx1, hb1⟩ ⟨Bx, hBx, hbW, hsh, rfl⟩ hlt
    have Hm1 := Lib.hid hm1
    have Hg1 := Lib.hid hg1
    have Hbx1 := Lib.hid hbx1
    have Hb1' := Lib.hid hb1
    have HBx := Lib.hid hBx
    have hsW := hb1.size
    have hBl : Bx < W.heap.size := (Array.getElem?_eq_some_iff.1 hBx).1
    have hbl1 : w1.heap.size + 1 < W.heap.size := (Array.getElem?_eq_some_iff.1 hbx1).1
    obtain ⟨⟨s, q⟩, hsx⟩ := x
    dsimp only at hsx HBx ⊢
    have hkey := Maps.keyOf_int_mk Tryz.underlying3 (show (Lit.int .i64 (s : Int)).wf = true from WalkArith.wf_i64 (by omega))
    have hlk := held_look hm1 lawIntO Tryz.underlying132 (zeroRects W) hkey (hg1.at' s)
    have Hkey := Lib.hid hkey
    have b0 := cell_of_row _ _ 0 _ _ _ hbx1
    have q0 := cell_of_row _ _ 0 _ _ _ hBx
    have q1 := cell_of_row _ _ 1 _ _ _ hBx
    have q2 := cell_of_row _ _ 2 _ _ _ hBx
    have q3 := cell_of_row _ _ 3 _ _ _ hBx
    have hlk' := held_look (w := W.drew) (hm1.drew) lawIntO Tryz.underlying132 (zeroRects W.drew) hkey (hg1.at' s)
    have Hlk' := Lib.hid hlk'
    have Hhr := Lib.hid hr
    clear hm1 hg1 hbx1 hb1 hBx hkey hlk hr hlk' hmm
    gi_wp2_with fail
    refine wpIn_region_head (wideF_round lo) (S := fun w' => w'.cell? ⟨w1.heap.size + 1, 0, none⟩ = some (.map (some w1.heap.size)) ∧ w'.cell? ⟨Bx, 0, none⟩ = some (.int .i64 q.l) ∧ w'.cell? ⟨Bx, 1, none⟩ = some (.int .i64 q.b) ∧ w'.cell? ⟨Bx, 2, none⟩ = some (.int .i64 q.r) ∧ w'.cell? ⟨Bx, 3, none⟩ = some (.int .i64 q.t) ∧ (Instr.lookup 132 (.map (some w1.heap.size)) (.int .i64 (s : Int)) false).run Tryz.prog w' = .ok (f s) w') 8 (by kernel_rfl) (by kernel_rfl) (fun _ _ h => h) ?_
    have hHeld : (fun w' : World => w'.cell? ⟨w1.heap.size + 1, 0, none⟩ = some (.map (some w1.heap.size)) ∧ w'.cell? ⟨Bx, 0, none⟩ = some (.int .i64 q.l) ∧ w'.cell? ⟨Bx, 1, none⟩ = some (.int .i64 q.b) ∧ w'.cell? ⟨Bx, 2, none⟩ = some (.int .i64 q.r) ∧ w'.cell? ⟨Bx, 3, none⟩ = some (.int .i64 q.t) ∧ (Instr.lookup 132 (.map (some w1.heap.size)) (.int .i64 (s : Int)) false).run Tryz.prog w' = .ok (f s) w') W.drew := ⟨b0, q0, q1, q2, q3, Hlk'.out⟩
    simp only [List.take_succ_cons, List.take_zero, List.replicate]
    refine wpAnyH_take (i := 0) (v := ?vvc0) rfl (by kernel_rfl) (by kernel_rfl) (by kernel_rfl) (fun _ _ _ h => h) (Or.inl ⟨by rfl, ?hyc0⟩) hHeld ?restc0; (case hyc0 => (intro w hSw; (try dsimp only at hSw); go_simp; all_goals (with_reducible rfl))); simp only [Act.put, List.getElem_toArray, List.getElem_cons_zero, List.getElem_cons_succ, List.setIfInBounds_toArray, List.set_cons_zero, List.set_cons_succ]
    refine wpAnyH_take (i := 1) (v := ?vvc1) rfl (by kernel_rfl) (by kernel_rfl) (by kernel_rfl) (fun _ _ _ h => h) (Or.inl ⟨by rfl, ?hyc1⟩) hHeld ?restc1; (case hyc1 => (intro w hSw; (try dsimp only at hSw); go_simp; all_goals (with_reducible rfl))); simp only [Act.put, List.getElem_toArray, List.getElem_cons_zero, List.getElem_cons_succ, List.setIfInBounds_toArray, List.set_cons_zero, List.set_cons_succ]
    refine wpAnyH_take (i := 2) (v := ?vvc2) rfl (by kernel_rfl) (by kernel_rfl) (by kernel_rfl) (fun _ _ _ h => h) (Or.inl ⟨by rfl, ?hyc2⟩) hHeld ?restc2; (case hyc2 => (intro w hSw; (try dsimp only at hSw); go_simp; all_goals (with_reducible rfl))); simp only [Act.put, List.getElem_toArray, List.getElem_cons_zero, List.getElem_cons_succ, List.setIfInBounds_toArray, List.set_cons_zero, List.set_cons_succ]
    refine wpAnyH_take (i := 3) (v := ?vvc3) rfl (by kernel_rfl) (by kernel_rfl) (by kernel_rfl) (fun _ _ _ h => h) (Or.inl ⟨by rfl, ?hyc3⟩) hHeld ?restc3; (case hyc3 => (intro w hSw; (try dsimp only at hSw); go_simp; all_goals (with_reducible rfl))); simp only [Act.put, List.getElem_toArray, List.getElem_cons_zero, List.getElem_cons_succ, List.setIfInBounds_toArray, List.set_cons_zero, List.set_cons_succ]
    refine wpAnyH_take (i := 4) (v := ?vvc4) rfl (by kernel_rfl) (by kernel_rfl) (by kernel_rfl) (fun _ _ _ h => h) (Or.inl ⟨by rfl, ?hyc4⟩) hHeld ?restc4; (case hyc4 => (intro w hSw; (try dsimp only at hSw); go_simp; all_goals (with_reducible rfl))); simp only [Act.put, List.getElem_toArray, List.getElem_cons_zero, List.getElem_cons_succ, List.setIfInBounds_toArray, List.set_cons_zero, List.set_cons_succ]
    refine wpAnyH_take (i := 5) (v := ?vvc5) rfl (by kernel_rfl) (by kernel_rfl) (by kernel_rfl) (fun _ _ _ h => h) (Or.inl ⟨by rfl, ?hyc5⟩) hHeld ?restc5; (case hyc5 => (intro w hSw; (try dsimp only at hSw); go_simp; all_goals (with_reducible rfl))); simp only [Act.put, List.getElem_toArray, List.getElem_cons_zero, List.getElem_cons_succ, List.setIfInBounds_toArray, List.set_cons_zero, List.set_cons_succ]
    obtain ⟨w6, hw6⟩ : ∃ w6 : World, w6 = (W.alloc (.cells #[.int .i64 q.l, .int .i64 q.b, .int .i64 q.r, .int .i64 q.t] 68)).drew := ⟨_, rfl⟩
    have Hw6 := Lib.hid hw6
    have Hb6 : Hid (Below W.heap.size W w6) := Lib.hid (by rw [hw6]; exact Below.drew ((Below.refl _ _).alloc (Nat.le_refl _) _))
    have hs6 : w6.heap.size = W.heap.size + 1 := by rw [hw6]; show (W.alloc _).heap.size = _; simp
    have Hs6 := Lib.hid hs6
    have hsl6 : W.heap.size ≤ w6.heap.size := by omega
    clear hw6 hs6
    have Hm6 : Hid (w6.ownsMap Tryz.prog 3 VR w1.heap.size pre.length D) := Lib.hid (Hm1.out.kept (Go.Proofs.YtfmkmhhghmdakaaGreatDoor.Below.grown_none Hb6.out) (by simp))
    have Hg6 : Hid (Grp w6 w1.heap.size (pre.map (·.1)) D f) := Lib.hid (Hg1.out.below Hb6.out)
    have hB6 : w6.heap[w1.heap.size + 1]? = some (.cells #[.map (some w1.heap.size)] 132 (0, 0)) := (Hb6.out.block _ hbl1).trans Hbx1.out
    have hX6 : w6.heap[Bx]? = some (.cells #[.int .i64 q.l, .int .i64 q.b, .int .i64 q.r, .int .i64 q.t] 68 (0, 0)) := (Hb6.out.block _ hBl).trans HBx.out
    have HB6 := Lib.hid hB6
    have HX6 := Lib.hid hX6
    have hM6 : ∃ es clock, w6.heap[w1.heap.size]? = some (.map es clock) := by obtain ⟨es, clock, h, _⟩ := Hm6.out; exact ⟨es, clock, h⟩
    have HM6 := Lib.hid hM6
    have Hap : Hid (∀ t, (f t).ownBlock ≠ some w1.heap.size ∧ (f t).ownBlock ≠ some (w1.heap.size + 1)) := Lib.hid (fun t => by
      obtain ⟨es, clock, hm⟩ := HM6.out
      exact ⟨own_kind (Hg6.out.own t) hm (fun cs i e => by cases e), own_kind (Hg6.out.own t) HB6.out (fun cs i e => by injection e with _ e2 _; exact absurd e2 (by decide))⟩)
    have HapX : Hid ((f s).ownBlock ≠ some Bx) := Lib.hid (by
      obtain ⟨es, clock, hm⟩ : ∃ es clock, W.heap[w1.heap.size]? = some (.map es clock) := by obtain ⟨es, clock, h, _⟩ := Hm1.out; exact ⟨es, clock, h⟩
      rcases held_in Hm1.out lawIntO Tryz.underlying132 (zeroRects W) Hkey.out (Hg1.out.at' s) hm with h | ⟨e, he, h⟩
      · rw [h]; simp [Value.ownBlock]
      · rw [← h]; exact hsh es clock hm e he)
    have Hfl : Hid ((ofPc (pre.map (·.1)) s).length ≤ pre.length) := Lib.hid (by unfold ofPc; rw [List.length_map]; exact Nat.le_trans (List.length_filter_le _ _) (by rw [List.length_map]; exact Nat.le_refl _))
    have hpl : pre.length ≤ 8100 := by have := pieces_len Hs.out; omega
    clear hB6 hX6 hM6 hsh
    refine wpAnyH_ready (rs := [6]) (by kernel_rfl) (by simp) ?_; refine AllReadyH.cons rfl (fun K hK => ?_) AllReadyH.nil
    go_simp
    refine hK.out _ _ ⟨(World.cell?_alloc_lt _ _ _ (by simp; omega)).trans b0, (World.cell?_alloc_lt _ _ _ (by simp; omega)).trans q0, (World.cell?_alloc_lt _ _ _ (by simp; omega)).trans q1, (World.cell?_alloc_lt _ _ _ (by simp; omega)).trans q2, (World.cell?_alloc_lt _ _ _ (by simp; omega)).trans q3, by rw [← Hw6.out]; exact held_look Hm6.out lawIntO Tryz.underlying132 (zeroRects _) Hkey.out (Hg6.out.at' s)⟩ (fun hHeld => ?_)
    clear hK K
    (try simp only [Act.put, List.getElem_toArray, List.getElem_cons_zero, List.getElem_cons_succ, List.setIfInBounds_toArray, List.set_cons_zero, List.set_cons_succ])
    refine wpAnyH_ready (rs := [7]) (by kernel_rfl) (by simp) ?_; refine AllReadyH.cons rfl (fun K hK => ?_) AllReadyH.nil
    rw [← Hw6.out] at hHeld ⊢
    refine step_append_any _ rfl (.tmp 26) (.tmp 28) 31 rfl w1.heap.size 68 i0 (.agg #[.int .i64 0, .int .i64 0, .int .i64 0, .int .i64 0]) 4 32 Tryz.underlying31 hi hz0 hz1 hz2 rfl (by omega) (f s) (ofPc (pre.map (·.1)) s).length (rCells (ofPc (pre.map (·.1)) s)) rfl (Hg6.out.own s) w6.heap.size _ 1 1 [.int .i64 q.l, .int .i64 q.b, .int .i64 q.r, .int .i64 q.t] rfl ⟨rfl, fun _ => ⟨_, rfl, (by show W.heap.size < w6.heap.size; rw [Hs6.out]; exact Nat.lt_succ_self _), fun j u hu => (by rw [Hw6.out]; exact news_any _ _ _ j u hu)⟩⟩ (by simp [Value.oneCell']) (by have := Hfl.out; simp only [maxLen]; omega) (by have := Hfl.out; omega) (by omega) ?_
    intro v7 w7 hown7 hg7 hat7
    have Hown7 := Lib.hid hown7
    have Hg7 := Lib.hid hg7
    have Hat7 := Lib.hid hat7
    have Hm7 : Hid (w7.ownsMap Tryz.prog 3 VR w1.heap.size pre.length D) := Lib.hid (Hm6.out.kept hg7 (fun e => (Hap.out s).1 e.symm))
    have hB7 := (hg7.block _ (by omega) (fun e => (Hap.out s).2 e.symm)).trans HB6.out
    have hX7 := (hg7.block _ (by omega) (fun e => HapX.out e.symm)).trans HX6.out
    clear hown7 hg7 hat7
    refine hK.out _ _ ⟨cell_of_row _ _ 0 _ _ _ hB7, cell_of_row _ _ 0 _ _ _ hX7, cell_of_row _ _ 1 _ _ _ hX7, cell_of_row _ _ 2 _ _ _ hX7, cell_of_row _ _ 3 _ _ _ hX7, held_look Hm7.out lawIntO Tryz.underlying132 (zeroRects _) Hkey.out (Hg6.out.at' s)⟩ (fun hHeld => ?_)
    clear hK K
    (try simp only [Act.put, List.getElem_toArray, List.getElem_cons_zero, List.getElem_cons_succ, List.setIfInBounds_toArray, List.set_cons_zero, List.set_cons_succ])
    refine wpAnyH_done (by kernel_rfl) ?_ _
    clear hHeld
    show wpAnyIn _ _ _ _ _ _ _ _ _ _
    obtain ⟨w8, hrun, hm8, hg8⟩ := Hm7.out.update lawIntO Tryz.underlying132 (show pre.length < maxLen by simp only [maxLen]; omega) (val := v7) (d := .held v7) (ps := []) Hkey.out rfl
    have Hm8 := Lib.hid hm8
    have Hg8 := Lib.hid hg8
    clear hm8 hg8
    refine wpAnyIn_ready (rs := [8]) (by kernel_rfl) (by simp) ?_
    refine AllReadyIn.cons rfl (fun K hK => ?_) AllReadyIn.nil
    go_simp
    refine hK _ _ ?_
    clear hK K hrun
    refine wpAnyIn_done (by kernel_rfl) ?_ _
    obtain ⟨es7, clock7, hM7⟩ : ∃ es clock, w7.heap[w1.heap.size]? = some (.map es clock) := by obtain ⟨es, clock, h, _⟩ := Hm7.out; exact ⟨es, clock, h⟩
    have hs7 := Hg7.out.size
    have hob := own_base (Hg6.out.own s)
    have h7t : ∀ t, t ≠ s → w7.ownsRow w1.heap.size 68 4 (f t) (ofPc (pre.map (·.1)) t).length (rCells (ofPc (pre.map (·.1)) t)) := fun t ht => own_grown (Hg6.out.own t) Hg7.out (fun g hg e => Hg6.out.ap s t (fun e => ht e.symm) g e hg)
    have hk8 : ∀ {v : Value} {n : Nat} {xs : List Value}, w7.ownsRow w1.heap.size 68 4 v n xs → w8.ownsRow w1.heap.size 68 4 v n xs := fun h => own_grown h Hg8.out (fun g hg e => by
      injection e with e
      subst e
      exact own_kind h hM7 (fun cs i e => by cases e) hg)
    refine ⟨⟨by have := Hg8.out.size; omega, fun k o hk ho hc => ?_⟩, ⟨?_, ?_⟩, ⟨D.put (.int .i64 (s : Int)) (.held v7), (fun t => if t = s then v7 else f t), ?_, ?_⟩, ?_, ?_⟩
    · have hk1 : k < W.heap.size := (Array.getElem?_eq_some_iff.1 ho).1
      have h6 := (Hb6.out.block k hk1).trans ho
      have h7 := (Hg7.out.block k (by omega) (fun e => own_kind (Hg6.out.own s) h6 (fun cs i e => by subst e; cases hc) e.symm)).trans h6
      exact (Hg8.out.block k (by omega) (fun e => by injection e; omega)).trans h7
    · exact ((Hb6.out.mono hsW).grown Hg7.out (by omega) hob).grown Hg8.out (by omega) (fun g e => by injection e; omega)
    · exact ((CellsRest.below Hb6.out).trans (CellsRest.grown Hg7.out (own_rows (Hg6.out.own s)))).trans (CellsRest.grown Hg8.out (fun g e cs T i hh => by injection e with e; subst e; rw [hM7] at hh; cases hh))
    · rw [List.length_append]; exact Hm8.out
    · rw [List.map_append]
      refine Grp.step Hg6.out (s, q) (hk8 Hown7.out) (fun t ht => hk8 (h7t t ht)) ?_
      rcases Hat7.out with e | e
      · exact .inl e
      · exact .inr ⟨_, e, fun t ht => by have := own_lt (Hg6.out.own t) _ ht; omega⟩
    · exact (Hg8.out.block _ (by omega) (fun e => by injection e; omega)).trans hB7
    · exact (((Hb1'.out.trans (Hb6.out.mono hsW)).grown Hg7.out (by omega) hob)).grown Hg8.out (by omega) (fun g e => by injection e; omega)
  case done =>
    rintro Dm ys W hD hS ⟨⟨D, f, hm, hg⟩, hbx, hb⟩ hK
    have HS := Lib.hid hS
    have Hm := Lib.hid hm
    have Hg := Lib.hid hg
    have Hbx := Lib.hid hbx
    have Hb := Lib.hid hb
    have HK := Lib.hid hK
    have hsW := hb.size
    have hpl := pieces_len Hs.out
    have hyl : ys.length ≤ 8100 := by
      have : (ys.map (·.1)).length = (piecesP (rgs l)).length := by rw [hS]
      rw [List.length_map] at this
      omega
    have hDz : Maps.size D ≤ 8100 := Nat.le_trans hm.size_le hyl
    have b0 := cell_of_row _ _ 0 _ _ _ hbx
    have hseq : SeqGives Fence.wide 16 Tryz.prog 182 #[.pointer (some ⟨W.heap.size, 0, none⟩)] encZ (fun ss => ss.Perm (intKeys D)) (Maps.size D) (W.alloc (.cells #[.map (some w1.heap.size)] 132)) :=
      AnyZI.keys_gives (ρ := Tryz.keysA_ren) { Tryz.keysA with } Fence.wide _ trivial rfl (by omega) W.heap.size w1.heap.size ys.length D _ (by simp) (by simp) (hm.alloc _)
    have cK : ∀ mb W, CallsIn Fence.wide 19 Tryz.prog 75 #[.map mb] W fun e w' => e = .returned (.func (.func 182) #[] #[.pointer (some ⟨W.heap.size, 0, none⟩)]) ∧ w' = W.alloc (.cells #[.map mb] 132) := fun mb W => AnyZI.keys_in Tryz.keysA Fence.wide 19 trivial rfl mb W
    have cS := AnyZI.sorted_in Tryz.sortedA Fence.wide 19 trivial trivial trivial trivial rfl (by omega) (Tryz.sortsF _) (enters_of Tryz.func85 (by kernel_rfl) rfl) 182 #[.pointer (some ⟨W.heap.size, 0, none⟩)] trivial (enters_of Tryz.func182 (by kernel_rfl) rfl) _ _ (by simp only [maxLen]; omega) (by omega) _ hseq
    change CallsIn _ _ Tryz.prog 74 _ _ _ at cS
    have HcK := Lib.hid cK
    have HcS := Lib.hid cS
    clear hm hg hbx hb hK hseq hmm cK cS hS
    gi_wp2_with (first
      | (gi_at_call 75; refine (HcK.out _ _).mono ?_; rintro e w' ⟨rfl, rfl⟩)
      | (gi_at_call 74; refine HcS.out.mono ?_; rintro e w4 ⟨vk, ss, rfl, hss, hrow, _, hb4⟩; have Hss := Lib.hid hss; have Hrow := Lib.hid hrow; have Hb4 := Lib.hid hb4; clear hss hrow hb4; obtain ⟨AK, ck, rfl, _, _, _⟩ := own_slice Hrow.out)
      | fail)
    have hkeys : ss.mergeSort (fun x y => decide (x ≤ y)) = keysPc (piecesP (rgs l)) := by
      rw [← HS.out]
      exact keys_sorted Hm.out lawIntO Tryz.underlying3 Hg.out Hss.out
    obtain ⟨K, hKe⟩ : ∃ K, K = keysPc (piecesP (rgs l)) := ⟨_, rfl⟩
    have hlK : K.length = ss.length := by rw [hKe, ← hkeys, List.length_mergeSort]
    have hKl : K.length ≤ 8100 := by
      have := (asc_all ((piecesP (rgs l)).map fun p => (p.1 : Int))).2.2
      rw [List.length_map] at this
      rw [hKe]
      unfold keysPc
      omega
    have hKm : ∀ x ∈ K, ∃ t : Nat, x = (t : Int) ∧ t < 4096 := by
      intro x hx
      rw [hKe] at hx
      obtain ⟨p, hp, rfl⟩ := (keysPc_mem x).1 hx
      rw [← HS.out] at hp
      obtain ⟨q, _, rfl⟩ := List.mem_map.1 hp
      exact ⟨_, rfl, q.2⟩
    have hrowK : w4.ownsRow (W.alloc (.cells #[.map (some w1.heap.size)] 132)).heap.size 3 1 (.slice AK ss.length ck) ss.length (K.map encZ) := by
      rw [hKe, ← hkeys]
      exact Hrow.out
    obtain ⟨nk, hnk⟩ : ∃ nk, nk = ss.length := ⟨_, rfl⟩
    rw [← hnk] at hrowK hlK ⊢
    have hs4 : W.heap.size + 1 ≤ w4.heap.size := by have := Hb4.out.size; simp at this; exact this
    have hbW : Below W.heap.size W w4 := ((Below.refl _ W).alloc (Nat.le_refl _) _).trans (Hb4.out.mono (by simp))
    have HrowK := Lib.hid hrowK
    have HKe := Lib.hid hKe
    have HKm := Lib.hid hKm
    have HbW := Lib.hid hbW
    have Hm4 : Hid (w4.ownsMap Tryz.prog 3 VR w1.heap.size ys.length D) := Lib.hid (Hm.out.kept (Go.Proofs.YtfmkmhhghmdakaaGreatDoor.Below.grown_none hbW) (by simp))
    have Hg4 : Hid (Grp w4 w1.heap.size (piecesP (rgs l)) D f) := Lib.hid (by rw [← HS.out]; exact Hg.out.below hbW)
    have Hbx4 := Lib.hid ((hbW.block _ (Array.getElem?_eq_some_iff.1 Hbx.out).1).trans Hbx.out)
    have hbl4 : w1.heap.size + 1 < w4.heap.size := (Array.getElem?_eq_some_iff.1 Hbx4.out).1
    obtain ⟨j0, hj, hy0, hy1, hy2⟩ := info_parts Tryz.infoFace
    clear hrowK hKe hKm hbW hkeys hnk
    gi_loopw [7, 34] (fun out i wr => ∃ (k : Nat) (L : FL), i = .int .i64 (k : Int) ∧ k ≤ nk ∧ FsOwn wr w4.heap.size out L ∧ fcs L = (K.take k).map (faceOf (rgs l)) ∧ (K.take k).any (bigF (rgs l)) = false ∧ Below w4.heap.size w4 wr) (fun _ i _ => nk - (intOf i).toNat)
    case atStart => exact ⟨0, [], rfl, by omega, FsOwn.nil _ _, rfl, rfl, Below.refl _ _⟩
    case round =>
      obtain ⟨k, L, rfl, hkn, hF, hL, hbg, hbr⟩ := hrel
      have HF := Lib.hid hF
      have HL := Lib.hid hL
      have Hbg := Lib.hid hbg
      have Hbr := Lib.hid hbr
      have hsr := hbr.size
      clear hF hL hbg hbr
      by_cases hlt : k < nk
      · have hlt' : (k : Int) < (nk : Int) := by omega
        obtain ⟨gK, cK, hgK, _, hgKl, _, _, hKc, _⟩ := own_at (ownsRow_below HrowK.out Hbr.out) (by omega)
        obtain ⟨rfl, rfl⟩ : AK = some ⟨gK, 0, none⟩ ∧ ck = cK := by injection hgK with h1 _ h3; exact ⟨h1, h3⟩
        obtain ⟨t, ht, ht12⟩ := HKm.out K[k] (List.getElem_mem _)
        have ck0 : wr.cell? ⟨gK, k, none⟩ = some (.int .i64 (t : Int)) := hKc k _ (by rw [List.getElem?_map, List.getElem?_eq_getElem (show k < K.length by omega), ht]; rfl)
        have cb0 := cell_of_row _ _ 0 _ _ _ ((Hbr.out.block _ hbl4).trans Hbx4.out)
        have Hkey : Hid (keyOf Tryz.prog 3 (.int .i64 (t : Int)) = some (.int .i64 (t : Int))) := Lib.hid (Maps.keyOf_int_mk Tryz.underlying3 (show (Lit.int .i64 (t : Int)).wf = true from WalkArith.wf_i64 (by omega)))
        have Hmr : Hid (wr.ownsMap Tryz.prog 3 VR w1.heap.size ys.length D) := Lib.hid (Hm4.out.kept (Go.Proofs.YtfmkmhhghmdakaaGreatDoor.Below.grown_none Hbr.out) (by simp))
        obtain ⟨A0, c0, hf0, hS0⟩ := SlR.of_own ((Hg4.out.below Hbr.out).own t)
        have hat0 := Hg4.out.at' t
        rw [hf0] at hat0
        have Hat0 := Lib.hid hat0
        have HS0 := Lib.hid hS0
        obtain ⟨n0, hn0⟩ : ∃ n0, n0 = (ofPc (piecesP (rgs l)) t).length := ⟨_, rfl⟩
        rw [← hn0] at Hat0 HS0
        have hn0' : n0 ≤ 50000 := by have := ofPc_len (piecesP (rgs l)) t; omega
        have Hcuts := Lib.hid (ofPc_cuts Hs.out t)
        have Ht := Lib.hid ht
        have ekw : IntKind.i64.wrap (k : Int) = (k : Int) := IntWalk.i64_in _ (by omega)
        have hk0 : 0 ≤ (k : Int) := by omega
        clear hgK hKc hf0 hS0 hat0 hn0
        have Hjc := Lib.hid (joined_big A0 n0 c0 _ wr HS0.out hn0' (by have := Hcuts.out; omega) (fun q hq => ofPc_pos q hq))
        by_cases hbig : bigF (rgs l) (t : Int) = true
        · have hlim : limP (canonP (ofPc (piecesP (rgs l)) t)) = ([], 1) := by unfold limP; rw [if_pos (by have := hbig; unfold bigF at this; simpa using this)]
          rw [hlim] at Hjc
          clear hlim
          gi_wp2_with (first
            | (with_reducible (show wpListIn _ _ _ _ _ (⟨some 41, _, _, _, _, _⟩ :: _) _ _)
               refine wpListIn_lookup_held _ rfl (.tmp 39) (.tmp 40) _ rfl 3 31 lawIntO Tryz.underlying132 _ (zeroRects _) w1.heap.size ys.length D rfl Hmr.out _ _ rfl Hkey.out _ Hat0.out ?_)
            | (gi_at_call 76
               refine (callsIn_wide.2 Hjc.out).mono ?_
               rintro e w5 ⟨v5, rfl, hown5, hb5⟩
               have Hb5 := Lib.hid hb5
               obtain ⟨A5, c5, rfl, _, _, _⟩ := own_slice hown5
               clear hown5 hb5)
            | fail)
          have hfp : facesP (rgs l) = ([], 1) := by
            rw [facesP_big (by rw [rgs_len, HA.out.len]; omega) hv, ← HKe.out, if_pos (List.any_eq_true.2 ⟨(t : Int), by rw [← Ht.out]; exact List.getElem_mem _, hbig⟩)]
          have hl5 := Hb5.out.size
          have hend : Below W.heap.size W (w5.alloc (.cells #[.slice A5 0 c5] 33)) := ((HbW.out.trans (Hbr.out.mono (by omega))).trans (Hb5.out.mono (by omega))).alloc (by omega) _
          have hDl := (Array.getElem?_eq_some_iff.1 HK.out).1
          refine ⟨by simp, .inl ⟨_, _, rfl, run_takeDeferred ((hend.block Dm hDl).trans HK.out), ?_⟩⟩
          refine ⟨_, results_tmp2 rfl _ _ _, ?_⟩
          rw [hfp]
          exact ⟨[], _, rfl, FsOwn.nil _ _, rfl, (Hb1.out.trans ((Hb.out.trans (hend.mono hsW)).mono hs1)).grown (grownBy_putObj' _ Dm _) (by have h1 := hend.size; omega) (fun g e => by injection e with e; omega)⟩
        · have hbigf : bigF (rgs l) (t : Int) = false := by simpa using hbig
          have hlim : limP (canonP (ofPc (piecesP (rgs l)) t)) = ((faceOf (rgs l) (t : Int)).rg, 0) := by unfold limP; rw [if_neg (by have := hbig; unfold bigF at this; simpa using this)]; rfl
          rw [hlim] at Hjc
          have hx1 : faceOf (rgs l) (t : Int) = ⟨(t : Int), (faceOf (rgs l) (t : Int)).rg⟩ := rfl
          obtain ⟨rg, hrg⟩ : ∃ rg, rg = (faceOf (rgs l) (t : Int)).rg := ⟨_, rfl⟩
          rw [← hrg] at Hjc hx1
          have Hx1 := Lib.hid hx1
          have hLl : L.length = k := by have := congrArg List.length HL.out; simp [fcs] at this; omega
          have HLl := Lib.hid hLl
          have Hnbig := Lib.hid hbigf
          obtain ⟨LA, lc, hLv, _, _, _⟩ := own_slice HF.out.o
          subst hLv
          rw [hLl] at HF ⊢
          clear hlim hx1 hrg hLl hbig hbigf
          gi_wp2_with (first
            | (with_reducible (show wpListIn _ _ _ _ _ (⟨some 41, _, _, _, _, _⟩ :: _) _ _)
               refine wpListIn_lookup_held _ rfl (.tmp 39) (.tmp 40) _ rfl 3 31 lawIntO Tryz.underlying132 _ (zeroRects _) w1.heap.size ys.length D rfl Hmr.out _ _ rfl Hkey.out _ Hat0.out ?_)
            | (gi_at_call 76
               refine (callsIn_wide.2 Hjc.out).mono ?_
               rintro e w5 ⟨v5, rfl, hown5, hb5⟩
               have Hb5 := Lib.hid hb5
               obtain ⟨A5, c5, rfl, _, _, _⟩ := own_slice hown5
               have Hown5 := Lib.hid hown5
               clear hown5 hb5)
            | (gi_at_builtin
               go_loud (refine wpListIn_append_any _ rfl (.tmp 48) (.tmp 52) _ rfl w4.heap.size 63 j0 _ 2 32 Tryz.underlying57 hj hy0 hy1 hy2 rfl (by omega) _ k (fcCells L) rfl (World.ownsRow.alloc (World.ownsRow.alloc (ownsRow_below (by have := HF.out.o; rw [HLl.out] at this; exact this) Hb5.out) _) _) _ _ 1 1 [.int .i64 (t : Int), .slice A5 rg.length c5] rfl ⟨rfl, fun _ => ⟨_, rfl, Nat.lt_succ_self _, fun j u hu => (by exact World.news_of_block (heap_alloc2_new w5 _ (.cells #[.int .i64 (t : Int), .slice A5 rg.length c5] 63)) j u hu)⟩⟩ (by simp [Value.oneCell']) (by simp only [maxLen]; omega) (by omega) (by have := Hb5.out.size; simp; omega) ?_)
               intro v6 w6 hown6 hg6 hat6
               obtain ⟨VA, vc, rfl, _, _, _⟩ := own_slice hown6
               have Hown6 := Lib.hid hown6
               have Hg6 := Lib.hid hg6
               have Hat6 := Lib.hid hat6
               clear hown6 hg6 hat6)
            | fail)
          have hl5 := Hb5.out.size
          case roundEnd =>
            have hwa : Below wr.heap.size wr ((w5.alloc (.cells #[.slice A5 rg.length c5] 33)).alloc (.cells #[.int .i64 (t : Int), .slice A5 rg.length c5] 63)) := (Hb5.out.alloc hl5 _).alloc (by simp; omega) _
            have hob := own_base HF.out.o
            refine ⟨⟨k + 1, L ++ [(⟨(t : Int), rg⟩, ⟨A5, c5⟩)], rfl, by omega, ?_, ?_, ?_, ?_⟩, by simp [intOf]; omega⟩
            · refine FsOwn.push (v := .slice LA k lc) HF.out (⟨(t : Int), rg⟩, ⟨A5, c5⟩) (World.ownsRow.alloc (World.ownsRow.alloc (own_rebase Hown5.out hsr) _) _) ?_ hwa Hg6.out (by rw [HLl.out]; exact Hown6.out) Hat6.out
              intro g hg e
              have h1 := own_lt HF.out.o g hg
              have h2 := own_base Hown5.out g e
              omega
            · have : fcs (L ++ [(⟨(t : Int), rg⟩, ⟨A5, c5⟩)]) = fcs L ++ [⟨(t : Int), rg⟩] := by simp [fcs]
              rw [this, HL.out, List.take_succ_eq_append_getElem (by omega), List.map_append, Ht.out, ← Hx1.out]
              rfl
            · rw [List.take_succ_eq_append_getElem (by omega), List.any_append, Hbg.out, Ht.out, List.any_cons, Hnbig.out]
              rfl
            · exact ((Hbr.out.trans (hwa.mono hsr)).grown Hg6.out (by have := hwa.size; omega) (fun g e => hob g e))
      · gi_wp2
        obtain rfl : k = nk := by omega
        have htk : K.take k = K := by rw [← hlK]; exact List.take_length
        have hfp : facesP (rgs l) = (K.map (faceOf (rgs l)), 0) := by
          have hb := Hbg.out
          rw [htk] at hb
          rw [facesP_big (by rw [rgs_len, HA.out.len]; omega) hv, ← HKe.out, hb]
          rfl
        have hend : Below W.heap.size W wr := HbW.out.trans (Hbr.out.mono (by omega))
        have hDl := (Array.getElem?_eq_some_iff.1 HK.out).1
        refine ⟨by simp, .inl ⟨_, _, rfl, run_takeDeferred ((hend.block Dm hDl).trans HK.out), ?_⟩⟩
        refine ⟨_, results_tmp2 rfl _ _ _, ?_⟩
        rw [hfp]
        exact ⟨L, _, rfl, (HF.out.only (grownBy_putObj' _ Dm _) (by omega)).rebase (by omega), by rw [HL.out, htk], (Hb1.out.trans ((Hb.out.trans (hend.mono hsW)).mono hs1)).grown (grownBy_putObj' _ Dm _) (by have h1 := hend.size; omega) (fun g e => by injection e with e; omega)⟩
  case stop =>
    rintro D c pre W _ _ h _
    exact h.elim

/-- **overlay's Faces: its set of pieces, as the plain facesP counts them.** -/
theorem faces_any (A : Option Addr) (n c : Nat) (l : RL) (w : World) (hA : SlG w A n c l) (hs : (rgs l).flatten.length ≤ 45) : Calls Tryz.prog 20 #[.slice A n c] w (FcPost w (facesP (rgs l))) := by
  by_cases hn : 12 < n
  · exact faces_many A n c l w hA hn
  · cases hv : (rgs l).all validP with
    | false => exact faces_bad A n c l w hA (by omega) hv
    | true => exact faces_good A n c l w hA (by omega) hv hs
end Go.Proofs.YtfmkmhhghmdakaaGreatDoor
namespace Go.Proofs.YtfmkmhhghmdakaaGreatDoor
open Go.RowKit Go.Shelf
set_option linter.unusedVariables false
set_option linter.unusedSimpArgs false

theorem SlFt.ofRow {w : World} {base c : Nat} {A : Option Addr} {m : FtL} (h : w.ownsRow base 54 5 (.slice A m.length c) m.length (ftCells m)) (hs : ∀ x ∈ m, SlR w x.2.a x.1.rg.length x.2.c x.1.rg) : SlFt w A m.length c m := by
  obtain ⟨A', c', e, h1, h2, h3⟩ := own_slice h
  injection e with e1 e2 e3
  subst e1 e3
  exact ⟨rfl, h2, h3, h1, hs⟩
theorem SlG.ofRow {w : World} {base c : Nat} {A : Option Addr} {m : RL} (h : w.ownsRow base 33 1 (.slice A m.length c) m.length (rgCells m)) (hs : ∀ x ∈ m, SlR w x.2.a x.1.length x.2.c x.1) : SlG w A m.length c m := by
  obtain ⟨A', c', e, h1, h2, h3⟩ := own_slice h
  injection e with e1 e2 e3
  subst e1 e3
  exact ⟨rfl, h2, h3, h1, hs⟩
theorem SlI.ofRow {w : World} {base c : Nat} {A : Option Addr} {m : List Int} (h : w.ownsRow base 3 1 (.slice A m.length c) m.length (m.map (.int .i64))) : SlI w A m.length c m := by
  obtain ⟨A2, c2, e, h4⟩ := SlI.of_own h
  injection e with e1 e2 e3
  rw [e1, e3]
  exact h4
theorem rgCells_snoc9 (l : RL) (x : List R4 × LV) : rgCells (l ++ [x]) = rgCells l ++ [.slice x.2.a x.1.length x.2.c] := by simp [rgCells, rgC]
theorem shr_nat (S i : Nat) : ((S : Int) / 2 ^ i) = ((S / 2 ^ i : Nat) : Int) := by push_cast; rfl
theorem bitAt_nat (S i : Nat) : bitAt (S : Int) i = decide (S / 2 ^ i % 2 = 1) := by
  unfold bitAt
  rw [Int.toNat_natCast, Nat.testBit_eq_decide_div_mod_eq]
theorem and_bit (S i : Nat) (hS : S < 16) : bits .and .i64 ((S / 2 ^ i : Nat) : Int) 1 = if bitAt (S : Int) i = true then 1 else 0 := by
  have h1 : S / 2 ^ i ≤ S := Nat.div_le_self _ _
  have h2 := and_i64n (S / 2 ^ i) 1 (by omega) (by omega)
  rw [show ((1 : Nat) : Int) = 1 from rfl] at h2
  rw [h2, Nat.and_one_is_mod, bitAt_nat]
  rcases Nat.mod_two_eq_zero_or_one (S / 2 ^ i) with h | h <;> simp [h]
theorem flat_len9 (m : List Ft) (b : Nat) (h : ∀ f ∈ m, f.rg.length ≤ b) : ((m.map Ft.rg).flatten).length ≤ b * m.length := by
  induction m with
  | nil => simp
  | cons x t ih =>
    have h1 := ih fun y hy => h y (List.mem_cons_of_mem _ hy)
    have h2 := h x (by simp)
    rw [List.map_cons, List.flatten_cons, List.length_append, List.length_cons, Nat.mul_add]
    omega
/-- The turned layer is one of the law. -/
theorem zok_adj {l : List Ft} (h : LyOk l) (hr : ∀ x ∈ l, Reg 9 6 x.rg) (hl : l.length ≤ 4) : ZOk (l.map adjF) :=
  ⟨h.adj, fun y hy => by obtain ⟨x, hx, rfl⟩ := List.mem_map.1 hy; exact hr x hx, by rw [List.length_map]; exact hl, fun y hy => by
    obtain ⟨x, hx, rfl⟩ := List.mem_map.1 hy
    exact (adjK_bd x.kd (h.ok x hx).kd).2.2⟩
theorem onP_mem {l : List Ft} {d : Int} {f : Ft} (h : f ∈ onP l d) : f ∈ l := (List.mem_filter.1 h).1
theorem onP_len (l : List Ft) (d : Int) : (onP l d).length ≤ l.length := List.length_filter_le _ _
/-- The faces of the features that are there. -/
theorem on_faces {l : List Ft} (h : ZOk l) (d : Int) : ∃ F, facesP ((onP l d).map Ft.rg) = (F, 0) ∧ FacesOk 9 ((onP l d).map Ft.rg) F := by
  have hl := onP_len l d
  refine facesP_ok (by omega) (by rw [List.length_map]; have := h.len; omega) (fun a ha => ?_) (List.all_eq_true.2 fun a ha => ?_)
  · obtain ⟨f, hf, rfl⟩ := List.mem_map.1 ha
    exact (h.reg f (onP_mem hf)).ins
  · obtain ⟨f, hf, rfl⟩ := List.mem_map.1 ha
    exact (h.ly.ok f (onP_mem hf)).rg
end Go.Proofs.YtfmkmhhghmdakaaGreatDoor
