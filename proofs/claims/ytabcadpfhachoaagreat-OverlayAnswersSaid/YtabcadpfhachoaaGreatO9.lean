/- Words on groups of rectangles in a map of slices, and on rows of faces. -/
import Derived.Test.YtabcadpfhachoaaGreatO7
import Derived.Test.YtabcadpfhachoaaGreatO1
import Derived.Maps.Range
namespace Go.Proofs.YtabcadpfhachoaaGreat
open Go.RowKit Go.Shelf Go.Maps
set_option linter.unusedVariables false
set_option linter.unusedSimpArgs false

/-- Each set's rectangles lie in a row of their own. -/
structure Grp (W : World) (B : Nat) (pre : List (Nat × R4)) (D : DataW Value) (f : Nat → Value) : Prop where
  map : IsMap D
  at' : ∀ s : Nat, D.atKey (.int .i64 (s : Int)) (.held (.slice none 0 0)) = .held (f s)
  own : ∀ s, W.ownsRow B 42 4 (f s) (ofPc pre s).length (rCells (ofPc pre s))
  ap : ∀ s t, s ≠ t → ∀ g, (f s).ownBlock = some g → (f t).ownBlock ≠ some g
  has : ∀ x : Int, Maps.has D (.int .i64 x) = true ↔ ∃ p ∈ pre, ((p.1 : Nat) : Int) = x
theorem Grp.empty (W : World) (B : Nat) : Grp W B [] (.map []) (fun _ => .slice none 0 0) :=
  ⟨isMap_empty, fun _ => rfl, fun _ => World.ownsRow_nil _ _ _ _, fun _ _ _ g h => (by simp [Value.ownBlock] at h), fun x => by simp [Maps.has]⟩
theorem Grp.keep {W W' : World} {B : Nat} {pre : List (Nat × R4)} {D : DataW Value} {f : Nat → Value} (h : Grp W B pre D f) {row : Option Nat} (hg : W.grownBy W' row) (hr : ∀ r, row = some r → ∃ o : Obj, W.heap[r]? = some o ∧ o.isCells = false) : Grp W' B pre D f :=
  ⟨h.map, h.at', fun s => own_grown (h.own s) hg (fun g hgs e => by
    obtain ⟨o, ho, hc⟩ := hr g e
    rcases (h.own s).2 with ⟨hv, _⟩ | ⟨g', cap, cur, hv, _, hh, _⟩
    · rw [hv] at hgs; simp [Value.ownBlock] at hgs
    · rw [hv] at hgs
      have : g' = g := by simpa [Value.ownBlock] using hgs
      subst this
      rw [hh] at ho
      cases ho
      cases hc), h.ap, h.has⟩
theorem Grp.below {W W' : World} {B : Nat} {pre : List (Nat × R4)} {D : DataW Value} {f : Nat → Value} (h : Grp W B pre D f) (hb : Below W.heap.size W W') : Grp W' B pre D f := h.keep (Go.Proofs.YtabcadpfhachoaaGreat.Below.grown_none hb) (fun r e => by cases e)
theorem lit_ne {s t : Int} (h : s ≠ t) : (Lit.int .i64 s) ≠ .int .i64 t := fun e => h (by injection e)
/-- Behind 'of[s] = append(of[s], r)'. -/
theorem Grp.step {W W' : World} {B : Nat} {pre : List (Nat × R4)} {D : DataW Value} {f : Nat → Value} (h : Grp W B pre D f) (p : Nat × R4) {v' : Value}
    (hown : W'.ownsRow B 42 4 v' ((ofPc pre p.1).length + 1) (rCells (ofPc pre p.1) ++ [.int .i64 p.2.l, .int .i64 p.2.b, .int .i64 p.2.r, .int .i64 p.2.t])) (hoth : ∀ t, t ≠ p.1 → W'.ownsRow B 42 4 (f t) (ofPc pre t).length (rCells (ofPc pre t)))
    (hat : v'.ownBlock = (f p.1).ownBlock ∨ ∃ g, v'.ownBlock = some g ∧ ∀ t, (f t).ownBlock ≠ some g) : Grp W' B (pre ++ [p]) (D.put (.int .i64 (p.1 : Int)) (.held v')) (fun t => if t = p.1 then v' else f t) := by
  have hk : WideAt.IsKeyLit (.int .i64 (p.1 : Int)) := trivial
  have hal : ∀ t, t ≠ p.1 → ∀ g, v'.ownBlock = some g → (f t).ownBlock ≠ some g := by
    intro t ht g hg
    rcases hat with e | ⟨g', e, hno⟩
    · rw [e] at hg
      exact h.ap p.1 t (fun e => ht e.symm) g hg
    · rw [e] at hg
      injection hg with hg
      subst hg
      exact hno t
  refine ⟨h.map.put _ _, fun s => ?_, fun s => ?_, fun s t hst g hs => ?_, fun x => ?_⟩
  · by_cases hs : s = p.1
    · subst hs
      rw [if_pos rfl]
      exact atKey_put_same h.map hk _ _
    · rw [if_neg hs, atKey_put_other (lit_ne (by omega))]
      exact h.at' s
  · rw [ofPc_snoc]
    by_cases hs : s = p.1
    · subst hs
      rw [if_pos rfl, if_pos rfl, List.length_append, rCells_snoc]
      exact hown
    · rw [if_neg hs, if_neg (fun e => hs e.symm)]
      exact hoth s hs
  · by_cases h1 : s = p.1
    · rw [if_pos h1] at hs
      rw [if_neg (fun e => hst (h1.trans e.symm))]
      exact hal t (fun e => hst (h1.trans e.symm)) g hs
    · rw [if_neg h1] at hs
      by_cases h2 : t = p.1
      · rw [if_pos h2]
        exact fun e => hal s h1 g e hs
      · rw [if_neg h2]
        exact h.ap s t hst g hs
  · by_cases hx : x = (p.1 : Int)
    · subst hx
      rw [has_put_same h.map hk]
      simp
    · rw [has_put_other (lit_ne hx), h.has]
      constructor
      · rintro ⟨q, hq, e⟩
        exact ⟨q, by simp [hq], e⟩
      · rintro ⟨q, hq, e⟩
        rcases List.mem_append.1 hq with hq | hq
        · exact ⟨q, hq, e⟩
        · rw [List.mem_singleton] at hq
          subst hq
          exact absurd e.symm hx
/-- What a look-up yields is the default, or stands in the map. -/
theorem held_in {P : Program} {w : World} {k t E : TypeId} {b n : Nat} {D : DataW Value} (h : w.ownsMap P k VR b n D) (K : Keyed P k) (ht : P.underlying t = some (.map k E)) {z : Value} (hz : (zeroValue E).run P w = .ok z w) {key : Value} {kl : Lit} (hkey : keyOf P k key = some kl) {v : Value} (hat : D.atKey kl (.held z) = .held v)
    {es : Array MapEntry} {clock : Nat} (hb : w.heap[b]? = some (.map es clock)) : v = z ∨ ∃ e ∈ es.toList, e.val = v := by
  obtain ⟨es', clock', hb', F, _, rfl⟩ := h
  rw [hb] at hb'
  injection hb' with hb'
  injection hb' with h1 h2
  subst h1
  subst h2
  rcases Maps.fit_look false K ht hz hb F hkey with ⟨_, _, hn⟩ | ⟨e0, y, he, _, _, hR, hy, _⟩
  · left
    rw [hn] at hat
    injection hat with hat
    exact hat.symm
  · right
    refine ⟨e0, he, ?_⟩
    rw [hy] at hat
    unfold VR at hR
    injection hR with hR
    rw [← hR] at hat
    injection hat
/-- What stands in the map lies in the world. -/
theorem Grp.entry_lt {P : Program} {w : World} {k t E : TypeId} {b n B : Nat} {D : DataW Value} {pre : List (Nat × R4)} {f : Nat → Value} (hg : Grp w B pre D f) (h : w.ownsMap P k VR b n D) (K : Keyed P k) (hk : P.underlying k = some (.int .i64)) (ht : P.underlying t = some (.map k E)) {z : Value} (hz : (zeroValue E).run P w = .ok z w)
    {es : Array MapEntry} {clock : Nat} (hb : w.heap[b]? = some (.map es clock)) : ∀ e ∈ es.toList, ∀ g, e.val.ownBlock = some g → g < w.heap.size := by
  intro e he g hgv
  obtain ⟨es', clock', hb', F, _, hD⟩ := h
  rw [hb] at hb'
  injection hb' with hb'
  injection hb' with h1 h2
  subst h1
  subst h2
  obtain ⟨y, hy⟩ := F.reads e he
  obtain ⟨x, hkx, hlx, hwx⟩ := Maps.keyOf_i64 hk (Go.WideElems.rd_key hy)
  rcases Maps.fit_look false K ht hz hb F (Go.WideElems.rd_key hy) with ⟨_, hno, _⟩ | ⟨e0, y0, he0, hk0, _, hR, hat, _⟩
  · exact absurd rfl (hno e he)
  · rw [← hD, hlx] at hat
    have hhas : Maps.has D (.int .i64 x) = true := Maps.has_true_of_atKey hat
    obtain ⟨p, hp, hpx⟩ := (hg.has x).1 hhas
    have h3 := hat (.held (.slice none 0 0))
    rw [← hpx, hg.at' p.1] at h3
    unfold VR at hR
    injection hR with hR
    rw [← hR] at h3
    injection h3 with h3
    have hee : e0 = e := by
      obtain ⟨i, hi, ei⟩ := List.getElem_of_mem he0
      obtain ⟨j, hj, ej⟩ := List.getElem_of_mem he
      have hn : es.toList.Pairwise (fun x y => x.key ≠ y.key) := ((Go.MapKept.stamped_iff es clock).1 F.stamped).2.2
      rcases Nat.lt_trichotomy i j with h | h | h
      · exact absurd (by rw [ei, ej]; exact hk0) (List.pairwise_iff_getElem.1 hn i j hi hj h)
      · subst h; rw [← ei, ← ej]
      · exact absurd (by rw [ei, ej]; exact hk0.symm) (List.pairwise_iff_getElem.1 hn j i hj hi h)
    subst hee
    rw [← h3] at hgv
    exact own_lt (hg.own p.1) g hgv
/-- A row is no block of another kind. -/
theorem own_kind {W : World} {base : Nat} {e : TypeId} {size n : Nat} {v : Value} {xs : List Value} (h : W.ownsRow base e size v n xs) {B : Nat} {o : Obj} (hB : W.heap[B]? = some o) (ho : ∀ cs i, o ≠ .cells cs e i) : v.ownBlock ≠ some B := by
  intro hv
  rcases h.2 with ⟨h1, _⟩ | ⟨g, cap, cur, h1, _, hh, _⟩
  · rw [h1] at hv; simp [Value.ownBlock] at hv
  · rw [h1] at hv
    have : g = B := by simpa [Value.ownBlock] using hv
    subst this
    rw [hh] at hB
    injection hB with hB
    exact ho _ _ hB.symm
theorem own_rows {W : World} {base : Nat} {e : TypeId} {size n : Nat} {v : Value} {xs : List Value} (h : W.ownsRow base e size v n xs) : ∀ g, v.ownBlock = some g → ∀ cs T i, W.heap[g]? = some (.cells cs T i) → T = e := by
  intro g hg cs T i hh
  apply Classical.byContradiction
  intro hT
  exact own_kind h hh (fun cs' i' e1 => hT (by injection e1)) hg
theorem flatMap_le {α β : Type} (b : Nat) (f : α → List β) : ∀ l : List α, (∀ a ∈ l, (f a).length ≤ b) → (l.flatMap f).length ≤ b * l.length
  | [], _ => by simp
  | a :: t, h => by
    have h1 := h a (by simp)
    have h2 := flatMap_le b f t (fun x hx => h x (by simp [hx]))
    rw [List.flatMap_cons, List.length_append, List.length_cons, Nat.mul_succ]
    omega
theorem rows_flat (y : Int) : ∀ m : List (List R4), (m.map fun a => rowP a y).flatten.length ≤ m.flatten.length
  | [] => by simp
  | a :: t => by
    have h1 := rowP_len a y
    have h2 := rows_flat y t
    simp only [List.map_cons, List.flatten_cons, List.length_append]
    omega
theorem pieces_len {m : List (List R4)} (h : m.flatten.length ≤ 45) : (piecesP m).length ≤ 8100 := by
  have hC : (cutsP m.flatten).length ≤ 90 := by
    have h1 := (asc_all (yEdges m.flatten)).2.2
    rw [yEdges_len] at h1
    unfold cutsP
    omega
  have hb : ∀ i, (bandPcs m (cutsP m.flatten) i).length ≤ 90 := by
    intro i
    unfold bandPcs rowPcs
    have hE : (endsP (m.map fun a => rowP a ((cutsP m.flatten).getD i 0))).length ≤ 90 := by
      have h1 : (endsP (m.map fun a => rowP a ((cutsP m.flatten).getD i 0))).length ≤ (ssEdges (m.map fun a => rowP a ((cutsP m.flatten).getD i 0))).length := (asc_all _).2.2
      have h2 := rows_flat ((cutsP m.flatten).getD i 0) m
      rw [ssEdges_len] at h1
      omega
    have := flatMap_le 1 (onePc (m.map fun a => rowP a ((cutsP m.flatten).getD i 0)) ((cutsP m.flatten).getD i 0) ((cutsP m.flatten).getD (i + 1) 0) (endsP (m.map fun a => rowP a ((cutsP m.flatten).getD i 0)))) (List.range ((endsP (m.map fun a => rowP a ((cutsP m.flatten).getD i 0))).length - 1)) (fun k _ => by unfold onePc; split <;> simp)
    rw [List.length_range] at this
    omega
  have h3 := flatMap_le 90 (bandPcs m (cutsP m.flatten)) (List.range ((cutsP m.flatten).length - 1)) (fun i _ => hb i)
  rw [List.length_range] at h3
  have h4 : 90 * ((cutsP m.flatten).length - 1) ≤ 90 * 90 := Nat.mul_le_mul_left 90 (by omega)
  unfold piecesP
  omega
/-- Two ascending lists with the same elements are one. -/
theorem asc_one : ∀ (l m : List Int), l.Pairwise (· < ·) → m.Pairwise (· < ·) → (∀ x, x ∈ l ↔ x ∈ m) → l = m := by
  intro l m hl hm h
  have hn : ∀ {k : List Int}, k.Pairwise (· < ·) → k.Nodup := fun hk => hk.imp fun {a b} hab e => by omega
  have hp : l.Perm m := (List.perm_ext_iff_of_nodup (hn hl) (hn hm)).2 h
  exact List.Perm.eq_of_pairwise (le := fun a b => a < b) (fun a b _ _ h1 h2 => by omega) hl hm hp
/-- The keys, sorted. -/
theorem keys_sorted {P : Program} {k : TypeId} {w : World} {b n B : Nat} {D : DataW Value} (hown : w.ownsMap P k VR b n D) (K : Keyed P k) (hk : P.underlying k = some (.int .i64)) {W : World} {pre : List (Nat × R4)} {f : Nat → Value} (h : Grp W B pre D f) {ss : List Int} (hp : ss.Perm (intKeys D)) :
    ss.mergeSort (fun x y => decide (x ≤ y)) = keysPc pre := by
  obtain ⟨es, hD, hpw, _⟩ := hown.entries K
  obtain ⟨es', hD', hko⟩ := hown.keysOf
  obtain rfl : es = es' := by rw [hD] at hD'; simpa using hD'
  have hint : ∀ q ∈ es, ∃ x, q.1 = .int .i64 x := fun q hq => by
    obtain ⟨v, hv⟩ := hko q hq
    obtain ⟨x, _, hx, _⟩ := Maps.keyOf_i64 hk hv
    exact ⟨x, hx⟩
  have hmem : ∀ x : Int, x ∈ intKeys D ↔ ∃ p ∈ pre, ((p.1 : Nat) : Int) = x := by
    intro x
    rw [← h.has x, hD, Maps.has_eq, List.any_eq_true]
    show x ∈ es.map (fun p => Go.intOf p.1) ↔ _
    rw [List.mem_map]
    constructor
    · rintro ⟨q, hq, e⟩
      obtain ⟨y, hy⟩ := hint q hq
      refine ⟨q, hq, ?_⟩
      rw [hy] at e ⊢
      simp only [Go.intOf] at e
      subst e
      simp [Lit.sameKey]
    · rintro ⟨q, hq, e⟩
      obtain ⟨y, hy⟩ := hint q hq
      refine ⟨q, hq, ?_⟩
      rw [hy] at e ⊢
      have := WideAt.sameKey_eq e
      injection this with _ this
  have hnd : (intKeys D).Nodup := by
    rw [hD]
    show (es.map fun p => Go.intOf p.1).Nodup
    refine List.pairwise_map.2 (hpw.imp_of_mem fun {p q} hp' hq' hne e => hne ?_)
    obtain ⟨a, ha⟩ := hint p hp'
    obtain ⟨b, hb⟩ := hint q hq'
    rw [ha, hb] at e ⊢
    exact congrArg _ e
  have hs1 : (ss.mergeSort fun x y => decide (x ≤ y)).Pairwise (· ≤ ·) := srt_le ss
  have hs2 : (ss.mergeSort fun x y => decide (x ≤ y)).Nodup := ((List.mergeSort_perm ss _).trans hp).nodup_iff.2 hnd
  refine asc_one _ _ ?_ (asc_all _).1 fun x => ?_
  · exact (hs1.and hs2).imp fun {a b} hab => by have := hab.1; have := hab.2; omega
  · rw [((List.mergeSort_perm ss _).trans hp).mem_iff, hmem]
    unfold keysPc
    rw [(asc_all _).2.1, List.mem_map]

/-! ## Rows of faces -/
abbrev FL := List (Fc × LV)
def fcC (x : Fc × LV) : List Value := [.int .i64 x.1.set, .slice x.2.a x.1.rg.length x.2.c]
def fcCells (l : FL) : List Value := l.flatMap fcC
theorem fcCells_snoc (l : FL) (x : Fc × LV) : fcCells (l ++ [x]) = fcCells l ++ [.int .i64 x.1.set, .slice x.2.a x.1.rg.length x.2.c] := by simp [fcCells, fcC]
theorem fcCells_len (l : FL) : (fcCells l).length = l.length * 2 := by
  induction l with
  | nil => rfl
  | cons a t ih => simp [fcCells, fcC] at ih ⊢; omega
theorem fcCells_at (l : FL) (i : Nat) (h : i < l.length) : (fcCells l)[i * 2]? = some (.int .i64 l[i].1.set) ∧ (fcCells l)[i * 2 + 1]? = some (.slice l[i].2.a l[i].1.rg.length l[i].2.c) := by
  induction l generalizing i with
  | nil => simp at h
  | cons o r ih =>
    have hc : fcCells (o :: r) = fcC o ++ fcCells r := by simp [fcCells]
    have hl : (fcC o).length = 2 := rfl
    rw [hc]
    rcases i with _ | i
    · simp [fcC]
    · have := ih i (by simpa using h)
      refine ⟨?_, ?_⟩ <;> (rw [List.getElem?_append_right (by rw [hl]; omega), hl])
      · rw [show (i + 1) * 2 - 2 = i * 2 from by omega]; exact this.1
      · rw [show (i + 1) * 2 + 1 - 2 = i * 2 + 1 from by omega]; exact this.2
def fcs (l : FL) : List Fc := l.map (·.1)
structure FsOwn (w : World) (base : Nat) (v : Value) (l : FL) : Prop where
  o : w.ownsRow base 36 2 v l.length (fcCells l)
  fs : ∀ x ∈ l, w.ownsRow base 42 4 (.slice x.2.a x.1.rg.length x.2.c) x.1.rg.length (rCells x.1.rg)
  ap : ∀ x ∈ l, ∀ g, v.ownBlock = some g → (Value.slice x.2.a x.1.rg.length x.2.c).ownBlock ≠ some g
section
variable {w w' : World} {base : Nat} {v : Value} {l : FL}
theorem FsOwn.nil (w : World) (base : Nat) : FsOwn w base (.slice none 0 0) [] := ⟨World.ownsRow_nil _ _ _ _, fun _ h => by simp at h, fun _ h => by simp at h⟩
theorem FsOwn.keep (h : FsOwn w base v l) (hk : ∀ b, b < w.heap.size → base ≤ b → w'.heap[b]? = w.heap[b]?) : FsOwn w' base v l := ⟨own_keep h.o hk, fun x hx => own_keep (h.fs x hx) hk, h.ap⟩
theorem FsOwn.below (h : FsOwn w base v l) (hb : Below w.heap.size w w') : FsOwn w' base v l := h.keep fun b hlt _ => hb.block b hlt
theorem FsOwn.only {g : Nat} (h : FsOwn w base v l) (hg : w.grownBy w' (some g)) (hlt : g < base) : FsOwn w' base v l := h.keep fun b hb hB => hg.block b hb (fun e => by injection e; omega)
theorem FsOwn.rebase {base' : Nat} (h : FsOwn w base v l) (hb : base' ≤ base) : FsOwn w base' v l := ⟨own_rebase h.o hb, fun x hx => own_rebase (h.fs x hx) hb, h.ap⟩
theorem FsOwn.push {wa w5 : World} (h : FsOwn w base v l) (x : Fc × LV) (hx : wa.ownsRow base 42 4 (.slice x.2.a x.1.rg.length x.2.c) x.1.rg.length (rCells x.1.rg)) (hxa : ∀ g, v.ownBlock = some g → (Value.slice x.2.a x.1.rg.length x.2.c).ownBlock ≠ some g) {v5 : Value}
    (ha : Below w.heap.size w wa) (hg : wa.grownBy w5 v.ownBlock) (hown : w5.ownsRow base 36 2 v5 (l.length + 1) (fcCells l ++ [.int .i64 x.1.set, .slice x.2.a x.1.rg.length x.2.c])) (hat : v5.ownBlock = v.ownBlock ∨ v5.ownBlock = some wa.heap.size) : FsOwn w5 base v5 (l ++ [x]) := by
  have hall : ∀ y ∈ l ++ [x], wa.ownsRow base 42 4 (.slice y.2.a y.1.rg.length y.2.c) y.1.rg.length (rCells y.1.rg) ∧ ∀ g, v.ownBlock = some g → (Value.slice y.2.a y.1.rg.length y.2.c).ownBlock ≠ some g := by
    intro y hy
    rcases List.mem_append.1 hy with h1 | h1
    · exact ⟨ownsRow_below (h.fs y h1) ha, h.ap y h1⟩
    · rw [List.mem_singleton] at h1
      subst h1
      exact ⟨hx, hxa⟩
  refine ⟨?_, fun y hy => own_grown (hall y hy).1 hg (fun g hg2 e => (hall y hy).2 g e hg2), fun y hy g hg2 e => ?_⟩
  · rw [List.length_append, fcCells_snoc]
    exact hown
  rcases hat with h0 | h0
  · exact (hall y hy).2 g (by rw [← h0]; exact hg2) e
  · rw [h0] at hg2
    injection hg2 with hg2
    have := own_lt (hall y hy).1 g e
    omega
end
/-- A row of faces, read. -/
structure SlF (w : World) (A : Option Addr) (n c : Nat) (l : FL) : Prop where
  len : l.length = n
  cap : n ≤ c
  top : c ≤ maxLen
  lies : Lies w A n (fcCells l)
  fits : ∀ x ∈ l, SlR w x.2.a x.1.rg.length x.2.c x.1.rg
theorem SlF.below {w w' : World} {A : Option Addr} {n c : Nat} {l : FL} (h : SlF w A n c l) (hb : Below w.heap.size w w') : SlF w' A n c l := ⟨h.len, h.cap, h.top, h.lies.below hb, fun x hx => (h.fits x hx).below hb⟩
theorem SlF.at {w : World} {A : Option Addr} {n c : Nat} {l : FL} (h : SlF w A n c l) (i : Nat) (hi : i < l.length) : ∃ b off, A = some ⟨b, off, none⟩ ∧ b < w.heap.size ∧ w.cell? ⟨b, off + i * 2, none⟩ = some (.int .i64 l[i].1.set) ∧ w.cell? ⟨b, off + i * 2 + 1, none⟩ = some (.slice l[i].2.a l[i].1.rg.length l[i].2.c) ∧ SlR w l[i].2.a l[i].1.rg.length l[i].2.c l[i].1.rg := by
  rcases h.lies with h0 | ⟨b, off, rfl, hb, hc⟩
  · have := h.len; omega
  · exact ⟨b, off, rfl, hb, hc _ _ (fcCells_at l i hi).1, by rw [Nat.add_assoc]; exact hc _ _ (fcCells_at l i hi).2, h.fits _ (List.getElem_mem hi)⟩
theorem FsOwn.slf {w : World} {base : Nat} {l : FL} {A : Option Addr} {c : Nat} (h : FsOwn w base (.slice A l.length c) l) : SlF w A l.length c l := by
  obtain ⟨A', c', e, h1, h2, h3⟩ := own_slice h.o
  injection e with e1 e2 e3
  subst e1 e3
  refine ⟨rfl, h2, h3, h1, fun x hx => ?_⟩
  obtain ⟨A2, c2, e, h4⟩ := SlR.of_own (h.fs x hx)
  injection e with e1 e2 e3
  rw [e1, e3]
  exact h4
theorem Tryz.infoFace : (Tryz.prog.info? 36).map (fun i => (i.zero, i.size, i.bytes)) = some (some (.agg #[.int .i64 0, .slice none 0 0]), 2, 32) := by kernel_rfl
end Go.Proofs.YtabcadpfhachoaaGreat
