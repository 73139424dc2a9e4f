/- Two rows that grow together, beside a tape and a block: what a region that appends to both keeps. -/
import Derived.Test.YtjmbdfoegnfpnaaD8
import Derived.Test.YtjmbdfoegnfpnaaT
namespace Go.Proofs.Ytjmbdfoegnfpnaa
open Go.RowKit
set_option linter.unusedVariables false
set_option linter.unusedSimpArgs false

theorem own_keep {w w' : World} {base : Nat} {e : TypeId} {size n : Nat} {v : Value} {xs : List Value} (h : w.ownsRow base e size v n xs) (hk : ∀ b, b < w.heap.size → base ≤ b → w'.heap[b]? = w.heap[b]?) : w'.ownsRow base e size v n xs := by
  obtain ⟨h1, h2⟩ := h
  refine ⟨h1, ?_⟩
  rcases h2 with h2 | ⟨g', cap, cur, rfl, hb, hh, r⟩
  · exact .inl h2
  · have hlt : g' < w.heap.size := by
      rcases Nat.lt_or_ge g' w.heap.size with h | h
      · exact h
      · rw [Array.getElem?_eq_none h] at hh; cases hh
    exact .inr ⟨g', cap, cur, rfl, hb, (hk g' hlt hb).trans hh, r⟩
theorem OwnD.keep {w w' : World} {base : Nat} {q : DV} {d : Dr} (h : OwnD w base q d) (hk : ∀ b, b < w.heap.size → base ≤ b → w'.heap[b]? = w.heap[b]?) : OwnD w' base q d :=
  ⟨own_keep h.o1 hk, own_keep h.o2 hk, own_keep h.o3 hk, own_keep h.o4 hk, h.n12, h.n13, h.n14, h.n23, h.n24, h.n34⟩

/-- Two rows of numbers that are younger than world K, a tape g and a block X; all else that is older than K is as in K; N: blocks made since. -/
structure Two (w K W : World) (g X : Nat) (c : Obj) (u v : Value) (l k r : List Int) (N : List (Nat × Obj)) : Prop where
  o1 : W.ownsRow K.heap.size 48 1 u l.length (l.map (.int .u64))
  o2 : W.ownsRow K.heap.size 48 1 v k.length (k.map (.int .u64))
  ap : Apart u v
  tp : TapeAt W g r
  gr : w.grownBy W (some g)
  blk : W.heap[X]? = some c
  kp : ∀ b, b < K.heap.size → b ≠ g → b ≠ X → W.heap[b]? = K.heap[b]?
  sz : K.heap.size ≤ W.heap.size
  hg : g < w.heap.size
  hX : w.heap.size ≤ X
  hK : X < K.heap.size
  nw : ∀ p ∈ N, W.heap[p.1]? = some p.2 ∧ K.heap.size ≤ p.1 ∧ p.1 < W.heap.size ∧ u.ownBlock ≠ some p.1 ∧ v.ownBlock ≠ some p.1
section
variable {w K W W' : World} {g X : Nat} {c : Obj} {u v : Value} {l k r : List Int} {N : List (Nat × Obj)}
theorem Two.below (h : Two w K W g X c u v l k r N) (hb : Below W.heap.size W W') : Two w K W' g X c u v l k r N := by
  have h1 := h.sz
  have h2 := h.hg
  have h3 := h.hX
  have h4 := h.hK
  exact ⟨ownsRow_below h.o1 hb, ownsRow_below h.o2 hb, h.ap, h.tp.below hb (by omega), only_below h.gr hb h.gr.size, (hb.block _ (by omega)).trans h.blk, fun b hb1 hb2 hb3 => (hb.block _ (by omega)).trans (h.kp b hb1 hb2 hb3), Nat.le_trans h1 hb.size, h2, h3, h4,
    fun p hp => by
      obtain ⟨n1, n2, n3, n4⟩ := h.nw p hp
      exact ⟨(hb.block _ n3).trans n1, n2, Nat.lt_of_lt_of_le n3 hb.size, n4⟩⟩
theorem Two.alloc (h : Two w K W g X c u v l k r N) (o : Obj) : Two w K (W.alloc o) g X c u v l k r ((W.heap.size, o) :: N) := by
  have h' := h.below ((Below.refl _ _).alloc (Nat.le_refl _) o)
  refine ⟨h'.o1, h'.o2, h'.ap, h'.tp, h'.gr, h'.blk, h'.kp, h'.sz, h'.hg, h'.hX, h'.hK, fun p hp => ?_⟩
  rw [List.mem_cons] at hp
  rcases hp with rfl | hp
  · exact ⟨heap_alloc_new W o, h.sz, by simp, fun e => by have := h.o1.lt _ e; omega, fun e => by have := h.o2.lt _ e; omega⟩
  · exact h'.nw p hp
theorem Two.drew (h : Two w K W g X c u v l k r N) : Two w K W.drew g X c u v l k r N := h.below (Below.drew (Below.refl _ _))
theorem Two.drewN (h : Two w K W g X c u v l k r N) (n : Nat) : Two w K (W.drewN n) g X c u v l k r N := h.below (below_drewN (Below.refl _ _) n)
theorem Two.tape {r' : List Int} (h : Two w K W g X c u v l k r N) (hn : W.grownBy W' (some g)) (ht : TapeAt W' g r') : Two w K W' g X c u v l k r' N := by
  have h1 := h.sz
  have h2 := h.hg
  have h3 := h.hX
  have h4 := h.hK
  exact ⟨ownsRow_only h.o1 hn (by omega), ownsRow_only h.o2 hn (by omega), h.ap, ht, only_trans h.gr hn, (hn.block _ (by omega) (fun e => by injection e with e; omega)).trans h.blk,
    fun b hb1 hb2 hb3 => (hn.block _ (by omega) (fun e => by injection e with e; omega)).trans (h.kp b hb1 hb2 hb3), Nat.le_trans h1 hn.size, h2, h3, h4,
    fun p hp => by
      obtain ⟨n1, n2, n3, n4⟩ := h.nw p hp
      exact ⟨(hn.block _ n3 (fun e => by injection e with e; omega)).trans n1, n2, Nat.lt_of_lt_of_le n3 hn.size, n4⟩⟩
theorem Two.swap (h : Two w K W g X c u v l k r N) : Two w K W g X c v u k l r N := ⟨h.o2, h.o1, h.ap.symm, h.tp, h.gr, h.blk, h.kp, h.sz, h.hg, h.hX, h.hK, fun p hp => by
  obtain ⟨n1, n2, n3, n4, n5⟩ := h.nw p hp
  exact ⟨n1, n2, n3, n5, n4⟩⟩
theorem Two.app1 {u' : Value} {x : Int} (h : Two w K W g X c u v l k r N) (ho : W'.ownsRow K.heap.size 48 1 u' (l.length + 1) (l.map (.int .u64) ++ [.int .u64 x])) (hn : W.grownBy W' u.ownBlock) (hat : u'.ownBlock = u.ownBlock ∨ u'.ownBlock = some W.heap.size) : Two w K W' g X c u' v (l ++ [x]) k r N := by
  have h1 := h.sz
  have h2 := h.hg
  have h3 := h.hX
  have h4 := h.hK
  have hb := own_base h.o1
  have hlt := h.o2.lt
  refine ⟨by rw [List.length_append, List.map_append]; exact ho, ?_, ?_, h.tp.grown hn (fun y hy => by have := hb y hy; omega), only_grown h.gr hn (fun y hy => by have := hb y hy; omega), (hn.block _ (by omega) (fun e => by have := hb _ e.symm; omega)).trans h.blk,
    fun b hb1 hb2 hb3 => (hn.block _ (by omega) (fun e => by have := hb _ e.symm; omega)).trans (h.kp b hb1 hb2 hb3), Nat.le_trans h1 hn.size, h2, h3, h4, fun p hp => ?_⟩
  · rcases hu : u.ownBlock with _ | y
    · rw [hu] at hn
      obtain ⟨a1, a2⟩ := h.o2
      refine ⟨a1, ?_⟩
      rcases a2 with a2 | ⟨g', cap, cur, rfl, hb', hh, rr⟩
      · exact .inl a2
      · have hlt' : g' < W.heap.size := by have := (hlt g' (by simp [Value.ownBlock])); omega
        exact .inr ⟨g', cap, cur, rfl, hb', (hn.block g' hlt' (by simp)).trans hh, rr⟩
    · rw [hu] at hn
      exact own_only h.o2 hn (h.ap y hu)
  · intro y hy1 hy2
    rcases hat with e | e
    · exact h.ap y (by rw [← e]; exact hy1) hy2
    · rw [e] at hy1
      injection hy1 with hy1
      have := hlt y hy2
      omega
  · obtain ⟨n1, n2, n3, n4, n5⟩ := h.nw p hp
    refine ⟨(hn.block _ n3 (fun e => n4 e.symm)).trans n1, n2, Nat.lt_of_lt_of_le n3 hn.size, fun e => ?_, n5⟩
    rcases hat with e' | e'
    · exact n4 (by rw [← e']; exact e)
    · rw [e'] at e
      injection e with e
      omega
theorem Two.app2 {v' : Value} {x : Int} (h : Two w K W g X c u v l k r N) (ho : W'.ownsRow K.heap.size 48 1 v' (k.length + 1) (k.map (.int .u64) ++ [.int .u64 x])) (hn : W.grownBy W' v.ownBlock) (hat : v'.ownBlock = v.ownBlock ∨ v'.ownBlock = some W.heap.size) : Two w K W' g X c u v' l (k ++ [x]) r N :=
  (h.swap.app1 ho hn hat).swap
theorem Two.store {c' : Obj} (h : Two w K W g X c u v l k r N) (hc : W'.heap[X]? = some c') (hn : W.grownBy W' (some X)) : Two w K W' g X c' u v l k r [] := by
  have h1 := h.sz
  have h2 := h.hg
  have h3 := h.hX
  have h4 := h.hK
  refine ⟨ownsRow_only h.o1 hn h4, ownsRow_only h.o2 hn h4, h.ap, h.tp.grown hn (fun y hy => by injection hy with hy; omega), only_grown h.gr hn (fun y hy => by injection hy with hy; omega), hc,
    fun b hb1 hb2 hb3 => (hn.block _ (by omega) (fun e => by injection e with e; exact hb3 e)).trans (h.kp b hb1 hb2 hb3), Nat.le_trans h1 hn.size, h2, h3, h4, fun p hp => by simp at hp⟩
theorem Two.news (h : Two w K W g X c u v l k r N) {B : Nat} {x : Int} (hm : (B, Obj.cells #[.int .u64 x] 48 (0, 0)) ∈ N) : Reads W W.heap.size 1 (some ⟨B, 0, none⟩) 1 [.int .u64 x] :=
  ⟨rfl, fun _ => ⟨_, rfl, (h.nw _ hm).2.2.1, fun j u hu => World.news_of_block (h.nw _ hm).1 j u hu⟩⟩
theorem Two.forget (h : Two w K W g X c u v l k r N) : Two w K W g X c u v l k r [] := ⟨h.o1, h.o2, h.ap, h.tp, h.gr, h.blk, h.kp, h.sz, h.hg, h.hX, h.hK, fun p hp => by simp at hp⟩
theorem Two.own {base : Nat} {q : DV} {d : Dr} (h : Two w K W g X c u v l k r N) (hd : OwnD K base q d) (hb : X < base) : OwnD W base q d :=
  hd.keep fun b hb1 hb2 => h.kp b hb1 (by have := h.hg; have := h.hX; omega) (by omega)
theorem Two.start (hg : g < w.heap.size) (hX : w.heap.size ≤ X) (hK : X < K.heap.size) (ht : TapeAt K g r) (hgr : w.grownBy K (some g)) (hb : K.heap[X]? = some c) : Two w K K g X c (.slice none 0 0) (.slice none 0 0) [] [] r [] :=
  ⟨World.ownsRow_nil _ _ _ _, World.ownsRow_nil _ _ _ _, fun k hk => by simp [Value.ownBlock] at hk, ht, hgr, hb, fun _ _ _ _ => rfl, Nat.le_refl _, hg, hX, hK, fun p hp => by simp at hp⟩
end
end Go.Proofs.Ytjmbdfoegnfpnaa
