/- A region that draws its order and makes several objects of one kind: one walk for all orders, the blocks' numbers left open. No function of the program is met here. -/
import Derived.Test.YtpcfhcdbibklcaaGreatB
import Derived.Deep.RegionHeld3
namespace Go.Proofs.YtpcfhcdbibklcaaGreat
open Go.RowKit Go
set_option linter.unusedVariables false
set_option linter.unusedSimpArgs false

section
variable {P : Program} {md : Region.Mode} {ops : Array Oper} {Q : Exit → Act → World → Prop} {S : World → Prop}

def setAll (L : Array Bool) (l : List Nat) : Array Bool := l.foldl (fun L i => L.setIfInBounds i true) L
def putAll (a : Act) (l : List (Tmp × Value)) : Act := l.foldl (fun a x => a.put (some x.1) x.2) a
def allocs (w : World) (o : Obj) : Nat → World
  | 0 => w
  | n + 1 => (allocs w o n).alloc o
theorem allocs_size (w : World) (o : Obj) : ∀ n, (allocs w o n).heap.size = w.heap.size + n
  | 0 => rfl
  | n + 1 => by simp [allocs, allocs_size w o n]; omega
theorem setIf_comm {α : Type} (L : Array α) (i j : Nat) (x y : α) (h : i ≠ j) : (L.setIfInBounds i x).setIfInBounds j y = (L.setIfInBounds j y).setIfInBounds i x := by
  apply Array.ext_getElem?
  intro k
  simp only [Array.getElem?_setIfInBounds, Array.size_setIfInBounds]
  by_cases e1 : j = k
  · by_cases e2 : i = k
    · exact absurd (e2.trans e1.symm) h
    · simp [e1, e2]
  · by_cases e2 : i = k
    · simp [e1, e2]
    · simp [e1, e2]
theorem setAll_perm {L : Array Bool} {l m : List Nat} (h : l.Perm m) : setAll L l = setAll L m := by
  refine h.foldl_eq' (fun x _ y _ z => ?_) L
  by_cases e : x = y
  · subst e; rfl
  · exact setIf_comm z x y true true e
theorem put_comm (a : Act) (d e : Tmp) (u v : Value) (h : d ≠ e) : (a.put (some d) u).put (some e) v = (a.put (some e) v).put (some d) u := by
  show ({ a with tmps := (a.tmps.setIfInBounds d u).setIfInBounds e v } : Act) = { a with tmps := (a.tmps.setIfInBounds e v).setIfInBounds d u }
  rw [setIf_comm _ _ _ _ _ h]
theorem nodup_eq {α β : Type} (g : α → β) : ∀ {l : List α}, (l.map g).Nodup → ∀ x ∈ l, ∀ y ∈ l, g x = g y → x = y
  | [], _, x, hx, _, _, _ => by cases hx
  | a :: t, h, x, hx, y, hy, e => by
    rw [List.map_cons, List.nodup_cons] at h
    rcases List.mem_cons.1 hx with h1 | h1
    · rcases List.mem_cons.1 hy with h2 | h2
      · rw [h1, h2]
      · exact absurd (List.mem_map.2 ⟨y, h2, by rw [← e, h1]⟩) h.1
    · rcases List.mem_cons.1 hy with h2 | h2
      · exact absurd (List.mem_map.2 ⟨x, h1, by rw [e, h2]⟩) h.1
      · exact nodup_eq g h.2 x h1 y h2 e
theorem putAll_perm {a : Act} {l m : List (Tmp × Value)} (h : l.Perm m) (hn : (l.map (·.1)).Nodup) : putAll a l = putAll a m := by
  refine h.foldl_eq' (fun x hx y hy z => ?_) a
  by_cases e : x.1 = y.1
  · have := nodup_eq (·.1) hn x hx y hy e
    subst this; rfl
  · exact put_comm z x.1 y.1 x.2 y.2 e
/-- Whatever comes up next is one of those left. -/
def orderB (md : Region.Mode) (ops : Array Oper) : Nat → Array Bool → List (Nat × Nat) → Bool
  | 0, _, R => R.isEmpty
  | n + 1, L, R => !(Region.ready md ops L).isEmpty && (Region.ready md ops L).all (fun i => R.any fun it => it.1 == i) && R.all fun it => orderB md ops n (L.setIfInBounds it.1 true) (R.erase it)
theorem setAll_snoc (L : Array Bool) (l : List Nat) (i : Nat) : setAll L (l ++ [i]) = (setAll L l).setIfInBounds i true := by simp [setAll, List.foldl_append]
theorem putAll_snoc (a : Act) (l : List (Tmp × Value)) (d : Tmp) (v : Value) : putAll a (l ++ [(d, v)]) = (putAll a l).put (some d) v := by simp [putAll, List.foldl_append]

theorem allocs_aux (o : Obj) (w0 : World) (I : List (Nat × Nat)) (f : Nat) (L : Array Bool) (a : Act)
    (hd : (I.map (·.2)).Nodup) (hi : (I.map (·.1)).Nodup)
    (hop : ∀ it ∈ I, ∀ (K : Act → World → Prop) (a : Act) (w : World), K (a.put (some it.2) (.pointer (some ⟨w.heap.size, 0, none⟩))) (w.alloc o) → wpOp P ops Q it.1 K a w)
    (hS : ∀ w, S w → S (w.alloc o))
    (h : ∀ β : Nat → Nat, (∀ it ∈ I, w0.heap.size ≤ β it.1 ∧ β it.1 < w0.heap.size + I.length) → (∀ x ∈ I, ∀ y ∈ I, β x.1 = β y.1 → x = y) → S (allocs w0 o I.length) →
      wpAnyH P md ops Q S f (setAll L (I.map (·.1))) (putAll a (I.map fun it => (it.2, .pointer (some ⟨β it.1, 0, none⟩)))) (allocs w0 o I.length)) :
    ∀ (n : Nat) (R D : List (Nat × Nat)), R.length = n → (D ++ R).Perm I → orderB md ops n (setAll L (D.map (·.1))) R = true → S (allocs w0 o D.length) →
      wpAnyH P md ops Q S (f + n) (setAll L (D.map (·.1))) (putAll a (D.zipIdx.map fun x => (x.1.2, .pointer (some ⟨w0.heap.size + x.2, 0, none⟩)))) (allocs w0 o D.length)
  | 0, R, D, hl, hp, hr, hs => by
    have hR : R = [] := List.length_eq_zero_iff.1 hl
    subst hR
    rw [List.append_nil] at hp
    have hlen : D.length = I.length := hp.length_eq
    have hDi : (D.map (·.1)).Nodup := (hp.map _).nodup_iff.2 hi
    have hDd : (D.map (·.2)).Nodup := (hp.map _).nodup_iff.2 hd
    have hidx : ∀ k (hk : k < D.length), (D.map (·.1)).idxOf D[k].1 = k := fun k hk => by
      have hk' : k < (D.map (·.1)).length := by simpa using hk
      have := hDi.idxOf_getElem k hk'
      simpa using this
    have h1 := h (fun i => w0.heap.size + (D.map (·.1)).idxOf i) (fun it hit => by
      have hm : it ∈ D := hp.mem_iff.2 hit
      have := List.idxOf_lt_length_iff.2 (List.mem_map.2 ⟨it, hm, rfl⟩ : it.1 ∈ D.map (·.1))
      rw [List.length_map] at this
      omega) (fun x hx y hy e => by
      have hx' : x ∈ D := hp.mem_iff.2 hx
      have hy' : y ∈ D := hp.mem_iff.2 hy
      obtain ⟨i, hi', rfl⟩ := List.mem_iff_getElem.1 hx'
      obtain ⟨j, hj', rfl⟩ := List.mem_iff_getElem.1 hy'
      rw [hidx i hi', hidx j hj'] at e
      have : i = j := by omega
      subst this; rfl) (by rw [← hlen]; exact hs)
    rw [setAll_perm (hp.map (·.1)), hlen]
    have e : (D.zipIdx.map fun x => (x.1.2, Value.pointer (some ⟨w0.heap.size + x.2, 0, none⟩))) = D.map fun it => (it.2, Value.pointer (some ⟨w0.heap.size + (D.map (·.1)).idxOf it.1, 0, none⟩)) := by
      apply List.ext_getElem
      · simp
      · intro k h1 h2
        have hk : k < D.length := by simpa using h1
        simp only [List.getElem_map, List.getElem_zipIdx, Nat.zero_add]
        rw [hidx k hk]
    rw [e, putAll_perm (hp.map fun it => (it.2, Value.pointer (some ⟨w0.heap.size + (D.map (·.1)).idxOf it.1, 0, none⟩))) (by rw [List.map_map]; exact hDd)]
    exact h1
  | n + 1, R, D, hl, hp, hr, hs => by
    simp only [orderB, Bool.and_eq_true, Bool.not_eq_true', List.isEmpty_eq_false_iff] at hr
    obtain ⟨⟨h1, h2⟩, h3⟩ := hr
    rw [show f + (n + 1) = (f + n) + 1 by omega]
    refine wpAnyH_all rfl h1 fun i hi' => ?_
    obtain ⟨it, hit, hie⟩ := List.any_eq_true.1 (List.all_eq_true.1 h2 i hi')
    have hie : it.1 = i := by simpa using hie
    subst hie
    have hmem : it ∈ I := hp.mem_iff.1 (List.mem_append.2 (.inr hit))
    refine hop it hmem _ _ _ ⟨?_, ?_⟩
    · exact hS _ hs
    · have hp2 : ((D ++ [it]) ++ R.erase it).Perm I := by
        rw [List.append_assoc]
        exact ((List.perm_cons_erase hit).symm.append_left D).trans hp
      have := allocs_aux o w0 I f L a hd hi hop hS h n (R.erase it) (D ++ [it]) (by rw [List.length_erase_of_mem hit, hl]; rfl) hp2 (by
        rw [List.map_append, List.map_cons, List.map_nil, setAll_snoc]
        exact List.all_eq_true.1 h3 it hit) (by rw [List.length_append]; exact hS _ hs)
      rw [List.map_append, List.map_cons, List.map_nil, setAll_snoc, List.zipIdx_append, List.map_append, List.length_append] at this
      simp only [List.zipIdx_cons, List.zipIdx_nil, List.map_cons, List.map_nil, Nat.zero_add, List.length_cons, List.length_nil] at this
      rw [putAll_snoc] at this
      rw [allocs_size]
      exact this
theorem allocs_any (o : Obj) (w0 : World) (I : List (Nat × Nat)) (f : Nat) (L : Array Bool) (a : Act)
    (hd : (I.map (·.2)).Nodup) (hi : (I.map (·.1)).Nodup)
    (hop : ∀ it ∈ I, ∀ (K : Act → World → Prop) (a : Act) (w : World), K (a.put (some it.2) (.pointer (some ⟨w.heap.size, 0, none⟩))) (w.alloc o) → wpOp P ops Q it.1 K a w)
    (hr : orderB md ops I.length L I = true) (hS : ∀ w, S w → S (w.alloc o)) (h0 : S w0)
    (h : ∀ β : Nat → Nat, (∀ it ∈ I, w0.heap.size ≤ β it.1 ∧ β it.1 < w0.heap.size + I.length) → (∀ x ∈ I, ∀ y ∈ I, β x.1 = β y.1 → x = y) → S (allocs w0 o I.length) →
      wpAnyH P md ops Q S f (setAll L (I.map (·.1))) (putAll a (I.map fun it => (it.2, .pointer (some ⟨β it.1, 0, none⟩)))) (allocs w0 o I.length)) :
    wpAnyH P md ops Q S (f + I.length) L a w0 :=
  allocs_aux o w0 I f L a hd hi hop hS h I.length I [] rfl (by simp) hr h0
theorem allocs_heap (w : World) (o : Obj) : ∀ (n b : Nat), w.heap.size ≤ b → b < w.heap.size + n → (allocs w o n).heap[b]? = some o
  | 0, b, h1, h2 => by omega
  | n + 1, b, h1, h2 => by
    show ((allocs w o n).alloc o).heap[b]? = some o
    by_cases e : b = (allocs w o n).heap.size
    · rw [e]; exact heap_alloc_new _ _
    · have hs := allocs_size w o n
      exact (Below.heap_alloc _ _ _ (by omega)).trans (allocs_heap w o n b h1 (by omega))
theorem allocs_below (w : World) (o : Obj) : ∀ n, Below w.heap.size w (allocs w o n)
  | 0 => Below.refl _ _
  | n + 1 => (allocs_below w o n).alloc (by rw [allocs_size]; omega) _
/-- As allocs_any, the world behind told by what stands in it. -/
theorem allocs_any2 (o : Obj) (w0 : World) (I : List (Nat × Nat)) (f : Nat) (L : Array Bool) (a : Act)
    (hd : (I.map (·.2)).Nodup) (hi : (I.map (·.1)).Nodup)
    (hop : ∀ it ∈ I, ∀ (K : Act → World → Prop) (a : Act) (w : World), K (a.put (some it.2) (.pointer (some ⟨w.heap.size, 0, none⟩))) (w.alloc o) → wpOp P ops Q it.1 K a w)
    (hr : orderB md ops I.length L I = true) (hS : ∀ w, S w → S (w.alloc o)) (h0 : S w0)
    (h : ∀ (β : Nat → Nat) (wy : World), Below w0.heap.size w0 wy → (∀ it ∈ I, w0.heap.size ≤ β it.1 ∧ wy.heap[β it.1]? = some o) → (∀ x ∈ I, ∀ y ∈ I, β x.1 = β y.1 → x = y) → S wy →
      wpAnyH P md ops Q S f (setAll L (I.map (·.1))) (putAll a (I.map fun it => (it.2, .pointer (some ⟨β it.1, 0, none⟩)))) wy) :
    wpAnyH P md ops Q S (f + I.length) L a w0 :=
  allocs_any o w0 I f L a hd hi hop hr hS h0 fun β hb hj hs => h β _ (allocs_below w0 o I.length) (fun it hit => ⟨(hb it hit).1, allocs_heap w0 o I.length _ (hb it hit).1 (hb it hit).2⟩) hj hs
end
end Go.Proofs.YtpcfhcdbibklcaaGreat
