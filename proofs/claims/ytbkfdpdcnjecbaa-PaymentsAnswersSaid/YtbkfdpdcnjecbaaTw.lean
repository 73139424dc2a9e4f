/- Words: a slice of bytes; what a call leaves that returns a tape; what writing an order gives. -/
import Derived.Test.YtbkfdpdcnjecbaaOr
namespace Go.Proofs.Ytbkfdpdcnjecbaa
open Go.RowKit
set_option linter.unusedVariables false

/-- A slice that reads as these bytes. -/
structure Sl8 (w : World) (A : Option Addr) (n c : Nat) (l : List Int) : Prop where
  len : l.length = n
  cap : n ≤ c
  top : c ≤ maxLen
  byt : Bytes l
  lies : Lies w A n (l.map (.int .u8))
theorem Sl8.below {w w' : World} {A : Option Addr} {n c : Nat} {l : List Int} (h : Sl8 w A n c l) (hb : Below w.heap.size w w') : Sl8 w' A n c l := ⟨h.len, h.cap, h.top, h.byt, h.lies.below hb⟩
theorem Sl8.of_own {w : World} {base : Nat} {v : Value} {n : Nat} {l : List Int} (h : w.ownsRow base 5 1 v n (l.map (.int .u8))) (hl : l.length = n) (hb : Bytes l) : ∃ A c, v = .slice A n c ∧ Sl8 w A n c l := by
  obtain ⟨A, c, rfl, hlies, hnc, hcm⟩ := own_slice h
  exact ⟨A, c, rfl, hl, hnc, hcm, hb, hlies⟩
theorem Sl8.nil_ (w : World) : Sl8 w none 0 0 [] := ⟨rfl, Nat.le_refl _, Nat.zero_le _, fun _ h => by simp at h, .inl rfl⟩
theorem Sl8.take {w : World} {A : Option Addr} {n c : Nat} {l : List Int} (h : Sl8 w A n c l) (k : Nat) (hk : k ≤ n) : Sl8 w A k c (l.take k) := by
  refine ⟨by rw [List.length_take, h.len]; omega, Nat.le_trans hk h.cap, h.top, h.byt.take k, ?_⟩
  rcases h.lies with h0 | ⟨b, off, e, hlt, hcell⟩
  · exact .inl (by omega)
  · refine .inr ⟨b, off, e, hlt, fun j u hu => hcell j u ?_⟩
    rw [List.map_take, List.getElem?_take] at hu
    split at hu
    · exact hu
    · cases hu
theorem Sl8.of_own' {w : World} {base : Nat} {v : Value} {n : Nat} {l : List Int} (h : w.ownsRow base 5 1 v n (l.map (.int .u8))) (hl : l.length = n) (hb : Bytes l) : ∃ A c, v = .slice A n c ∧ Sl8 w A n c l ∧ ∀ ad, A = some ad → base ≤ ad.block := by
  obtain ⟨A, c, rfl, hs⟩ := Sl8.of_own h hl hb
  refine ⟨A, c, rfl, hs, ?_⟩
  rintro ad rfl
  exact own_base h ad.block rfl
theorem put_slice {w w' : World} {base : Nat} {xs : List Int} {v : Value} (h : PutPost w base xs (.returned v) w') (hb : Bytes xs) : ∃ A c, v = .slice A xs.length c ∧ Sl8 w' A xs.length c xs ∧ ∀ ad, A = some ad → base ≤ ad.block := by
  obtain ⟨v', e, hown, _⟩ := h
  injection e with e
  subst e
  exact Sl8.of_own' hown rfl hb
theorem Sl8.far {w : World} {A : Option Addr} {n c : Nat} {l : List Int} (h : Sl8 w A n c l) {p : Addr} (hp : ∀ ad, A = some ad → ad.block ≠ p.block) (u : Value) : Sl8 (w.setCell p u) A n c l := by
  refine ⟨h.len, h.cap, h.top, h.byt, ?_⟩
  rcases h.lies with h0 | ⟨b, off, rfl, hlt, hcell⟩
  · exact .inl h0
  · refine .inr ⟨b, off, rfl, by simpa using hlt, fun j u' hu => ?_⟩
    rw [World.cell?_setCell_other _ _ _ _ (by intro e; exact hp _ rfl (by rw [e]))]
    exact hcell j u' hu
theorem Sl8.off_box {w : World} {A : Option Addr} {n c : Nat} {l : List Int} (h : Sl8 w A n c l) {g : Nat} {a1 a2 : Option Addr} {b1 c1 b2 c2 : Nat} {t : TypeId} {fr : Nat × Nat} (hg : w.heap[g]? = some (.cells #[.slice a1 b1 c1, .slice a2 b2 c2] t fr)) : 0 < n → ∀ ad, A = some ad → ad.block ≠ g := by
  rintro hn ad rfl rfl
  rcases h.lies with h0 | ⟨b, off, e, hlt, hcell⟩
  · omega
  · injection e with e
    subst e
    have hl : 0 < l.length := by have := h.len; omega
    have h1 := hcell 0 (.int .u8 l[0]) (by simp [hl])
    rw [cell_of_row w b (off + 0) _ _ _ hg] at h1
    rcases (show off = 0 ∨ off = 1 ∨ 2 ≤ off by omega) with rfl | rfl | h2
    · simp at h1
    · simp at h1
    · rw [Array.getElem?_eq_none (by simp; omega)] at h1
      cases h1
theorem Sl8.far0 {w : World} {A : Option Addr} {n c : Nat} {l : List Int} (h : Sl8 w A n c l) {p : Addr} (hp : 0 < n → ∀ ad, A = some ad → ad.block ≠ p.block) (u : Value) : Sl8 (w.setCell p u) A n c l := by
  rcases Nat.eq_zero_or_pos n with h0 | h0
  · exact ⟨h.len, h.cap, h.top, h.byt, .inl h0⟩
  · exact h.far (hp h0) u
/-- Storing a tape into a variable of tapes changes no slice of bytes. -/
theorem Sl8.box {w : World} {A : Option Addr} {n c : Nat} {l : List Int} (h : Sl8 w A n c l) {g : Nat} {a1 a2 : Option Addr} {b1 c1 b2 c2 : Nat} {t : TypeId} {fr : Nat × Nat} (hg : w.heap[g]? = some (.cells #[.slice a1 b1 c1, .slice a2 b2 c2] t fr)) (u v : Value) : Sl8 ((w.setCell ⟨g, 0, none⟩ u).setCell ⟨g, 1, none⟩ v) A n c l :=
  (h.far0 (p := ⟨g, 0, none⟩) (h.off_box hg) u).far0 (p := ⟨g, 1, none⟩) (h.off_box hg) v
theorem Sl8.drew {w : World} {A : Option Addr} {n c : Nat} {l : List Int} (h : Sl8 w A n c l) : Sl8 w.drew A n c l := ⟨h.len, h.cap, h.top, h.byt, h.lies⟩
theorem Sl8.alloc {w : World} {A : Option Addr} {n c : Nat} {l : List Int} (h : Sl8 w A n c l) (o : Obj) : Sl8 (w.alloc o) A n c l := h.below ((Below.refl _ _).alloc (Nat.le_refl _) o)
theorem cell_al {w : World} (o : Obj) (b i : Nat) (h : b < w.heap.size) : (w.alloc o).cell? ⟨b, i, none⟩ = w.cell? ⟨b, i, none⟩ := World.cell?_alloc_lt w o _ h
theorem froz_al {w : World} (o : Obj) (b i : Nat) (h : b < w.heap.size) : (w.alloc o).frozen? ⟨b, i, none⟩ = w.frozen? ⟨b, i, none⟩ := World.frozen?_of_block (a := ⟨b, i, none⟩) (Below.heap_alloc w o b h)
theorem ordGuard (w : World) (x y : Operand) (op : BinOp) (xs ys : Array Value) : (eqGuard op 32 x y (.agg xs) (.agg ys)).run Try.prog w = .ok () w := run_eqGuard_agg w op _ x y xs ys (by kernel_rfl)
theorem ordFields : Try.prog.fieldsOf 32 = #[{ name := "Number", type := 3, offset := 0, embedded := false, tag := "", pkgPath := "", byteOffset := 0 }, { name := "Farm", type := 3, offset := 1, embedded := false, tag := "", pkgPath := "", byteOffset := 8 }, { name := "Amount", type := 3, offset := 2, embedded := false, tag := "", pkgPath := "", byteOffset := 16 }, { name := "Decision", type := 3, offset := 3, embedded := false, tag := "", pkgPath := "", byteOffset := 24 }] := by kernel_rfl
def ordEq (a b c d a' b' c' d' : Int) : Bool := a == a' && (b == b' && (c == c' && d == d'))
theorem ordEqualIn (w : World) (k : Nat) (a b c d a' b' c' d' : Int) : (Op.equalIn (k + 2) 32 (.agg #[.int .i64 a, .int .i64 b, .int .i64 c, .int .i64 d]) (.agg #[.int .i64 a', .int .i64 b', .int .i64 c', .int .i64 d'])).run Try.prog w = .ok (ordEq a b c d a' b' c' d') w := by
  have ci : Try.prog.cellsOf 3 = 1 := by kernel_rfl
  have h3 : ∀ (x y : Int) (w : World), (Op.equalIn (k + 1) 3 (.int .i64 x) (.int .i64 y)).run Try.prog w = .ok (x == y) w := fun x y w => run_equalIn_int w k 3 .i64 .i64 x y Try.underlying3
  rw [run_equalIn_agg w (k + 1) _ _ _ (by kernel_rfl) (by kernel_rfl), ordFields]
  unfold ordEq
  cases h1 : a == a' <;> cases h2 : b == b' <;> cases h4 : c == c' <;> cases h5 : d == d' <;> simp [Op.eqFields, go_sem, h3, h1, h2, h4, h5]
theorem ord_neq (w : World) (a b c d a' b' c' d' : Int) : (binOp .neq 32 (.agg #[.int .i64 a, .int .i64 b, .int .i64 c, .int .i64 d]) (.agg #[.int .i64 a', .int .i64 b', .int .i64 c', .int .i64 d'])).run Try.prog w = .ok (.bool (!(ordEq a b c d a' b' c' d'))) w := by
  rw [run_neq_struct, ordEqualIn w 9998]
  rfl
theorem ord_eql (w : World) (a b c d a' b' c' d' : Int) : (binOp .eql 32 (.agg #[.int .i64 a, .int .i64 b, .int .i64 c, .int .i64 d]) (.agg #[.int .i64 a', .int .i64 b', .int .i64 c', .int .i64 d'])).run Try.prog w = .ok (.bool (ordEq a b c d a' b' c' d')) w := by
  rw [run_eql_struct, ordEqualIn w 9998]
  rfl
theorem ordEq_iff (o p : Ord4) : ordEq o.n o.f o.a o.d p.n p.f p.a p.d = true ↔ o = p := by
  cases o; cases p; simp [ordEq]
/-- What a call leaves that returns a tape of these bytes. -/
def TapePost (w : World) (xs ys : List Int) (e : Ending) (w' : World) : Prop :=
  ∃ A n c B m d, e = .returned (.agg #[.slice A n c, .slice B m d]) ∧ Sl8 w' A n c xs ∧ Sl8 w' B m d ys ∧ Below w.heap.size w w' ∧ (∀ ad, A = some ad → w.heap.size ≤ ad.block) ∧ ∀ ad, B = some ad → w.heap.size ≤ ad.block
/-- .. and an error's number. -/
def TapeEPost (w : World) (xs ys : List Int) (x : Int) (e : Ending) (w' : World) : Prop :=
  ∃ A n c B m d, e = .returned (.tuple #[.agg #[.slice A n c, .slice B m d], .int .i64 x]) ∧ Sl8 w' A n c xs ∧ Sl8 w' B m d ys ∧ Below w.heap.size w w' ∧ (x = 0 → (∀ ad, A = some ad → w.heap.size ≤ ad.block) ∧ ∀ ad, B = some ad → w.heap.size ≤ ad.block)
/-- What writing an order makes of the loose bytes, and the error. -/
def writeB (xs ys : List Int) (o : Ord4) : List Int × Int :=
  if 0 < (ordsB (xs ++ ys)).2.length then (ys, 72)
  else if rightB o = false then (ys, 75)
  else if o.n ≤ lastN (ordsB (xs ++ ys)).1 then (ys, 71)
  else if 200 ≤ (ordsB (xs ++ ys)).1.length then (ys, 73)
  else (ys ++ recB o, 0)
/-- Two blocks hold tapes: g these slices, h two nil ones. -/
structure Boxes (w : World) (g h : Nat) (A : Option Addr) (n c : Nat) (B : Option Addr) (m d : Nat) : Prop where
  one : w.heap[g]? = some (.cells #[.slice A n c, .slice B m d] 28 (0, 0))
  two : w.heap[h]? = some (.cells #[.slice none 0 0, .slice none 0 0] 28 (0, 0))
theorem Boxes.new (w : World) (A : Option Addr) (n c : Nat) (B : Option Addr) (m d : Nat) : Boxes ((w.alloc (.cells #[.slice A n c, .slice B m d] 28)).alloc (.cells #[.slice none 0 0, .slice none 0 0] 28)) w.heap.size (w.heap.size + 1) A n c B m d := ⟨heap_alloc2_old w _ _, heap_alloc2_new w _ _⟩
theorem Boxes.below {w w' : World} {g h : Nat} {A : Option Addr} {n c : Nat} {B : Option Addr} {m d : Nat} {b : Nat} (k : Boxes w g h A n c B m d) (hb : Below b w w') (hg : g < b) (hh : h < b) : Boxes w' g h A n c B m d := ⟨(hb.block g hg).trans k.one, (hb.block h hh).trans k.two⟩
theorem Boxes.drew {w : World} {g h : Nat} {A : Option Addr} {n c : Nat} {B : Option Addr} {m d : Nat} (k : Boxes w g h A n c B m d) : Boxes w.drew g h A n c B m d := ⟨k.one, k.two⟩
theorem Boxes.facts {w : World} {g h : Nat} {A : Option Addr} {n c : Nat} {B : Option Addr} {m d : Nat} (k : Boxes w g h A n c B m d) :
    w.cell? ⟨g, 0, none⟩ = some (.slice A n c) ∧ w.cell? ⟨g, 1, none⟩ = some (.slice B m d) ∧ w.cell? ⟨h, 0, none⟩ = some (.slice none 0 0) ∧ w.cell? ⟨h, 1, none⟩ = some (.slice none 0 0) ∧ w.frozen? ⟨h, 0, none⟩ = false ∧ w.frozen? ⟨h, 1, none⟩ = false :=
  ⟨cell_of_row w g 0 _ _ _ k.one, cell_of_row w g 1 _ _ _ k.one, cell_of_row w h 0 _ _ _ k.two, cell_of_row w h 1 _ _ _ k.two, frozen_of_row w h 0 _ _ k.two, frozen_of_row w h 1 _ _ k.two⟩
/-- How many bytes a crash keeps. -/
def keepN (k : Int) (n : Nat) : Nat := (min (max k 0) n).toNat
theorem keepN_le (k : Int) (n : Nat) : keepN k n ≤ n := by unfold keepN; omega
/-- The bytes that repairing leaves. -/
def fixB (l : List Int) : List Int := l.take (l.length - (ordsB l).2.length)
theorem ordsA_len (k : Nat) : ∀ (acc : List Ord4) (l : List Int), (ordsA k acc l).2.length ≤ l.length := by
  induction k with
  | zero => intro acc l; exact Nat.le_refl _
  | succ k ih =>
    intro acc l
    unfold ordsA
    split
    · have := ih (acc ++ [ordOf (l.take 28)]) (l.drop 28)
      rw [List.length_drop] at this
      omega
    · exact Nat.le_refl _
theorem ordsB_len (l : List Int) : (ordsB l).2.length ≤ l.length := ordsA_len _ _ _
/-- The sum of what a farm gets. -/
def totalB (l : List Ord4) (f : Int) : Int := l.foldl (fun t o => if o.f = f then wrap64 (t + o.a) else t) 0
theorem totalB_snoc (l : List Ord4) (o : Ord4) (f : Int) : totalB (l ++ [o]) f = if o.f = f then wrap64 (totalB l f + o.a) else totalB l f := by simp [totalB]
theorem totalB_wf (l : List Ord4) (f : Int) : -9223372036854775808 ≤ totalB l f ∧ totalB l f ≤ 9223372036854775807 := by
  unfold totalB
  suffices ∀ (l : List Ord4) (t : Int), -9223372036854775808 ≤ t ∧ t ≤ 9223372036854775807 → -9223372036854775808 ≤ l.foldl (fun t o => if o.f = f then wrap64 (t + o.a) else t) t ∧ l.foldl (fun t o => if o.f = f then wrap64 (t + o.a) else t) t ≤ 9223372036854775807 from this l 0 (by omega)
  intro l
  induction l with
  | nil => intro t h; exact h
  | cons o r ih =>
    intro t h
    apply ih
    dsimp only
    split
    · unfold wrap64; omega
    · exact h
end Go.Proofs.Ytbkfdpdcnjecbaa
