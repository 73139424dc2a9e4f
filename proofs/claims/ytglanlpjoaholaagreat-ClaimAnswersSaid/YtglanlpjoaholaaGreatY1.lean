/- Plain: how many rectangles a set of squares has whose rows change at few places; lines of claims, drawn in parcels. -/
import Derived.Test.YtglanlpjoaholaaGreatGt
namespace Go.Proofs.YtglanlpjoaholaaGreat
set_option linter.unusedVariables false
set_option linter.unusedSimpArgs false

/-- Where a row of squares may change. -/
def Cut (X : List Int) (p : Int → Bool) : Prop := ∀ x, p (x - 1) ≠ p x → x ∈ X
theorem Cut.mono {X Y : List Int} {p : Int → Bool} (h : Cut X p) (hs : ∀ x ∈ X, x ∈ Y) : Cut Y p := fun x hx => hs x (h x hx)
theorem Cut.how {X : List Int} {p q : Int → Bool} (how : Bool → Bool → Bool) (hp : Cut X p) (hq : Cut X q) : Cut X (fun x => how (p x) (q x)) := by
  intro x hx
  by_cases h1 : p (x - 1) = p x
  · by_cases h2 : q (x - 1) = q x
    · exact absurd (by dsimp only; rw [h1, h2]) hx
    · exact hq x h2
  · exact hp x h1
theorem cut_none (X : List Int) : Cut X (fun _ => false) := fun x hx => absurd rfl hx
theorem cut_has (q : R4) (y : Int) : Cut [q.l, q.r] (fun x => q.has x y) := by
  intro x hx
  by_cases h1 : x = q.l
  · simp [h1]
  by_cases h2 : x = q.r
  · simp [h2]
  exfalso
  apply hx
  have e1 : decide (q.l ≤ x - 1) = decide (q.l ≤ x) := decide_eq_decide.2 (by omega)
  have e2 : decide (x - 1 < q.r) = decide (x < q.r) := decide_eq_decide.2 (by omega)
  unfold R4.has
  dsimp only
  rw [e1, e2]
theorem cut_inL (y : Int) : ∀ l : List R4, Cut (xEdges l) (fun x => inL l x y)
  | [] => cut_none _
  | q :: t => by
    have e : (fun x => inL (q :: t) x y) = fun x => q.has x y || inL t x y := by funext x; simp [inL]
    rw [e]
    have e2 : xEdges (q :: t) = [q.l, q.r] ++ xEdges t := by simp [xEdges]
    rw [e2]
    exact Cut.how (· || ·) ((cut_has q y).mono fun x hx => List.mem_append_left _ hx) ((cut_inL y t).mono fun x hx => List.mem_append_right _ hx)
theorem SegF.ends {p : Int → Bool} {X : List Int} (hX : Cut X p) : ∀ {l : List (Sg Unit)} {c : Int}, SegF (fun x => opt (p x)) c l → (p (c - 1) = false ∨ p c = false) →
    ∃ E : List Int, E.Pairwise (· < ·) ∧ E.length = 2 * l.length ∧ ∀ e ∈ E, e ∈ X ∧ c ≤ e ∧ (p c = false → c < e)
  | [], c, h, h0 => ⟨[], List.Pairwise.nil, rfl, fun e he => by cases he⟩
  | s :: t, c, h, h0 => by
    obtain ⟨h1, h2, h3, h4, h5, h6⟩ := h
    have hs : p s.1 = true := (opt_some _).1 (h4 s.1 (Int.le_refl _) h2)
    have hp : p (s.1 - 1) = false := by
      by_cases hc : s.1 = c
      · rcases h0 with h0 | h0
        · rw [hc]; exact h0
        · rw [hc, h0] at hs; cases hs
      · exact (opt_none _).1 (h3 (s.1 - 1) (by omega) (by omega))
    have he : p (s.2.1 - 1) = true := (opt_some _).1 (h4 (s.2.1 - 1) (by omega) (by omega))
    have hn : p s.2.1 = false := (opt_ne _ _).1 h5
    obtain ⟨E, e1, e2, e3⟩ := SegF.ends hX h6 (.inr hn)
    refine ⟨s.1 :: s.2.1 :: E, ?_, by simp; omega, ?_⟩
    · rw [List.pairwise_cons, List.pairwise_cons]
      refine ⟨fun e hm => ?_, fun e hm => (e3 e hm).2.2 hn, e1⟩
      rcases List.mem_cons.1 hm with rfl | hm
      · exact h2
      · have := (e3 e hm).2.1; omega
    · intro e hm
      rcases List.mem_cons.1 hm with rfl | hm
      · refine ⟨hX _ (by rw [hp, hs]; simp), h1, fun h => ?_⟩
        rcases Int.lt_or_eq_of_le h1 with h7 | h7
        · exact h7
        · rw [h7, hs] at h; cases h
      · rcases List.mem_cons.1 hm with rfl | hm
        · exact ⟨hX _ (by rw [he, hn]; simp), by omega, fun _ => by omega⟩
        · have := (e3 e hm).2.1
          exact ⟨(e3 e hm).1, by omega, fun _ => by omega⟩
theorem sub_len : ∀ (E X : List Int), E.Pairwise (· < ·) → (∀ e ∈ E, e ∈ X) → E.length ≤ X.length
  | [], X, _, _ => by simp
  | e :: E, X, hp, hs => by
    obtain ⟨h1, h2⟩ := List.pairwise_cons.1 hp
    have he := hs e (by simp)
    have := sub_len E (X.erase e) h2 (fun k hk => (List.mem_erase_of_ne (by have := h1 k hk; omega)).2 (hs k (by simp [hk])))
    rw [List.length_erase_of_mem he] at this
    have := List.length_pos_of_mem he
    simp; omega
theorem segs_ends {p : Int → Bool} {X : List Int} {l : List (Sg Unit)} (h : Segs (fun x => opt (p x)) l) (hX : Cut X p) : 2 * l.length ≤ X.length := by
  obtain ⟨c, h0, h1⟩ := h
  obtain ⟨E, e1, e2, e3⟩ := SegF.ends hX h1 (.inl ((opt_none _).1 (h0 (c - 1) (by omega))))
  have := sub_len E X e1 fun e he => (e3 e he).1
  omega
theorem SegF.count {V : Type} {f : Int → Option V} {e : Int} (he : ∀ x v, f x = some v → x < e) : ∀ {l : List (Sg V)} {c : Int}, SegF f c l → c ≤ e → (l.length : Int) ≤ e - c
  | [], c, h, hc => by simp; omega
  | s :: t, c, h, hc => by
    obtain ⟨h1, h2, h3, h4, h5, h6⟩ := h
    have h7 := he (s.2.1 - 1) s.2.2 (h4 (s.2.1 - 1) (by omega) (by omega))
    have := SegF.count he h6 (by omega)
    simp; omega
theorem canon_len {P : Int → Int → Bool} {R : List R4} (h : Canon P R) {X : List Int} (hX : ∀ y, Cut X (fun x => P x y)) (H : Nat) (hy : ∀ x y, P x y = true → 0 ≤ y ∧ y < H) : R.length ≤ H * (X.length / 2) := by
  obtain ⟨row, bs, h1, h2, rfl⟩ := h
  have hr : ∀ y, (row y).length ≤ X.length / 2 := fun y => by have := segs_ends (h1 y) (hX y); omega
  have hb : bs.length ≤ H := by
    have hn : ∀ y, ¬ (0 ≤ y ∧ y < (H : Int)) → nz (row y) = none := fun y h => by
      rw [segs_none (p := fun x => P x y) (fun x => by
        cases hx : P x y with
        | false => rfl
        | true => exact absurd (hy x y hx) h) (h1 y)]
      rfl
    obtain ⟨c, h0, h3⟩ := h2
    have h4 : SegF (fun y => nz (row y)) 0 bs := by
      rcases Int.le_total c 0 with hc | hc
      · exact h3.up hc fun x hx => hn x (by omega)
      · exact h3.down hc fun x hx hx2 => h0 x hx2
    have := SegF.count (e := (H : Int)) (fun x v hx => by
      rcases Int.lt_or_le x H with h5 | h5
      · exact h5
      · rw [hn x (by omega)] at hx; cases hx) h4 (by omega)
    omega
  have hf := flat_len (X.length / 2) bs (fun s hs => by
    have := (h2.mem s.1 s.2.2).2 ⟨s, hs, Int.le_refl _, h2.pos s hs, rfl⟩
    rw [← (nz_some this).1]
    exact hr _)
  exact Nat.le_trans hf (Nat.mul_le_mul_right _ hb)

/-- A line: its parcel, its squares, its crop, its schemes. -/
structure Ln where
  pc : Int
  rg : List R4
  cr : Int
  sch : Int
/-- Parcel number i. -/
def PclAt (i : Nat) (l : List R4) : Prop := ∃ a b : Int, (2 ≤ a ∧ a ≤ 9) ∧ (2 ≤ b ∧ b ≤ 9) ∧ l = [⟨10 * (i : Int), 0, 10 * (i : Int) + a, b⟩]
structure PcOk (R : List (List R4)) : Prop where
  m : R.length ≤ 3
  at' : ∀ i (h : i < R.length), PclAt i R[i]
theorem PclAt.ins {i : Nat} {l : List R4} (h : PclAt i l) (hi : i < 3) : InS 30 l := by
  obtain ⟨a, b, ha, hb, rfl⟩ := h
  intro q hq
  rw [List.mem_singleton] at hq
  subst hq
  dsimp only
  omega
theorem PclAt.in {i : Nat} {l : List R4} (h : PclAt i l) (x y : Int) (hx : inL l x y = true) : 10 * (i : Int) ≤ x ∧ x < 10 * (i : Int) + 9 ∧ 0 ≤ y ∧ y < 9 := by
  obtain ⟨a, b, ha, hb, rfl⟩ := h
  simp [inL, R4.has] at hx
  omega
theorem one_canon (q : R4) (h : q.l < q.r ∧ q.b < q.t) : Canon (inL [q]) [q] := by
  refine ⟨fun y => if q.b ≤ y ∧ y < q.t then [(q.l, q.r, ())] else [], [(q.b, q.t, [(q.l, q.r, ())])], fun y => ?_, ?_, by simp [flat]⟩
  · by_cases hy : q.b ≤ y ∧ y < q.t
    · dsimp only
      rw [if_pos hy]
      refine ⟨q.l, fun x hx => (opt_none _).2 (by simp [inL, R4.has]; omega), Int.le_refl _, h.1, fun x h1 h2 => by dsimp only at h2; omega, fun x h1 h2 => (opt_some _).2 (by simp [inL, R4.has]; dsimp only at h1 h2; omega), ?_, fun x hx => (opt_none _).2 (by simp [inL, R4.has]; dsimp only at hx; omega)⟩
      dsimp only
      rw [(opt_none _).2 (by simp [inL, R4.has])]
      simp
    · dsimp only
      rw [if_neg hy]
      exact ⟨0, fun x hx => (opt_none _).2 (by simp [inL, R4.has]; omega), fun x hx => (opt_none _).2 (by simp [inL, R4.has]; omega)⟩
  · refine ⟨q.b, fun y hy => by dsimp only; rw [if_neg (by omega)]; rfl, Int.le_refl _, h.2, fun x h1 h2 => by dsimp only at h2; omega, fun y h1 h2 => by dsimp only at h1 h2 ⊢; rw [if_pos ⟨h1, h2⟩]; rfl, ?_, fun y hy => by dsimp only at hy ⊢; rw [if_neg (by omega)]; rfl⟩
    dsimp only
    rw [if_neg (by omega)]
    simp [nz]
theorem PclAt.reg {i : Nat} {l : List R4} (h : PclAt i l) (hi : i < 3) : Reg 30 120 l := by
  have h0 := h.ins hi
  refine ⟨h0, ?_, ?_⟩
  · obtain ⟨a, b, ha, hb, rfl⟩ := h
    exact (one_canon _ (by dsimp only; omega)).own h0.pos
  · obtain ⟨a, b, ha, hb, rfl⟩ := h
    simp
/-- A line that is right. -/
structure LnOk (R : List (List R4)) (nc : Nat) (x : Ln) : Prop where
  pc : ∃ (p : Nat) (h : p < R.length), x.pc = (p : Int) + 1 ∧ ∀ u v, inL x.rg u v = true → inL R[p] u v = true
  reg : Reg 30 120 x.rg
  ne : x.rg ≠ []
  cr : 0 ≤ x.cr ∧ x.cr < (nc : Int)
  sch : 1 ≤ x.sch ∧ x.sch ≤ 15
/-- Lines that are right, and disjoint; they change at few places. -/
structure LsOk (R : List (List R4)) (nc k : Nat) (L : List Ln) : Prop where
  ok : ∀ x ∈ L, LnOk R nc x
  dis : L.Pairwise fun a b => ∀ u v, inL a.rg u v = true → inL b.rg u v = false
  cut : ∃ X : List Int, X.length ≤ 6 + 4 * k ∧ (∀ x ∈ L, ∀ y, Cut X fun u => inL x.rg u y) ∧ ∀ r ∈ R, ∀ y, Cut X fun u => inL r u y
  len : L.length ≤ k
theorem PcOk.cut {R : List (List R4)} (h : PcOk R) : ∃ X : List Int, X.length ≤ 2 * R.length ∧ ∀ r ∈ R, ∀ y, Cut X fun u => inL r u y := by
  have hr : ∀ r ∈ R, r.length = 1 := by
    intro r hr
    obtain ⟨i, hi, rfl⟩ := List.getElem_of_mem hr
    obtain ⟨a, b, -, -, e⟩ := h.at' i hi
    rw [e]; rfl
  clear h
  induction R with
  | nil => exact ⟨[], by simp, fun r hr => (by cases hr)⟩
  | cons r R ih =>
    obtain ⟨X, h1, h2⟩ := ih fun q hq => hr q (by simp [hq])
    refine ⟨xEdges r ++ X, ?_, fun q hq y => ?_⟩
    · rw [List.length_append, xEdges_len, hr r (by simp)]; simp; omega
    · rcases List.mem_cons.1 hq with rfl | hq
      · exact (cut_inL y q).mono fun x hx => List.mem_append_left _ hx
      · exact (h2 q hq y).mono fun x hx => List.mem_append_right _ hx
theorem LsOk.nil {R : List (List R4)} (h : PcOk R) (nc : Nat) : LsOk R nc 0 [] := by
  obtain ⟨X, h1, h2⟩ := h.cut
  have := h.m
  exact ⟨fun x hx => (by cases hx), List.Pairwise.nil, ⟨X, by omega, fun x hx => (by cases hx), h2⟩, Nat.le_refl _⟩
/-- A land: what is drawn, before it is shifted. -/
structure LandOk (a : List R4) : Prop where
  ins : InS 9 a
  len : a.length ≤ 6
  cut : ∃ Y : List Int, Y.length ≤ 4 ∧ ∀ y, Cut Y fun x => inL a x y
def shift (p : Int) (a : List R4) : List R4 := a.map fun q => ⟨q.l + 10 * p, q.b, q.r + 10 * p, q.t⟩
theorem shift_in (p : Int) (a : List R4) (x y : Int) : inL (shift p a) x y = inL a (x - 10 * p) y := by
  unfold inL shift
  rw [List.any_map]
  refine any_congr' fun q _ => ?_
  show R4.has _ x y = q.has (x - 10 * p) y
  unfold R4.has
  have e1 : decide (q.l + 10 * p ≤ x) = decide (q.l ≤ x - 10 * p) := decide_eq_decide.2 (by omega)
  have e2 : decide (x < q.r + 10 * p) = decide (x - 10 * p < q.r) := decide_eq_decide.2 (by omega)
  rw [e1, e2]
theorem shift_pos {p : Int} {a : List R4} (h : InS 9 a) : ∀ q ∈ shift p a, q.l < q.r := by
  intro q hq
  obtain ⟨q0, h0, rfl⟩ := List.mem_map.1 hq
  have := h q0 h0
  dsimp only
  omega
/-- What is left of a land in a parcel, without the lines before. -/
def leftP (a r : List R4) (gs : List (List R4)) : List R4 := gs.foldl (fun acc g => combP notB acc g) (combP andB a r)
def leftB (a r : List R4) (gs : List (List R4)) (x y : Int) : Bool := inL a x y && inL r x y && !(gs.any fun g => inL g x y)
theorem leftP_canon (a r : List R4) (gs : List (List R4)) : Canon (leftB a r gs) (leftP a r gs) := by
  have key : ∀ (hs : List (List R4)) (acc : List R4) (P : Int → Int → Bool), Canon P acc → Canon (fun x y => P x y && !(hs.any fun g => inL g x y)) (hs.foldl (fun acc g => combP notB acc g) acc) := by
    intro hs
    induction hs with
    | nil => intro acc P h; exact h.congr fun x y => by simp
    | cons g hs ih =>
      intro acc P h
      have h1 := comb_canon notB rfl acc g
      have h2 := ih _ _ h1
      refine h2.congr fun x y => ?_
      rw [h.mem]
      simp [notB, Bool.and_assoc]
  exact (key gs _ _ (comb_canon andB rfl a r)).congr fun x y => by rw [leftB]; rfl
theorem leftP_snoc (a r : List R4) (gs : List (List R4)) (g : List R4) : leftP a r (gs ++ [g]) = combP notB (leftP a r gs) g := by simp [leftP, List.foldl_append]
theorem Cut.shift {Y : List Int} {p : Int → Bool} (h : Cut Y p) (d : Int) : Cut (Y.map (· + d)) fun x => p (x - d) := by
  intro x hx
  refine List.mem_map.2 ⟨x - d, h (x - d) ?_, by omega⟩
  rwa [show x - d - 1 = x - 1 - d by omega]
theorem cut_any {X : List Int} {y : Int} : ∀ (gs : List (List R4)), (∀ g ∈ gs, Cut X fun u => inL g u y) → Cut X fun u => gs.any fun g => inL g u y
  | [], _ => cut_none _
  | g :: gs, h => by
    have e : (fun u => (g :: gs).any fun g => inL g u y) = fun u => inL g u y || gs.any fun g => inL g u y := by funext u; simp
    rw [e]
    exact Cut.how (· || ·) (h g (by simp)) (cut_any gs fun k hk => h k (by simp [hk]))
theorem leftB_cut {X : List Int} {a r : List R4} {gs : List (List R4)} (ha : ∀ y, Cut X fun u => inL a u y) (hr : ∀ y, Cut X fun u => inL r u y) (hg : ∀ g ∈ gs, ∀ y, Cut X fun u => inL g u y) (y : Int) : Cut X fun u => leftB a r gs u y :=
  Cut.how notB (Cut.how andB (ha y) (hr y)) (cut_any gs fun g h => hg g h y)
theorem leftB_true {a r : List R4} {gs : List (List R4)} {x y : Int} (h : leftB a r gs x y = true) : inL r x y = true ∧ ∀ g ∈ gs, inL g x y = false := by
  unfold leftB at h
  rw [Bool.and_eq_true, Bool.and_eq_true, Bool.not_eq_true', List.any_eq_false] at h
  exact ⟨h.1.2, fun g hg => by have := h.2 g hg; simpa using this⟩
/-- One round of Lines. -/
theorem LsOk.step {R : List (List R4)} {nc k : Nat} {L : List Ln} (hR : PcOk R) (h : LsOk R nc k L) (hk : k < 4) {a : List R4} (ha : LandOk a) {p : Nat} (hp : p < R.length) (j : Nat) : (leftP (shift p a) R[p] ((L.take j).map Ln.rg)).length ≤ 99 ∧
    (leftP (shift p a) R[p] (L.map Ln.rg) = [] → LsOk R nc (k + 1) L) ∧
    (leftP (shift p a) R[p] (L.map Ln.rg) ≠ [] → ∀ cr sch : Int, 0 ≤ cr ∧ cr < (nc : Int) → 1 ≤ sch ∧ sch ≤ 15 → LsOk R nc (k + 1) (L ++ [⟨(p : Int) + 1, leftP (shift p a) R[p] (L.map Ln.rg), cr, sch⟩])) := by
  obtain ⟨X, x1, x2, x3⟩ := h.cut
  obtain ⟨Y, y1, y2⟩ := ha.cut
  have hX : ∀ gs : List (List R4), (∀ g ∈ gs, ∃ x ∈ L, g = x.rg) → ∀ y, Cut (X ++ Y.map (· + 10 * (p : Int))) fun u => leftB (shift p a) R[p] gs u y := fun gs hgs => by
    refine leftB_cut (fun y => ?_) (fun y => (x3 _ (List.getElem_mem hp) y).mono fun x hx => List.mem_append_left _ hx) (fun g hg y => ?_)
    · have := (y2 y).shift (10 * (p : Int))
      refine Cut.mono (p := fun u => inL (shift p a) u y) ?_ fun x hx => List.mem_append_right X hx
      have e : (fun u => inL (shift p a) u y) = fun x => inL a (x - 10 * (p : Int)) y := by funext x; rw [shift_in]
      rw [e]
      exact this
    · obtain ⟨x, hx, rfl⟩ := hgs g hg
      exact (x2 x hx y).mono fun x hx => List.mem_append_left _ hx
  have hin : ∀ gs x y, leftB (shift p a) R[p] gs x y = true → 10 * (p : Int) ≤ x ∧ x < 10 * (p : Int) + 9 ∧ 0 ≤ y ∧ y < 9 := fun gs x y h => (hR.at' p hp).in x y (leftB_true h).1
  have hlen : ∀ gs : List (List R4), (∀ g ∈ gs, ∃ x ∈ L, g = x.rg) → (leftP (shift p a) R[p] gs).length ≤ 99 := fun gs hgs => by
    have h1 := canon_len (leftP_canon (shift p a) R[p] gs) (hX gs hgs) 9 (fun x y h => by have := hin _ _ _ h; omega)
    have h2 : (X ++ Y.map (· + 10 * (p : Int))).length ≤ 22 := by rw [List.length_append, List.length_map]; omega
    have h3 : (X ++ Y.map (· + 10 * (p : Int))).length / 2 ≤ 11 := by omega
    have := Nat.mul_le_mul_left 9 h3
    omega
  have hm : ∀ g ∈ L.map Ln.rg, ∃ x ∈ L, g = x.rg := fun g hg => by
    obtain ⟨x, hx, rfl⟩ := List.mem_map.1 hg
    exact ⟨x, hx, rfl⟩
  refine ⟨hlen _ fun g hg => ?_, fun _ => ⟨h.ok, h.dis, ⟨X, by omega, x2, x3⟩, by have := h.len; omega⟩, fun hne cr sch hcr hsch => ?_⟩
  · obtain ⟨x, hx, rfl⟩ := List.mem_map.1 hg
    exact ⟨x, List.mem_of_mem_take hx, rfl⟩
  have hc := leftP_canon (shift p a) R[p] (L.map Ln.rg)
  have hbd := hc.bd 0 30 0 30 (fun x y h => by have := hin _ _ _ h; have := hR.m; omega)
  have hreg : Reg 30 120 (leftP (shift p a) R[p] (L.map Ln.rg)) := ⟨hbd, hc.own fun q hq => (hbd q hq).2.1, by have := hlen _ hm; omega⟩
  refine ⟨fun x hx => ?_, ?_, ⟨X ++ Y.map (· + 10 * (p : Int)), by rw [List.length_append, List.length_map]; omega, fun x hx y => ?_, fun r hr y => (x3 r hr y).mono fun x hx => List.mem_append_left _ hx⟩, by have := h.len; simp; omega⟩
  · rcases List.mem_append.1 hx with hx | hx
    · exact h.ok x hx
    · rw [List.mem_singleton] at hx
      subst hx
      exact ⟨⟨p, hp, rfl, fun u v huv => by rw [hc.mem] at huv; exact (leftB_true huv).1⟩, hreg, hne, hcr, hsch⟩
  · rw [List.pairwise_append]
    refine ⟨h.dis, List.pairwise_singleton _ _, fun x hx z hz u v huv => ?_⟩
    rw [List.mem_singleton] at hz
    subst hz
    dsimp only
    rw [hc.mem]
    cases hb : leftB (shift p a) R[p] (L.map Ln.rg) u v with
    | false => rfl
    | true =>
      have := (leftB_true hb).2 x.rg (List.mem_map_of_mem hx)
      rw [huv] at this; cases this
  · rcases List.mem_append.1 hx with hx | hx
    · exact (x2 x hx y).mono fun x hx => List.mem_append_left _ hx
    · rw [List.mem_singleton] at hx
      subst hx
      dsimp only
      have e : (fun u => inL (leftP (shift p a) R[p] (L.map Ln.rg)) u y) = fun u => leftB (shift p a) R[p] (L.map Ln.rg) u y := by funext u; rw [hc.mem]
      rw [e]
      exact hX _ hm y
end Go.Proofs.YtglanlpjoaholaaGreat
