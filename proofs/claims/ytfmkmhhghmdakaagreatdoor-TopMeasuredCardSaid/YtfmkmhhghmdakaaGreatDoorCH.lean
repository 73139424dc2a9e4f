/- Contract of the reference (layer 4): Same. -/
import Derived.Test.YtfmkmhhghmdakaaGreatDoorSh13
import Derived.Test.YtfmkmhhghmdakaaGreatDoorCT
import Derived.Test.YtfmkmhhghmdakaaGreatDoorCB
import Derived.Test.YtfmkmhhghmdakaaGreatDoorCC
namespace Go.Proofs.YtfmkmhhghmdakaaGreatDoor
set_option linter.unusedVariables false
set_option linter.unusedSimpArgs false

/-- Where a row of squares may change. -/
def Cut (X : List Int) (p : Int → Bool) : Prop := ∀ x, p (x - 1) ≠ p x → x ∈ X
theorem Cut.mono {X Y : List Int} {p : Int → Bool} (h : Cut X p) (hs : ∀ x ∈ X, x ∈ Y) : Cut Y p := fun x hx => hs x (h x hx)
theorem Cut.how {X : List Int} {p q : Int → Bool} (how : Bool → Bool → Bool) (hp : Cut X p) (hq : Cut X q) : Cut X (fun x => how (p x) (q x)) := by
  intro x hx
  by_cases h1 : p (x - 1) = p x
  · by_cases h2 : q (x - 1) = q x
    · exact absurd (by dsimp only; rw [h1, h2]) hx
    · exact hq x h2
  · exact hp x h1
theorem cut_none (X : List Int) : Cut X (fun _ => false) := fun x hx => absurd rfl hx
theorem cut_has (q : R4) (y : Int) : Cut [q.l, q.r] (fun x => q.has x y) := by
  intro x hx
  by_cases h1 : x = q.l
  · simp [h1]
  by_cases h2 : x = q.r
  · simp [h2]
  exfalso
  apply hx
  have e1 : decide (q.l ≤ x - 1) = decide (q.l ≤ x) := decide_eq_decide.2 (by omega)
  have e2 : decide (x - 1 < q.r) = decide (x < q.r) := decide_eq_decide.2 (by omega)
  unfold R4.has
  dsimp only
  rw [e1, e2]
theorem cut_inL (y : Int) : ∀ l : List R4, Cut (xEdges l) (fun x => inL l x y)
  | [] => cut_none _
  | q :: t => by
    have e : (fun x => inL (q :: t) x y) = fun x => q.has x y || inL t x y := by funext x; simp [inL]
    rw [e]
    have e2 : xEdges (q :: t) = [q.l, q.r] ++ xEdges t := by simp [xEdges]
    rw [e2]
    exact Cut.how (· || ·) ((cut_has q y).mono fun x hx => List.mem_append_left _ hx) ((cut_inL y t).mono fun x hx => List.mem_append_right _ hx)
theorem SegF.endsY {p : Int → Bool} {X : List Int} (hX : Cut X p) : ∀ {l : List (Sg Unit)} {c : Int}, SegF (fun x => opt (p x)) c l → (p (c - 1) = false ∨ p c = false) →
    ∃ E : List Int, E.Pairwise (· < ·) ∧ E.length = 2 * l.length ∧ ∀ e ∈ E, e ∈ X ∧ c ≤ e ∧ (p c = false → c < e)
  | [], c, h, h0 => ⟨[], List.Pairwise.nil, rfl, fun e he => by cases he⟩
  | s :: t, c, h, h0 => by
    obtain ⟨h1, h2, h3, h4, h5, h6⟩ := h
    have hs : p s.1 = true := (opt_some _).1 (h4 s.1 (Int.le_refl _) h2)
    have hp : p (s.1 - 1) = false := by
      by_cases hc : s.1 = c
      · rcases h0 with h0 | h0
        · rw [hc]; exact h0
        · rw [hc, h0] at hs; cases hs
      · exact (opt_none _).1 (h3 (s.1 - 1) (by omega) (by omega))
    have he : p (s.2.1 - 1) = true := (opt_some _).1 (h4 (s.2.1 - 1) (by omega) (by omega))
    have hn : p s.2.1 = false := (opt_ne _ _).1 h5
    obtain ⟨E, e1, e2, e3⟩ := SegF.endsY hX h6 (.inr hn)
    refine ⟨s.1 :: s.2.1 :: E, ?_, by simp; omega, ?_⟩
    · rw [List.pairwise_cons, List.pairwise_cons]
      refine ⟨fun e hm => ?_, fun e hm => (e3 e hm).2.2 hn, e1⟩
      rcases List.mem_cons.1 hm with rfl | hm
      · exact h2
      · have := (e3 e hm).2.1; omega
    · intro e hm
      rcases List.mem_cons.1 hm with rfl | hm
      · refine ⟨hX _ (by rw [hp, hs]; simp), h1, fun h => ?_⟩
        rcases Int.lt_or_eq_of_le h1 with h7 | h7
        · exact h7
        · rw [h7, hs] at h; cases h
      · rcases List.mem_cons.1 hm with rfl | hm
        · exact ⟨hX _ (by rw [he, hn]; simp), by omega, fun _ => by omega⟩
        · have := (e3 e hm).2.1
          exact ⟨(e3 e hm).1, by omega, fun _ => by omega⟩
theorem sub_len : ∀ (E X : List Int), E.Pairwise (· < ·) → (∀ e ∈ E, e ∈ X) → E.length ≤ X.length
  | [], X, _, _ => by simp
  | e :: E, X, hp, hs => by
    obtain ⟨h1, h2⟩ := List.pairwise_cons.1 hp
    have he := hs e (by simp)
    have := sub_len E (X.erase e) h2 (fun k hk => (List.mem_erase_of_ne (by have := h1 k hk; omega)).2 (hs k (by simp [hk])))
    rw [List.length_erase_of_mem he] at this
    have := List.length_pos_of_mem he
    simp; omega
theorem segs_ends {p : Int → Bool} {X : List Int} {l : List (Sg Unit)} (h : Segs (fun x => opt (p x)) l) (hX : Cut X p) : 2 * l.length ≤ X.length := by
  obtain ⟨c, h0, h1⟩ := h
  obtain ⟨E, e1, e2, e3⟩ := SegF.endsY hX h1 (.inl ((opt_none _).1 (h0 (c - 1) (by omega))))
  have := sub_len E X e1 fun e he => (e3 e he).1
  omega
theorem SegF.count {V : Type} {f : Int → Option V} {e : Int} (he : ∀ x v, f x = some v → x < e) : ∀ {l : List (Sg V)} {c : Int}, SegF f c l → c ≤ e → (l.length : Int) ≤ e - c
  | [], c, h, hc => by simp; omega
  | s :: t, c, h, hc => by
    obtain ⟨h1, h2, h3, h4, h5, h6⟩ := h
    have h7 := he (s.2.1 - 1) s.2.2 (h4 (s.2.1 - 1) (by omega) (by omega))
    have := SegF.count he h6 (by omega)
    simp; omega
theorem canon_len {P : Int → Int → Bool} {R : List R4} (h : Canon P R) {X : List Int} (hX : ∀ y, Cut X (fun x => P x y)) (H : Nat) (hy : ∀ x y, P x y = true → 0 ≤ y ∧ y < H) : R.length ≤ H * (X.length / 2) := by
  obtain ⟨row, bs, h1, h2, rfl⟩ := h
  have hr : ∀ y, (row y).length ≤ X.length / 2 := fun y => by have := segs_ends (h1 y) (hX y); omega
  have hb : bs.length ≤ H := by
    have hn : ∀ y, ¬ (0 ≤ y ∧ y < (H : Int)) → nz (row y) = none := fun y h => by
      rw [segs_none (p := fun x => P x y) (fun x => by
        cases hx : P x y with
        | false => rfl
        | true => exact absurd (hy x y hx) h) (h1 y)]
      rfl
    obtain ⟨c, h0, h3⟩ := h2
    have h4 : SegF (fun y => nz (row y)) 0 bs := by
      rcases Int.le_total c 0 with hc | hc
      · exact h3.up hc fun x hx => hn x (by omega)
      · exact h3.down hc fun x hx hx2 => h0 x hx2
    have := SegF.count (e := (H : Int)) (fun x v hx => by
      rcases Int.lt_or_le x H with h5 | h5
      · exact h5
      · rw [hn x (by omega)] at hx; cases hx) h4 (by omega)
    omega
  have hf := flat_len (X.length / 2) bs (fun s hs => by
    have := (h2.mem s.1 s.2.2).2 ⟨s, hs, Int.le_refl _, h2.pos s hs, rfl⟩
    rw [← (nz_some this).1]
    exact hr _)
  exact Nat.le_trans hf (Nat.mul_le_mul_right _ hb)

/-- A line: its parcel, its squares, its crop, its schemes. -/
structure Ln where
  pc : Int
  rg : List R4
  cr : Int
  sch : Int
/-- Parcel number i. -/
def PclAt (i : Nat) (l : List R4) : Prop := ∃ a b : Int, (2 ≤ a ∧ a ≤ 9) ∧ (2 ≤ b ∧ b ≤ 9) ∧ l = [⟨10 * (i : Int), 0, 10 * (i : Int) + a, b⟩]
structure PcOk (R : List (List R4)) : Prop where
  m : R.length ≤ 3
  at' : ∀ i (h : i < R.length), PclAt i R[i]
theorem PclAt.ins {i : Nat} {l : List R4} (h : PclAt i l) (hi : i < 3) : InS 30 l := by
  obtain ⟨a, b, ha, hb, rfl⟩ := h
  intro q hq
  rw [List.mem_singleton] at hq
  subst hq
  dsimp only
  omega
theorem PclAt.in {i : Nat} {l : List R4} (h : PclAt i l) (x y : Int) (hx : inL l x y = true) : 10 * (i : Int) ≤ x ∧ x < 10 * (i : Int) + 9 ∧ 0 ≤ y ∧ y < 9 := by
  obtain ⟨a, b, ha, hb, rfl⟩ := h
  simp [inL, R4.has] at hx
  omega
theorem one_canon (q : R4) (h : q.l < q.r ∧ q.b < q.t) : Canon (inL [q]) [q] := by
  refine ⟨fun y => if q.b ≤ y ∧ y < q.t then [(q.l, q.r, ())] else [], [(q.b, q.t, [(q.l, q.r, ())])], fun y => ?_, ?_, by simp [flat]⟩
  · by_cases hy : q.b ≤ y ∧ y < q.t
    · dsimp only
      rw [if_pos hy]
      refine ⟨q.l, fun x hx => (opt_none _).2 (by simp [inL, R4.has]; omega), Int.le_refl _, h.1, fun x h1 h2 => by dsimp only at h2; omega, fun x h1 h2 => (opt_some _).2 (by simp [inL, R4.has]; dsimp only at h1 h2; omega), ?_, fun x hx => (opt_none _).2 (by simp [inL, R4.has]; dsimp only at hx; omega)⟩
      dsimp only
      rw [(opt_none _).2 (by simp [inL, R4.has])]
      simp
    · dsimp only
      rw [if_neg hy]
      exact ⟨0, fun x hx => (opt_none _).2 (by simp [inL, R4.has]; omega), fun x hx => (opt_none _).2 (by simp [inL, R4.has]; omega)⟩
  · refine ⟨q.b, fun y hy => by dsimp only; rw [if_neg (by omega)]; rfl, Int.le_refl _, h.2, fun x h1 h2 => by dsimp only at h2; omega, fun y h1 h2 => by dsimp only at h1 h2 ⊢; rw [if_pos ⟨h1, h2⟩]; rfl, ?_, fun y hy => by dsimp only at hy ⊢; rw [if_neg (by omega)]; rfl⟩
    dsimp only
    rw [if_neg (by omega)]
    simp [nz]
theorem PclAt.reg {i : Nat} {l : List R4} (h : PclAt i l) (hi : i < 3) : Reg 30 120 l := by
  have h0 := h.ins hi
  refine ⟨h0, ?_, ?_⟩
  · obtain ⟨a, b, ha, hb, rfl⟩ := h
    exact (one_canon _ (by dsimp only; omega)).own h0.pos
  · obtain ⟨a, b, ha, hb, rfl⟩ := h
    simp
/-- A line that is right. -/
structure LnOk (R : List (List R4)) (nc : Nat) (x : Ln) : Prop where
  pc : ∃ (p : Nat) (h : p < R.length), x.pc = (p : Int) + 1 ∧ ∀ u v, inL x.rg u v = true → inL R[p] u v = true
  reg : Reg 30 120 x.rg
  ne : x.rg ≠ []
  cr : 0 ≤ x.cr ∧ x.cr < (nc : Int)
  sch : 1 ≤ x.sch ∧ x.sch ≤ 15
/-- Lines that are right, and disjoint; they change at few places. -/
structure LsOk (R : List (List R4)) (nc k : Nat) (L : List Ln) : Prop where
  ok : ∀ x ∈ L, LnOk R nc x
  dis : L.Pairwise fun a b => ∀ u v, inL a.rg u v = true → inL b.rg u v = false
  cut : ∃ X : List Int, X.length ≤ 6 + 4 * k ∧ (∀ x ∈ L, ∀ y, Cut X fun u => inL x.rg u y) ∧ ∀ r ∈ R, ∀ y, Cut X fun u => inL r u y
  len : L.length ≤ k
theorem PcOk.cut {R : List (List R4)} (h : PcOk R) : ∃ X : List Int, X.length ≤ 2 * R.length ∧ ∀ r ∈ R, ∀ y, Cut X fun u => inL r u y := by
  have hr : ∀ r ∈ R, r.length = 1 := by
    intro r hr
    obtain ⟨i, hi, rfl⟩ := List.getElem_of_mem hr
    obtain ⟨a, b, -, -, e⟩ := h.at' i hi
    rw [e]; rfl
  clear h
  induction R with
  | nil => exact ⟨[], by simp, fun r hr => (by cases hr)⟩
  | cons r R ih =>
    obtain ⟨X, h1, h2⟩ := ih fun q hq => hr q (by simp [hq])
    refine ⟨xEdges r ++ X, ?_, fun q hq y => ?_⟩
    · rw [List.length_append, xEdges_len, hr r (by simp)]; simp; omega
    · rcases List.mem_cons.1 hq with rfl | hq
      · exact (cut_inL y q).mono fun x hx => List.mem_append_left _ hx
      · exact (h2 q hq y).mono fun x hx => List.mem_append_right _ hx
theorem LsOk.nil {R : List (List R4)} (h : PcOk R) (nc : Nat) : LsOk R nc 0 [] := by
  obtain ⟨X, h1, h2⟩ := h.cut
  have := h.m
  exact ⟨fun x hx => (by cases hx), List.Pairwise.nil, ⟨X, by omega, fun x hx => (by cases hx), h2⟩, Nat.le_refl _⟩
/-- A land: what is drawn, before it is shifted. -/
structure LandOk (a : List R4) : Prop where
  ins : InS 9 a
  len : a.length ≤ 6
  cut : ∃ Y : List Int, Y.length ≤ 4 ∧ ∀ y, Cut Y fun x => inL a x y
def shift (p : Int) (a : List R4) : List R4 := a.map fun q => ⟨q.l + 10 * p, q.b, q.r + 10 * p, q.t⟩
theorem shift_in (p : Int) (a : List R4) (x y : Int) : inL (shift p a) x y = inL a (x - 10 * p) y := by
  unfold inL shift
  rw [List.any_map]
  refine any_congr' fun q _ => ?_
  show R4.has _ x y = q.has (x - 10 * p) y
  unfold R4.has
  have e1 : decide (q.l + 10 * p ≤ x) = decide (q.l ≤ x - 10 * p) := decide_eq_decide.2 (by omega)
  have e2 : decide (x < q.r + 10 * p) = decide (x - 10 * p < q.r) := decide_eq_decide.2 (by omega)
  rw [e1, e2]
/-- What is left of a land in a parcel, without the lines before. -/
def leftP (a r : List R4) (gs : List (List R4)) : List R4 := gs.foldl (fun acc g => combP notB acc g) (combP andB a r)
def leftB (a r : List R4) (gs : List (List R4)) (x y : Int) : Bool := inL a x y && inL r x y && !(gs.any fun g => inL g x y)
theorem leftP_canon (a r : List R4) (gs : List (List R4)) : Canon (leftB a r gs) (leftP a r gs) := by
  have key : ∀ (hs : List (List R4)) (acc : List R4) (P : Int → Int → Bool), Canon P acc → Canon (fun x y => P x y && !(hs.any fun g => inL g x y)) (hs.foldl (fun acc g => combP notB acc g) acc) := by
    intro hs
    induction hs with
    | nil => intro acc P h; exact h.congr fun x y => by simp
    | cons g hs ih =>
      intro acc P h
      have h1 := comb_canon notB rfl acc g
      have h2 := ih _ _ h1
      refine h2.congr fun x y => ?_
      rw [h.mem]
      simp [notB, Bool.and_assoc]
  exact (key gs _ _ (comb_canon andB rfl a r)).congr fun x y => by rw [leftB]; rfl
theorem leftP_snoc (a r : List R4) (gs : List (List R4)) (g : List R4) : leftP a r (gs ++ [g]) = combP notB (leftP a r gs) g := by simp [leftP, List.foldl_append]
theorem Cut.shift {Y : List Int} {p : Int → Bool} (h : Cut Y p) (d : Int) : Cut (Y.map (· + d)) fun x => p (x - d) := by
  intro x hx
  refine List.mem_map.2 ⟨x - d, h (x - d) ?_, by omega⟩
  rwa [show x - d - 1 = x - 1 - d by omega]
theorem cut_any {X : List Int} {y : Int} : ∀ (gs : List (List R4)), (∀ g ∈ gs, Cut X fun u => inL g u y) → Cut X fun u => gs.any fun g => inL g u y
  | [], _ => cut_none _
  | g :: gs, h => by
    have e : (fun u => (g :: gs).any fun g => inL g u y) = fun u => inL g u y || gs.any fun g => inL g u y := by funext u; simp
    rw [e]
    exact Cut.how (· || ·) (h g (by simp)) (cut_any gs fun k hk => h k (by simp [hk]))
theorem leftB_cut {X : List Int} {a r : List R4} {gs : List (List R4)} (ha : ∀ y, Cut X fun u => inL a u y) (hr : ∀ y, Cut X fun u => inL r u y) (hg : ∀ g ∈ gs, ∀ y, Cut X fun u => inL g u y) (y : Int) : Cut X fun u => leftB a r gs u y :=
  Cut.how notB (Cut.how andB (ha y) (hr y)) (cut_any gs fun g h => hg g h y)
theorem leftB_true {a r : List R4} {gs : List (List R4)} {x y : Int} (h : leftB a r gs x y = true) : inL r x y = true ∧ ∀ g ∈ gs, inL g x y = false := by
  unfold leftB at h
  rw [Bool.and_eq_true, Bool.and_eq_true, Bool.not_eq_true', List.any_eq_false] at h
  exact ⟨h.1.2, fun g hg => by have := h.2 g hg; simpa using this⟩
/-- One round of Lines. -/
theorem LsOk.step {R : List (List R4)} {nc k : Nat} {L : List Ln} (hR : PcOk R) (h : LsOk R nc k L) (hk : k < 4) {a : List R4} (ha : LandOk a) {p : Nat} (hp : p < R.length) (j : Nat) : (leftP (shift p a) R[p] ((L.take j).map Ln.rg)).length ≤ 99 ∧
    (leftP (shift p a) R[p] (L.map Ln.rg) = [] → LsOk R nc (k + 1) L) ∧
    (leftP (shift p a) R[p] (L.map Ln.rg) ≠ [] → ∀ cr sch : Int, 0 ≤ cr ∧ cr < (nc : Int) → 1 ≤ sch ∧ sch ≤ 15 → LsOk R nc (k + 1) (L ++ [⟨(p : Int) + 1, leftP (shift p a) R[p] (L.map Ln.rg), cr, sch⟩])) := by
  obtain ⟨X, x1, x2, x3⟩ := h.cut
  obtain ⟨Y, y1, y2⟩ := ha.cut
  have hX : ∀ gs : List (List R4), (∀ g ∈ gs, ∃ x ∈ L, g = x.rg) → ∀ y, Cut (X ++ Y.map (· + 10 * (p : Int))) fun u => leftB (shift p a) R[p] gs u y := fun gs hgs => by
    refine leftB_cut (fun y => ?_) (fun y => (x3 _ (List.getElem_mem hp) y).mono fun x hx => List.mem_append_left _ hx) (fun g hg y => ?_)
    · have := (y2 y).shift (10 * (p : Int))
      refine Cut.mono (p := fun u => inL (shift p a) u y) ?_ fun x hx => List.mem_append_right X hx
      have e : (fun u => inL (shift p a) u y) = fun x => inL a (x - 10 * (p : Int)) y := by funext x; rw [shift_in]
      rw [e]
      exact this
    · obtain ⟨x, hx, rfl⟩ := hgs g hg
      exact (x2 x hx y).mono fun x hx => List.mem_append_left _ hx
  have hin : ∀ gs x y, leftB (shift p a) R[p] gs x y = true → 10 * (p : Int) ≤ x ∧ x < 10 * (p : Int) + 9 ∧ 0 ≤ y ∧ y < 9 := fun gs x y h => (hR.at' p hp).in x y (leftB_true h).1
  have hlen : ∀ gs : List (List R4), (∀ g ∈ gs, ∃ x ∈ L, g = x.rg) → (leftP (shift p a) R[p] gs).length ≤ 99 := fun gs hgs => by
    have h1 := canon_len (leftP_canon (shift p a) R[p] gs) (hX gs hgs) 9 (fun x y h => by have := hin _ _ _ h; omega)
    have h2 : (X ++ Y.map (· + 10 * (p : Int))).length ≤ 22 := by rw [List.length_append, List.length_map]; omega
    have h3 : (X ++ Y.map (· + 10 * (p : Int))).length / 2 ≤ 11 := by omega
    have := Nat.mul_le_mul_left 9 h3
    omega
  have hm : ∀ g ∈ L.map Ln.rg, ∃ x ∈ L, g = x.rg := fun g hg => by
    obtain ⟨x, hx, rfl⟩ := List.mem_map.1 hg
    exact ⟨x, hx, rfl⟩
  refine ⟨hlen _ fun g hg => ?_, fun _ => ⟨h.ok, h.dis, ⟨X, by omega, x2, x3⟩, by have := h.len; omega⟩, fun hne cr sch hcr hsch => ?_⟩
  · obtain ⟨x, hx, rfl⟩ := List.mem_map.1 hg
    exact ⟨x, List.mem_of_mem_take hx, rfl⟩
  have hc := leftP_canon (shift p a) R[p] (L.map Ln.rg)
  have hbd := hc.bd 0 30 0 30 (fun x y h => by have := hin _ _ _ h; have := hR.m; omega)
  have hreg : Reg 30 120 (leftP (shift p a) R[p] (L.map Ln.rg)) := ⟨hbd, hc.own fun q hq => (hbd q hq).2.1, by have := hlen _ hm; omega⟩
  refine ⟨fun x hx => ?_, ?_, ⟨X ++ Y.map (· + 10 * (p : Int)), by rw [List.length_append, List.length_map]; omega, fun x hx y => ?_, fun r hr y => (x3 r hr y).mono fun x hx => List.mem_append_left _ hx⟩, by have := h.len; simp; omega⟩
  · rcases List.mem_append.1 hx with hx | hx
    · exact h.ok x hx
    · rw [List.mem_singleton] at hx
      subst hx
      exact ⟨⟨p, hp, rfl, fun u v huv => by rw [hc.mem] at huv; exact (leftB_true huv).1⟩, hreg, hne, hcr, hsch⟩
  · rw [List.pairwise_append]
    refine ⟨h.dis, List.pairwise_singleton _ _, fun x hx z hz u v huv => ?_⟩
    rw [List.mem_singleton] at hz
    subst hz
    dsimp only
    rw [hc.mem]
    cases hb : leftB (shift p a) R[p] (L.map Ln.rg) u v with
    | false => rfl
    | true =>
      have := (leftB_true hb).2 x.rg (List.mem_map_of_mem hx)
      rw [huv] at this; cases this
  · rcases List.mem_append.1 hx with hx | hx
    · exact (x2 x hx y).mono fun x hx => List.mem_append_left _ hx
    · rw [List.mem_singleton] at hx
      subst hx
      dsimp only
      have e : (fun u => inL (leftP (shift p a) R[p] (L.map Ln.rg)) u y) = fun u => leftB (shift p a) R[p] (L.map Ln.rg) u y := by funext u; rw [hc.mem]
      rw [e]
      exact hX _ hm y
end Go.Proofs.YtfmkmhhghmdakaaGreatDoor
namespace Go.Proofs.YtfmkmhhghmdakaaGreatDoor
open Go.RowKit
set_option linter.unusedVariables false
set_option linter.unusedSimpArgs false

/-- A region in a block. -/
structure Bx where
  g : Nat
  A : Option Addr
  n : Nat
  c : Nat
  l : List R4
structure RB (W : World) (x : Bx) : Prop where
  b : W.heap[x.g]? = some (.cells #[.slice x.A x.n x.c] 33 (0, 0))
  sl : SlR W x.A x.n x.c x.l
theorem RB.lt {W : World} {x : Bx} (h : RB W x) : x.g < W.heap.size := by
  rcases Nat.lt_or_ge x.g W.heap.size with h1 | h1
  · exact h1
  · have := h.b; rw [Array.getElem?_eq_none h1] at this; cases this
theorem RB.below {W W' : World} {x : Bx} (h : RB W x) (hb : Below W.heap.size W W') : RB W' x := ⟨(hb.block _ h.lt).trans h.b, h.sl.below hb⟩
theorem RB.c0 {W : World} {x : Bx} (h : RB W x) : W.cell? ⟨x.g, 0, none⟩ = some (.slice x.A x.n x.c) := cell_of_row _ _ 0 _ _ _ h.b
/-- Regions in blocks. -/
def RBs (W : World) (L : List Bx) : Prop := ∀ x ∈ L, RB W x
theorem RBs.below {W W' : World} {L : List Bx} (h : RBs W L) (hb : Below W.heap.size W W') : RBs W' L := fun x hx => (h x hx).below hb
/-- One more, in a new block. -/
theorem RBs.push {W : World} {L : List Bx} (h : RBs W L) (D : Option Addr) (n c : Nat) (l : List R4) (hs : SlR W D n c l) : RBs (W.alloc (.cells #[.slice D n c] 33)) (⟨W.heap.size, D, n, c, l⟩ :: L) := by
  intro x hx
  rcases List.mem_cons.1 hx with rfl | hx
  · exact ⟨heap_alloc_new W _, hs.below (by repeat' (first | with_reducible exact Below.refl _ _ | with_reducible refine below_drewN ?_ _ | with_reducible refine Below.drew ?_ | with_reducible refine Below.alloc ?_ ?_ _ | with_reducible refine Below.setCell ?_ ?_ _ | with_reducible refine Below.trans ?_ (Below.mono (by with_reducible assumption) ?_) | (simp; done) | (simp; omega) | omega))⟩
  · exact (h x hx).below (by repeat' (first | with_reducible exact Below.refl _ _ | with_reducible refine below_drewN ?_ _ | with_reducible refine Below.drew ?_ | with_reducible refine Below.alloc ?_ ?_ _ | with_reducible refine Below.setCell ?_ ?_ _ | with_reducible refine Below.trans ?_ (Below.mono (by with_reducible assumption) ?_) | (simp; done) | (simp; omega) | omega))

theorem sumI_bd (g : Int → Int) (k : Int) (hk : 0 ≤ k) (hg : ∀ x, 0 ≤ g x ∧ g x ≤ k) : ∀ (n : Nat) (lo : Int), 0 ≤ sumI g lo n ∧ sumI g lo n ≤ n * k
  | 0, lo => by simp [sumI]
  | n + 1, lo => by
    have h1 := sumI_bd g k hk hg n (lo + 1)
    have h2 := hg lo
    simp only [sumI]
    rw [show ((n + 1 : Nat) : Int) = (n : Int) + 1 from by omega, Int.add_mul]
    omega
end Go.Proofs.YtfmkmhhghmdakaaGreatDoor
namespace Go.Proofs.YtfmkmhhghmdakaaGreatDoor
open Go.RowKit
set_option linter.unusedVariables false
set_option linter.unusedSimpArgs false

theorem own_keepY {w w' : World} {base : Nat} {e : TypeId} {size n : Nat} {v : Value} {xs : List Value} (h : w.ownsRow base e size v n xs) (hk : ∀ b, b < w.heap.size → base ≤ b → w'.heap[b]? = w.heap[b]?) : w'.ownsRow base e size v n xs := by
  obtain ⟨h1, h2⟩ := h
  refine ⟨h1, ?_⟩
  rcases h2 with h2 | ⟨g', cap, cur, rfl, hb, hh, r⟩
  · exact .inl h2
  · have hlt : g' < w.heap.size := by
      rcases Nat.lt_or_ge g' w.heap.size with h | h
      · exact h
      · rw [Array.getElem?_eq_none h] at hh; cases hh
    exact .inr ⟨g', cap, cur, rfl, hb, (hk g' hlt hb).trans hh, r⟩
theorem own_ltY {w : World} {base : Nat} {e : TypeId} {size n : Nat} {v : Value} {xs : List Value} (h : w.ownsRow base e size v n xs) : ∀ g, v.ownBlock = some g → g < w.heap.size := by
  intro g hg
  rcases h.2 with ⟨rfl, _⟩ | ⟨g', cap, cur, rfl, _, hh, _⟩
  · simp [Value.ownBlock] at hg
  · have e : g' = g := by simpa [Value.ownBlock] using hg
    subst e
    rcases Nat.lt_or_ge g' w.heap.size with h | h
    · exact h
    · rw [Array.getElem?_eq_none h] at hh; cases hh
theorem own_grownY {w w' : World} {base : Nat} {e : TypeId} {size n : Nat} {v : Value} {xs : List Value} {row : Option Nat} (h : w.ownsRow base e size v n xs) (hg : w.grownBy w' row) (hr : ∀ g, v.ownBlock = some g → row ≠ some g) : w'.ownsRow base e size v n xs := by
  obtain ⟨h1, h2⟩ := h
  refine ⟨h1, ?_⟩
  rcases h2 with h2 | ⟨g', cap, cur, rfl, hb, hh, r⟩
  · exact .inl h2
  · have hlt : g' < w.heap.size := by
      rcases Nat.lt_or_ge g' w.heap.size with h | h
      · exact h
      · rw [Array.getElem?_eq_none h] at hh; cases hh
    exact .inr ⟨g', cap, cur, rfl, hb, (hg.block g' hlt (fun e => hr g' (by simp [Value.ownBlock]) e.symm)).trans hh, r⟩
theorem own_lit (w : World) (e : TypeId) (size n : Nat) (cs : Array Value) (xs : List Value) (hx : cs.toList = xs) (hl : xs.length = n * size) (hn : n ≤ maxLen) : (w.alloc (.cells cs e)).ownsRow w.heap.size e size (.slice (some ⟨w.heap.size, 0, none⟩) n n) n xs :=
  ⟨hl, .inr ⟨w.heap.size, n, cs, rfl, Nat.le_refl _, heap_alloc_new w _, Nat.le_refl _, hn, by rw [← Array.length_toList, hx, hl], by rw [hx]; exact List.take_of_length_le (by omega)⟩⟩

/-- Where rectangles lie. -/
structure LV where
  a : Option Addr
  c : Nat
abbrev LL := List (Ln × LV)
abbrev RL := List (List R4 × LV)
def lnC (x : Ln × LV) : List Value := [.int .i64 x.1.pc, .slice x.2.a x.1.rg.length x.2.c, .int .i64 x.1.cr, .int .i64 x.1.sch]
def lnCells (l : LL) : List Value := l.flatMap lnC
theorem lnCells_snoc (l : LL) (x : Ln × LV) : lnCells (l ++ [x]) = lnCells l ++ [.int .i64 x.1.pc, .slice x.2.a x.1.rg.length x.2.c, .int .i64 x.1.cr, .int .i64 x.1.sch] := by simp [lnCells, lnC]
theorem lnCells_app (l m : LL) : lnCells (l ++ m) = lnCells l ++ lnCells m := by simp [lnCells]
theorem lnCells_at (l : LL) (i : Nat) (h : i < l.length) : (lnCells l)[i * 4]? = some (.int .i64 l[i].1.pc) ∧ (lnCells l)[i * 4 + 1]? = some (.slice l[i].2.a l[i].1.rg.length l[i].2.c) ∧ (lnCells l)[i * 4 + 2]? = some (.int .i64 l[i].1.cr) ∧ (lnCells l)[i * 4 + 3]? = some (.int .i64 l[i].1.sch) := by
  induction l generalizing i with
  | nil => simp at h
  | cons o r ih =>
    have hc : lnCells (o :: r) = lnC o ++ lnCells r := by simp [lnCells]
    have hl : (lnC o).length = 4 := rfl
    rw [hc]
    rcases i with _ | i
    · simp [lnC]
    · have := ih i (by simpa using h)
      refine ⟨?_, ?_, ?_, ?_⟩ <;> (rw [List.getElem?_append_right (by rw [hl]; omega), hl])
      · rw [show (i + 1) * 4 - 4 = i * 4 from by omega]; exact this.1
      · rw [show (i + 1) * 4 + 1 - 4 = i * 4 + 1 from by omega]; exact this.2.1
      · rw [show (i + 1) * 4 + 2 - 4 = i * 4 + 2 from by omega]; exact this.2.2.1
      · rw [show (i + 1) * 4 + 3 - 4 = i * 4 + 3 from by omega]; exact this.2.2.2
def rgC (x : List R4 × LV) : Value := .slice x.2.a x.1.length x.2.c
def rgCells (l : RL) : List Value := l.map rgC
/-- A slice of lines. -/
structure SlL (w : World) (A : Option Addr) (n c : Nat) (l : LL) : Prop where
  len : l.length = n
  cap : n ≤ c
  top : c ≤ maxLen
  lies : Lies w A n (lnCells l)
  fits : ∀ x ∈ l, SlR w x.2.a x.1.rg.length x.2.c x.1.rg
theorem SlL.below {w w' : World} {A : Option Addr} {n c : Nat} {l : LL} (h : SlL w A n c l) (hb : Below w.heap.size w w') : SlL w' A n c l := ⟨h.len, h.cap, h.top, h.lies.below hb, fun x hx => (h.fits x hx).below hb⟩
theorem SlL.at {w : World} {A : Option Addr} {n c : Nat} {l : LL} (h : SlL w A n c l) (i : Nat) (hi : i < l.length) :
    ∃ b off, A = some ⟨b, off, none⟩ ∧ b < w.heap.size ∧ w.cell? ⟨b, off + i * 4, none⟩ = some (.int .i64 l[i].1.pc) ∧ w.cell? ⟨b, off + i * 4 + 1, none⟩ = some (.slice l[i].2.a l[i].1.rg.length l[i].2.c) ∧ w.cell? ⟨b, off + i * 4 + 2, none⟩ = some (.int .i64 l[i].1.cr) ∧ w.cell? ⟨b, off + i * 4 + 3, none⟩ = some (.int .i64 l[i].1.sch) ∧ SlR w l[i].2.a l[i].1.rg.length l[i].2.c l[i].1.rg := by
  obtain ⟨b, off, e, hb, hc⟩ := h.lies.resolve_left (by have := h.len; omega)
  obtain ⟨h0, h1, h2, h3⟩ := lnCells_at l i hi
  exact ⟨b, off, e, hb, hc _ _ h0, hc _ _ h1, hc _ _ h2, hc _ _ h3, h.fits _ (List.getElem_mem hi)⟩
/-- A slice of regions. -/
structure SlG (w : World) (A : Option Addr) (n c : Nat) (l : RL) : Prop where
  len : l.length = n
  cap : n ≤ c
  top : c ≤ maxLen
  lies : Lies w A n (rgCells l)
  fits : ∀ x ∈ l, SlR w x.2.a x.1.length x.2.c x.1
theorem SlG.below {w w' : World} {A : Option Addr} {n c : Nat} {l : RL} (h : SlG w A n c l) (hb : Below w.heap.size w w') : SlG w' A n c l := ⟨h.len, h.cap, h.top, h.lies.below hb, fun x hx => (h.fits x hx).below hb⟩
theorem SlG.at {w : World} {A : Option Addr} {n c : Nat} {l : RL} (h : SlG w A n c l) (i : Nat) (hi : i < l.length) :
    ∃ b off, A = some ⟨b, off, none⟩ ∧ b < w.heap.size ∧ w.cell? ⟨b, off + i, none⟩ = some (.slice l[i].2.a l[i].1.length l[i].2.c) ∧ SlR w l[i].2.a l[i].1.length l[i].2.c l[i].1 := by
  obtain ⟨b, off, e, hb, hc⟩ := h.lies.resolve_left (by have := h.len; omega)
  refine ⟨b, off, e, hb, hc i _ ?_, h.fits _ (List.getElem_mem hi)⟩
  simp [rgCells, rgC, hi]
/-- The plain lines, the plain regions. -/
def lns (l : LL) : List Ln := l.map (·.1)
def rgs (l : RL) : List (List R4) := l.map (·.1)
theorem lns_len (l : LL) : (lns l).length = l.length := by simp [lns]
theorem rgs_len (l : RL) : (rgs l).length = l.length := by simp [rgs]
theorem Tryz.infoLine : (Tryz.prog.info? 35).map (fun i => (i.zero, i.size, i.bytes)) = some (some (.agg #[.int .i64 0, .slice none 0 0, .int .i64 0, .int .i64 0]), 4, 48) := by kernel_rfl
theorem Tryz.infoRegion : (Tryz.prog.info? 33).map (fun i => (i.zero, i.size, i.bytes)) = some (some (.agg #[.slice none 0 0]), 1, 24) := by kernel_rfl

/-- A row of lines, their rectangles in rows of their own. -/
structure LsOwn (w : World) (base : Nat) (v : Value) (l : LL) : Prop where
  o : w.ownsRow base 35 4 v l.length (lnCells l)
  fs : ∀ x ∈ l, w.ownsRow base 68 4 (.slice x.2.a x.1.rg.length x.2.c) x.1.rg.length (rCells x.1.rg)
  ap : ∀ x ∈ l, ∀ g, v.ownBlock = some g → (Value.slice x.2.a x.1.rg.length x.2.c).ownBlock ≠ some g
section
variable {w w' : World} {base : Nat} {v : Value} {l : LL}
theorem LsOwn.nil (w : World) (base : Nat) : LsOwn w base (.slice none 0 0) [] := ⟨World.ownsRow_nil _ _ _ _, fun _ h => by simp at h, fun _ h => by simp at h⟩
theorem LsOwn.keep (h : LsOwn w base v l) (hk : ∀ b, b < w.heap.size → base ≤ b → w'.heap[b]? = w.heap[b]?) : LsOwn w' base v l := ⟨own_keepY h.o hk, fun x hx => own_keepY (h.fs x hx) hk, h.ap⟩
theorem LsOwn.below (h : LsOwn w base v l) (hb : Below w.heap.size w w') : LsOwn w' base v l := h.keep fun b hlt _ => hb.block b hlt
theorem LsOwn.only {g : Nat} (h : LsOwn w base v l) (hg : w.grownBy w' (some g)) (hlt : g < base) : LsOwn w' base v l := h.keep fun b hb hB => hg.block b hb (fun e => by injection e; omega)
theorem LsOwn.rebase {base' : Nat} (h : LsOwn w base v l) (hb : base' ≤ base) : LsOwn w base' v l := ⟨own_rebase h.o hb, fun x hx => own_rebase (h.fs x hx) hb, h.ap⟩
theorem LsOwn.sll {A : Option Addr} {c : Nat} (h : LsOwn w base (.slice A l.length c) l) : SlL w A l.length c l := by
  obtain ⟨A', c', e, h1, h2, h3⟩ := own_slice h.o
  injection e with e1 e2 e3
  subst e1 e3
  refine ⟨rfl, h2, h3, h1, fun x hx => ?_⟩
  obtain ⟨A2, c2, e, h4⟩ := SlR.of_own (h.fs x hx)
  injection e with e1 e2 e3
  rw [e1, e3]
  exact h4
/-- A row grows that is none of these. -/
theorem LsOwn.apart {row : Option Nat} (h : LsOwn w base v l) (hg : w.grownBy w' row) (hv : ∀ g, v.ownBlock = some g → row ≠ some g) (hf : ∀ x ∈ l, ∀ g, (Value.slice x.2.a x.1.rg.length x.2.c).ownBlock = some g → row ≠ some g) : LsOwn w' base v l :=
  ⟨own_grownY h.o hg hv, fun x hx => own_grownY (h.fs x hx) hg (hf x hx), h.ap⟩
theorem LsOwn.push {wa w5 : World} (h : LsOwn w base v l) (x : Ln × LV) (hx : w.ownsRow base 68 4 (.slice x.2.a x.1.rg.length x.2.c) x.1.rg.length (rCells x.1.rg)) (hxa : ∀ g, v.ownBlock = some g → (Value.slice x.2.a x.1.rg.length x.2.c).ownBlock ≠ some g) {v5 : Value}
    (ha : Below w.heap.size w wa) (hg : wa.grownBy w5 v.ownBlock) (hown : w5.ownsRow base 35 4 v5 (l.length + 1) (lnCells l ++ [.int .i64 x.1.pc, .slice x.2.a x.1.rg.length x.2.c, .int .i64 x.1.cr, .int .i64 x.1.sch])) (hat : v5.ownBlock = v.ownBlock ∨ v5.ownBlock = some wa.heap.size) : LsOwn w5 base v5 (l ++ [x]) := by
  have hall : ∀ y ∈ l ++ [x], w.ownsRow base 68 4 (.slice y.2.a y.1.rg.length y.2.c) y.1.rg.length (rCells y.1.rg) ∧ ∀ g, v.ownBlock = some g → (Value.slice y.2.a y.1.rg.length y.2.c).ownBlock ≠ some g := by
    intro y hy
    rcases List.mem_append.1 hy with h1 | h1
    · exact ⟨h.fs y h1, h.ap y h1⟩
    · rw [List.mem_singleton] at h1
      subst h1
      exact ⟨hx, hxa⟩
  refine ⟨by rw [List.length_append, lnCells_snoc]; exact hown, fun y hy => own_grownY (ownsRow_below (hall y hy).1 ha) hg (fun g hg2 e => (hall y hy).2 g e hg2), fun y hy g hg2 e => ?_⟩
  rcases hat with h0 | h0
  · exact (hall y hy).2 g (by rw [← h0]; exact hg2) e
  · rw [h0] at hg2
    injection hg2 with hg2
    have := own_ltY (hall y hy).1 g e
    have := ha.size
    omega
end
/-- A row of regions, their rectangles in rows of their own. -/
structure RsOwn (w : World) (base : Nat) (v : Value) (l : RL) : Prop where
  o : w.ownsRow base 33 1 v l.length (rgCells l)
  fs : ∀ x ∈ l, w.ownsRow base 68 4 (.slice x.2.a x.1.length x.2.c) x.1.length (rCells x.1)
  ap : ∀ x ∈ l, ∀ g, v.ownBlock = some g → (Value.slice x.2.a x.1.length x.2.c).ownBlock ≠ some g
section
variable {w w' : World} {base : Nat} {v : Value} {l : RL}
theorem RsOwn.nil (w : World) (base : Nat) : RsOwn w base (.slice none 0 0) [] := ⟨World.ownsRow_nil _ _ _ _, fun _ h => by simp at h, fun _ h => by simp at h⟩
theorem RsOwn.keep (h : RsOwn w base v l) (hk : ∀ b, b < w.heap.size → base ≤ b → w'.heap[b]? = w.heap[b]?) : RsOwn w' base v l := ⟨own_keepY h.o hk, fun x hx => own_keepY (h.fs x hx) hk, h.ap⟩
theorem RsOwn.below (h : RsOwn w base v l) (hb : Below w.heap.size w w') : RsOwn w' base v l := h.keep fun b hlt _ => hb.block b hlt
theorem RsOwn.only {g : Nat} (h : RsOwn w base v l) (hg : w.grownBy w' (some g)) (hlt : g < base) : RsOwn w' base v l := h.keep fun b hb hB => hg.block b hb (fun e => by injection e; omega)
theorem RsOwn.rebase {base' : Nat} (h : RsOwn w base v l) (hb : base' ≤ base) : RsOwn w base' v l := ⟨own_rebase h.o hb, fun x hx => own_rebase (h.fs x hx) hb, h.ap⟩
theorem RsOwn.slg {A : Option Addr} {c : Nat} (h : RsOwn w base (.slice A l.length c) l) : SlG w A l.length c l := by
  obtain ⟨A', c', e, h1, h2, h3⟩ := own_slice h.o
  injection e with e1 e2 e3
  subst e1 e3
  refine ⟨rfl, h2, h3, h1, fun x hx => ?_⟩
  obtain ⟨A2, c2, e, h4⟩ := SlR.of_own (h.fs x hx)
  injection e with e1 e2 e3
  rw [e1, e3]
  exact h4
theorem RsOwn.apart {row : Option Nat} (h : RsOwn w base v l) (hg : w.grownBy w' row) (hv : ∀ g, v.ownBlock = some g → row ≠ some g) (hf : ∀ x ∈ l, ∀ g, (rgC x).ownBlock = some g → row ≠ some g) : RsOwn w' base v l :=
  ⟨own_grownY h.o hg hv, fun x hx => own_grownY (h.fs x hx) hg (hf x hx), h.ap⟩
theorem RsOwn.push {wa w5 : World} (h : RsOwn w base v l) (x : List R4 × LV) (hx : wa.ownsRow base 68 4 (.slice x.2.a x.1.length x.2.c) x.1.length (rCells x.1)) (hxa : ∀ g, v.ownBlock = some g → (Value.slice x.2.a x.1.length x.2.c).ownBlock ≠ some g) {v5 : Value}
    (ha : Below w.heap.size w wa) (hg : wa.grownBy w5 v.ownBlock) (hown : w5.ownsRow base 33 1 v5 (l.length + 1) (rgCells l ++ [.slice x.2.a x.1.length x.2.c])) (hat : v5.ownBlock = v.ownBlock ∨ v5.ownBlock = some wa.heap.size) : RsOwn w5 base v5 (l ++ [x]) := by
  have hall : ∀ y ∈ l ++ [x], wa.ownsRow base 68 4 (.slice y.2.a y.1.length y.2.c) y.1.length (rCells y.1) ∧ ∀ g, v.ownBlock = some g → (Value.slice y.2.a y.1.length y.2.c).ownBlock ≠ some g := by
    intro y hy
    rcases List.mem_append.1 hy with h1 | h1
    · exact ⟨ownsRow_below (h.fs y h1) ha, h.ap y h1⟩
    · rw [List.mem_singleton] at h1
      subst h1
      exact ⟨hx, hxa⟩
  refine ⟨?_, fun y hy => own_grownY (hall y hy).1 hg (fun g hg2 e => (hall y hy).2 g e hg2), fun y hy g hg2 e => ?_⟩
  · rw [List.length_append, show rgCells (l ++ [x]) = rgCells l ++ [.slice x.2.a x.1.length x.2.c] from by simp [rgCells, rgC]]
    exact hown
  rcases hat with h0 | h0
  · exact (hall y hy).2 g (by rw [← h0]; exact hg2) e
  · rw [h0] at hg2
    injection hg2 with hg2
    have := own_ltY (hall y hy).1 g e
    omega
end
end Go.Proofs.YtfmkmhhghmdakaaGreatDoor
namespace Go.Proofs.YtfmkmhhghmdakaaGreatDoor
open Go.RowKit Go.Shelf
set_option linter.unusedVariables false
set_option linter.unusedSimpArgs false

theorem rowCellL {W : World} {X i : Nat} {cs : Array Value} {t : TypeId} {v : Value} (h : W.heap[X]? = some (.cells cs t (0, 0))) (hv : cs.toList[i]? = some v) : W.cell? ⟨X, i, none⟩ = some v := by
  have := World.news_of_block h i v hv
  rwa [add_none, Nat.zero_add] at this
theorem Tryz.infoCrop : (Tryz.prog.info? 91).map (fun i => (i.zero, i.size, i.bytes)) = some (some (.agg #[.string ⟨#[]⟩, .int .i64 0, .int .i64 0]), 3, 32) := by kernel_rfl
/-- The names of crops. -/
def cropNs : List Value := [.string ⟨#[98, 97, 114, 108, 101, 121]⟩, .string ⟨#[99, 108, 111, 118, 101, 114]⟩, .string ⟨#[103, 114, 97, 115, 115]⟩, .string ⟨#[109, 97, 105, 122, 101]⟩, .string ⟨#[111, 97, 116, 115]⟩, .string ⟨#[114, 121, 101]⟩, .string ⟨#[118, 101, 116, 99, 104]⟩, .string ⟨#[119, 104, 101, 97, 116]⟩]
def cropN (i : Nat) : Value := cropNs.getD i (.string ⟨#[]⟩)
/-- Crops as they lie: each has its place's name, a family, marks. -/
def cpC (i : Nat) (x : Int × Int) : List Value := [cropN i, .int .i64 x.1, .int .i64 x.2]
def cpFrom : Nat → List (Int × Int) → List Value
  | _, [] => []
  | i, x :: t => cpC i x ++ cpFrom (i + 1) t
def cpCells (l : List (Int × Int)) : List Value := cpFrom 0 l
theorem cpFrom_snoc (x : Int × Int) : ∀ (l : List (Int × Int)) (i : Nat), cpFrom i (l ++ [x]) = cpFrom i l ++ cpC (i + l.length) x
  | [], i => by simp [cpFrom]
  | y :: l, i => by
    simp only [List.cons_append, cpFrom]
    rw [cpFrom_snoc x l (i + 1), List.append_assoc, List.length_cons, show i + 1 + l.length = i + (l.length + 1) by omega]
theorem cpCells_snoc (l : List (Int × Int)) (x : Int × Int) : cpCells (l ++ [x]) = cpCells l ++ [cropN l.length, .int .i64 x.1, .int .i64 x.2] := by
  unfold cpCells
  rw [cpFrom_snoc, Nat.zero_add]
  rfl
theorem cropN_str (i : Nat) : ∃ n, cropN i = .string n := by
  unfold cropN
  rcases Nat.lt_or_ge i 8 with h | h
  · rcases (show i = 0 ∨ i = 1 ∨ i = 2 ∨ i = 3 ∨ i = 4 ∨ i = 5 ∨ i = 6 ∨ i = 7 by omega) with rfl | rfl | rfl | rfl | rfl | rfl | rfl | rfl <;> exact ⟨_, rfl⟩
  · rw [List.getD_eq_getElem?_getD, List.getElem?_eq_none (by simpa [cropNs] using h)]
    exact ⟨_, rfl⟩
def marksL : List Value := [.int .i64 0, .int .i64 0, .int .i64 0, .int .i64 2, .int .i64 20, .int .i64 8, .int .i64 1, .int .i64 31]
theorem marksL_at (k : Nat) (h : k < 8) : ∃ m : Int, marksL[k]? = some (.int .i64 m) ∧ 0 ≤ m ∧ m ≤ 31 := by
  rcases (show k = 0 ∨ k = 1 ∨ k = 2 ∨ k = 3 ∨ k = 4 ∨ k = 5 ∨ k = 6 ∨ k = 7 by omega) with rfl | rfl | rfl | rfl | rfl | rfl | rfl | rfl
  · exact ⟨0, rfl, by omega, by omega⟩
  · exact ⟨0, rfl, by omega, by omega⟩
  · exact ⟨0, rfl, by omega, by omega⟩
  · exact ⟨2, rfl, by omega, by omega⟩
  · exact ⟨20, rfl, by omega, by omega⟩
  · exact ⟨8, rfl, by omega, by omega⟩
  · exact ⟨1, rfl, by omega, by omega⟩
  · exact ⟨31, rfl, by omega, by omega⟩
/-- What Crops leaves. -/
def CropsPost (w : World) (g : Nat) (e : Ending) (w' : World) : Prop :=
  ∃ (l : List (Int × Int)) (A : Option Addr) (c : Nat) (r : List Int), e = .returned (.slice A l.length c) ∧ w'.ownsRow w.heap.size 91 3 (.slice A l.length c) l.length (cpCells l) ∧ TapeAt w' g r ∧ w.grownBy w' (some g) ∧ (3 ≤ l.length ∧ l.length ≤ 8) ∧ ∀ x ∈ l, (0 ≤ x.1 ∧ x.1 ≤ 2) ∧ 0 ≤ x.2 ∧ x.2 ≤ 31

set_option maxHeartbeats 4000000 in
set_option maxRecDepth 100000 in
theorem crops_any (g : Nat) (r : List Int) (w : World) (ht : TapeAt w g r) : Calls Tryz.prog 9 #[.pointer (some ⟨g, 0, none⟩)] w (CropsPost w g) := by
  obtain ⟨i0, hi, hz0, hz1, hz2⟩ := info_parts Tryz.infoCrop
  have hlt := ht.lt
  have Ht := Lib.hid ht
  clear ht
  go_enter Tryz.func9, Tryz.ntmps9
  go_upto_region 2 with fail
  obtain ⟨wn, hwn⟩ : ∃ wn : World, wn = w.alloc (.cells #[.string ⟨#[98, 97, 114, 108, 101, 121]⟩, .string ⟨#[99, 108, 111, 118, 101, 114]⟩, .string ⟨#[103, 114, 97, 115, 115]⟩, .string ⟨#[109, 97, 105, 122, 101]⟩, .string ⟨#[111, 97, 116, 115]⟩, .string ⟨#[114, 121, 101]⟩, .string ⟨#[118, 101, 116, 99, 104]⟩, .string ⟨#[119, 104, 101, 97, 116]⟩] 9) := ⟨_, rfl⟩
  rw [← hwn]
  have HN : Hid (wn.heap[w.heap.size]? = some (.cells cropNs.toArray 9 (0, 0))) := Lib.hid (by rw [hwn]; exact heap_alloc_new w _)
  have Htn : Hid (TapeAt wn g r) := Lib.hid (by rw [hwn]; exact Ht.out.alloc _)
  have Hgn : Hid (w.grownBy wn (some g)) := Lib.hid (by rw [hwn]; exact only_alloc (World.grownBy.refl _ _) _)
  have hsn : w.heap.size < wn.heap.size := by rw [hwn]; simp
  clear hwn Ht
  go_wp2_with (first
    | (go_at_call 43
       refine (range_any g r 3 8 _ Htn.out (by omega) (by omega) (by omega)).mono ?_
       rintro e w1 ⟨rfl, ht1, hg1⟩
       have hkb := nx_bd r (8 - 3 + 1) (by omega)
       generalize nx r (8 - 3 + 1) = k0 at *
       obtain ⟨m, hm⟩ : ∃ m : Nat, 3 + k0 = (m : Int) := ⟨(3 + k0).toNat, by omega⟩
       have hm1 : 3 ≤ m ∧ m ≤ 8 := by omega
       rw [hm]
       have Ht1 := Lib.hid ht1
       have Hg1 := Lib.hid (only_trans Hgn.out hg1)
       have HN1 := Lib.hid ((hg1.block _ hsn (fun e => by injection e; omega)).trans HN.out)
       have hs1 : wn.heap.size ≤ w1.heap.size := hg1.size
       clear ht1 hg1 hkb hm)
    | fail)
  go_loopw [4, 6, 13] (fun lv _ iv wr => ∃ (l : List (Int × Int)) (r1 : List Int), l.length ≤ m ∧ iv = .int .i64 (l.length : Int) ∧ wr.ownsRow w1.heap.size 91 3 lv l.length (cpCells l) ∧ TapeAt wr g r1 ∧ w1.grownBy wr (some g) ∧ ∀ x ∈ l, (0 ≤ x.1 ∧ x.1 ≤ 2) ∧ 0 ≤ x.2 ∧ x.2 ≤ 31) (fun _ _ iv _ => m - (intOf iv).toNat)
  case atStart => exact ⟨[], _, Nat.zero_le _, rfl, World.ownsRow_nil _ _ _ _, Ht1.out, World.grownBy.refl _ _, fun x hx => by cases hx⟩
  case round =>
    obtain ⟨l, r1, hlm, rfl, hown, htr, hgr, hbd⟩ := hrel
    have Hown := Lib.hid hown
    have Htr := Lib.hid htr
    have Hgr := Lib.hid hgr
    have Hbd := Lib.hid hbd
    have hsr := hgr.size
    have hgw := htr.lt
    clear hown htr hgr hbd
    obtain ⟨k, hk⟩ : ∃ k, l.length = k := ⟨_, rfl⟩
    have Hk := Lib.hid hk
    rw [hk] at hlm Hown ⊢
    clear hk
    by_cases hkm : k < m
    · have hkm' : (k : Int) < (m : Int) := by omega
      have hk8 : k < 8 := by omega
      have c0 : wr.cell? ⟨w.heap.size, k, none⟩ = some (cropN k) := rowCellL ((Hgr.out.block _ (by omega) (fun e => by injection e; omega)).trans HN1.out) (by
        rcases (show k = 0 ∨ k = 1 ∨ k = 2 ∨ k = 3 ∨ k = 4 ∨ k = 5 ∨ k = 6 ∨ k = 7 by omega) with rfl | rfl | rfl | rfl | rfl | rfl | rfl | rfl <;> rfl)
      obtain ⟨nm, hnm⟩ := cropN_str k
      rw [hnm] at c0
      have Hnm := Lib.hid hnm
      clear hnm
      go_wp2_with (first
        | (go_at_call 44
           have hguard := H5.out
           refine (next_any g r1.tail 8 _ (Ht5.out.alloc _) (by omega)).mono ?_
           rintro e w6 ⟨rfl, ht6, hg6⟩
           have hk6 := nx_bd r1.tail 8 (by omega)
           generalize nx r1.tail 8 = k6 at *
           obtain ⟨j, rfl⟩ : ∃ j : Nat, k6 = (j : Int) := ⟨k6.toNat, by omega⟩
           have hj8 : j < 8 := by omega
           obtain ⟨mk, hmk, hmb⟩ := marksL_at j hj8
           have hr5 := heap_alloc_new w5 (.cells marksL.toArray 3)
           have c6 : w6.cell? ⟨w5.heap.size, j, none⟩ = some (.int .i64 mk) := rowCellL ((hg6.block w5.heap.size (by simp) (fun e => by injection e; omega)).trans hr5) hmk
           have Ht6 := Lib.hid ht6
           have Hg6 := Lib.hid (only_trans (only_alloc Hg5.out _) hg6)
           have Hown6 := Lib.hid (ownsRow_only (Hown5.out.alloc _) hg6 (by omega))
           have hs6 : w1.heap.size ≤ w6.heap.size := Hg6.out.size
           have hl56 : w5.heap.size < w6.heap.size := (by have := hg6.size; simp at this; omega)
           clear ht6 hg6 hr5 hguard hmk hk6)
        | (go_at_call 44
           refine (next_any g r1 3 _ Htr.out (by omega)).mono ?_
           rintro e w5 ⟨rfl, ht5, hg5⟩
           have hk5 := nx_bd r1 3 (by omega)
           generalize nx r1 3 = k5 at *
           have Ht5 := Lib.hid ht5
           have Hg5 := Lib.hid (only_trans Hgr.out hg5)
           have Hown5 := Lib.hid (ownsRow_only Hown.out hg5 (by omega))
           have H5 : Hid True := Lib.hid trivial
           have hg5w : g < w5.heap.size := ht5.lt
           have hs5 : w1.heap.size ≤ w5.heap.size := Hg5.out.size
           clear ht5 hg5)
        | (at_builtin
           refine wpList_append_any _ rfl (.tmp 17) (.tmp 27) _ rfl w1.heap.size 91 i0 _ 3 32 Tryz.underlying29 hi hz0 hz1 hz2 rfl (by omega) _ k (cpCells l) rfl
             (Hown6.out.alloc _) _ _ 1 1 [.string nm, .int .i64 k5, .int .i64 mk] rfl ⟨rfl, fun _ => ⟨_, rfl, Nat.lt_succ_self _, fun j u hu => (by exact news_any _ _ _ j u hu)⟩⟩ (by simp [Value.oneCell']) (by simp only [maxLen]; omega) (by omega) (by simp; omega) ?_
           intro v7 w7 hown7 hg7 hat7)
        | fail)
      go_roundw
      case rel =>
        refine ⟨l ++ [(k5, mk)], r1.tail.tail, by rw [List.length_append, Hk.out]; simp; omega, by rw [List.length_append, Hk.out]; go_num, ?_, ?_, ?_, ?_⟩
        · rw [List.length_append, cpCells_snoc, Hk.out, Hnm.out]; exact hown7
        · exact (Ht6.out.alloc _).grown hg7 (fun q hq => by have := own_base Hown6.out q hq; omega)
        · exact only_grown (only_alloc Hg6.out _) hg7 (fun q hq => own_base Hown6.out q hq)
        · intro x hx
          rcases List.mem_append.1 hx with hx | hx
          · exact Hbd.out x hx
          · rw [List.mem_singleton] at hx
            subst hx
            exact ⟨⟨hk5.1, by show k5 ≤ 2; omega⟩, hmb⟩
      case measure => simp [intOf]; omega
    · have hkm' : ¬ (k : Int) < (m : Int) := by omega
      obtain ⟨A, c, rfl, _, _, _⟩ := own_slice Hown.out
      go_wp2
      go_ret
      exact ⟨l, A, c, r1, by rw [Hk.out]; rfl, by rw [Hk.out]; exact own_rebase Hown.out (by omega), Htr.out, only_trans Hg1.out Hgr.out, by rw [Hk.out]; omega, Hbd.out⟩
end Go.Proofs.YtfmkmhhghmdakaaGreatDoor
namespace Go.Proofs.YtfmkmhhghmdakaaGreatDoor
open Go.RowKit Go.Shelf
set_option linter.unusedVariables false
set_option linter.unusedSimpArgs false

/-- Regions that lie in a world. -/
abbrev GS (w : World) := { x : List R4 × LV // SlR w x.2.a x.1.length x.2.c x.1 }
instance (w : World) : Inhabited (GS w) := ⟨⟨([], ⟨none, 0⟩), SlR.nil w⟩⟩
def gsOf {w : World} {l : RL} (h : ∀ x ∈ l, SlR w x.2.a x.1.length x.2.c x.1) : List (GS w) := l.attach.map fun x => ⟨x.1, h x.1 x.2⟩
theorem gsOf_len {w : World} {l : RL} (h : ∀ x ∈ l, SlR w x.2.a x.1.length x.2.c x.1) : (gsOf h).length = l.length := by simp [gsOf]
theorem gsOf_get {w : World} {l : RL} (h : ∀ x ∈ l, SlR w x.2.a x.1.length x.2.c x.1) (j : Nat) (hj : j < l.length) : ((gsOf h)[j]'(by rw [gsOf_len]; exact hj)).1 = l[j] := by simp [gsOf]
theorem gsOf_any {w : World} {l : RL} (h : ∀ x ∈ l, SlR w x.2.a x.1.length x.2.c x.1) (q : List R4 × LV → Bool) : (gsOf h).any (fun x => q x.1) = l.any q := by
  rw [Bool.eq_iff_iff, List.any_eq_true, List.any_eq_true]
  constructor
  · rintro ⟨x, hx, hq⟩
    obtain ⟨y, hy, rfl⟩ := List.mem_map.1 hx
    exact ⟨y.1, y.2, hq⟩
  · rintro ⟨x, hx, hq⟩
    exact ⟨⟨x, h x hx⟩, List.mem_map.2 ⟨⟨x, hx⟩, List.mem_attach _ _, rfl⟩, hq⟩

set_option maxHeartbeats 1000000 in
theorem containsG_any (p : List R4 × LV → Bool) (f : Nat) (lb : Array Value) (eg : ∀ args w, (callFunc f args).run Tryz.prog w = .ok (.enter f args) w) (A : Option Addr) (n c : Nat) (l : RL) (w : World) (hA : SlG w A n c l)
    (hp : PredBelow Tryz.prog f lb (fun x : GS w => .agg #[rgC x.1]) (fun x => p x.1) w) :
    Calls Tryz.prog 71 #[.slice A n c, .func (.func f) #[] lb] w fun e w' => e = .returned (.bool (l.any p)) ∧ Below w.heap.size w w' := by
  have hx := hA.len
  have hn := Nat.le_trans hA.cap hA.top
  unfold maxLen at hn
  rcases Nat.eq_zero_or_pos n with h0 | h0
  · subst h0
    obtain rfl : l = [] := List.length_eq_zero_iff.1 hx
    clear hA hp eg
    go_enter Tryz.func71, Tryz.ntmps71
    go_wp2
    go_loop [8] (fun i => i = .int .i64 0) (fun _ => 0)
    case atStart => rfl
    case round =>
      subst hrel
      go_wp2
      go_ret
      exact ⟨rfl, Below.refl _ _⟩
  · obtain ⟨b1, o1, rfl, hb1, hc1⟩ := hA.lies.resolve_left (by omega)
    have hgl := gsOf_len hA.fits
    refine (AnyQ.slices_ContainsFunc Tryz.layContainsRegion 1 Tryz.isAgg33 Tryz.sizeOf33 (fun x : GS w => [rgC x.1]) (fun _ => rfl) (fun x => p x.1) f lb eg b1 o1 n c (gsOf hA.fits) w hp (by omega) (by omega) hb1 ?_).mono ?_
    · intro j hj i v hv
      have hj' : j < l.length := by omega
      rw [getElem!_pos (gsOf hA.fits) j (by omega), gsOf_get hA.fits j hj'] at hv
      have hi : i = 0 := by
        rcases Nat.eq_zero_or_pos i with h | h
        · exact h
        · rw [List.getElem?_eq_none (by simp; omega)] at hv; cases hv
      subst hi
      simp at hv
      subst hv
      rw [Nat.mul_one, Nat.add_zero]
      exact hc1 j _ (by simp [rgCells, hj'])
    · rintro e w' ⟨rfl, hb⟩
      rw [List.take_of_length_le (by omega), gsOf_any hA.fits p]
      exact ⟨rfl, hb⟩

set_option maxHeartbeats 400000 in
theorem validG (w : World) : PredBelow Tryz.prog 142 #[] (fun x : GS w => .agg #[rgC x.1]) (fun x => !validP x.1.1) w := by
  intro W x hb
  obtain ⟨⟨l, v⟩, hx⟩ := x
  refine Calls.mono (show Calls Tryz.prog 142 #[.agg #[.slice v.a l.length v.c]] W fun e w' => e = .returned (.bool (!validP l)) ∧ Below W.heap.size W w' from ?_) ?_
  · have HV := Lib.hid (fun W' (hW : Below W.heap.size W W') => valid_any v.a l.length v.c l W' ((hx.below hb).below hW))
    generalize validP l = x at *
    clear hx
    go_enter Tryz.func142, Tryz.ntmps142
    go_wp2_with (first | (go_at_call 48; refine (HV.out _ (by repeat' (first | with_reducible exact Below.refl _ _ | with_reducible refine below_drewN ?_ _ | with_reducible refine Below.drew ?_ | with_reducible refine Below.alloc ?_ ?_ _ | with_reducible refine Below.setCell ?_ ?_ _ | with_reducible refine Below.trans ?_ (Below.mono (by with_reducible assumption) ?_) | (simp; done) | (simp; omega) | omega))).mono ?_; rintro e w1 ⟨rfl, hb1⟩) | fail)
    go_ret
    exact ⟨rfl, (by repeat' (first | with_reducible exact Below.refl _ _ | with_reducible assumption | with_reducible refine below_drewN ?_ _ | with_reducible refine Below.drew ?_ | with_reducible refine Below.alloc ?_ ?_ _ | with_reducible refine Below.setCell ?_ ?_ _ | with_reducible refine Below.trans ?_ (Below.mono (by with_reducible assumption) ?_) | with_reducible refine below_only ?_ (by with_reducible assumption) ?_ ?_ | (simp; done) | (simp; omega) | omega))⟩
  · rintro e w' ⟨rfl, h⟩
    exact ⟨rfl, hb.trans (h.mono hb.size)⟩

/-- The regions of lines. -/
def regsOf (l : LL) : RL := l.map fun x => (x.1.rg, x.2)
theorem regsOf_take {l : LL} {k : Nat} (h : k < l.length) : regsOf (l.take (k + 1)) = regsOf (l.take k) ++ [(l[k].1.rg, l[k].2)] := by
  unfold regsOf
  rw [List.take_succ_eq_append_getElem h, List.map_append]
  rfl
theorem rgCells_snoc (l : RL) (x : List R4 × LV) : rgCells (l ++ [x]) = rgCells l ++ [.slice x.2.a x.1.length x.2.c] := by simp [rgCells, rgC]

set_option maxHeartbeats 4000000 in
set_option maxRecDepth 100000 in
theorem regionsC_any (w0 w : World) (hb : Below w0.heap.size w0 w) (v0 : Value) (M : RL) (hM : w.ownsRow w0.heap.size 33 1 v0 M.length (rgCells M)) (hMs : ∀ x ∈ M, SlR w0 x.2.a x.1.length x.2.c x.1) (A : Option Addr) (n c : Nat) (l : LL) (hL : SlL w0 A n c l) (hn : n ≤ 100) (hm : M.length ≤ 10) :
    Calls Tryz.prog 58 #[.slice A n c, v0] w fun e w' => e = .returned (.int .i64 (if (M ++ regsOf l).all (fun x => validP x.1) then 0 else 7)) ∧ Below w0.heap.size w0 w' := by
  obtain ⟨i0, hi, hz0, hz1, hz2⟩ := info_parts Tryz.infoRegion
  have hx := hL.len
  have HL := Lib.hid hL
  have HMs := Lib.hid hMs
  have Hb := Lib.hid hb
  have HM := Lib.hid hM
  have hs := hb.size
  have Hany : Hid ((M ++ regsOf l).any (fun x => !validP x.1) = !(M ++ regsOf l).all (fun x => validP x.1)) := Lib.hid (any_not_all _ _)
  have Egv : Hid (∀ args w, (callFunc 142 args).run Tryz.prog w = .ok (.enter 142 args) w) := Lib.hid (enters_of Tryz.func142 (by kernel_rfl) rfl)
  have Hend : Hid (∀ x ∈ M ++ regsOf l, SlR w0 x.2.a x.1.length x.2.c x.1) := Lib.hid (fun x hx => by
    rcases List.mem_append.1 hx with h | h
    · exact hMs x h
    · obtain ⟨y, hy, rfl⟩ := List.mem_map.1 h
      exact hL.fits y hy)
  obtain ⟨res, hres⟩ : ∃ r, (M ++ regsOf l).all (fun x => validP x.1) = r := ⟨_, rfl⟩
  rw [hres] at Hany ⊢
  clear hL hMs hb hM hres
  go_enter Tryz.func58, Tryz.ntmps58
  go_wp2_with fail
  go_loopw [1, 9] (fun v i wr => ∃ k : Nat, k ≤ n ∧ i = .int .i64 (k : Int) ∧ wr.ownsRow w0.heap.size 33 1 v (M.length + k) (rgCells (M ++ regsOf (l.take k))) ∧ Below w0.heap.size w0 wr) (fun _ i _ => n - (intOf i).toNat)
  case atStart => exact ⟨0, Nat.zero_le _, rfl, by simpa [regsOf] using HM.out, Hb.out⟩
  case round =>
    obtain ⟨k, hk, rfl, hown, hbw⟩ := hrel
    have Hbw := Lib.hid hbw
    have hsw := hbw.size
    have Hown := Lib.hid hown
    clear hown hbw
    by_cases hkn : k < n
    · have hkn' : (k : Int) < (n : Int) := by omega
      have hkl : k < l.length := by omega
      obtain ⟨b, off, rfl, hbb, g0, g1, g2, g3, -⟩ := (HL.out.below Hbw.out).at k hkl
      have Hts := Lib.hid (regsOf_take hkl)
      have HM2 : Hid (M ++ regsOf (l.take (k + 1)) = M ++ regsOf (l.take k) ++ [(l[k].1.rg, l[k].2)]) := Lib.hid (by rw [Hts.out, List.append_assoc])
      generalize l[k] = y at *
      obtain ⟨⟨ypc, yrg, ycr, ysch⟩, ⟨ya, yc⟩⟩ := y
      dsimp only at *
      generalize M ++ regsOf (l.take k) = Q at *
      clear hkl
      go_wp2_with (first
        | (at_builtin
           (refine wpList_append_any _ rfl (.tmp 13) (.tmp 16) _ rfl w0.heap.size 33 i0 _ 1 24 Tryz.underlying26 hi hz0 hz1 hz2 rfl (by omega) _ (M.length + k) (rgCells Q) rfl ((Hown.out.alloc _).alloc _) _ _ 1 1 [.slice ya yrg.length yc] rfl ⟨rfl, fun _ => ⟨_, rfl, Nat.lt_succ_self _, fun j u hu => (by have hnw := news_any (wr.alloc (.cells #[.int .i64 ypc, .slice ya yrg.length yc, .int .i64 ycr, .int .i64 ysch] 35)) #[.slice ya yrg.length yc] 33 j u hu; rw [World.size_alloc] at hnw; exact hnw)⟩⟩ (by simp [Value.oneCell']) (by simp only [maxLen]; omega) (by omega) (by simp; omega) ?_)
           intro v5 w5 hown5 hg5 hat5)
        | fail)
      go_roundw
      case rel => exact ⟨k + 1, by omega, by go_num, by rw [HM2.out, rgCells_snoc]; exact hown5, Below.grown ((Hbw.out.alloc hsw _).alloc (by simp; omega) _) hg5 (by simp; omega) (own_base Hown.out)⟩
      case measure => simp [intOf]; omega
    · obtain rfl : k = n := by omega
      have hkn' : ¬ (k : Int) < (k : Int) := by omega
      rw [List.take_of_length_le (by omega : l.length ≤ k)] at Hown
      obtain ⟨G, gc, rfl, h1, h2, h3⟩ := own_slice Hown.out
      have hll : (M ++ regsOf l).length = M.length + k := by simp [regsOf, hx]
      have HG : Hid (SlG wr G (M.length + k) gc (M ++ regsOf l)) := Lib.hid ⟨hll, h2, h3, h1, fun x hx => (Hend.out x hx).below Hbw.out⟩
      clear h1 h2 h3 Hown hll
      have HC : Hid (Calls Tryz.prog 71 #[.slice G (M.length + k) gc, .func (.func 142) #[] #[]] wr fun e w' => e = .returned (.bool (!res)) ∧ Below wr.heap.size wr w') := Lib.hid (by
        have := containsG_any (fun x => !validP x.1) 142 #[] Egv.out G (M.length + k) gc (M ++ regsOf l) wr HG.out (validG wr)
        rwa [Hany.out] at this)
      generalize M.length + k = gn at *
      clear HG Hany Hend
      cases res with
      | true =>
        go_wp2_with (first | (go_at_call 71; refine HC.out.mono ?_; rintro e w1 ⟨rfl, hb1⟩) | fail)
        go_ret
        exact ⟨rfl, Hbw.out.trans (hb1.mono hsw)⟩
      | false =>
        go_wp2_with (first | (go_at_call 71; refine HC.out.mono ?_; rintro e w1 ⟨rfl, hb1⟩) | fail)
        go_ret
        exact ⟨rfl, Hbw.out.trans (hb1.mono hsw)⟩

theorem lns_take {l : LL} {k : Nat} (h : k < l.length) : lns (l.take (k + 1)) = lns (l.take k) ++ [l[k].1] := by
  unfold lns
  rw [List.take_succ_eq_append_getElem h, List.map_append]
  rfl
end Go.Proofs.YtfmkmhhghmdakaaGreatDoor
namespace Go.Proofs.YtfmkmhhghmdakaaGreatDoor
open Go.RowKit Go.Shelf Go.Lib Go.Sort
set_option linter.unusedVariables false
set_option linter.unusedSimpArgs false

end Go.Proofs.YtfmkmhhghmdakaaGreatDoor
namespace Go.Proofs.YtfmkmhhghmdakaaGreatDoor
open Go.RowKit Go.Shelf
set_option linter.unusedVariables false
set_option linter.unusedSimpArgs false

/-- Whether the squares of all lines are regions. -/
def validL (L : List Ln) : Bool := L.all fun x => validP x.rg
theorem validL_regs (l : LL) : (regsOf l).all (fun x => validP x.1) = validL (lns l) := by
  unfold regsOf validL lns
  rw [List.all_map, List.all_map]
  rfl
theorem validL_at {L : List Ln} (h : validL L = true) {x : Ln} (hx : x ∈ L) : validP x.rg = true := List.all_eq_true.1 h x hx
end Go.Proofs.YtfmkmhhghmdakaaGreatDoor
namespace Go.Proofs.YtfmkmhhghmdakaaGreatDoor
open Go.RowKit
set_option linter.unusedVariables false
set_option linter.unusedSimpArgs false

end Go.Proofs.YtfmkmhhghmdakaaGreatDoor
namespace Go.Proofs.YtfmkmhhghmdakaaGreatDoor
open Go.RowKit
set_option linter.unusedVariables false
set_option linter.unusedSimpArgs false

end Go.Proofs.YtfmkmhhghmdakaaGreatDoor
namespace Go.Proofs.YtfmkmhhghmdakaaGreatDoor
open Go.RowKit Go.Shelf
set_option linter.unusedVariables false
set_option linter.unusedSimpArgs false

theorem land_rect (r : List Int) : LandOk [mkRect r 9] := by
  have h := mkRect_in r 9 (by omega)
  exact ⟨fun q hq => by rw [List.mem_singleton] at hq; subst hq; exact h, by simp, ⟨xEdges [mkRect r 9], by rw [xEdges_len]; simp, fun y => cut_inL y _⟩⟩
theorem land_reg (r : List Int) : LandOk (mkReg r 9 2).1 := by
  have hb := nx_bd r 3 (by omega)
  obtain ⟨h1, h2⟩ := mkRects_in 9 (by omega) (nx r 3).toNat r.tail
  have h3 := ofP_reg 9 (by omega) _ h1 2 (by omega) (by omega) (by omega)
  have e : (mkReg r 9 2).1 = canonP (mkRects (nx r 3).toNat r.tail 9).1 := by
    unfold mkReg
    rw [← ofP_eq, show (2 : Int) + 1 = 3 from rfl, h3.1]
  rw [e]
  refine ⟨h3.2.ins, by have := h3.2.len; omega, ⟨xEdges (mkRects (nx r 3).toNat r.tail 9).1, by rw [xEdges_len]; omega, fun y => ?_⟩⟩
  have e2 : (fun x => inL (canonP (mkRects (nx r 3).toNat r.tail 9).1) x y) = fun x => inL (mkRects (nx r 3).toNat r.tail 9).1 x y := by
    funext x
    rw [(canonP_canon _ h1.pos).mem]
  rw [e2]
  exact cut_inL y _
/-- What Land leaves. -/
def LandPost (w : World) (g : Nat) (e : Ending) (w' : World) : Prop :=
  ∃ (v : LV) (a : List R4) (r : List Int), e = .returned (.agg #[.slice v.a a.length v.c]) ∧ w'.ownsRow w.heap.size 68 4 (.slice v.a a.length v.c) a.length (rCells a) ∧ TapeAt w' g r ∧ w.grownBy w' (some g) ∧ LandOk a

set_option maxHeartbeats 4000000 in
set_option maxRecDepth 100000 in
theorem land_any (g : Nat) (r : List Int) (w : World) (ht : TapeAt w g r) :
    Calls Tryz.prog 45 #[.pointer (some ⟨g, 0, none⟩), .int .i64 9, .int .i64 2] w (LandPost w g) := by
  have hlt := ht.lt
  have Hr := Lib.hid (region_any g r 9 2 (w.alloc (.cells #[.slice none 0 0] 33)) (ht.alloc _) (by omega) (by omega))
  have Hok := Lib.hid (land_reg r)
  generalize mkReg r 9 2 = rr at *
  obtain ⟨a, r1⟩ := rr
  dsimp only at Hok
  clear ht
  go_enter Tryz.func45, Tryz.ntmps45
  go_upto_region 2 with (first
    | (go_at_call 21
       refine Hr.out.mono ?_
       rintro e w1 ⟨v1, rfl, hown1, ht1, hg1⟩
       dsimp only at hown1 ht1
       obtain ⟨A, c, rfl, _, _, _⟩ := own_slice hown1
       have Hown1 := Lib.hid hown1
       have Ht1 := Lib.hid ht1
       have Hg1 := Lib.hid hg1
       have hs1 := hg1.size
       clear hown1 ht1 hg1)
    | fail)
  simp at hs1
  have hg1 := Ht1.out.lt
  have hr1 : w1.heap[w.heap.size]? = some (.cells #[.slice none 0 0] 33 (0, 0)) := (Hg1.out.block w.heap.size (by simp) (by intro e; injection e; omega)).trans (heap_alloc_new w _)
  have Hg : Hid (w.grownBy w1 (some g)) := Lib.hid ⟨Hg1.out.os, Hg1.out.tape, Hg1.out.output, by omega, fun i hi hne => (Hg1.out.block i (by simp; omega) hne).trans (Below.heap_alloc w _ i hi)⟩
  obtain ⟨wb, hwb⟩ : ∃ wb : World, wb = w1.alloc (.cells #[.slice A a.length c] 33) := ⟨_, rfl⟩
  rw [← hwb]
  have HX : Hid (wb.heap[w1.heap.size]? = some (.cells #[.slice A a.length c] 33 (0, 0))) := Lib.hid (by rw [hwb]; exact heap_alloc_new w1 _)
  have HG : Hid (wb.heap[w.heap.size]? = some (.cells #[.slice none 0 0] 33 (0, 0))) := Lib.hid (by rw [hwb]; exact (Below.heap_alloc w1 _ _ (by omega)).trans hr1)
  have Hgb : Hid (w.grownBy wb (some g)) := Lib.hid (by rw [hwb]; exact only_alloc Hg.out _)
  have Htb : Hid (TapeAt wb g r1) := Lib.hid (by rw [hwb]; exact Ht1.out.alloc _)
  have hlow := own_ltY Hown1.out
  have Hownb : Hid (wb.ownsRow (w.heap.size + 1) 68 4 (.slice A a.length c) a.length (rCells a)) := Lib.hid (by rw [hwb]; have := Hown1.out.alloc (.cells #[.slice A a.length c] 33); simpa using this)
  have Hlow : Hid (∀ k, (Value.slice A a.length c).ownBlock = some k → w.heap.size + 1 ≤ k ∧ k < w1.heap.size) := Lib.hid (fun k hk => ⟨own_base Hownb.out k hk, hlow k hk⟩)
  have hXb : w1.heap.size < wb.heap.size := by rw [hwb]; simp
  have hGb : w.heap.size < w1.heap.size := by omega
  obtain ⟨X, hX⟩ : ∃ X, w1.heap.size = X := ⟨_, rfl⟩
  rw [hX] at HX hXb hGb Hlow ⊢
  clear hwb hr1 Hg Ht1 Hown1 Hg1 hs1 hg1 Hr hlow hX
  have x0 := cell_of_row wb X 0 _ _ _ HX.out
  by_cases h0 : a.length = 0
  · have h0' : (a.length : Int) = 0 := by omega
    have h0d : decide ((a.length : Int) = 0) = true := decide_eq_true h0'
    have hgb := Htb.out.lt
    have HRe := Lib.hid (rect_any g r1 9 wb Htb.out (by omega))
    have Hqo := Lib.hid (land_rect r1)
    generalize mkRect r1 9 = q at *
    go_upto_region 3 with fail
    go_upto_region 4 with (first
      | (go_at_call 77
         refine HRe.out.mono ?_
         rintro e w2 ⟨rfl, ht2, hg2⟩
         have Ht2 := Lib.hid ht2
         have Hg2 := Lib.hid hg2
         have hs2 := hg2.size
         have hrX := (hg2.block X hXb (by intro e; injection e; omega)).trans HX.out
         have hrG := (hg2.block w.heap.size (by omega) (by intro e; injection e; omega)).trans HG.out
         have hlX2 : X < w2.heap.size := by omega
         have xc2 : ∀ o, (w2.alloc o).cell? ⟨X, 0, none⟩ = some (.slice A a.length c) := fun o => by rw [World.cell?_alloc_lt w2 o _ hlX2]; exact cell_of_row w2 X 0 _ _ _ hrX
         have xf2 : ∀ o, (w2.alloc o).frozen? ⟨X, 0, none⟩ = false := fun o => frozen_of_row (w2.alloc o) X 0 _ _ ((Below.heap_alloc w2 o _ hlX2).trans hrX)
         have HrX := Lib.hid hrX
         have HrG := Lib.hid hrG
         clear ht2 hg2 hrX hrG)
      | fail)
    obtain ⟨wc, hwc⟩ : ∃ wc : World, wc = (w2.setCell ⟨X, 0, none⟩ (.slice (some ⟨w2.heap.size, 0, none⟩) 1 1)).alloc (.cells #[.int .i64 q.l, .int .i64 q.b, .int .i64 q.r, .int .i64 q.t] 68) := ⟨_, rfl⟩
    rw [← hwc]
    have hrX : wc.heap[X]? = some (.cells #[.slice (some ⟨w2.heap.size, 0, none⟩) 1 1] 33 (0, 0)) := by
      rw [hwc]
      have h := heap_setCell_same w2 X 0 _ _ (.slice (some ⟨w2.heap.size, 0, none⟩) 1 1) HrX.out
      exact (Below.heap_alloc _ _ _ (by simpa using hlX2)).trans (by simpa using h)
    have hr : wc.heap[w.heap.size]? = some (.cells #[.slice none 0 0] 33 (0, 0)) := by
      rw [hwc]
      exact (Below.heap_alloc _ _ _ (by simp; omega)).trans ((Below.heap_setCell _ _ _ _ (by show w.heap.size ≠ X; omega)).trans HrG.out)
    have Ho : Hid (wc.ownsRow w2.heap.size 68 4 (.slice (some ⟨w2.heap.size, 0, none⟩) 1 1) 1 (rCells [q])) := Lib.hid (by
      rw [hwc]
      have h := own_lit (w2.setCell ⟨X, 0, none⟩ (.slice (some ⟨w2.heap.size, 0, none⟩) 1 1)) 68 4 1 #[.int .i64 q.l, .int .i64 q.b, .int .i64 q.r, .int .i64 q.t] (rCells [q]) rfl (by rfl) (by unfold maxLen; omega)
      simpa using h)
    have Htc : Hid (TapeAt wc g r1.tail.tail.tail.tail) := Lib.hid (by rw [hwc]; exact (Ht2.out.setCell (by show g < X; omega) _).alloc _)
    have Hgc : Hid (w.grownBy wc (some g)) := Lib.hid (by rw [hwc]; exact only_alloc (only_setCell (only_trans Hgb.out Hg2.out) (.inr (by show w.heap.size ≤ X; omega)) _) _)
    have hlow := own_base Ho.out
    have xc := cell_of_row wc X 0 _ _ _ hrX
    have cr := cell_of_row wc w.heap.size 0 _ _ _ hr
    have fr := frozen_of_row wc w.heap.size 0 _ _ hr
    have cs : (wc.setCell ⟨w.heap.size, 0, none⟩ (.slice (some ⟨w2.heap.size, 0, none⟩) 1 1)).cell? ⟨w.heap.size, 0, none⟩ = some (.slice (some ⟨w2.heap.size, 0, none⟩) 1 1) := by
      rw [cell_of_row _ w.heap.size 0 _ _ _ (heap_setCell_same wc w.heap.size 0 _ _ _ hr)]
      simp
    have hwq : w.heap.size < w2.heap.size := by omega
    clear hr hrX hwc xc2 xf2
    go_wp2
    refine bodyPost_ret (v := .agg #[.slice (some ⟨w2.heap.size, 0, none⟩) 1 1]) (by simp [results, Tryz.results45, go_sem, *]) rfl ?_
    refine ⟨⟨some ⟨w2.heap.size, 0, none⟩, 1⟩, [q], r1.tail.tail.tail.tail, rfl, ?_, Htc.out.setCell (by show g < w.heap.size; exact hlt) _, only_setCell Hgc.out (.inr (Nat.le_refl _)) _, Hqo.out⟩
    exact own_other (own_rebase Ho.out (by omega)) (only_setCell (g := w.heap.size) (World.grownBy.refl _ _) (.inl rfl) _) (fun k hk e => by injection e with e; have := hlow k hk; omega)
  · have h0' : ¬ (a.length : Int) = 0 := by omega
    have h0d : decide ((a.length : Int) = 0) = false := decide_eq_false h0'
    have hr := HG.out
    have cr := cell_of_row wb w.heap.size 0 _ _ _ hr
    have fr := frozen_of_row wb w.heap.size 0 _ _ hr
    have cs : (wb.setCell ⟨w.heap.size, 0, none⟩ (.slice A a.length c)).cell? ⟨w.heap.size, 0, none⟩ = some (.slice A a.length c) := by
      rw [cell_of_row _ w.heap.size 0 _ _ _ (heap_setCell_same wb w.heap.size 0 _ _ _ hr)]
      simp
    clear hr
    go_wp2
    refine bodyPost_ret (v := .agg #[.slice A a.length c]) (by simp [results, Tryz.results45, go_sem, *]) rfl ?_
    refine ⟨⟨A, c⟩, a, r1, rfl, ?_, Htb.out.setCell (by show g < w.heap.size; exact hlt) _, only_setCell Hgb.out (.inr (Nat.le_refl _)) _, Hok.out⟩
    exact own_other (own_rebase Hownb.out (by omega)) (only_setCell (g := w.heap.size) (World.grownBy.refl _ _) (.inl rfl) _) (fun k hk e => by injection e with e; have := Hlow.out k hk; omega)
end Go.Proofs.YtfmkmhhghmdakaaGreatDoor
namespace Go.Proofs.YtfmkmhhghmdakaaGreatDoor
open Go.RowKit
set_option linter.unusedVariables false
set_option linter.unusedSimpArgs false

theorem howR2 : howR 2 = andB := by funext x y; rfl
theorem howR3 : howR 3 = notB := by funext x y; rfl

end Go.Proofs.YtfmkmhhghmdakaaGreatDoor
namespace Go.Proofs.YtfmkmhhghmdakaaGreatDoor
open Go.RowKit
set_option linter.unusedVariables false
set_option linter.unusedSimpArgs false

end Go.Proofs.YtfmkmhhghmdakaaGreatDoor
