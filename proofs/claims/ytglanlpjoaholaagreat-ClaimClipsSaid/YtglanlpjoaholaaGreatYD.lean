/- Plain: what is claimed under a scheme. -/
import Derived.Test.YtglanlpjoaholaaGreatY4
namespace Go.Proofs.YtglanlpjoaholaaGreat
set_option linter.unusedVariables false
set_option linter.unusedSimpArgs false

theorem Reg.can {s : Int} {m : Nat} {l : List R4} (h : Reg s m l) : Canon (inL l) l := by
  have := canonP_canon l h.ins.pos
  rwa [h.canon] at this
theorem LnOk.row {R : List (List R4)} {nc : Nat} {x : Ln} (hR : PcOk R) (h : LnOk R nc x) (u v : Int) (hu : inL x.rg u v = true) : 0 ≤ u ∧ u < 30 ∧ 0 ≤ v ∧ v < 9 := by
  obtain ⟨p, hp, -, hin⟩ := h.pc
  have h1 := (hR.at' p hp).in u v (hin u v hu)
  have := hR.m
  omega
theorem LsOk.valid {R : List (List R4)} {nc k : Nat} {L : List Ln} (h : LsOk R nc k L) : validL L = true :=
  List.all_eq_true.2 fun x hx => (h.ok x hx).reg.valid (by omega) (by omega)
theorem rectsP_in (p : Ln → Bool) (x y : Int) : ∀ L : List Ln, inL (rectsP p L) x y = L.any fun z => p z && inL z.rg x y
  | [] => by simp [rectsP, inL]
  | z :: L => by
    have ih := rectsP_in p x y L
    cases hz : p z with
    | true =>
      have e : rectsP p (z :: L) = z.rg ++ rectsP p L := by simp [rectsP, hz]
      rw [e, List.any_cons, hz, Bool.true_and, ← ih]
      simp [inL, List.any_append]
    | false =>
      have e : rectsP p (z :: L) = rectsP p L := by simp [rectsP, hz]
      rw [e, List.any_cons, hz, Bool.false_and, Bool.false_or, ih]
theorem rectsP_len (p : Ln → Bool) (m : Nat) : ∀ L : List Ln, (∀ x ∈ L, x.rg.length ≤ m) → (rectsP p L).length ≤ L.length * m
  | [], _ => by simp [rectsP]
  | z :: L, h => by
    have ih := rectsP_len p m L fun x hx => h x (by simp [hx])
    have hz := h z (by simp)
    cases hpz : p z with
    | true =>
      have e : rectsP p (z :: L) = z.rg ++ rectsP p L := by simp [rectsP, hpz]
      rw [e, List.length_append, List.length_cons, Nat.succ_mul]
      omega
    | false =>
      have e : rectsP p (z :: L) = rectsP p L := by simp [rectsP, hpz]
      rw [e, List.length_cons, Nat.succ_mul]
      omega
theorem cut_anyL {X : List Int} {p : Ln → Bool} {y : Int} : ∀ (L : List Ln), (∀ x ∈ L, Cut X fun u => inL x.rg u y) → Cut X fun u => L.any fun z => p z && inL z.rg u y
  | [], _ => cut_none _
  | z :: L, h => by
    have e : (fun u => (z :: L).any fun z => p z && inL z.rg u y) = fun u => (p z && inL z.rg u y) || L.any fun z => p z && inL z.rg u y := by funext u; simp
    rw [e]
    refine Cut.how (· || ·) ?_ (cut_anyL L fun k hk => h k (by simp [hk]))
    cases hp : p z with
    | true => simpa using h z (by simp)
    | false => simpa using cut_none X
/-- The canonical form of what is chosen. -/
theorem chosen_reg {R : List (List R4)} {nc k : Nat} {L : List Ln} (hR : PcOk R) (h : LsOk R nc k L) (hk : k ≤ 4) (p : Ln → Bool) :
    (rectsP p L).length ≤ 480 ∧ Reg 30 99 (canonP (rectsP p L)) ∧ ∀ x y, inL (canonP (rectsP p L)) x y = L.any fun z => p z && inL z.rg x y := by
  have h1 := rectsP_len p 120 L fun x hx => (h.ok x hx).reg.len
  have hl := h.len
  have hpos := rectsP_pos h.valid p
  have hc := canonP_canon _ hpos
  have hP : ∀ x y, inL (rectsP p L) x y = true → 0 ≤ x ∧ x < 30 ∧ 0 ≤ y ∧ y < 9 := fun x y hxy => by
    rw [rectsP_in, List.any_eq_true] at hxy
    obtain ⟨z, hz, hzz⟩ := hxy
    rw [Bool.and_eq_true] at hzz
    exact (h.ok z hz).row hR x y hzz.2
  obtain ⟨X, x1, x2, -⟩ := h.cut
  have hb := hc.bd 0 30 0 30 (fun x y hxy => by have := hP x y hxy; omega)
  refine ⟨Nat.le_trans h1 (Nat.mul_le_mul_right 120 (by omega : L.length ≤ 4)), ⟨hb, hc.own fun q hq => (hb q hq).2.1, ?_⟩, fun x y => by rw [hc.mem, rectsP_in]⟩
  have h2 := canon_len hc (X := X) (fun y => by
    have e : (fun x => inL (rectsP p L) x y) = fun x => L.any fun z => p z && inL z.rg x y := by funext x; rw [rectsP_in]
    rw [e]
    exact cut_anyL L fun x hx => x2 x hx y) 9 (fun x y hxy => by have := hP x y hxy; omega)
  have h3 : X.length / 2 ≤ 11 := by omega
  have := Nat.mul_le_mul_left 9 h3
  omega
theorem claimed_eq {R : List (List R4)} {nc k : Nat} {L : List Ln} (hR : PcOk R) (h : LsOk R nc k L) (hk : k ≤ 4) (s : Int) (hs : 0 ≤ s ∧ s ≤ 15) : claimedP L s = (canonP (rectsP (bitP s) L), 0) := by
  obtain ⟨-, h2, -⟩ := chosen_reg hR h hk (bitP s)
  have hl := h.len
  have := h2.len
  unfold claimedP
  rw [if_neg (by omega), if_neg (by omega), if_pos h.valid]
  unfold limP
  rw [if_neg (by omega)]
theorem within_of {s : Int} {a b : List R4} (ha : InS s a) (hb : InS s b) (hva : validP a = true) (hvb : validP b = true) (h : ∀ x y, inL a x y = true → inL b x y = true) : withinP a b = true := by
  have h1 : chooseP notB a b = [] := (choose_nil rfl ha hb).2 fun x y => by
    cases h2 : inL a x y with
    | false => rfl
    | true => rw [h x y h2]; rfl
  unfold withinP
  rw [hva, hvb, h1]
  rfl
theorem meets_not {s : Int} {a b : List R4} (ha : InS s a) (hb : InS s b) (h : ∀ x y, inL a x y = true → inL b x y = false) : meetsP a b = false := by
  cases hm : (a.any fun p => b.any fun q => overP p q) with
  | false => unfold meetsP; rw [hm, Bool.and_false]
  | true =>
    obtain ⟨x, y, hxy⟩ := (over_some ha hb).1 hm
    rw [Bool.and_eq_true] at hxy
    have := h x y hxy.1
    rw [hxy.2] at this; cases this
/-- The areas of the lines that are chosen. -/
def sumA (p : Ln → Bool) (L : List Ln) : Int := ((L.filter p).map fun x => areaP x.rg).sum
theorem sumA_snoc (p : Ln → Bool) (L : List Ln) (x : Ln) : sumA p (L ++ [x]) = if p x then sumA p L + areaP x.rg else sumA p L := by
  unfold sumA
  rw [List.filter_append, List.map_append, List.sum_append]
  cases h : p x <;> simp [h]
/-- Squares within a great square, counted. -/
def cnt (P : Int → Int → Bool) : Int := sumI (fun y => sumI (fun x => ind (P x y)) 0 30) 0 30
theorem cnt_congr {P Q : Int → Int → Bool} (h : ∀ x y, P x y = Q x y) : cnt P = cnt Q := by
  have e : P = Q := funext fun x => funext fun y => h x y
  rw [e]
theorem cnt_none : cnt (fun _ _ => false) = 0 := by decide
theorem cnt_or {P Q : Int → Int → Bool} (h : ∀ x y, P x y = true → Q x y = false) : cnt (fun x y => P x y || Q x y) = cnt P + cnt Q := by
  unfold cnt
  rw [← sumI_plus]
  refine sumI_congr _ _ _ _ fun y _ _ => ?_
  rw [← sumI_plus]
  refine sumI_congr _ _ _ _ fun x _ _ => ?_
  show ind (P x y || Q x y) = ind (P x y) + ind (Q x y)
  cases hp : P x y with
  | true => rw [h x y hp]; rfl
  | false =>
    cases Q x y <;> rfl
theorem Reg.cnt {m : Nat} {l : List R4} (h : Reg 30 m l) (hm : m ≤ 120) : areaP l = cnt (inL l) := by
  have h1 := canon_size h.can 30 (fun x y hxy => by have := h.ins.in x y hxy; omega)
  have h2 := h.valid (by omega) hm
  unfold areaP
  rw [h2]
  exact h1.symm
theorem cnt_bd (P : Int → Int → Bool) : 0 ≤ cnt P ∧ cnt P ≤ 900 := by
  have := sumI_bd (fun y => sumI (fun x => ind (P x y)) 0 30) ((30 : Nat) * 1) (by omega) (fun y => sumI_bd (fun x => ind (P x y)) 1 (by omega) (fun x => by unfold ind; split <;> omega) 30 0) 30 0
  unfold cnt
  omega
theorem sum_cnt {R : List (List R4)} {nc : Nat} (p : Ln → Bool) : ∀ (L : List Ln), (∀ x ∈ L, LnOk R nc x) → (L.Pairwise fun a b => ∀ u v, inL a.rg u v = true → inL b.rg u v = false) → sumA p L = cnt fun x y => L.any fun z => p z && inL z.rg x y
  | [], _, _ => by
    have : cnt (fun x y => ([] : List Ln).any fun z => p z && inL z.rg x y) = 0 := cnt_none
    rw [this]
    rfl
  | z :: L, h, hd => by
    obtain ⟨h1, h2⟩ := List.pairwise_cons.1 hd
    have ih := sum_cnt p L (fun x hx => h x (by simp [hx])) h2
    cases hz : p z with
    | true =>
      have e : sumA p (z :: L) = areaP z.rg + sumA p L := by simp [sumA, hz]
      rw [e, ih, (h z (by simp)).reg.cnt (by omega), ← cnt_or (fun x y hxy => by
        rw [List.any_eq_false]
        intro w hw
        rw [h1 w hw x y hxy]
        simp)]
      exact cnt_congr fun x y => by simp [hz]
    | false =>
      have e : sumA p (z :: L) = sumA p L := by simp [sumA, hz]
      rw [e, ih]
      exact cnt_congr fun x y => by simp [hz]
/-- The law. -/
theorem schemes_law {R : List (List R4)} {nc k : Nat} {L : List Ln} (hR : PcOk R) (h : LsOk R nc k L) (hk : k ≤ 4) (p : Ln → Bool) :
    sumA p L = areaP (canonP (rectsP p L)) ∧ (∀ x ∈ L, p x = true → withinP x.rg (canonP (rectsP p L)) = true) ∧ (∀ x ∈ L, p x = false → meetsP x.rg (canonP (rectsP p L)) = false) := by
  obtain ⟨-, h2, h3⟩ := chosen_reg hR h hk p
  have hv : validP (canonP (rectsP p L)) = true := h2.valid (by omega) (by omega)
  refine ⟨?_, fun x hx hp => ?_, fun x hx hp => ?_⟩
  · rw [h2.cnt (by omega), sum_cnt p L h.ok h.dis]
    exact cnt_congr fun x y => (h3 x y).symm
  · refine within_of (h.ok x hx).reg.ins h2.ins ((h.ok x hx).reg.valid (by omega) (by omega)) hv fun u v huv => ?_
    rw [h3, List.any_eq_true]
    exact ⟨x, hx, by rw [hp, huv]; rfl⟩
  · refine meets_not (h.ok x hx).reg.ins h2.ins fun u v huv => ?_
    rw [h3, List.any_eq_false]
    intro z hz hzz
    rw [Bool.and_eq_true] at hzz
    rcases List.mem_iff_getElem.1 hx with ⟨i, hi, rfl⟩
    rcases List.mem_iff_getElem.1 hz with ⟨j, hj, rfl⟩
    have hd := List.pairwise_iff_getElem.1 h.dis
    rcases Nat.lt_trichotomy i j with h1 | h1 | h1
    · have := hd i j hi hj h1 u v huv
      rw [hzz.2] at this; cases this
    · subst h1
      rw [hp] at hzz; cases hzz.1
    · have := hd j i hj hi h1 u v hzz.2
      rw [huv] at this; cases this
theorem sumA_bd {R : List (List R4)} {nc : Nat} (p : Ln → Bool) (L : List Ln) (h : ∀ x ∈ L, LnOk R nc x) (hd : L.Pairwise fun a b => ∀ u v, inL a.rg u v = true → inL b.rg u v = false) (t : Nat) : 0 ≤ sumA p (L.take t) ∧ sumA p (L.take t) ≤ 900 := by
  rw [sum_cnt p (L.take t) (fun x hx => h x (List.mem_of_mem_take hx)) (hd.sublist (List.take_sublist _ _))]
  exact cnt_bd _
end Go.Proofs.YtglanlpjoaholaaGreat
