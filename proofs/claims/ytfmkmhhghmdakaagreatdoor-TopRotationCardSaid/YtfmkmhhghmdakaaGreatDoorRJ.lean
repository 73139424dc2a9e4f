import Derived.Test.YtfmkmhhghmdakaaGreatDoorRF
import Derived.Test.YtfmkmhhghmdakaaGreatDoorRG
namespace Go.Proofs.YtfmkmhhghmdakaaGreatDoor
set_option maxHeartbeats 64000000
set_option maxRecDepth 100000
set_option linter.unusedVariables false
set_option linter.unusedSimpArgs false
def sumL {α : Type} (g : α → Int) (l : List α) : Int := (l.map g).sum
theorem sumL_nil {α : Type} (g : α → Int) : sumL g [] = 0 := rfl
theorem sumL_cons {α : Type} (g : α → Int) (a : α) (l : List α) : sumL g (a :: l) = g a + sumL g l := by simp [sumL]
theorem sumL_app {α : Type} (g : α → Int) (l m : List α) : sumL g (l ++ m) = sumL g l + sumL g m := by simp [sumL]
theorem sumL_map {α β : Type} (g : β → Int) (f : α → β) (l : List α) : sumL g (l.map f) = sumL (fun a => g (f a)) l := by
  induction l with
  | nil => rfl
  | cons a t ih => rw [List.map_cons, sumL_cons, sumL_cons, ih]
theorem sumL_flat {α β : Type} (g : β → Int) (f : α → List β) (l : List α) : sumL g (l.flatMap f) = sumL (fun a => sumL g (f a)) l := by
  induction l with
  | nil => rfl
  | cons a t ih => rw [List.flatMap_cons, sumL_app, sumL_cons, ih]
theorem sumL_congr {α : Type} {g h : α → Int} {l : List α} (e : ∀ a ∈ l, g a = h a) : sumL g l = sumL h l := by
  induction l with
  | nil => rfl
  | cons a t ih => rw [sumL_cons, sumL_cons, e a (by simp), ih fun b hb => e b (by simp [hb])]
theorem sumL_zero {α : Type} (l : List α) : sumL (fun _ => 0) l = 0 := by
  induction l with
  | nil => rfl
  | cons a t ih => rw [sumL_cons, ih]; rfl
theorem Steady.tail {V : Type} {f : Int → V} {x : Int} {r : List Int} (h : Steady f (x :: r)) (hp : (x :: r).Pairwise (· < ·)) : Steady f r := fun a z ha haz hk => h a z (by simp [ha]) haz fun k hk' => by
  rcases List.mem_cons.1 hk' with rfl | hk'
  · exact .inl (Int.le_of_lt ((List.pairwise_cons.1 hp).1 a ha))
  · exact hk k hk'
structure Grid (P : Int → Int → Bool) (n : Nat) : Prop where
  bd : ∀ x y, P x y = true → 0 ≤ x ∧ x < n ∧ 0 ≤ y ∧ y < n
end Go.Proofs.YtfmkmhhghmdakaaGreatDoor
namespace Go.Proofs.YtfmkmhhghmdakaaGreatDoor
set_option maxHeartbeats 64000000
set_option maxRecDepth 100000
set_option linter.unusedVariables false
set_option linter.unusedSimpArgs false
def rr (v : List (Sg Unit)) : List R4 := v.map fun s => ⟨s.1, 0, s.2.1, 1⟩
def levelP (below above : List (Sg Unit)) (y : Int) : List R4 :=
  ((chooseP notB (rr above) (rr below)).map fun r => ⟨r.l, y, r.r, y⟩) ++ ((chooseP notB (rr below) (rr above)).map fun r => ⟨r.r, y, r.l, y⟩)
def wallsP (v : List (Sg Unit)) (y y' : Int) : List R4 := v.flatMap fun s => [⟨s.1, y', s.1, y⟩, ⟨s.2.1, y, s.2.1, y'⟩]
def edgesC (l : List R4) : List Int → List R4
  | y :: y' :: r => levelP (rowP l (y - 1)) (rowP l y) y ++ wallsP (rowP l y) y y' ++ edgesC l (y' :: r)
  | [y] => levelP (rowP l (y - 1)) (rowP l y) y
  | [] => []
def edgesP (l : List R4) : List R4 := edgesC l (cutsP l)
theorem rr_in (v : List (Sg Unit)) (x y : Int) : inL (rr v) x y = (inR v x && decide (0 ≤ y) && decide (y < 1)) := by
  unfold inL inR rr
  induction v with
  | nil => rfl
  | cons s t ih =>
    rw [List.map_cons, List.any_cons, ih, List.any_cons]
    simp only [R4.has, inS]
    cases decide (s.1 ≤ x) <;> cases decide (x < s.2.1) <;> cases decide (0 ≤ y) <;> cases decide (y < 1) <;> simp
theorem rr_pos {v : List (Sg Unit)} (h : ∀ s ∈ v, s.1 < s.2.1) : ∀ q ∈ rr v, q.l < q.r := by
  intro q hq
  obtain ⟨s, hs, rfl⟩ := List.mem_map.1 hq
  exact h s hs
theorem inL_grid {l : List R4} {n : Nat} (h : InS n l) : Grid (inL l) n := ⟨fun x y hx => by
  obtain ⟨q, hq, h1⟩ := List.any_eq_true.1 hx
  simp only [R4.has, Bool.and_eq_true, decide_eq_true_eq] at h1
  have := h q hq
  omega⟩
theorem inL_same_y {l : List R4} {ys : List Int} (h : ∀ q ∈ l, q.b ∈ ys ∧ q.t ∈ ys) (y : Int) (hy : y ∉ ys) (x : Int) : inL l x y = inL l x (y - 1) :=
  any_congr' fun q hq => by
    obtain ⟨h1, h2⟩ := h q hq
    have e1 : q.b ≠ y := fun e => hy (e ▸ h1)
    have e2 : q.t ≠ y := fun e => hy (e ▸ h2)
    unfold R4.has
    rw [show decide (q.b ≤ y) = decide (q.b ≤ y - 1) from decide_eq_decide.2 (by omega), show decide (y < q.t) = decide (y - 1 < q.t) from decide_eq_decide.2 (by omega)]
end Go.Proofs.YtfmkmhhghmdakaaGreatDoor
namespace Go.Proofs.YtfmkmhhghmdakaaGreatDoor
open Go.RowKit
set_option linter.unusedVariables false
set_option linter.unusedSimpArgs false
set_option maxHeartbeats 64000000
set_option maxRecDepth 100000
theorem Tryz.infoEdge : (Tryz.prog.info? 191).map (fun i => (i.zero, i.size, i.bytes)) = some (some (.agg #[.int .i64 0, .int .i64 0, .int .i64 0, .int .i64 0]), 4, 32) := by kernel_rfl
theorem rr_take_succ (v : List (Sg Unit)) (k : Nat) (h : k < v.length) : rr (v.take (k + 1)) = rr (v.take k) ++ [⟨v[k].1, 0, v[k].2.1, 1⟩] := by
  unfold rr
  rw [List.take_succ_eq_append_getElem h, List.map_append]
  rfl
theorem rr_len (v : List (Sg Unit)) : (rr v).length = v.length := by simp [rr]
theorem SlR.grown {w w' : World} {A : Option Addr} {n c : Nat} {l : List R4} {row : Option Nat} (h : SlR w A n c l) (hg : w.grownBy w' row) (hne : ∀ b off, A = some ⟨b, off, none⟩ → row ≠ some b) : SlR w' A n c l := by
  refine ⟨h.len, h.cap, h.top, ?_⟩
  rcases h.lies with h0 | ⟨b, off, hA, hb, hc⟩
  · exact .inl h0
  · refine .inr ⟨b, off, hA, Nat.lt_of_lt_of_le hb hg.size, fun j u hu => ?_⟩
    rw [← hc j u hu]
    exact World.cell?_of_block (a := ⟨b, off + j, none⟩) (hg.block b hb fun e => hne b off hA e.symm)
theorem SlR.of_own2 {w : World} {base : Nat} {v : Value} {l : List R4} (h : w.ownsRow base 68 4 v l.length (rCells l)) : ∃ A c, v = .slice A l.length c ∧ SlR w A l.length c l ∧ ∀ b off, A = some ⟨b, off, none⟩ → base ≤ b ∧ b < w.heap.size := by
  obtain ⟨A, c, rfl, hS⟩ := SlR.of_own h
  refine ⟨A, c, rfl, hS, fun b off hA => ?_⟩
  subst hA
  exact h.lt b rfl
def RPost (w : World) (l : List R4) (e : Ending) (w' : World) : Prop := ∃ v, e = .returned v ∧ w'.ownsRow w.heap.size 68 4 v l.length (rCells l) ∧ Below w.heap.size w w'
theorem rrow_any (A : Option Addr) (c : Nat) (v : List (Sg Unit)) (w : World) (hA : SlS w (.slice A v.length c) v) (hn : v.length ≤ 100000) :
    Calls Tryz.prog 291 #[.slice A v.length c] w (RPost w (rr v)) := by
  obtain ⟨i0, hi, hz0, hz1, hz2⟩ := info_parts Tryz.infoRect
  have hnm : v.length ≤ maxLen := by unfold maxLen; omega
  have HL : Hid (Lies w A v.length (sCells v)) := Lib.hid (by
    obtain ⟨A', c', h1, h2, h3, h4⟩ := hA.sl
    injection h1 with h1 _ _
    subst h1
    exact h4)
  clear hA
  go_enter Tryz.func291, Tryz.ntmps291
  go_upto_region 3 with fail
  go_loopw [3, 5, 8] (fun o _ i wr => ∃ j : Nat, j ≤ v.length ∧ i = .int .i64 (j : Int) ∧ wr.ownsRow w.heap.size 68 4 o (rr (v.take j)).length (rCells (rr (v.take j))) ∧ Below w.heap.size w wr) (fun _ _ i _ => v.length - (intOf i).toNat)
  case atStart => exact ⟨0, Nat.zero_le _, rfl, World.ownsRow_nil _ _ _ _, Below.refl _ _⟩
  case round =>
    obtain ⟨j, hj, rfl, hown, hbo⟩ := hrel
    have hso := hbo.size
    have Hown := Lib.hid hown
    have Hbo := Lib.hid hbo
    by_cases hjn : j < v.length
    · obtain ⟨b2, o2, rfl, hb2, hcs2⟩ := (HL.out.below hbo).resolve_left (by omega)
      obtain ⟨j1, j2⟩ := sCells_at v j hjn
      have s0 := hcs2 _ _ j1
      have s1 : wr.cell? ⟨b2, o2 + j * 2 + 1, none⟩ = some (.int .i64 v[j].2.1) := hcs2 _ _ j2
      have Hstep := Lib.hid (rr_take_succ v j hjn)
      have hlen2 : (rr (v.take j)).length ≤ 100000 := by rw [rr_len, List.length_take]; omega
      have hkn' : (j : Int) < (v.length : Int) := by omega
      generalize v[j] = s at *
      generalize rr (v.take j) = bk at *
      clear hown hbo hcs2 j1 j2
      go_wp2_with (first
        | (at_builtin
           refine wpList_append_any _ rfl (.tmp 12) (.tmp 18) _ rfl w.heap.size 68 i0 _ 4 32 Tryz.underlying31 hi hz0 hz1 hz2 rfl (by omega) _ bk.length (rCells bk) rfl
             ((Hown.out.alloc _).alloc _) _ _ 1 1 [.int .i64 s.1, .int .i64 0, .int .i64 s.2.1, .int .i64 1] rfl ⟨rfl, fun _ => ⟨_, rfl, Nat.lt_succ_self _, fun j u hu => (by exact World.news_of_block (heap_alloc2_new wr _ (.cells #[.int .i64 s.1, .int .i64 0, .int .i64 s.2.1, .int .i64 1] 68)) j u hu)⟩⟩ (by simp [Value.oneCell']) (by simp only [maxLen]; omega) (by omega) (by simp; omega) ?_
           intro v5 w5 hown5 hg5 hat5)
        | fail)
      go_roundw
      case rel =>
        have hsz5 := hg5.size
        simp at hsz5
        refine ⟨j + 1, by omega, by go_num, ?_, ?_⟩
        · rw [Hstep.out, List.length_append, rCells_snoc]
          exact hown5
        · exact Below.grown (((Hbo.out.alloc hso _).alloc (by simp; omega) _)) hg5 (by simp; omega) (own_base Hown.out)
      case measure => simp [intOf]; omega
    · have Hown3 : Hid (wr.ownsRow w.heap.size 68 4 u3 (rr v).length (rCells (rr v))) := Lib.hid (by have := Hown.out; rw [List.take_of_length_le (by omega)] at this; exact this)
      have hjn' : ¬ (j : Int) < (v.length : Int) := by omega
      clear hbo hown
      go_wp2
      go_ret
      exact ⟨_, rfl, Hown3.out, Hbo.out⟩
theorem onlyB_fn (w : World) : BoolFn 292 #[] notB w := by
  intro W x y _
  show Calls Tryz.prog 292 #[.bool x, .bool y] W _
  cases x <;> cases y
  all_goals go_enter Tryz.func292, Tryz.ntmps292
  all_goals go_wp2
  all_goals go_ret
  all_goals exact ⟨rfl, gBel⟩
theorem choose_len2 (how : Bool → Bool → Bool) (a b : List R4) : (chooseP how a b).length ≤ (2 * (a.length + b.length)) * (2 * (a.length + b.length)) := by
  have h1 := flat_len (2 * (a.length + b.length)) (foldC (fun y => some (mergeP how (rowP a y) (rowP b y))) (cutsP (a ++ b)) []) (foldC_val (fun v : List (Sg Unit) => v.length ≤ 2 * (a.length + b.length)) _ (fun x v hv => by
    injection hv with hv; subst hv
    have h1 := merge_len2 how (rowP a x) (rowP b x)
    have h2 := rowP_len a x
    have h3 := rowP_len b x
    omega) _ _ (by simp))
  have h2 := foldC_len (fun y => some (mergeP how (rowP a y) (rowP b y))) (cutsP (a ++ b)) []
  have h3 : (cutsP (a ++ b)).length ≤ 2 * (a.length + b.length) := by
    have h1 := (asc_all (yEdges (a ++ b))).2.2
    rw [yEdges_len, List.length_append] at h1
    exact h1
  refine Nat.le_trans h1 (Nat.mul_le_mul_right _ ?_)
  simp at h2
  omega
def lowE (y : Int) (l : List R4) : List R4 := l.map fun r => ⟨r.l, y, r.r, y⟩
def highE (y : Int) (l : List R4) : List R4 := l.map fun r => ⟨r.r, y, r.l, y⟩
theorem levelP_eq (v u : List (Sg Unit)) (y : Int) : levelP v u y = lowE y (chooseP notB (rr u) (rr v)) ++ highE y (chooseP notB (rr v) (rr u)) := rfl
theorem lowE_take (y : Int) (l : List R4) (k : Nat) (h : k < l.length) : lowE y (l.take (k + 1)) = lowE y (l.take k) ++ [⟨l[k].l, y, l[k].r, y⟩] := by
  unfold lowE; rw [List.take_succ_eq_append_getElem h, List.map_append]; rfl
theorem highE_take (y : Int) (l : List R4) (k : Nat) (h : k < l.length) : highE y (l.take (k + 1)) = highE y (l.take k) ++ [⟨l[k].r, y, l[k].l, y⟩] := by
  unfold highE; rw [List.take_succ_eq_append_getElem h, List.map_append]; rfl
theorem lowE_len (y : Int) (l : List R4) : (lowE y l).length = l.length := by simp [lowE]
theorem highE_len (y : Int) (l : List R4) : (highE y l).length = l.length := by simp [highE]
def EPost (w : World) (l : List R4) (e : Ending) (w' : World) : Prop := ∃ v, e = .returned v ∧ w'.ownsRow w.heap.size 191 4 v l.length (rCells l) ∧ Below w.heap.size w w'
theorem level_any (A B : Option Addr) (c d : Nat) (v u : List (Sg Unit)) (y : Int) (w : World) (hA : SlS w (.slice A v.length c) v) (hB : SlS w (.slice B u.length d) u) (hv : v.length ≤ 120) (hu : u.length ≤ 120) (pv : ∀ s ∈ v, s.1 < s.2.1) (pu : ∀ s ∈ u, s.1 < s.2.1) :
    Calls Tryz.prog 217 #[.slice A v.length c, .slice B u.length d, .int .i64 y] w (EPost w (levelP v u y)) := by
  obtain ⟨i0, hi, hz0, hz1, hz2⟩ := info_parts Tryz.infoEdge
  have HA := Lib.hid (fun W (hW : Below w.heap.size w W) => rrow_any A c v W (hA.below hW) (by omega))
  have HB := Lib.hid (fun W (hW : Below w.heap.size w W) => rrow_any B d u W (hB.below hW) (by omega))
  have eg1 : ∀ args w, (callFunc 291 args).run Tryz.prog w = .ok (.enter 291 args) w := enters_of Tryz.func291 (by kernel_rfl) rfl
  have eg2 : ∀ args w, (callFunc 292 args).run Tryz.prog w = .ok (.enter 292 args) w := enters_of Tryz.func292 (by kernel_rfl) rfl
  have Eg2 := Lib.hid eg2
  have Pv := Lib.hid (rr_pos pv)
  have Pu := Lib.hid (rr_pos pu)
  have Hlv := Lib.hid (rr_len v)
  have Hlu := Lib.hid (rr_len u)
  have hk1 : (chooseP notB (rr u) (rr v)).length ≤ 230400 := by
    have h1 := choose_len2 notB (rr u) (rr v)
    rw [rr_len, rr_len] at h1
    have h2 : (2 * (u.length + v.length)) * (2 * (u.length + v.length)) ≤ 480 * 480 := Nat.mul_le_mul (by omega) (by omega)
    omega
  have hk2 : (chooseP notB (rr v) (rr u)).length ≤ 230400 := by
    have h1 := choose_len2 notB (rr v) (rr u)
    rw [rr_len, rr_len] at h1
    have h2 : (2 * (v.length + u.length)) * (2 * (v.length + u.length)) ≤ 480 * 480 := Nat.mul_le_mul (by omega) (by omega)
    omega
  have Hres : Hid (levelP v u y = lowE y (chooseP notB (rr u) (rr v)) ++ highE y (chooseP notB (rr v) (rr u))) := Lib.hid (levelP_eq v u y)
  have HC1 := Lib.hid (fun (A B : Option Addr) (c d : Nat) (W : World) (hA : SlR W A (rr u).length c (rr u)) (hB : SlR W B (rr v).length d (rr v)) => choose_any A B (rr u).length c (rr v).length d 292 #[] notB (rr u) (rr v) W hA hB (by rw [Hlu.out]; omega) (by rw [Hlv.out]; omega) Pu.out Pv.out Eg2.out (onlyB_fn W))
  have HC2 := Lib.hid (fun (A B : Option Addr) (c d : Nat) (W : World) (hA : SlR W A (rr v).length c (rr v)) (hB : SlR W B (rr u).length d (rr u)) => choose_any A B (rr v).length c (rr u).length d 292 #[] notB (rr v) (rr u) W hA hB (by rw [Hlv.out]; omega) (by rw [Hlu.out]; omega) Pv.out Pu.out Eg2.out (onlyB_fn W))
  generalize chooseP notB (rr u) (rr v) = ch1 at *
  generalize chooseP notB (rr v) (rr u) = ch2 at *
  generalize levelP v u y = res at *
  generalize rr u = ru at *
  generalize rr v = rv at *
  clear hA hB pv pu eg2
  go_enter Tryz.func217, Tryz.ntmps217
  go_upto_region 5 with (first
    | (go_at_fn 291
       have hguard := Hb1.out
       refine (HA.out _ Hb1.out).mono ?_
       rintro e w2 ⟨v2, rfl, hown2, hb2⟩
       obtain ⟨A2, k2, rfl, hS2⟩ := SlR.of_own hown2
       have HS2 := Lib.hid hS2
       have HS1b := Lib.hid (HS1.out.below hb2)
       have Hb2 : Hid (Below w.heap.size w w2) := Lib.hid (Hb1.out.trans (hb2.mono Hb1.out.size))
       clear hown2 hS2 hb2)
    | (go_at_fn 291
       refine (HB.out _ (Below.refl _ _)).mono ?_
       rintro e w1 ⟨v1, rfl, hown1, hb1⟩
       obtain ⟨A1, k1, rfl, hS1⟩ := SlR.of_own hown1
       have HS1 := Lib.hid hS1
       have Hb1 := Lib.hid hb1
       clear hown1 hS1 hb1)
    | (go_at_call 54
       refine (HC1.out A1 A2 k1 k2 _ HS1b.out HS2.out).mono ?_
       rintro e w3 ⟨v3, rfl, hown3, hb3⟩
       obtain ⟨A3, k3, rfl, hS3⟩ := SlR.of_own hown3
       have HS3 := Lib.hid hS3
       have Hb3 : Hid (Below w.heap.size w w3) := Lib.hid (Hb2.out.trans (hb3.mono Hb2.out.size))
       clear hown3 hS3 hb3)
    | fail)
  clear HS1 HS2 HS1b HC1 Hb1 Hb2
  have hs3 := Hb3.out.size
  go_loopw [9, 11, 23] (fun o _ i wr => ∃ j : Nat, j ≤ ch1.length ∧ i = .int .i64 (j : Int) ∧ wr.ownsRow w3.heap.size 191 4 o (lowE y (ch1.take j)).length (rCells (lowE y (ch1.take j))) ∧ Below w3.heap.size w3 wr) (fun _ _ i _ => ch1.length - (intOf i).toNat)
  case atStart => exact ⟨0, Nat.zero_le _, rfl, World.ownsRow_nil _ _ _ _, Below.refl _ _⟩
  case round =>
    obtain ⟨wo, rfl⟩ : ∃ wo : World, wo = wr := ⟨_, rfl⟩
    obtain ⟨j, hj, rfl, hown, hbr⟩ := hrel
    have hsr := hbr.size
    have Hown := Lib.hid hown
    have Hbr := Lib.hid hbr
    by_cases hjn : j < ch1.length
    · obtain ⟨b2, o2, rfl, hb2, c0, c1, c2, c3⟩ := (HS3.out.below hbr).at j hjn
      have Hstep := Lib.hid (lowE_take y ch1 j hjn)
      have hlen2 : (lowE y (ch1.take j)).length ≤ 230400 := by rw [lowE_len, List.length_take]; omega
      have hkn' : (j : Int) < (ch1.length : Int) := by omega
      generalize ch1[j] = q at *
      generalize lowE y (ch1.take j) = bk at *
      clear hown hbr
      go_wp2_with (first
        | (at_builtin
           refine wpList_append_any _ rfl (.tmp 27) (.tmp 37) _ rfl w3.heap.size 191 i0 _ 4 32 Tryz.underlying186 hi hz0 hz1 hz2 rfl (by omega) _ bk.length (rCells bk) rfl
             ((Hown.out.alloc _).alloc _) _ _ 1 1 [.int .i64 q.l, .int .i64 y, .int .i64 q.r, .int .i64 y] rfl ⟨rfl, fun _ => ⟨_, rfl, Nat.lt_succ_self _, fun j u hu => (by exact World.news_of_block (heap_alloc2_new wo _ (.cells #[.int .i64 q.l, .int .i64 y, .int .i64 q.r, .int .i64 y] 191)) j u hu)⟩⟩ (by simp [Value.oneCell']) (by simp only [maxLen]; omega) (by omega) (by simp; omega) ?_
           intro v5 w5 hown5 hg5 hat5)
        | fail)
      go_roundw
      case rel =>
        have hsz5 := hg5.size
        simp at hsz5
        refine ⟨j + 1, by omega, by go_num, ?_, ?_⟩
        · rw [Hstep.out, List.length_append, rCells_snoc]
          exact hown5
        · exact Below.grown (((Hbr.out.alloc hsr _).alloc (by simp; omega) _)) hg5 (by simp; omega) (own_base Hown.out)
      case measure => simp [intOf]; omega
    · obtain ⟨uo, rfl⟩ : ∃ uo, uo = u9 := ⟨_, rfl⟩
      have Hown3 : Hid (wo.ownsRow w3.heap.size 191 4 uo (lowE y ch1).length (rCells (lowE y ch1))) := Lib.hid (by have := Hown.out; rw [List.take_of_length_le (by omega)] at this; exact this)
      have hkn' : ¬ (j : Int) < (ch1.length : Int) := by omega
      have Hbw : Hid (Below w.heap.size w wo) := Lib.hid (Hb3.out.trans (hbr.mono hs3))
      have hl1 : (lowE y ch1).length ≤ 230400 := by rw [lowE_len]; omega
      clear hown hbr Hown Hbr HS3
      generalize lowE y ch1 = e1 at *
      have hHA := fun W (hW : Below wo.heap.size wo W) => HA.out W (Hbw.out.trans (hW.mono Hbw.out.size))
      have hHB := fun W (hW : Below wo.heap.size wo W) => HB.out W (Hbw.out.trans (hW.mono Hbw.out.size))
      have HA := Lib.hid hHA
      have HB := Lib.hid hHB
      clear hHA hHB
      go_upto_region 10 with (first
        | (go_at_fn 291
           have hguard := Hb1.out
           refine (HB.out _ Hb1.out).mono ?_
           rintro e w2 ⟨v2, rfl, hown2, hb2⟩
           obtain ⟨A2, k2, rfl, hS2⟩ := SlR.of_own hown2
           have HS2 := Lib.hid hS2
           have HS1b := Lib.hid (HS1.out.below hb2)
           have Hb2 : Hid (Below wo.heap.size wo w2) := Lib.hid (Hb1.out.trans (hb2.mono Hb1.out.size))
           clear hown2 hS2 hb2)
        | (go_at_fn 291
           refine (HA.out _ (Below.refl _ _)).mono ?_
           rintro e w1 ⟨v1, rfl, hown1, hb1⟩
           obtain ⟨A1, k1, rfl, hS1⟩ := SlR.of_own hown1
           have HS1 := Lib.hid hS1
           have Hb1 := Lib.hid hb1
           clear hown1 hS1 hb1)
        | (go_at_call 54
           refine (HC2.out A1 A2 k1 k2 _ HS1b.out HS2.out).mono ?_
           rintro e w4 ⟨v4, rfl, hown4, hb4⟩
           obtain ⟨A4, k4, rfl, hS4, hl4⟩ := SlR.of_own2 hown4
           have HS4 := Lib.hid hS4
           have Hl4 := Lib.hid hl4
           have Hb4 : Hid (Below wo.heap.size wo w4) := Lib.hid (Hb2.out.trans (hb4.mono Hb2.out.size))
           have Hs24 := Lib.hid Hb2.out.size
           clear hown4 hS4 hb4 hl4)
        | fail)
      clear HS1 HS2 HS1b HC2 Hb1 HA HB Eg2 eg1
      have Hown4 := Lib.hid (ownsRow_below Hown3.out Hb4.out)
      have Hlow := Lib.hid (fun k (hk : uo.ownBlock = some k) => (Hown3.out.lt k hk).2)
      have Hbw4 : Hid (Below w.heap.size w w4) := Lib.hid (Hbw.out.trans (Hb4.out.mono Hbw.out.size))
      have hsw4 := Hbw4.out.size
      have hs34 : w3.heap.size ≤ w4.heap.size := Nat.le_trans hsr Hb4.out.size
      have hs24 := Hs24.out
      have hsr4 := Hb4.out.size
      go_loopw [9, 13, 49] (fun o _ i wr' => ∃ j : Nat, j ≤ ch2.length ∧ i = .int .i64 (j : Int) ∧ wr'.ownsRow w3.heap.size 191 4 o (e1 ++ highE y (ch2.take j)).length (rCells (e1 ++ highE y (ch2.take j))) ∧ Below w.heap.size w wr' ∧ SlR wr' A4 ch2.length k4 ch2 ∧ w4.heap.size ≤ wr'.heap.size ∧ Hid (∀ k, o.ownBlock = some k → k < wo.heap.size ∨ w4.heap.size ≤ k)) (fun _ _ i _ => ch2.length - (intOf i).toNat)
      case atStart => exact ⟨0, Nat.zero_le _, rfl, by simpa [highE] using Hown4.out, Hbw4.out, HS4.out, Nat.le_refl _, Lib.hid (fun k hk => .inl (Hlow.out k hk))⟩
      case round =>
        obtain ⟨j2, hj2, rfl, hown, hbr, hS, hs4r, Hap⟩ := hrel
        have hsr2 := hbr.size
        have Hown := Lib.hid hown
        have Hbr := Lib.hid hbr
        have HS := Lib.hid hS
        by_cases hjn2 : j2 < ch2.length
        · obtain ⟨b2, o2, hA4, hb2, c0, c1, c2, c3⟩ := hS.at j2 hjn2
          subst hA4
          have Hstep := Lib.hid (highE_take y ch2 j2 hjn2)
          have hlen2 : (highE y (ch2.take j2)).length ≤ 230400 := by rw [highE_len, List.length_take]; omega
          have hlen3 : (e1 ++ highE y (ch2.take j2)).length ≤ 460800 := by rw [List.length_append]; omega
          have hkn2' : (j2 : Int) < (ch2.length : Int) := by omega
          have hb2' := Hl4.out b2 o2 rfl
          generalize ch2[j2] = q at *
          obtain ⟨bk, hbk⟩ : ∃ bk, e1 ++ highE y (ch2.take j2) = bk := ⟨_, rfl⟩
          rw [hbk] at Hown hlen3
          have Hbk := Lib.hid hbk
          clear hown hbr hS hbk
          go_wp2_with (first
            | (at_builtin
               refine wpList_append_any _ rfl (.tmp 53) (.tmp 63) _ rfl w3.heap.size 191 i0 _ 4 32 Tryz.underlying186 hi hz0 hz1 hz2 rfl (by omega) _ bk.length (rCells bk) rfl
                 ((Hown.out.alloc _).alloc _) _ _ 1 1 [.int .i64 q.r, .int .i64 y, .int .i64 q.l, .int .i64 y] rfl ⟨rfl, fun _ => ⟨_, rfl, Nat.lt_succ_self _, fun j u hu => (by exact World.news_of_block (heap_alloc2_new wr _ (.cells #[.int .i64 q.r, .int .i64 y, .int .i64 q.l, .int .i64 y] 191)) j u hu)⟩⟩ (by simp [Value.oneCell']) (by simp only [maxLen]; omega) (by omega) (by simp; omega) ?_
               intro v5 w5 hown5 hg5 hat5)
            | fail)
          go_roundw
          case rel =>
            have hsz5 := hg5.size
            simp at hsz5
            refine ⟨j2 + 1, by omega, by go_num, ?_, ?_, ?_, by omega, Lib.hid (fun k hk => ?_)⟩
            · rw [Hstep.out, ← List.append_assoc, Hbk.out, List.length_append, rCells_snoc]
              exact hown5
            · exact Below.grown (((Hbr.out.alloc hsr2 _).alloc (by simp; omega) _)) hg5 (by simp; omega) (fun k hk => Nat.le_trans hs3 (own_base Hown.out k hk))
            · exact ((HS.out.alloc _).alloc _).grown hg5 (fun b off e => by
                injection e with e
                injection e with e _ _
                subst e
                intro e2
                rcases Hap.out _ e2 with h | h
                · omega
                · omega)
            · rcases hat5 with h | h
              · rw [h] at hk; exact Hap.out k hk
              · rw [h] at hk
                simp at hk
                exact .inr (by omega)
          case measure => simp [intOf]; omega
        · have Hown5 : Hid (wr.ownsRow w3.heap.size 191 4 u9 res.length (rCells res)) := Lib.hid (by have := Hown.out; rw [List.take_of_length_le (by omega), ← Hres.out] at this; exact this)
          have hkn2' : ¬ (j2 : Int) < (ch2.length : Int) := by omega
          clear hown hbr hS
          go_wp2
          go_ret
          exact ⟨_, rfl, own_rebase Hown5.out hs3, Hbr.out⟩
end Go.Proofs.YtfmkmhhghmdakaaGreatDoor
