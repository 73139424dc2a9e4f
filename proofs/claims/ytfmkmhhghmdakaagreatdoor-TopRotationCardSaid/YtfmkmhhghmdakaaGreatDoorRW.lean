import Derived.Test.YtfmkmhhghmdakaaGreatDoorRK
namespace Go.Proofs.YtfmkmhhghmdakaaGreatDoor
set_option maxHeartbeats 64000000
set_option maxRecDepth 100000
open Go.RowKit Go.Shelf
set_option linter.unusedVariables false
set_option linter.unusedSimpArgs false
inductive Dr where
  | ri | up | le | dn
  deriving DecidableEq
def Dr.lft : Dr → Dr
  | .ri => .up
  | .up => .le
  | .le => .dn
  | .dn => .ri
def Dr.rgt : Dr → Dr
  | .ri => .dn
  | .dn => .le
  | .le => .up
  | .up => .ri
def mv : Dr → Int → Pt → Pt
  | .ri, k, p => (p.1 + k, p.2)
  | .up, k, p => (p.1, p.2 + k)
  | .le, k, p => (p.1 - k, p.2)
  | .dn, k, p => (p.1, p.2 - k)
def otB (nw ne sw se : Bool) : Dr → Bool
  | .ri => ne && !se
  | .up => nw && !ne
  | .le => sw && !nw
  | .dn => se && !sw
def arB (nw ne sw se : Bool) : Dr → Bool
  | .ri => nw && !sw
  | .up => sw && !se
  | .le => se && !ne
  | .dn => ne && !nw
def nxB (nw ne sw se : Bool) (d : Dr) : Dr := if otB nw ne sw se d.lft then d.lft else if otB nw ne sw se d then d else d.rgt
abbrev Sq := Int → Int → Bool
def bd (P : Sq) (p : Pt) (d : Dr) : Bool := otB (P (p.1 - 1) p.2) (P p.1 p.2) (P (p.1 - 1) (p.2 - 1)) (P p.1 (p.2 - 1)) d
def ar (P : Sq) (p : Pt) (d : Dr) : Bool := arB (P (p.1 - 1) p.2) (P p.1 p.2) (P (p.1 - 1) (p.2 - 1)) (P p.1 (p.2 - 1)) d
def nxd (P : Sq) (p : Pt) (d : Dr) : Dr := nxB (P (p.1 - 1) p.2) (P p.1 p.2) (P (p.1 - 1) (p.2 - 1)) (P p.1 (p.2 - 1)) d
theorem mv_mv (d : Dr) (j k : Int) (p : Pt) : mv d j (mv d k p) = mv d (k + j) p := by
  cases d <;> simp [mv] <;> omega
theorem mv_zero (d : Dr) (p : Pt) : mv d 0 p = p := by cases d <;> simp [mv]
theorem mv_inj {d : Dr} {j k : Int} {p : Pt} (h : mv d j p = mv d k p) : j = k := by
  cases d <;> simp [mv] at h <;> omega
theorem ar_bd (P : Sq) (p : Pt) (d : Dr) : ar P (mv d 1 p) d = bd P p d := by
  obtain ⟨x, y⟩ := p
  cases d <;> simp [ar, bd, arB, otB, mv, show x + 1 - 1 = x by omega, show y + 1 - 1 = y by omega]
theorem otB_cases : ∀ (d : Dr) (a b c e : Bool), arB a b c e d = true → otB a b c e (nxB a b c e d) = true := by intro d; cases d <;> decide
theorem nxB_inj : ∀ (d d' : Dr) (a b c e : Bool), arB a b c e d = true → arB a b c e d' = true → nxB a b c e d = nxB a b c e d' → d = d' := by intro d d'; cases d <;> cases d' <;> decide
theorem nxB_str : ∀ (d : Dr) (a b c e : Bool), arB a b c e d = true → otB a b c e d = true → nxB a b c e d = d := by intro d; cases d <;> decide
theorem nxB_side : ∀ (d d' : Dr) (a b c e : Bool), arB a b c e d = true → arB a b c e d' = true → otB a b c e d' = true → d = d' := by intro d d'; cases d <;> cases d' <;> decide
theorem nxB_turn : ∀ (d : Dr) (a b c e : Bool), arB a b c e d = true → nxB a b c e d = d ∨ nxB a b c e d = d.lft ∨ nxB a b c e d = d.rgt := by intro d; cases d <;> decide
theorem nxB_two : ∀ (d d' d'' : Dr) (a b c e : Bool), arB a b c e d = true → otB a b c e d' = true → otB a b c e d'' = true → d' ≠ d'' → nxB a b c e d = d.lft := by intro d d' d''; cases d <;> cases d' <;> cases d'' <;> decide
theorem otB_low : ∀ (a b c e : Bool), otB a b c e .ri = true → otB a b c e .up = true → False := by decide
theorem otB_three : ∀ (d d' d'' : Dr) (a b c e : Bool), otB a b c e d = true → otB a b c e d' = true → otB a b c e d'' = true → d = d' ∨ d = d'' ∨ d' = d'' := by intro d d' d''; cases d <;> cases d' <;> cases d'' <;> decide
def dirOf (e : R4) : Dr := if e.l < e.r then .ri else if e.r < e.l then .le else if e.b < e.t then .up else .dn
def lenE (e : R4) : Nat := (e.r - e.l).natAbs + (e.t - e.b).natAbs
def StE (e : R4) : Prop := (e.l = e.r ∧ e.b ≠ e.t) ∨ (e.b = e.t ∧ e.l ≠ e.r)
theorem StE.to {e : R4} (h : StE e) : toOf e = mv (dirOf e) (lenE e) (frOf e) ∧ 0 < lenE e := by
  obtain ⟨l, b, r, t⟩ := e
  unfold StE at h
  unfold dirOf lenE toOf frOf
  dsimp only at *
  by_cases h1 : l < r
  · simp only [h1, if_true, mv]
    rcases h with h | h
    · omega
    · refine ⟨?_, by omega⟩; simp; omega
  · by_cases h2 : r < l
    · simp only [h1, h2, if_true, if_false, mv]
      rcases h with h | h
      · omega
      · refine ⟨?_, by omega⟩; simp; omega
    · by_cases h3 : b < t
      · simp only [h1, h2, h3, if_true, if_false, mv]
        refine ⟨?_, by omega⟩; simp; omega
      · simp only [h1, h2, h3, if_true, if_false, mv]
        refine ⟨?_, by omega⟩; simp; omega
def Cov (e : R4) (p : Pt) (d : Dr) : Prop := d = dirOf e ∧ ∃ j : Nat, j < lenE e ∧ p = mv d j (frOf e)
structure ESet (P : Sq) (es : List R4) : Prop where
  st : ∀ e ∈ es, StE e
  on : ∀ e ∈ es, ∀ p d, Cov e p d → bd P p d = true
  cov : ∀ p d, bd P p d = true → ∃ e ∈ es, Cov e p d
  nod : es.Nodup
  once : ∀ e ∈ es, ∀ f ∈ es, ∀ p d, Cov e p d → Cov f p d → e = f
theorem cov_first {e : R4} (h : StE e) : Cov e (frOf e) (dirOf e) := ⟨rfl, 0, h.to.2, (mv_zero _ _).symm⟩
theorem cov_last {e : R4} (h : StE e) : Cov e (mv (dirOf e) (-1) (toOf e)) (dirOf e) := by
  obtain ⟨h1, h2⟩ := h.to
  refine ⟨rfl, lenE e - 1, by omega, ?_⟩
  rw [h1, mv_mv]
  congr 1
  omega
variable {P : Sq} {es : List R4}
theorem ESet.out (h : ESet P es) {e : R4} (he : e ∈ es) : bd P (frOf e) (dirOf e) = true := h.on e he _ _ (cov_first (h.st e he))
theorem ESet.arr (h : ESet P es) {e : R4} (he : e ∈ es) : ar P (toOf e) (dirOf e) = true := by
  have h1 := h.on e he _ _ (cov_last (h.st e he))
  rw [← ar_bd, mv_mv, show (-1 : Int) + 1 = 0 by decide, mv_zero] at h1
  exact h1
def Sx (P : Sq) (e f : R4) : Prop := toOf e = frOf f ∧ dirOf f = nxd P (toOf e) (dirOf e)
theorem ESet.eq_first (h : ESet P es) {e f : R4} (he : e ∈ es) (hf : f ∈ es) (h1 : frOf e = frOf f) (h2 : dirOf e = dirOf f) : e = f := by
  refine h.once e he f hf _ _ (cov_first (h.st e he)) ?_
  rw [h1, h2]
  exact cov_first (h.st f hf)
theorem ESet.eq_last (h : ESet P es) {e f : R4} (he : e ∈ es) (hf : f ∈ es) (h1 : toOf e = toOf f) (h2 : dirOf e = dirOf f) : e = f := by
  refine h.once e he f hf _ _ (cov_last (h.st e he)) ?_
  rw [h1, h2]
  exact cov_last (h.st f hf)
theorem ESet.fn (h : ESet P es) {e f g : R4} (hf : f ∈ es) (hg : g ∈ es) (h1 : Sx P e f) (h2 : Sx P e g) : f = g :=
  h.eq_first hf hg (h1.1.symm.trans h2.1) (h1.2.trans h2.2.symm)
theorem ESet.inj (h : ESet P es) {e f g : R4} (he : e ∈ es) (hg : g ∈ es) (h1 : Sx P e f) (h2 : Sx P g f) : e = g := by
  have h3 : toOf e = toOf g := h1.1.trans h2.1.symm
  have a1 := h.arr he
  have a2 := h.arr hg
  have e1 := h1.2
  have e2 := h2.2
  rw [← h3] at a2 e2
  exact h.eq_last he hg h3 (nxB_inj _ _ _ _ _ _ a1 a2 (e1.symm.trans e2))
theorem ESet.begins (h : ESet P es) {e : R4} (he : e ∈ es) {d : Dr} (hb : bd P (toOf e) d = true) : ∃ f ∈ es, frOf f = toOf e ∧ dirOf f = d := by
  obtain ⟨f, hf, hd, j, hj, hp⟩ := h.cov _ _ hb
  rcases Nat.eq_zero_or_pos j with rfl | hj0
  · refine ⟨f, hf, ?_, hd.symm⟩
    rw [hp]
    exact (mv_zero _ _).symm
  · exfalso
    have hc : Cov f (mv d (-1) (toOf e)) d := ⟨hd, j - 1, by omega, by rw [hp, mv_mv]; congr 1; omega⟩
    have h1 := h.on f hf _ _ hc
    rw [← ar_bd, mv_mv, show (-1 : Int) + 1 = 0 by decide, mv_zero] at h1
    have h2 : dirOf e = d := nxB_side _ _ _ _ _ _ (h.arr he) h1 hb
    have h3 : e = f := by
      refine h.once e he f hf _ _ (cov_last (h.st e he)) ?_
      rw [h2]
      exact hc
    subst h3
    have h4 := (h.st e he).to.1
    rw [hp, ← hd] at h4
    have := mv_inj h4
    omega
theorem ESet.tot (h : ESet P es) {e : R4} (he : e ∈ es) : ∃ f ∈ es, Sx P e f := by
  have h1 : bd P (toOf e) (nxd P (toOf e) (dirOf e)) = true := otB_cases _ _ _ _ _ (h.arr he)
  obtain ⟨f, hf, h2, h3⟩ := h.begins he h1
  exact ⟨f, hf, h2.symm, h3⟩
theorem turn_dir {e f : R4} (he : StE e) (hf : StE f) : (turnP e f = 1 ↔ dirOf f = (dirOf e).lft) ∧ ((dirOf f = dirOf e ∨ dirOf f = (dirOf e).lft ∨ dirOf f = (dirOf e).rgt) → (turnP e f = 0 ↔ dirOf e = dirOf f)) := by
  obtain ⟨l, b, r, t⟩ := e
  obtain ⟨l', b', r', t'⟩ := f
  unfold StE at he hf
  unfold dirOf turnP
  dsimp only at *
  rcases cI_cases r l with ⟨e1, h1⟩ | ⟨e1, h1⟩ | ⟨e1, h1⟩ <;> rcases cI_cases t b with ⟨e2, h2⟩ | ⟨e2, h2⟩ | ⟨e2, h2⟩ <;> (try omega) <;>
  rcases cI_cases r' l' with ⟨e3, h3⟩ | ⟨e3, h3⟩ | ⟨e3, h3⟩ <;> rcases cI_cases t' b' with ⟨e4, h4⟩ | ⟨e4, h4⟩ | ⟨e4, h4⟩ <;> (try omega) <;>
  (rw [e1, e2, e3, e4]) <;>
  simp (disch := omega) only [if_pos, if_neg] <;> decide
end Go.Proofs.YtfmkmhhghmdakaaGreatDoor
namespace Go.Proofs.YtfmkmhhghmdakaaGreatDoor
set_option maxHeartbeats 64000000
set_option maxRecDepth 100000
open Go.RowKit Go.Shelf
set_option linter.unusedVariables false
set_option linter.unusedSimpArgs false
def Lk {α : Type} (R : α → α → Prop) : α → List α → α → Prop
  | a, [], z => R a z
  | a, b :: t, z => R a b ∧ Lk R b t z
theorem Lk.app {α : Type} {R : α → α → Prop} {b z : α} {s : List α} : ∀ {t : List α} {a : α}, Lk R a (t ++ b :: s) z ↔ Lk R a t b ∧ Lk R b s z
  | [], a => Iff.rfl
  | c :: t, a => by
    show R a c ∧ Lk R c (t ++ b :: s) z ↔ (R a c ∧ Lk R c t b) ∧ Lk R b s z
    rw [Lk.app]
    exact (and_assoc).symm
theorem Lk.uniq {α : Type} {R : α → α → Prop} {z : α} (hR : ∀ a b c, R a b → R a c → b = c) : ∀ {t s : List α} {a : α}, Lk R a t z → Lk R a s z → z ∉ t → z ∉ s → t = s
  | [], [], a, _, _, _, _ => rfl
  | [], b :: s, a, h1, h2, _, hs => by
    have := hR _ _ _ h1 h2.1
    subst this
    exact absurd (List.mem_cons_self) hs
  | b :: t, [], a, h1, h2, ht, _ => by
    have := hR _ _ _ h1.1 h2
    subst this
    exact absurd (List.mem_cons_self) ht
  | b :: t, c :: s, a, h1, h2, ht, hs => by
    have := hR _ _ _ h1.1 h2.1
    subst this
    rw [Lk.uniq hR h1.2 h2.2 (fun h => ht (List.mem_cons_of_mem _ h)) (fun h => hs (List.mem_cons_of_mem _ h))]
def cor : R4 → List R4 → List (Pt × Dr)
  | _, [] => []
  | e, f :: t => if dirOf e = dirOf f then cor f t else (toOf e, dirOf f) :: cor f t
structure Ring1 (P : Sq) (es : List R4) (e0 : R4) (t : List R4) : Prop where
  lk : Lk (Sx P) e0 t e0
  nod : (e0 :: t).Nodup
  sub : ∀ e ∈ e0 :: t, e ∈ es
variable {P : Sq} {es : List R4}
theorem sx_turn {e f : R4} (h : ESet P es) (he : e ∈ es) (hf : f ∈ es) (hs : Sx P e f) : turnP e f = 0 ↔ dirOf e = dirOf f := by
  have h1 := turn_dir (h.st e he) (h.st f hf)
  refine h1.2 ?_
  rw [hs.2]
  exact nxB_turn _ _ _ _ _ (h.arr he)
theorem cor_two (e f : R4) (t : List R4) : cor e (f :: t) = (if dirOf e = dirOf f then [] else [(toOf e, dirOf f)]) ++ cor f t := by
  rw [cor]
  split <;> rfl
theorem pick_sx (h : ESet P es) {R : List R4} {f : Pt → List R4} (hr : Rem f R) (hsub : ∀ e ∈ R, e ∈ es) (hn : R.Nodup) {now nxt : R4} (hnow : now ∈ es) (hs : Sx P now nxt) (hm : nxt ∈ R) : (f (toOf now))[pickI now (f (toOf now))]? = some nxt := by
  have hin : nxt ∈ f (toOf now) := by
    have := (rem_mem hr nxt).2 hm
    rw [← hs.1] at this
    exact this
  have hall : ∀ x ∈ f (toOf now), x ∈ es ∧ frOf x = toOf now := fun x hx => ⟨hsub x (hr.mem hx).1, (hr.mem hx).2⟩
  have hnd : (f (toOf now)).Nodup := (hr _).nodup_iff.2 (hn.filter _)
  generalize f (toOf now) = l at *
  match l, hin, hall, hnd with
  | [a], hin, _, _ => simp at hin; simp [pickI, hin]
  | [a, b], hin, hall, hnd =>
    have ha := hall a (by simp)
    have hb := hall b (by simp)
    have hab : a ≠ b := by simp at hnd; exact hnd
    have hd : dirOf a ≠ dirOf b := fun e => hab (h.eq_first ha.1 hb.1 (ha.2.trans hb.2.symm) e)
    have oa := h.out ha.1
    have ob := h.out hb.1
    rw [ha.2] at oa
    rw [hb.2] at ob
    have hl : dirOf nxt = (dirOf now).lft := by rw [hs.2]; exact nxB_two _ _ _ _ _ _ _ (h.arr hnow) oa ob hd
    have ta := (turn_dir (h.st now hnow) (h.st a ha.1)).1
    simp only [List.mem_cons, List.not_mem_nil, or_false] at hin
    rcases hin with rfl | rfl
    · rw [show pickI now [nxt, b] = 0 by simp [pickI, ta.2 hl]]
      rfl
    · have : ¬ turnP now a = 1 := fun e => hd ((ta.1 e).trans hl.symm)
      rw [show pickI now [a, nxt] = 1 by simp [pickI, this]]
      rfl
  | a :: b :: c :: t, hin, hall, hnd =>
    exfalso
    have ha := hall a (by simp)
    have hb := hall b (by simp)
    have hc := hall c (by simp)
    have oa := h.out ha.1
    have ob := h.out hb.1
    have oc := h.out hc.1
    rw [ha.2] at oa
    rw [hb.2] at ob
    rw [hc.2] at oc
    simp only [List.nodup_cons, List.mem_cons, not_or] at hnd
    rcases otB_three _ _ _ _ _ _ _ oa ob oc with e | e | e
    · exact hnd.1.1 (h.eq_first ha.1 hb.1 (ha.2.trans hb.2.symm) e)
    · exact hnd.1.2.1 (h.eq_first ha.1 hc.1 (ha.2.trans hc.2.symm) e)
    · exact hnd.2.1.1 (h.eq_first hb.1 hc.1 (hb.2.trans hc.2.symm) e)
structure Fol (P : Sq) (es R0 : List R4) (e0 now : R4) (V R : List R4) : Prop where
  sub : ∀ e ∈ R, e ∈ es
  nod : R.Nodup
  fst : e0 ∈ es
  nowV : now ∈ e0 :: V
  ves : ∀ e ∈ V, e ∈ es
  inR : ∀ e, e ∈ R ↔ e ∈ R0 ∧ e ∉ V
  v0 : ∀ e ∈ V, e ∈ R0
  clo : ∀ e ∈ es, ∀ f ∈ es, Sx P e f → (e ∈ R0 ↔ f ∈ R0)
  suc : ∀ e ∈ es, ∀ f ∈ es, Sx P e f → (f ∈ V ↔ e ∈ e0 :: V ∧ e ≠ now)
  n0 : e0 ∉ V
  r0 : e0 ∈ R0
theorem follow_chain (h : ESet P es) (R0 : List R4) (e0 : R4) : ∀ (d : Nat) (V R : List R4) (f : Pt → List R4) (now : R4) (acc : List Pt) (cs : List Pt) (f' : Pt → List R4), Fol P es R0 e0 now V R → Rem f R → followF d f e0 now acc = some (cs, f') →
    ∃ t, Lk (Sx P) now t e0 ∧ (∀ e ∈ t, e ∈ R ∧ e ≠ e0) ∧ t.Nodup ∧ cs = acc ++ (cor now (t ++ [e0])).map (·.1) ∧ ∃ R', Rem f' R' ∧ ∀ e, e ∈ R' ↔ e ∈ R ∧ e ∉ e0 :: t
  | 0, V, R, f, now, acc, cs, f', hF, hr, hf => by cases hf
  | d + 1, V, R, f, now, acc, cs, f', hF, hr, hf => by
    have hnow : now ∈ es := by
      rcases List.mem_cons.1 hF.nowV with rfl | h1
      · exact hF.fst
      · exact hF.ves _ h1
    obtain ⟨nxt, hn, hs⟩ := h.tot hnow
    have hnowR : now ∈ R0 := by
      rcases List.mem_cons.1 hF.nowV with rfl | h1
      · exact hF.r0
      · exact hF.v0 _ h1
    have hnV : nxt ∉ V := fun hv => ((hF.suc _ hnow _ hn hs).1 hv).2 rfl
    have hnR0 : nxt ∈ R0 := (hF.clo _ hnow _ hn hs).1 hnowR
    have hm : nxt ∈ R := (hF.inR _).2 ⟨hnR0, hnV⟩
    have hp := pick_sx h hr hF.sub hF.nod hnow hs hm
    have hr2 := hr.step hp
    have ht := sx_turn h hnow hn hs
    rw [followF, hp] at hf
    dsimp only at hf
    by_cases he : nxt = e0
    · subst he
      rw [if_pos rfl] at hf
      injection hf with hf
      injection hf with h1 h2
      refine ⟨[], hs, by simp, List.nodup_nil, ?_, R.erase nxt, ?_, fun e => ?_⟩
      · rw [← h1, List.nil_append, cor_two]
        simp only [cor, List.append_nil, ht]
        split <;> simp
      · rw [← h2]; exact hr2
      · rw [hF.nod.mem_erase_iff]
        simp [and_comm]
    · rw [if_neg he] at hf
      have hF2 : Fol P es R0 e0 nxt (V ++ [nxt]) (R.erase nxt) := by
        refine ⟨fun e he => hF.sub _ (List.mem_of_mem_erase he), hF.nod.erase _, hF.fst, by simp, fun e he => ?_, fun e => ?_, fun e he => ?_, hF.clo, fun e hee g hg hsg => ?_, ?_, hF.r0⟩
        · rcases List.mem_append.1 he with h1 | h1
          · exact hF.ves _ h1
          · simp at h1; subst h1; exact hn
        · rw [hF.nod.mem_erase_iff, hF.inR]
          simp only [List.mem_append, List.mem_singleton, not_or]
          exact ⟨fun h => ⟨h.2.1, h.2.2, h.1⟩, fun h => ⟨h.2.2, h.1, h.2.1⟩⟩
        · rcases List.mem_append.1 he with h1 | h1
          · exact hF.v0 _ h1
          · simp at h1; subst h1; exact hnR0
        · have h1 := hF.suc e hee g hg hsg
          simp only [List.mem_append, List.mem_cons, List.not_mem_nil, or_false] at h1 ⊢
          rw [h1]
          constructor
          · rintro (⟨h2, h3⟩ | rfl)
            · refine ⟨h2.imp id .inl, fun e2 => ?_⟩
              subst e2
              rcases h2 with h2 | h2
              · exact he h2
              · exact hnV h2
            · have := h.inj hee hnow hsg hs
              subst this
              refine ⟨(List.mem_cons.1 hF.nowV).imp id .inl, fun e2 => ?_⟩
              subst e2
              rcases List.mem_cons.1 hF.nowV with h2 | h2
              · exact he h2
              · exact hnV h2
          · rintro ⟨h2, h3⟩
            have h4 : e = e0 ∨ e ∈ V := by
              rcases h2 with h2 | h2 | h2
              · exact .inl h2
              · exact .inr h2
              · exact absurd h2 h3
            by_cases h5 : e = now
            · subst h5
              exact .inr (h.fn hg hn hsg hs)
            · exact .inl ⟨h4, h5⟩
        · simp only [List.mem_append, List.mem_singleton, not_or]
          exact ⟨hF.n0, fun e2 => he e2.symm⟩
      obtain ⟨t, h1, h2, h3, h4, R', h5, h6⟩ := follow_chain h R0 e0 d _ _ _ nxt _ cs f' hF2 hr2 hf
      refine ⟨nxt :: t, ⟨hs, h1⟩, fun e he2 => ?_, ?_, ?_, R', h5, fun e => ?_⟩
      · rcases List.mem_cons.1 he2 with rfl | he2
        · exact ⟨hm, he⟩
        · exact ⟨List.mem_of_mem_erase (h2 e he2).1, (h2 e he2).2⟩
      · refine List.nodup_cons.2 ⟨fun hm2 => ?_, h3⟩
        have := (h2 _ hm2).1
        rw [hF.nod.mem_erase_iff] at this
        exact this.1 rfl
      · rw [h4, List.cons_append, cor_two, List.map_append, ← List.append_assoc]
        congr 1
        simp only [ht]
        split <;> simp
      · rw [h6, hF.nod.mem_erase_iff]
        simp only [List.mem_cons, not_or]
        exact ⟨fun h => ⟨h.1.2, h.2.1, h.1.1, h.2.2⟩, fun h => ⟨⟨h.2.2.1, h.1⟩, h.2.1, h.2.2.2⟩⟩
theorem follow_ring (h : ESet P es) {R : List R4} {f : Pt → List R4} (hr : Rem f R) (hsub : ∀ e ∈ R, e ∈ es) (hn : R.Nodup) (hclo : ∀ e ∈ es, ∀ f ∈ es, Sx P e f → (e ∈ R ↔ f ∈ R)) {e0 : R4} (he : e0 ∈ R) {d : Nat} {cs : List Pt} {f' : Pt → List R4} (hf : followF d f e0 e0 [] = some (cs, f')) :
    ∃ t, Ring1 P es e0 t ∧ (∀ e ∈ e0 :: t, e ∈ R) ∧ cs = (cor e0 (t ++ [e0])).map (·.1) ∧ ∃ R', Rem f' R' ∧ ∀ e, e ∈ R' ↔ e ∈ R ∧ e ∉ e0 :: t := by
  obtain ⟨t, h1, h2, h3, h4, h5⟩ := follow_chain h R e0 d [] R f e0 [] cs f' ⟨hsub, hn, hsub _ he, by simp, by simp, fun e => by simp, by simp, hclo, fun e he2 g hg hs => by simp, by simp, he⟩ hr hf
  refine ⟨t, ⟨h1, List.nodup_cons.2 ⟨fun hm => (h2 _ hm).2 rfl, h3⟩, fun e hm => ?_⟩, fun e hm => ?_, by simpa using h4, h5⟩
  · rcases List.mem_cons.1 hm with rfl | hm
    · exact hsub _ he
    · exact hsub _ (h2 _ hm).1
  · rcases List.mem_cons.1 hm with rfl | hm
    · exact he
    · exact (h2 _ hm).1
theorem Lk.pred {R : R4 → R4 → Prop} {z : R4} : ∀ {t : List R4} {a : R4}, Lk R a t z → ∀ f ∈ t ++ [z], ∃ e ∈ a :: t, R e f
  | [], a, h, f, hf => by simp at hf; subst hf; exact ⟨a, by simp, h⟩
  | b :: t, a, h, f, hf => by
    rcases List.mem_cons.1 hf with rfl | hf
    · exact ⟨a, by simp, h.1⟩
    · obtain ⟨e, he, hr⟩ := Lk.pred h.2 f hf
      exact ⟨e, List.mem_cons_of_mem _ he, hr⟩
theorem Lk.succ {R : R4 → R4 → Prop} {z : R4} : ∀ {t : List R4} {a : R4}, Lk R a t z → ∀ e ∈ a :: t, ∃ f ∈ t ++ [z], R e f
  | [], a, h, e, he => by simp at he; subst he; exact ⟨z, by simp, h⟩
  | b :: t, a, h, e, he => by
    rcases List.mem_cons.1 he with rfl | he
    · exact ⟨b, by simp, h.1⟩
    · obtain ⟨f, hf, hr⟩ := Lk.succ h.2 e he
      exact ⟨f, by rw [List.cons_append]; exact List.mem_cons_of_mem _ hf, hr⟩
theorem Ring1.clo (h : ESet P es) {e0 : R4} {t : List R4} (hr : Ring1 P es e0 t) {e f : R4} (he : e ∈ es) (hf : f ∈ es) (hs : Sx P e f) : e ∈ e0 :: t ↔ f ∈ e0 :: t := by
  have hp : ∀ x, x ∈ t ++ [e0] ↔ x ∈ e0 :: t := fun x => by simp [or_comm]
  constructor
  · intro hm
    obtain ⟨g, hg, hs2⟩ := hr.lk.succ e hm
    rw [hp] at hg
    rw [h.fn hf (hr.sub _ hg) hs hs2]
    exact hg
  · intro hm
    obtain ⟨g, hg, hs2⟩ := hr.lk.pred f ((hp f).2 hm)
    rw [h.inj he (hr.sub _ hg) hs hs2]
    exact hg
def ringOf (c : R4 × List R4) : List Pt := begunP ((cor c.1 (c.2 ++ [c.1])).map (·.1))
structure Rings (P : Sq) (es : List R4) (cs : List (R4 × List R4)) : Prop where
  ring : ∀ c ∈ cs, Ring1 P es c.1 c.2
  all : ∀ e ∈ es, ∃ c ∈ cs, e ∈ c.1 :: c.2
  apart : cs.Pairwise fun c k => ∀ e, e ∈ c.1 :: c.2 → e ∉ k.1 :: k.2
theorem rings_law (h : ESet P es) (d : Nat) (hd : es.length ≤ d) : ∀ (l R : List R4) (f : Pt → List R4), Rem f R → Bal R → R.Sublist es → R.Nodup → (∀ e ∈ es, ∀ g ∈ es, Sx P e g → (e ∈ R ↔ g ∈ R)) → (∀ e ∈ R, e ∈ l) →
    ∃ cs : List (R4 × List R4), ringsF d l f = cs.map ringOf ∧ (∀ c ∈ cs, Ring1 P es c.1 c.2 ∧ ∀ e ∈ c.1 :: c.2, e ∈ R) ∧ (∀ e ∈ R, ∃ c ∈ cs, e ∈ c.1 :: c.2) ∧ cs.Pairwise fun c k => ∀ e, e ∈ c.1 :: c.2 → e ∉ k.1 :: k.2
  | [], R, f, hr, hb, hs, hn, hc, hl => ⟨[], rfl, by simp, (fun e he => by have := hl e he; simp at this), List.Pairwise.nil⟩
  | e0 :: l, R, f, hr, hb, hs, hn, hc, hl => by
    rw [ringsF]
    by_cases hin : e0 ∈ f (frOf e0)
    · rw [if_pos hin]
      have he := (rem_mem hr e0).1 hin
      obtain ⟨cs, f', R1, h1, h2, h3, h4, h5, h6, h7⟩ := follow_ok d R f e0 e0 [] hr he (Nat.le_trans hs.length_le hd) (fun v => by rw [hb v])
      rw [h1]
      dsimp only
      obtain ⟨t, g1, g2, g3, R2, g4, g5⟩ := follow_ring h hr (fun e he => hs.subset he) hn hc he h1
      have g6 : ∀ e, e ∈ R1 ↔ e ∈ R ∧ e ∉ e0 :: t := fun e => by
        rw [← g5, ← rem_mem h2, ← rem_mem g4]
      obtain ⟨ks, k1, k2, k3, k4⟩ := rings_law h d hd l R1 f' h2 h3 (h4.trans hs) (hn.sublist h4) (fun e he2 g hg hsx => by
        rw [g6, g6, hc e he2 g hg hsx, g1.clo h he2 hg hsx]) (fun e he2 => by
        have h8 := (g6 e).1 he2
        rcases List.mem_cons.1 (hl e h8.1) with h9 | h9
        · subst h9
          exact absurd List.mem_cons_self h8.2
        · exact h9)
      refine ⟨(e0, t) :: ks, ?_, fun c hcm => ?_, fun e he2 => ?_, List.pairwise_cons.2 ⟨fun k hk e he2 hek => ?_, k4⟩⟩
      · rw [List.map_cons, k1, g3]
        rfl
      · rcases List.mem_cons.1 hcm with rfl | hcm
        · exact ⟨g1, g2⟩
        · exact ⟨(k2 c hcm).1, fun e he2 => ((g6 e).1 ((k2 c hcm).2 e he2)).1⟩
      · by_cases h8 : e ∈ e0 :: t
        · exact ⟨_, List.mem_cons_self, h8⟩
        · obtain ⟨c, hc1, hc2⟩ := k3 e ((g6 e).2 ⟨he2, h8⟩)
          exact ⟨c, List.mem_cons_of_mem _ hc1, hc2⟩
      · exact ((g6 e).1 ((k2 k hk).2 e hek)).2 he2
    · rw [if_neg hin]
      exact rings_law h d hd l R f hr hb hs hn hc (fun e he => by
        rcases List.mem_cons.1 (hl e he) with rfl | h9
        · exact absurd ((rem_mem hr _).2 he) hin
        · exact h9)
theorem ringsF_rings (h : ESet P es) (hb : Bal es) {f : Pt → List R4} (hr : Rem f es) : ∃ cs, ringsF es.length es f = cs.map ringOf ∧ Rings P es cs := by
  obtain ⟨cs, h1, h2, h3, h4⟩ := rings_law h es.length (Nat.le_refl _) es es f hr hb (List.Sublist.refl _) h.nod (fun e he g hg _ => by simp [he, hg]) (fun e he => he)
  exact ⟨cs, h1, fun c hc => (h2 c hc).1, h3, h4⟩
end Go.Proofs.YtfmkmhhghmdakaaGreatDoor
namespace Go.Proofs.YtfmkmhhghmdakaaGreatDoor
set_option maxHeartbeats 64000000
set_option maxRecDepth 100000
open Go.RowKit Go.Shelf
set_option linter.unusedVariables false
set_option linter.unusedSimpArgs false
abbrev PD := Pt × Dr
def Nx (P : Sq) (a b : PD) : Prop := ∃ k : Nat, 0 < k ∧ b.1 = mv a.2 k a.1 ∧ (∀ j : Nat, j < k → bd P (mv a.2 j a.1) a.2 = true) ∧ b.2 = nxd P b.1 a.2 ∧ b.2 ≠ a.2
def Rn (P : Sq) (a : PD) (e : R4) : Prop := ∃ k : Nat, frOf e = mv a.2 k a.1 ∧ dirOf e = a.2 ∧ ∀ j : Nat, j < k → bd P (mv a.2 j a.1) a.2 = true
variable {P : Sq} {es : List R4}
theorem bd_ar {p : Pt} {d : Dr} {k : Nat} (hk : 0 < k) (h : ∀ j : Nat, j < k → bd P (mv d j p) d = true) : ar P (mv d k p) d = true := by
  have h1 := h (k - 1) (by omega)
  rw [← ar_bd, mv_mv, show ((k - 1 : Nat) : Int) + 1 = k by omega] at h1
  exact h1
theorem Nx.ar {a b : PD} (h : Nx P a b) : ar P b.1 a.2 = true := by
  obtain ⟨k, h1, h2, h3, h4⟩ := h
  rw [h2]
  exact bd_ar h1 h3
theorem Nx.fn {a b c : PD} (h1 : Nx P a b) (h2 : Nx P a c) : b = c := by
  have key : ∀ (b c : PD) (k k' : Nat), k < k' → 0 < k → b.1 = mv a.2 k a.1 → (∀ j : Nat, j < k' → bd P (mv a.2 j a.1) a.2 = true) → b.2 = nxd P b.1 a.2 → b.2 ≠ a.2 → False := fun b c k k' hk h0 hb hj hn hd => by
    have e1 := bd_ar h0 (fun j hj' => hj j (by omega))
    have e2 := hj k hk
    rw [← hb] at e1 e2
    exact hd (hn.trans (nxB_str _ _ _ _ _ e1 e2))
  obtain ⟨k, a1, a2, a3, a4, a5⟩ := h1
  obtain ⟨k', b1, b2, b3, b4, b5⟩ := h2
  rcases Nat.lt_trichotomy k k' with h | h | h
  · exact (key b c k k' h a1 a2 b3 a4 a5).elim
  · subst h
    have e : b.1 = c.1 := a2.trans b2.symm
    refine Prod.ext e ?_
    rw [a4, b4, e]
  · exact (key c b k' k h b1 b2 a3 b4 b5).elim
theorem rn_self (e : R4) : Rn P (frOf e, dirOf e) e := ⟨0, (mv_zero _ _).symm, rfl, fun j hj => by omega⟩
theorem Rn.over (h : ESet P es) {a : PD} {e : R4} (he : e ∈ es) (hr : Rn P a e) : ∃ k : Nat, 0 < k ∧ toOf e = mv a.2 k a.1 ∧ ∀ j : Nat, j < k → bd P (mv a.2 j a.1) a.2 = true := by
  obtain ⟨k, h1, h2, h3⟩ := hr
  obtain ⟨h4, h5⟩ := (h.st e he).to
  refine ⟨k + lenE e, by omega, ?_, fun j hj => ?_⟩
  · rw [h4, h1, h2, mv_mv]
    congr 1
  · rcases Nat.lt_or_ge j k with hk | hk
    · exact h3 j hk
    · have := h.on e he (mv a.2 j a.1) a.2 ⟨h2.symm, j - k, by omega, by simp only [h1, h2, mv_mv]; congr 1; omega⟩
      exact this
theorem Rn.step (h : ESet P es) {a : PD} {e f : R4} (he : e ∈ es) (hr : Rn P a e) (hs : Sx P e f) : (dirOf e = dirOf f → Rn P a f) ∧ (dirOf e ≠ dirOf f → Nx P a (toOf e, dirOf f) ∧ Rn P (toOf e, dirOf f) f) := by
  obtain ⟨k, h1, h2, h3⟩ := hr.over h he
  have hd : dirOf e = a.2 := hr.choose_spec.2.1
  refine ⟨fun hq => ⟨k, hs.1 ▸ h2, hq ▸ hd, h3⟩, fun hq => ⟨⟨k, h1, h2, h3, ?_, fun e2 => hq (hd.trans e2.symm)⟩, ⟨0, ?_, rfl, fun j hj => by omega⟩⟩⟩
  · rw [← hd]; exact hs.2
  · rw [← hs.1]; exact (mv_zero _ _).symm
def Pth {α : Type} (R : α → α → Prop) : α → List α → α → Prop
  | a, [], b => a = b
  | a, c :: l, b => R a c ∧ Pth R c l b
theorem Pth.lk {α : Type} {R : α → α → Prop} {b z : α} : ∀ {l : List α} {a : α}, Pth R a l b → R b z → Lk R a l z
  | [], a, h1, h2 => by
    have : a = b := h1
    subst this
    exact h2
  | c :: l, a, h1, h2 => ⟨h1.1, h1.2.lk h2⟩
def sumP (φ : Pt → Pt → Int) : Pt → List Pt → Pt → Int
  | a, [], z => φ a z
  | a, b :: l, z => φ a b + sumP φ b l z
def Addl (φ : Pt → Pt → Int) : Prop := ∀ (d : Dr) (p : Pt) (j k : Nat), φ p (mv d ((j : Int) + k) p) = φ p (mv d j p) + φ (mv d j p) (mv d ((j : Int) + k) p)
theorem Addl.zero {φ : Pt → Pt → Int} (h : Addl φ) (p : Pt) : φ p p = 0 := by
  have := h .ri p 0 0
  simp only [Int.natCast_zero, Int.add_zero, mv_zero] at this
  omega
def edS (φ : Pt → Pt → Int) (e : R4) : Int := φ (frOf e) (toOf e)
theorem Rn.sum (h : ESet P es) {φ : Pt → Pt → Int} (hφ : Addl φ) {a : PD} {e : R4} (he : e ∈ es) (hr : Rn P a e) : φ a.1 (toOf e) = φ a.1 (frOf e) + edS φ e := by
  obtain ⟨k, h1, h2, h3⟩ := hr
  obtain ⟨h4, h5⟩ := (h.st e he).to
  have := hφ a.2 a.1 k (lenE e)
  unfold edS
  rw [h4, h1, h2, mv_mv]
  exact this
theorem chain_cor (h : ESet P es) {φ : Pt → Pt → Int} (hφ : Addl φ) {z : R4} (hz : z ∈ es) : ∀ (t : List R4) (a : PD) (e : R4), Rn P a e → (∀ x ∈ e :: t, x ∈ es) → Lk (Sx P) e t z →
    ∃ b, Pth (Nx P) a (cor e (t ++ [z])) b ∧ Rn P b z ∧ sumP φ a.1 ((cor e (t ++ [z])).map (·.1)) (frOf z) = φ a.1 (frOf e) + sumL (edS φ) (e :: t)
  | [], a, e, hr, hes, hl => by
    have he := hes e (by simp)
    have hs : Sx P e z := hl
    obtain ⟨h1, h2⟩ := hr.step h he hs
    have h3 := hr.sum h hφ he
    rw [List.nil_append, cor_two, sumL_cons, sumL_nil]
    by_cases hd : dirOf e = dirOf z
    · rw [if_pos hd]
      refine ⟨a, rfl, h1 hd, ?_⟩
      show φ a.1 (frOf z) = _
      rw [← hs.1, h3]
      omega
    · rw [if_neg hd]
      refine ⟨(toOf e, dirOf z), ⟨(h2 hd).1, rfl⟩, (h2 hd).2, ?_⟩
      show φ a.1 (toOf e) + φ (toOf e) (frOf z) = _
      rw [← hs.1, hφ.zero, h3]
      omega
  | f :: t, a, e, hr, hes, hl => by
    have he := hes e (by simp)
    obtain ⟨hs, hl⟩ := hl
    obtain ⟨h1, h2⟩ := hr.step h he hs
    have h3 := hr.sum h hφ he
    rw [List.cons_append, cor_two, sumL_cons]
    by_cases hd : dirOf e = dirOf f
    · rw [if_pos hd]
      obtain ⟨b, g1, g2, g3⟩ := chain_cor h hφ hz t a f (h1 hd) (fun x hx => hes x (List.mem_cons_of_mem _ hx)) hl
      refine ⟨b, g1, g2, ?_⟩
      rw [List.nil_append, g3, ← hs.1, h3]
      omega
    · rw [if_neg hd]
      obtain ⟨b, g1, g2, g3⟩ := chain_cor h hφ hz t (toOf e, dirOf f) f (h2 hd).2 (fun x hx => hes x (List.mem_cons_of_mem _ hx)) hl
      refine ⟨b, ⟨(h2 hd).1, g1⟩, g2, ?_⟩
      dsimp only at g3
      show φ a.1 (toOf e) + sumP φ (toOf e) ((cor f (t ++ [z])).map (·.1)) (frOf z) = _
      rw [g3, ← hs.1, hφ.zero, h3]
      omega
theorem chain_str (h : ESet P es) {z : R4} : ∀ (t : List R4) (e : R4), (∀ x ∈ e :: t, x ∈ es) → Lk (Sx P) e t z → cor e (t ++ [z]) = [] → ∃ k : Nat, 0 < k ∧ frOf z = mv (dirOf e) k (frOf e)
  | [], e, hes, hl, hc => by
    have hs : Sx P e z := hl
    obtain ⟨h1, h2⟩ := (h.st e (hes e (by simp))).to
    exact ⟨lenE e, h2, hs.1 ▸ h1⟩
  | f :: t, e, hes, hl, hc => by
    obtain ⟨h1, h2⟩ := (h.st e (hes e (by simp))).to
    rw [List.cons_append, cor_two] at hc
    obtain ⟨hc1, hc2⟩ := List.append_eq_nil_iff.1 hc
    by_cases hd : dirOf e = dirOf f
    · obtain ⟨k, g1, g2⟩ := chain_str h t f (fun x hx => hes x (List.mem_cons_of_mem _ hx)) hl.2 hc2
      refine ⟨k + lenE e, by omega, ?_⟩
      rw [g2, ← hl.1.1, h1, ← hd, mv_mv]
      congr 1
      omega
    · rw [if_neg hd] at hc1
      cases hc1
theorem sumP_end (φ : Pt → Pt → Int) {R : PD → PD → Prop} (z z' : Pt) {b : PD} : ∀ (l : List PD) (a : PD), Pth R a l b → sumP φ a.1 (l.map (·.1)) z' = sumP φ a.1 (l.map (·.1)) z + φ b.1 z' - φ b.1 z
  | [], a, h => by
    have : a = b := h
    subst this
    show φ a.1 z' = φ a.1 z + φ a.1 z' - φ a.1 z
    omega
  | c :: l, a, h => by
    have := sumP_end φ z z' l c h.2
    show φ a.1 c.1 + sumP φ c.1 (l.map (·.1)) z' = φ a.1 c.1 + sumP φ c.1 (l.map (·.1)) z + φ b.1 z' - φ b.1 z
    rw [this]
    omega
theorem ring_cor (h : ESet P es) {e0 : R4} {t : List R4} (hr : Ring1 P es e0 t) : ∃ c l, cor e0 (t ++ [e0]) = c :: l ∧ Lk (Nx P) c l c ∧ ∀ φ, Addl φ → sumP φ c.1 (l.map (·.1)) c.1 = sumL (edS φ) (e0 :: t) := by
  have h0 := hr.sub e0 (by simp)
  cases hc : cor e0 (t ++ [e0]) with
  | nil =>
    exfalso
    obtain ⟨k, h1, h2⟩ := chain_str h t e0 hr.sub hr.lk hc
    have h3 : mv (dirOf e0) 0 (frOf e0) = mv (dirOf e0) k (frOf e0) := by rw [mv_zero]; exact h2
    have := mv_inj h3
    omega
  | cons c l =>
    refine ⟨c, l, rfl, ?_, fun φ hφ => ?_⟩
    · obtain ⟨b, h1, h2, h3⟩ := chain_cor h (φ := fun _ _ => 0) (fun _ _ _ _ => rfl) h0 t (frOf e0, dirOf e0) e0 (rn_self e0) hr.sub hr.lk
      rw [hc] at h1
      refine h1.2.lk ?_
      obtain ⟨k, a1, a2, a3⟩ := h2
      obtain ⟨m, b1, b2, b3, b4, b5⟩ := h1.1
      dsimp only at b2 b3 b4 b5
      rw [a1, a2, mv_mv] at b2
      refine ⟨k + m, by omega, by rw [b2]; congr 1, fun j hj => ?_, by rw [← a2]; exact b4, by rw [← a2]; exact b5⟩
      rcases Nat.lt_or_ge j k with hk | hk
      · exact a3 j hk
      · have := b3 (j - k) (by omega)
        rw [a1, a2, mv_mv] at this
        rw [show (k : Int) + ((j - k : Nat) : Int) = j by omega] at this
        exact this
    · obtain ⟨b, h1, h2, h3⟩ := chain_cor h hφ h0 t (frOf e0, dirOf e0) e0 (rn_self e0) hr.sub hr.lk
      rw [hc] at h1 h3
      have h4 := sumP_end φ (frOf e0) c.1 l c h1.2
      obtain ⟨k, a1, a2, a3⟩ := h2
      obtain ⟨m, b1, b2, b3, b4, b5⟩ := h1.1
      dsimp only at b2
      have h5 := hφ b.2 b.1 k m
      have h6 : c.1 = mv b.2 ((k : Int) + m) b.1 := by rw [b2, a1, a2, mv_mv]
      rw [← h6, ← a1] at h5
      have h7 : sumP φ (frOf e0) ((c :: l).map (·.1)) (frOf e0) = φ (frOf e0) c.1 + sumP φ c.1 (l.map (·.1)) (frOf e0) := rfl
      dsimp only at h3
      rw [hφ.zero, h7] at h3
      rw [h4, h5]
      clear h7 h6 h5 h4
      generalize φ b.1 (frOf e0) = A
      generalize φ (frOf e0) c.1 = B at *
      generalize sumP φ c.1 (l.map (·.1)) (frOf e0) = C at *
      omega
theorem cor_from : ∀ {t : List R4} {e : R4} {z : R4}, Lk (Sx P) e t z → (cor e (t ++ [z])).Sublist ((t ++ [z]).map fun f => (frOf f, dirOf f))
  | [], e, z, h => by
    have hs : Sx P e z := h
    rw [List.nil_append, cor_two, hs.1]
    split
    · exact List.nil_sublist _
    · exact List.Sublist.refl _
  | f :: t, e, z, h => by
    have ih := cor_from h.2
    rw [List.cons_append, cor_two, h.1.1, List.map_cons]
    split
    · exact ih.cons _
    · exact ih.cons_cons _
theorem cor_nodup (h : ESet P es) {e0 : R4} {t : List R4} (hr : Ring1 P es e0 t) : (cor e0 (t ++ [e0])).Nodup := by
  refine List.Nodup.sublist (cor_from hr.lk) ?_
  have hp : (t ++ [e0]).Perm (e0 :: t) := List.perm_append_singleton _ _
  have hn := hp.nodup_iff.2 hr.nod
  have hs : ∀ e ∈ t ++ [e0], e ∈ es := fun e he => hr.sub e (hp.mem_iff.1 he)
  generalize t ++ [e0] = l at *
  clear hp hr
  induction l with
  | nil => exact List.nodup_nil
  | cons x l ih =>
    rw [List.map_cons]
    obtain ⟨h1, h2⟩ := List.nodup_cons.1 hn
    refine List.nodup_cons.2 ⟨fun hm => ?_, ih h2 fun e he => hs e (List.mem_cons_of_mem _ he)⟩
    obtain ⟨y, hy, e⟩ := List.mem_map.1 hm
    have := h.eq_first (hs x (by simp)) (hs y (List.mem_cons_of_mem _ hy)) (Prod.mk.inj e).1.symm (Prod.mk.inj e).2.symm
    subst this
    exact h1 hy
theorem cor_has (h : ESet P es) {z : R4} : ∀ {t : List R4} {e : R4}, Lk (Sx P) e t z → ∀ x ∈ e :: t, dirOf x ≠ nxd P (toOf x) (dirOf x) → (toOf x, nxd P (toOf x) (dirOf x)) ∈ cor e (t ++ [z])
  | [], e, hl, x, hx, hd => by
    have hs : Sx P e z := hl
    simp only [List.mem_cons, List.not_mem_nil, or_false] at hx
    subst hx
    rw [List.nil_append, cor_two, hs.2, if_neg hd]
    simp [cor]
  | f :: t, e, hl, x, hx, hd => by
    rw [List.cons_append, cor_two]
    rcases List.mem_cons.1 hx with rfl | hx
    · rw [hl.1.2, if_neg hd]
      simp
    · exact List.mem_append_right _ (cor_has h hl.2 x hx hd)
end Go.Proofs.YtfmkmhhghmdakaaGreatDoor
namespace Go.Proofs.YtfmkmhhghmdakaaGreatDoor
set_option maxHeartbeats 64000000
set_option maxRecDepth 100000
open Go.RowKit Go.Shelf
set_option linter.unusedVariables false
set_option linter.unusedSimpArgs false
def cycL {α : Type} (R : α → α → Prop) : List α → Prop
  | [] => True
  | a :: t => Lk R a t a
theorem cycL_rot {α : Type} {R : α → α → Prop} : ∀ {a b : List α}, cycL R (a ++ b) → cycL R (b ++ a)
  | [], b, h => by simpa using h
  | x :: t, [], h => by simpa using h
  | x :: t, y :: s, h => by
    have h1 : Lk R x (t ++ y :: s) x := h
    rw [Lk.app] at h1
    show Lk R y (s ++ x :: t) y
    rw [Lk.app]
    exact ⟨h1.2, h1.1⟩
def lowB (p q : Pt) : Prop := p.2 < q.2 ∨ (p.2 = q.2 ∧ p.1 < q.1)
theorem lowP_neg (p q : Pt) : lowP p q < 0 ↔ lowB p q := by
  unfold lowP orI lowB
  rcases cI_cases p.2 q.2 with ⟨e1, h1⟩ | ⟨e1, h1⟩ | ⟨e1, h1⟩ <;> rcases cI_cases p.1 q.1 with ⟨e2, h2⟩ | ⟨e2, h2⟩ | ⟨e2, h2⟩ <;> rw [e1, e2] <;> simp <;> omega
theorem low_eq {p q : Pt} (h1 : ¬ lowB p q) (h2 : ¬ lowB q p) : p = q := by
  unfold lowB at h1 h2
  exact Prod.ext (by omega) (by omega)
theorem begTo_min {r : List Pt} (h : 0 < r.length) : ∀ (n : Nat), n ≤ r.length → ∀ (b : Nat) (hb : b < r.length), begTo r n = b → ∀ (i : Nat) (hi : i < r.length), i < n → ¬ lowB r[i] r[b]
  | 0, _, _, _, _, i, _, hi => by omega
  | n + 1, hn, b, hb, e, i, hi, hin => by
    have hlt := begTo_lt h n (by omega)
    have ih := begTo_min h n (by omega) (begTo r n) hlt rfl
    rw [begTo_step (by omega) hlt] at e
    by_cases hl : lowP r[n] r[begTo r n] < 0
    · rw [if_pos hl] at e
      subst e
      rcases Nat.lt_or_ge i n with h1 | h1
      · have h2 := ih i hi h1
        rw [lowP_neg] at hl
        unfold lowB at *
        omega
      · have : i = n := by omega
        subst this
        unfold lowB
        omega
    · rw [if_neg hl] at e
      subst e
      rcases Nat.lt_or_ge i n with h1 | h1
      · exact ih i hi h1
      · have : i = n := by omega
        subst this
        rw [lowP_neg] at hl
        exact hl
variable {P : Sq} {es es' : List R4}
structure RD (P : Sq) (y : PD) (m : List PD) : Prop where
  lk : Lk (Nx P) y m y
  nod : (y :: m).Nodup
  low : ∀ x ∈ m, ¬ lowB x.1 y.1
def begD (l : List PD) : List PD := l.drop (begTo (l.map (·.1)) l.length) ++ l.take (begTo (l.map (·.1)) l.length)
theorem begD_map (l : List PD) : (begD l).map (·.1) = begunP (l.map (·.1)) := by
  unfold begD begunP
  rw [List.map_append, List.map_drop, List.map_take, List.length_map]
theorem begD_perm (l : List PD) : (begD l).Perm l := by
  unfold begD
  have h := List.take_append_drop (begTo (l.map (·.1)) l.length) l
  exact List.perm_append_comm.trans (by rw [h])
theorem begD_ring {l : List PD} (h0 : l ≠ []) (hc : cycL (Nx P) l) (hn : l.Nodup) : ∃ y m, begD l = y :: m ∧ RD P y m := by
  obtain ⟨k, hk⟩ : ∃ k, begTo (l.map (·.1)) l.length = k := ⟨_, rfl⟩
  have hlen : 0 < l.length := List.length_pos_iff.2 h0
  have hkl : k < l.length := by
    have := begTo_lt (r := l.map (·.1)) (by simpa using hlen) l.length (by simp)
    rw [hk] at this
    simpa using this
  have hd : l.drop k = l[k] :: l.drop (k + 1) := List.drop_eq_getElem_cons hkl
  have hb : begD l = l[k] :: (l.drop (k + 1) ++ l.take k) := by
    unfold begD
    rw [hk, hd]
    rfl
  have hp := begD_perm l
  rw [hb] at hp
  refine ⟨_, _, hb, ?_, hp.nodup_iff.2 hn, fun x hx => ?_⟩
  · have := List.take_append_drop k l
    rw [← this] at hc
    have h2 := cycL_rot hc
    rw [hd] at h2
    exact h2
  · have hxl : x ∈ l := hp.mem_iff.1 (List.mem_cons_of_mem _ hx)
    obtain ⟨i, hi, e⟩ := List.getElem_of_mem hxl
    have := begTo_min (r := l.map (·.1)) (by simpa using hlen) l.length (by simp) k (by simpa using hkl) hk i (by simpa using hi) hi
    simp only [List.getElem_map] at this
    rw [e] at this
    exact this
theorem Lk.head {R : PD → PD → Prop} {a z : PD} : ∀ {t : List PD}, Lk R a t z → ∃ b, R a b ∧ b ∈ t ++ [z]
  | [], h => ⟨z, h, by simp⟩
  | b :: t, h => ⟨b, h.1, by simp⟩
theorem RD.dir {y : PD} {m : List PD} (h : RD P y m) : (y.2 = .ri ∨ y.2 = .up) ∧ bd P y.1 y.2 = true := by
  obtain ⟨q, ⟨k, h1, h2, h3, h4, h5⟩, hq⟩ := h.lk.head
  have hb := h3 0 h1
  rw [show ((0 : Nat) : Int) = 0 from rfl, mv_zero] at hb
  refine ⟨?_, hb⟩
  have hl : ¬ lowB q.1 y.1 := by
    rcases List.mem_append.1 hq with hq | hq
    · exact h.low q hq
    · simp at hq
      subst hq
      unfold lowB
      omega
  rw [h2] at hl
  unfold lowB at hl
  cases hd : y.2 with
  | ri => exact .inl rfl
  | up => exact .inr rfl
  | le => rw [hd] at hl; simp [mv] at hl; omega
  | dn => rw [hd] at hl; simp [mv] at hl; omega
theorem RD.eq {y y' : PD} {m m' : List PD} (h : RD P y m) (h' : RD P y' m') (e : y.1 = y'.1) : y = y' ∧ m = m' := by
  obtain ⟨d1, b1⟩ := h.dir
  obtain ⟨d2, b2⟩ := h'.dir
  have hd : y.2 = y'.2 := by
    rw [← e] at b2
    rcases d1 with d1 | d1 <;> rcases d2 with d2 | d2
    · rw [d1, d2]
    · rw [d1] at b1; rw [d2] at b2; exact (otB_low _ _ _ _ b1 b2).elim
    · rw [d1] at b1; rw [d2] at b2; exact (otB_low _ _ _ _ b2 b1).elim
    · rw [d1, d2]
  have hy : y = y' := Prod.ext e hd
  subst hy
  exact ⟨rfl, Lk.uniq (R := Nx P) (fun a b c => Nx.fn) h.lk h'.lk (List.nodup_cons.1 h.nod).1 (List.nodup_cons.1 h'.nod).1⟩
def crn (c : R4 × List R4) : List PD := cor c.1 (c.2 ++ [c.1])
theorem ringOf_eq (c : R4 × List R4) : ringOf c = (begD (crn c)).map (·.1) := (begD_map _).symm
theorem crn_ring (h : ESet P es) {c : R4 × List R4} (hr : Ring1 P es c.1 c.2) : ∃ y m, begD (crn c) = y :: m ∧ RD P y m := by
  obtain ⟨a, l, h1, h2, _⟩ := ring_cor h hr
  refine begD_ring (fun e => ?_) ?_ (cor_nodup h hr)
  · have : crn c = a :: l := h1
    rw [e] at this
    cases this
  · have : crn c = a :: l := h1
    rw [this]
    exact h2
theorem crn_edge (h : ESet P es) {c : R4 × List R4} (hr : Ring1 P es c.1 c.2) {x : PD} (hx : x ∈ begD (crn c)) : ∃ f ∈ c.1 :: c.2, x = (frOf f, dirOf f) := by
  have h1 := (cor_from hr.lk).subset ((begD_perm _).mem_iff.1 hx)
  obtain ⟨f, hf, e⟩ := List.mem_map.1 h1
  exact ⟨f, (List.perm_append_singleton _ _).mem_iff.1 hf, e.symm⟩
theorem Lk.before {R : PD → PD → Prop} {z : PD} : ∀ {t : List PD} {a : PD}, Lk R a t z → ∀ x ∈ t ++ [z], ∃ b, R b x
  | [], a, h, x, hx => by simp at hx; subst hx; exact ⟨a, h⟩
  | b :: t, a, h, x, hx => by
    rcases List.mem_cons.1 hx with rfl | hx
    · exact ⟨a, h.1⟩
    · exact Lk.before h.2 x hx
theorem same_rings (h : ESet P es) (h' : ESet P es') {cs cs' : List (R4 × List R4)} (hr : Rings P es cs) (hr' : Rings P es' cs') : ∀ c ∈ cs, ∃ k ∈ cs', begD (crn c) = begD (crn k) := by
  intro c hc
  obtain ⟨y, m, e1, h1⟩ := crn_ring h (hr.ring c hc)
  obtain ⟨u, hu⟩ := Lk.before h1.lk y (by simp)
  have hbd := h1.dir.2
  have har := hu.ar
  obtain ⟨k, -, -, -, hn, hd⟩ := hu
  obtain ⟨f, hf, hfd, j, hj, hp⟩ := h'.cov _ _ hbd
  have hj0 : j = 0 := by
    rcases Nat.eq_zero_or_pos j with h0 | h0
    · exact h0
    · exfalso
      have hb2 : ∀ i : Nat, i < j → bd P (mv y.2 i (frOf f)) y.2 = true := fun i hi => h'.on f hf _ _ ⟨hfd, i, by omega, by rw [hfd]⟩
      have ha2 := bd_ar h0 hb2
      rw [← hp] at ha2
      have h3 := nxB_str _ _ _ _ _ ha2 hbd
      exact hd (nxB_inj _ _ _ _ _ _ ha2 har (h3.trans hn))
  subst hj0
  rw [show ((0 : Nat) : Int) = 0 from rfl, mv_zero] at hp
  obtain ⟨c', hc', hfc⟩ := hr'.all f hf
  have hr1 := hr'.ring c' hc'
  obtain ⟨g, hg, hgs⟩ := hr1.lk.pred f ((List.perm_append_singleton _ _).mem_iff.2 hfc)
  have hge := hr1.sub g hg
  have hto : toOf g = y.1 := hgs.1.trans hp.symm
  have hga := h'.arr hge
  have hgn : y.2 = nxd P (toOf g) (dirOf g) := hfd.trans hgs.2
  have hdg : dirOf g ≠ nxd P (toOf g) (dirOf g) := by
    rw [← hgn]
    intro e
    rw [hto] at hga hgn
    have := nxB_inj _ _ _ _ _ _ har hga (hn.symm.trans hgn)
    exact hd (e.symm.trans this.symm)
  have hin := cor_has h' hr1.lk g hg hdg
  rw [← hgn, hto] at hin
  have hin2 : y ∈ begD (crn c') := (begD_perm _).mem_iff.2 hin
  obtain ⟨y', m', e2, h2⟩ := crn_ring h' hr1
  refine ⟨c', hc', ?_⟩
  rw [e1, e2]
  rw [e2] at hin2
  obtain ⟨l1, l2, hl⟩ := List.append_of_mem hin2
  have hcy : cycL (Nx P) (l1 ++ y :: l2) := by rw [← hl]; exact h2.lk
  have hcy2 := cycL_rot hcy
  have hnd2 : (y :: l2 ++ l1).Nodup := List.perm_append_comm.nodup_iff.1 (by rw [← hl]; exact h2.nod)
  have hm : m = l2 ++ l1 := Lk.uniq (R := Nx P) (fun a b c => Nx.fn) h1.lk hcy2 (List.nodup_cons.1 h1.nod).1 (List.nodup_cons.1 hnd2).1
  have hy1 : ¬ lowB y.1 y'.1 := by
    rcases List.mem_cons.1 hin2 with e | hy
    · rw [← e]; unfold lowB; omega
    · exact h2.low y hy
  have hy2 : ¬ lowB y'.1 y.1 := by
    have h3 : y' ∈ l1 ++ y :: l2 := by rw [← hl]; exact List.mem_cons_self
    have h4 : y' ∈ y :: m := by
      rw [hm]
      simp only [List.mem_append, List.mem_cons] at h3 ⊢
      rcases h3 with h3 | h3 | h3
      · exact .inr (.inr h3)
      · exact .inl h3
      · exact .inr (.inl h3)
    rcases List.mem_cons.1 h4 with e | h4
    · rw [← e]; unfold lowB; omega
    · exact h1.low y' h4
  obtain ⟨r1, r2⟩ := h1.eq h2 (low_eq hy1 hy2)
  rw [r1, r2]
theorem rings_heads (h : ESet P es) {cs : List (R4 × List R4)} (hr : Rings P es cs) : cs.Pairwise fun c k => ∀ y m y' m', begD (crn c) = y :: m → begD (crn k) = y' :: m' → y.1 ≠ y'.1 := by
  have key : ∀ c ∈ cs, ∀ k ∈ cs, (∀ e, e ∈ c.1 :: c.2 → e ∉ k.1 :: k.2) → ∀ y m y' m', begD (crn c) = y :: m → begD (crn k) = y' :: m' → y.1 ≠ y'.1 := fun c hc k hk ha y m y' m' e1 e2 e => by
    obtain ⟨z, n, f1, g1⟩ := crn_ring h (hr.ring c hc)
    obtain ⟨z', n', f2, g2⟩ := crn_ring h (hr.ring k hk)
    rw [e1] at f1
    rw [e2] at f2
    injection f1 with f1 f3
    injection f2 with f2 f4
    subst f1 f2 f3 f4
    obtain ⟨r1, r2⟩ := g1.eq g2 e
    obtain ⟨f, hf, ef⟩ := crn_edge h (hr.ring c hc) (x := y) (by rw [e1]; simp)
    obtain ⟨g, hg, eg⟩ := crn_edge h (hr.ring k hk) (x := y') (by rw [e2]; simp)
    rw [← r1, ef] at eg
    have := h.eq_first ((hr.ring c hc).sub f hf) ((hr.ring k hk).sub g hg) (Prod.mk.inj eg).1 (Prod.mk.inj eg).2
    subst this
    exact ha f hf hg
  have hp := hr.apart
  have : ∀ l : List (R4 × List R4), (∀ c ∈ l, c ∈ cs) → l.Pairwise (fun c k => ∀ e, e ∈ c.1 :: c.2 → e ∉ k.1 :: k.2) → l.Pairwise fun c k => ∀ y m y' m', begD (crn c) = y :: m → begD (crn k) = y' :: m' → y.1 ≠ y'.1 := fun l => by
    induction l with
    | nil => exact fun _ _ => List.Pairwise.nil
    | cons c t ih =>
      intro hs hp
      obtain ⟨p1, p2⟩ := List.pairwise_cons.1 hp
      exact List.pairwise_cons.2 ⟨fun k hk => key c (hs c (by simp)) k (hs k (List.mem_cons_of_mem _ hk)) (p1 k hk), ih (fun k hk => hs k (List.mem_cons_of_mem _ hk)) p2⟩
  exact this cs (fun _ h => h) hp
end Go.Proofs.YtfmkmhhghmdakaaGreatDoor
namespace Go.Proofs.YtfmkmhhghmdakaaGreatDoor
open Go.RowKit Go.Shelf
set_option linter.unusedVariables false
set_option linter.unusedSimpArgs false
set_option maxHeartbeats 64000000
set_option maxRecDepth 100000
theorem cov_ri {a b y : Int} (h : a < b) (p : Pt) (d : Dr) : Cov ⟨a, y, b, y⟩ p d ↔ d = .ri ∧ p.2 = y ∧ a ≤ p.1 ∧ p.1 < b := by
  have hd : dirOf ⟨a, y, b, y⟩ = .ri := by simp [dirOf, h]
  have hl : lenE ⟨a, y, b, y⟩ = (b - a).natAbs := by simp [lenE]
  unfold Cov
  rw [hd, hl]
  constructor
  · rintro ⟨rfl, j, h2, rfl⟩
    exact ⟨rfl, rfl, by simp only [mv]; omega, by simp only [mv]; omega⟩
  · rintro ⟨rfl, h2, h3, h4⟩
    exact ⟨rfl, (p.1 - a).toNat, by omega, Prod.ext (by simp only [mv]; omega) h2⟩
theorem cov_le {a b y : Int} (h : a < b) (p : Pt) (d : Dr) : Cov ⟨b, y, a, y⟩ p d ↔ d = .le ∧ p.2 = y ∧ a < p.1 ∧ p.1 ≤ b := by
  have hd : dirOf ⟨b, y, a, y⟩ = .le := by simp [dirOf, h, show ¬ b < a by omega]
  have hl : lenE ⟨b, y, a, y⟩ = (a - b).natAbs := by simp [lenE]
  unfold Cov
  rw [hd, hl]
  constructor
  · rintro ⟨rfl, j, h2, rfl⟩
    exact ⟨rfl, rfl, by simp only [mv]; omega, by simp only [mv]; omega⟩
  · rintro ⟨rfl, h2, h3, h4⟩
    exact ⟨rfl, (b - p.1).toNat, by omega, Prod.ext (by simp only [mv]; omega) h2⟩
theorem cov_up {x y z : Int} (h : y < z) (p : Pt) (d : Dr) : Cov ⟨x, y, x, z⟩ p d ↔ d = .up ∧ p.1 = x ∧ y ≤ p.2 ∧ p.2 < z := by
  have hd : dirOf ⟨x, y, x, z⟩ = .up := by simp [dirOf, h]
  have hl : lenE ⟨x, y, x, z⟩ = (z - y).natAbs := by simp [lenE]
  unfold Cov
  rw [hd, hl]
  constructor
  · rintro ⟨rfl, j, h2, rfl⟩
    exact ⟨rfl, rfl, by simp only [mv]; omega, by simp only [mv]; omega⟩
  · rintro ⟨rfl, h2, h3, h4⟩
    exact ⟨rfl, (p.2 - y).toNat, by omega, Prod.ext h2 (by simp only [mv]; omega)⟩
theorem cov_dn {x y z : Int} (h : y < z) (p : Pt) (d : Dr) : Cov ⟨x, z, x, y⟩ p d ↔ d = .dn ∧ p.1 = x ∧ y < p.2 ∧ p.2 ≤ z := by
  have hd : dirOf ⟨x, z, x, y⟩ = .dn := by simp [dirOf, show ¬ z < y by omega]
  have hl : lenE ⟨x, z, x, y⟩ = (y - z).natAbs := by simp [lenE]
  unfold Cov
  rw [hd, hl]
  constructor
  · rintro ⟨rfl, j, h2, rfl⟩
    exact ⟨rfl, rfl, by simp only [mv]; omega, by simp only [mv]; omega⟩
  · rintro ⟨rfl, h2, h3, h4⟩
    exact ⟨rfl, (z - p.2).toNat, by omega, Prod.ext h2 (by simp only [mv]; omega)⟩
theorem st_h {a b y : Int} (h : a ≠ b) : StE ⟨a, y, b, y⟩ := .inr ⟨rfl, h⟩
theorem st_v {x y z : Int} (h : y ≠ z) : StE ⟨x, y, x, z⟩ := .inl ⟨rfl, h⟩
def Dj (e f : R4) : Prop := ∀ p d, Cov e p d → Cov f p d → False
structure ESub (P : Sq) (Q : Pt → Dr → Prop) (es : List R4) : Prop where
  st : ∀ e ∈ es, StE e
  on : ∀ e ∈ es, ∀ p d, Cov e p d → bd P p d = true ∧ Q p d
  cov : ∀ p d, bd P p d = true → Q p d → ∃ e ∈ es, Cov e p d
  dj : es.Pairwise Dj
theorem ESub.app {P : Sq} {Q R : Pt → Dr → Prop} {es fs : List R4} (h1 : ESub P Q es) (h2 : ESub P R fs) (hd : ∀ p d, Q p d → R p d → False) : ESub P (fun p d => Q p d ∨ R p d) (es ++ fs) := by
  refine ⟨fun e he => ?_, fun e he p d hc => ?_, fun p d hb hq => ?_, List.pairwise_append.2 ⟨h1.dj, h2.dj, fun e he f hf p d h3 h4 => ?_⟩⟩
  · rcases List.mem_append.1 he with he | he
    · exact h1.st e he
    · exact h2.st e he
  · rcases List.mem_append.1 he with he | he
    · exact ⟨(h1.on e he p d hc).1, .inl (h1.on e he p d hc).2⟩
    · exact ⟨(h2.on e he p d hc).1, .inr (h2.on e he p d hc).2⟩
  · rcases hq with hq | hq
    · obtain ⟨e, he, hc⟩ := h1.cov p d hb hq
      exact ⟨e, List.mem_append_left _ he, hc⟩
    · obtain ⟨e, he, hc⟩ := h2.cov p d hb hq
      exact ⟨e, List.mem_append_right _ he, hc⟩
  · exact hd p d (h1.on e he p d h3).2 (h2.on f hf p d h4).2
theorem ESub.imp {P : Sq} {Q R : Pt → Dr → Prop} {es : List R4} (h : ESub P Q es) (hq : ∀ p d, bd P p d = true → (Q p d ↔ R p d)) : ESub P R es :=
  ⟨h.st, fun e he p d hc => ⟨(h.on e he p d hc).1, (hq p d (h.on e he p d hc).1).1 (h.on e he p d hc).2⟩, fun p d hb hr => h.cov p d hb ((hq p d hb).2 hr), h.dj⟩
theorem ESub.all {P : Sq} {Q : Pt → Dr → Prop} {es : List R4} (h : ESub P Q es) (hq : ∀ p d, bd P p d = true → Q p d) : ESet P es := by
  refine ⟨h.st, fun e he p d hc => (h.on e he p d hc).1, fun p d hb => h.cov p d hb (hq p d hb), ?_, fun e he f hf p d h1 h2 => ?_⟩
  · have := h.dj
    have hst := h.st
    clear h
    induction es with
    | nil => exact List.nodup_nil
    | cons x t ih =>
      obtain ⟨h1, h2⟩ := List.pairwise_cons.1 this
      refine List.nodup_cons.2 ⟨fun hm => ?_, ih h2 fun e he => hst e (List.mem_cons_of_mem _ he)⟩
      have hc := cov_first (hst x (by simp))
      exact h1 x hm _ _ hc hc
  · have := h.dj
    clear h
    induction es with
    | nil => cases he
    | cons x t ih =>
      obtain ⟨g1, g2⟩ := List.pairwise_cons.1 this
      rcases List.mem_cons.1 he with ex | he2 <;> rcases List.mem_cons.1 hf with fx | hf2
      · exact ex.trans fx.symm
      · subst ex; exact (g1 f hf2 p d h1 h2).elim
      · subst fx; exact (g1 e he2 p d h2 h1).elim
      · exact ih he2 hf2 g2
theorem segF_apart {p : Int → Bool} : ∀ {l : List (Sg Unit)} {c : Int}, SegF (fun x => opt (p x)) c l → (∀ s ∈ l, c ≤ s.1) ∧ l.Pairwise fun s t => s.2.1 < t.1
  | [], _, _ => ⟨by simp, List.Pairwise.nil⟩
  | s :: t, c, ⟨h1, h2, h3, h4, h5, h6⟩ => by
    obtain ⟨i1, i2⟩ := segF_apart h6
    refine ⟨fun q hq => ?_, List.pairwise_cons.2 ⟨fun q hq => ?_, i2⟩⟩
    · rcases List.mem_cons.1 hq with rfl | hq
      · exact h1
      · have := i1 q hq; omega
    · have h7 := i1 q hq
      rcases Int.lt_or_eq_of_le h7 with h8 | h8
      · exact h8
      · exfalso
        have h9 := segF_pos h6 q hq
        have h10 := (SegF.mem h6 q.1 () (by omega)).2 ⟨q, hq, Int.le_refl _, h9, rfl⟩
        rw [← h8] at h10
        exact h5 h10
theorem segs_mem {p : Int → Bool} {v : List (Sg Unit)} (h : Segs (fun x => opt (p x)) v) : (∀ s ∈ v, s.1 < s.2.1) ∧ (∀ x, p x = true ↔ ∃ s ∈ v, s.1 ≤ x ∧ x < s.2.1) ∧ (∀ s ∈ v, p s.2.1 = false ∧ p (s.1 - 1) = false) ∧ v.Pairwise fun s t => s.2.1 < t.1 := by
  obtain ⟨c, hc, hl⟩ := h
  have h1 := segF_pos hl
  have h2 : ∀ x, p x = true ↔ ∃ s ∈ v, s.1 ≤ x ∧ x < s.2.1 := fun x => by
    rcases Int.lt_or_le x c with h | h
    · have h3 := (opt_none _).1 (hc x h)
      rw [h3]
      refine ⟨(fun e => by cases e), fun ⟨s, hs, h4, _⟩ => ?_⟩
      have := (segF_apart hl).1 s hs
      omega
    · have h3 := SegF.mem hl x () h
      rw [opt_some] at h3
      rw [h3]
      exact ⟨fun ⟨s, a, b, c, _⟩ => ⟨s, a, b, c⟩, fun ⟨s, a, b, c⟩ => ⟨s, a, b, c, rfl⟩⟩
  have h3 := (segF_apart hl).2
  have h4 : ∀ s ∈ v, ∀ t ∈ v, s = t ∨ s.2.1 < t.1 ∨ t.2.1 < s.1 := by
    clear hl h1 h2
    induction v with
    | nil => intro s hs; cases hs
    | cons a v ih =>
      obtain ⟨g1, g2⟩ := List.pairwise_cons.1 h3
      intro s hs t ht
      rcases List.mem_cons.1 hs with es | hs2 <;> rcases List.mem_cons.1 ht with et | ht2
      · exact .inl (es.trans et.symm)
      · subst es; exact .inr (.inl (g1 t ht2))
      · subst et; exact .inr (.inr (g1 s hs2))
      · exact ih g2 s hs2 t ht2
  refine ⟨h1, h2, fun s hs => ⟨?_, ?_⟩, h3⟩
  · cases hp : p s.2.1 with
    | false => rfl
    | true =>
      obtain ⟨t, ht, a, b⟩ := (h2 _).1 hp
      have := h1 s hs
      rcases h4 s hs t ht with e | e | e
      · subst e; omega
      · omega
      · omega
  · cases hp : p (s.1 - 1) with
    | false => rfl
    | true =>
      obtain ⟨t, ht, a, b⟩ := (h2 _).1 hp
      have := h1 s hs
      rcases h4 s hs t ht with e | e | e
      · subst e; omega
      · omega
      · omega
theorem esub_map {P : Sq} {Q : Pt → Dr → Prop} {v : List (Sg Unit)} {g : Sg Unit → R4} (hst : ∀ s ∈ v, StE (g s)) (hon : ∀ s ∈ v, ∀ p d, Cov (g s) p d → bd P p d = true ∧ Q p d) (hcov : ∀ p d, bd P p d = true → Q p d → ∃ s ∈ v, Cov (g s) p d) (hdj : v.Pairwise fun s t => Dj (g s) (g t)) : ESub P Q (v.map g) := by
  refine ⟨fun e he => ?_, fun e he => ?_, fun p d hb hq => ?_, List.pairwise_map.2 hdj⟩
  · obtain ⟨s, hs, rfl⟩ := List.mem_map.1 he
    exact hst s hs
  · obtain ⟨s, hs, rfl⟩ := List.mem_map.1 he
    exact hon s hs
  · obtain ⟨s, hs, h⟩ := hcov p d hb hq
    exact ⟨g s, List.mem_map.2 ⟨s, hs, rfl⟩, h⟩
theorem bd_ri (P : Sq) (p : Pt) : bd P p .ri = (P p.1 p.2 && !P p.1 (p.2 - 1)) := rfl
theorem bd_le (P : Sq) (p : Pt) : bd P p .le = (P (p.1 - 1) (p.2 - 1) && !P (p.1 - 1) p.2) := rfl
theorem bd_up (P : Sq) (p : Pt) : bd P p .up = (P (p.1 - 1) p.2 && !P p.1 p.2) := rfl
theorem bd_dn (P : Sq) (p : Pt) : bd P p .dn = (P p.1 (p.2 - 1) && !P (p.1 - 1) (p.2 - 1)) := rfl
theorem level_sub (l : List R4) (hl : ∀ q ∈ l, q.l < q.r) (y : Int) : ESub (inL l) (fun p d => (d = .ri ∨ d = .le) ∧ p.2 = y) (levelP (rowP l (y - 1)) (rowP l y) y) := by
  have hpos : ∀ y, ∀ s ∈ rowP l y, s.1 < s.2.1 := fun y => by
    obtain ⟨c, _, h⟩ := rowP_segs l y hl
    exact segF_pos h
  obtain ⟨v, hv, ev⟩ := rows_choose (rowP l y) (rowP l (y - 1)) (hpos _) (hpos _)
  obtain ⟨u, hu, eu⟩ := rows_choose (rowP l (y - 1)) (rowP l y) (hpos _) (hpos _)
  obtain ⟨v1, v2, -, v3⟩ := segs_mem hv
  obtain ⟨u1, u2, -, u3⟩ := segs_mem hu
  simp only [inR_row l _ _ hl] at v2 u2
  unfold levelP
  rw [ev, eu]
  unfold rr
  rw [List.map_map, List.map_map]
  have h1 : ESub (inL l) (fun p d => d = .ri ∧ p.2 = y) (v.map ((fun r : R4 => (⟨r.l, y, r.r, y⟩ : R4)) ∘ fun s : Sg Unit => (⟨s.1, 0, s.2.1, 1⟩ : R4))) := by
    refine esub_map (fun s hs => st_h (Int.ne_of_lt (v1 s hs))) (fun s hs p d hc => ?_) (fun p d hb hq => ?_) (v3.imp_of_mem fun {s t} hs ht hst p d h1 h2 => ?_)
    · obtain ⟨rfl, e1, e2, e3⟩ := (cov_ri (v1 s hs) p d).1 hc
      refine ⟨?_, rfl, e1⟩
      rw [bd_ri, e1]
      exact (v2 p.1).2 ⟨s, hs, e2, e3⟩
    · obtain ⟨rfl, e1⟩ := hq
      rw [bd_ri, e1] at hb
      obtain ⟨s, hs, a, b⟩ := (v2 p.1).1 hb
      exact ⟨s, hs, (cov_ri (v1 s hs) p .ri).2 ⟨rfl, e1, a, b⟩⟩
    · obtain ⟨_, _, _, a⟩ := (cov_ri (v1 s hs) p d).1 h1
      obtain ⟨_, _, b, _⟩ := (cov_ri (v1 t ht) p d).1 h2
      omega
  have h2 : ESub (inL l) (fun p d => d = .le ∧ p.2 = y) (u.map ((fun r : R4 => (⟨r.r, y, r.l, y⟩ : R4)) ∘ fun s : Sg Unit => (⟨s.1, 0, s.2.1, 1⟩ : R4))) := by
    refine esub_map (fun s hs => st_h (Int.ne_of_gt (u1 s hs))) (fun s hs p d hc => ?_) (fun p d hb hq => ?_) (u3.imp_of_mem fun {s t} hs ht hst p d h1 h2 => ?_)
    · obtain ⟨rfl, e1, e2, e3⟩ := (cov_le (u1 s hs) p d).1 hc
      refine ⟨?_, rfl, e1⟩
      rw [bd_le, e1]
      exact (u2 (p.1 - 1)).2 ⟨s, hs, by omega, by omega⟩
    · obtain ⟨rfl, e1⟩ := hq
      rw [bd_le, e1] at hb
      obtain ⟨s, hs, a, b⟩ := (u2 (p.1 - 1)).1 hb
      exact ⟨s, hs, (cov_le (u1 s hs) p .le).2 ⟨rfl, e1, by omega, by omega⟩⟩
    · obtain ⟨_, _, _, a⟩ := (cov_le (u1 s hs) p d).1 h1
      obtain ⟨_, _, b, _⟩ := (cov_le (u1 t ht) p d).1 h2
      omega
  refine (h1.app h2 (fun p d a b => by rw [a.1] at b; cases b.1)).imp fun p d _ => ?_
  constructor
  · rintro (⟨a, b⟩ | ⟨a, b⟩)
    · exact ⟨.inl a, b⟩
    · exact ⟨.inr a, b⟩
  · rintro ⟨a | a, b⟩
    · exact .inl ⟨a, b⟩
    · exact .inr ⟨a, b⟩
theorem walls_sub (l : List R4) (hl : ∀ q ∈ l, q.l < q.r) (y y' : Int) (hy : y < y') (hsame : ∀ z, y ≤ z → z < y' → ∀ x, inL l x z = inL l x y) :
    ESub (inL l) (fun p d => (d = .up ∧ y ≤ p.2 ∧ p.2 < y') ∨ (d = .dn ∧ y < p.2 ∧ p.2 ≤ y')) (wallsP (rowP l y) y y') := by
  have hv := rowP_segs l y hl
  obtain ⟨v1, v2, v4, v3⟩ := segs_mem hv
  generalize rowP l y = v at *
  unfold wallsP
  have hsh : ∀ s ∈ v, inL l s.1 y = true ∧ inL l (s.2.1 - 1) y = true := fun s hs => ⟨(v2 _).2 ⟨s, hs, by have := v1 s hs; omega, by have := v1 s hs; omega⟩, (v2 _).2 ⟨s, hs, by have := v1 s hs; omega, by have := v1 s hs; omega⟩⟩
  refine ⟨fun e he => ?_, fun e he p d hc => ?_, fun p d hb hq => ?_, ?_⟩
  · obtain ⟨s, hs, he⟩ := List.mem_flatMap.1 he
    simp only [List.mem_cons, List.not_mem_nil, or_false] at he
    rcases he with rfl | rfl
    · exact st_v (by omega)
    · exact st_v (by omega)
  · obtain ⟨s, hs, he⟩ := List.mem_flatMap.1 he
    simp only [List.mem_cons, List.not_mem_nil, or_false] at he
    rcases he with rfl | rfl
    · obtain ⟨rfl, e1, e2, e3⟩ := (cov_dn hy p d).1 hc
      refine ⟨?_, .inr ⟨rfl, e2, e3⟩⟩
      rw [bd_dn, e1, hsame (p.2 - 1) (by omega) (by omega), hsame (p.2 - 1) (by omega) (by omega), (hsh s hs).1, (v4 s hs).2]
      rfl
    · obtain ⟨rfl, e1, e2, e3⟩ := (cov_up hy p d).1 hc
      refine ⟨?_, .inl ⟨rfl, e2, e3⟩⟩
      rw [bd_up, e1, hsame p.2 (by omega) (by omega), hsame p.2 (by omega) (by omega), (hsh s hs).2, (v4 s hs).1]
      rfl
  · rcases hq with ⟨rfl, e1, e2⟩ | ⟨rfl, e1, e2⟩
    · rw [bd_up, hsame p.2 (by omega) (by omega), hsame p.2 (by omega) (by omega)] at hb
      simp only [Bool.and_eq_true, Bool.not_eq_true'] at hb
      obtain ⟨s, hs, a, b⟩ := (v2 _).1 hb.1
      have hx : s.2.1 = p.1 := by
        rcases Int.lt_or_le p.1 s.2.1 with h | h
        · have := (v2 p.1).2 ⟨s, hs, by omega, h⟩
          rw [hb.2] at this
          cases this
        · omega
      exact ⟨_, List.mem_flatMap.2 ⟨s, hs, List.mem_cons_of_mem _ List.mem_cons_self⟩, (cov_up hy p .up).2 ⟨rfl, hx.symm, e1, e2⟩⟩
    · rw [bd_dn, hsame (p.2 - 1) (by omega) (by omega), hsame (p.2 - 1) (by omega) (by omega)] at hb
      simp only [Bool.and_eq_true, Bool.not_eq_true'] at hb
      obtain ⟨s, hs, a, b⟩ := (v2 _).1 hb.1
      have hx : s.1 = p.1 := by
        rcases Int.lt_or_le s.1 p.1 with h | h
        · have := (v2 (p.1 - 1)).2 ⟨s, hs, by omega, by omega⟩
          rw [hb.2] at this
          cases this
        · omega
      exact ⟨_, List.mem_flatMap.2 ⟨s, hs, List.mem_cons_self⟩, (cov_dn hy p .dn).2 ⟨rfl, hx.symm, e1, e2⟩⟩
  · clear hsh v2 v4 hv hsame
    induction v with
    | nil => exact List.Pairwise.nil
    | cons s t ih =>
      obtain ⟨g1, g2⟩ := List.pairwise_cons.1 v3
      have hs := v1 s (by simp)
      rw [List.flatMap_cons]
      refine List.pairwise_append.2 ⟨?_, ih (fun q hq => v1 q (List.mem_cons_of_mem _ hq)) g2, fun e he f hf p d h1 h2 => ?_⟩
      · refine List.pairwise_cons.2 ⟨fun f hf p d h1 h2 => ?_, List.pairwise_singleton _ _⟩
        simp only [List.mem_cons, List.not_mem_nil, or_false] at hf
        subst hf
        have a := ((cov_dn hy p d).1 h1).1
        have b := ((cov_up hy p d).1 h2).1
        rw [a] at b
        cases b
      · obtain ⟨q, hq, hf⟩ := List.mem_flatMap.1 hf
        have h3 := g1 q hq
        have h4 := v1 q (List.mem_cons_of_mem _ hq)
        simp only [List.mem_cons, List.not_mem_nil, or_false] at he hf
        have a : p.1 = s.1 ∨ p.1 = s.2.1 := by
          rcases he with rfl | rfl
          · exact .inl ((cov_dn hy p d).1 h1).2.1
          · exact .inr ((cov_up hy p d).1 h1).2.1
        have b : p.1 = q.1 ∨ p.1 = q.2.1 := by
          rcases hf with rfl | rfl
          · exact .inl ((cov_dn hy p d).1 h2).2.1
          · exact .inr ((cov_up hy p d).1 h2).2.1
        omega
def From (y : Int) (p : Pt) (d : Dr) : Prop := y ≤ p.2 ∧ (d = .dn → y < p.2)
theorem edgesC_sub (l : List R4) (hl : ∀ q ∈ l, q.l < q.r) : ∀ (r : List Int) (y : Int), (y :: r).Pairwise (· < ·) → (∀ z, y ≤ z → z ∉ y :: r → ∀ x, inL l x z = inL l x (z - 1)) → (∀ z, (∀ k ∈ y :: r, k ≤ z) → ∀ x, inL l x z = false) →
    ESub (inL l) (From y) (edgesC l (y :: r))
  | [], y, hp, hs, h0 => by
    refine (level_sub l hl y).imp fun p d hb => ?_
    have hz : ∀ z, y ≤ z → ∀ x, inL l x z = false := fun z hz => h0 z fun k hk => by simp at hk; omega
    unfold From
    constructor
    · rintro ⟨a, b⟩
      exact ⟨by omega, fun e => by rw [e] at a; rcases a with a | a <;> cases a⟩
    · rintro ⟨a, b⟩
      cases d with
      | ri => rw [bd_ri, hz p.2 a] at hb; cases hb
      | le =>
        rcases Int.lt_or_eq_of_le a with h | h
        · rw [bd_le, hz (p.2 - 1) (by omega)] at hb; cases hb
        · exact ⟨.inr rfl, h.symm⟩
      | up => rw [bd_up, hz p.2 a] at hb; cases hb
      | dn => rw [bd_dn, hz (p.2 - 1) (by have := b rfl; omega)] at hb; cases hb
  | y' :: r, y, hp, hs, h0 => by
    obtain ⟨p1, p2⟩ := List.pairwise_cons.1 hp
    have hy := p1 y' (by simp)
    have ih := edgesC_sub l hl r y' p2 (fun z hz hm => hs z (by omega) fun h => by
      rcases List.mem_cons.1 h with h | h
      · omega
      · exact hm h) (fun z hz => h0 z fun k hk => by
      rcases List.mem_cons.1 hk with rfl | hk
      · have := hz y' (by simp); omega
      · exact hz k hk)
    have hnot : ∀ z, y < z → z < y' → z ∉ y :: y' :: r := fun z h1 h2 hm => by
      rcases List.mem_cons.1 hm with h | h
      · omega
      · rcases List.mem_cons.1 h with h | h
        · omega
        · have := (List.pairwise_cons.1 p2).1 z h; omega
    have hsame : ∀ (n : Nat) z, y ≤ z → z < y' → z = y + n → ∀ x, inL l x z = inL l x y := fun n => by
      induction n with
      | zero => intro z h1 h2 e x; rw [show z = y by omega]
      | succ n ih2 => intro z h1 h2 e x; rw [hs z (by omega) (hnot z (by omega) h2), ih2 (z - 1) (by omega) (by omega) (by omega)]
    have hsame2 : ∀ z, y ≤ z → z < y' → ∀ x, inL l x z = inL l x y := fun z h1 h2 => hsame (z - y).toNat z h1 h2 (by omega)
    show ESub _ _ (levelP (rowP l (y - 1)) (rowP l y) y ++ wallsP (rowP l y) y y' ++ edgesC l (y' :: r))
    refine (((level_sub l hl y).app (walls_sub l hl y y' hy hsame2) fun p d a b => ?_).app ih fun p d a b => ?_).imp fun p d hb => ?_
    · rcases a.1 with e | e <;> rcases b with ⟨f, _⟩ | ⟨f, _⟩ <;> rw [e] at f <;> cases f
    · obtain ⟨b1, b2⟩ := b
      rcases a with ⟨a1, a2⟩ | ⟨a1, a2, a3⟩ | ⟨a1, a2, a3⟩
      · omega
      · omega
      · have := b2 a1; omega
    · unfold From
      constructor
      · rintro ((⟨a, b⟩ | ⟨a, b, c⟩ | ⟨a, b, c⟩) | ⟨a, b⟩)
        · exact ⟨by omega, fun e => by rw [e] at a; rcases a with a | a <;> cases a⟩
        · exact ⟨by omega, fun e => by rw [e] at a; cases a⟩
        · exact ⟨by omega, fun e => b⟩
        · exact ⟨by omega, fun e => by have := b e; omega⟩
      · rintro ⟨a, b⟩
        cases d with
        | up =>
          rcases Int.lt_or_le p.2 y' with h | h
          · exact .inl (.inr (.inl ⟨rfl, a, h⟩))
          · exact .inr ⟨h, fun e => by cases e⟩
        | dn =>
          rcases Int.lt_or_le y' p.2 with h | h
          · exact .inr ⟨by omega, fun _ => h⟩
          · exact .inl (.inr (.inr ⟨rfl, b rfl, h⟩))
        | ri =>
          rcases Int.lt_or_le p.2 y' with h | h
          · rcases Int.lt_or_eq_of_le a with h2 | h2
            · rw [bd_ri, hs p.2 a (hnot p.2 h2 h)] at hb
              simp at hb
            · exact .inl (.inl ⟨.inl rfl, h2.symm⟩)
          · exact .inr ⟨h, fun e => by cases e⟩
        | le =>
          rcases Int.lt_or_le p.2 y' with h | h
          · rcases Int.lt_or_eq_of_le a with h2 | h2
            · rw [bd_le, hs p.2 a (hnot p.2 h2 h)] at hb
              simp at hb
            · exact .inl (.inl ⟨.inr rfl, h2.symm⟩)
          · exact .inr ⟨h, fun e => by cases e⟩
theorem edges_set (l : List R4) (hl : ∀ q ∈ l, q.l < q.r) : ESet (inL l) (edgesP l) := by
  have hc := (asc_all (yEdges l)).1
  have hs := inL_same_y (l := l) (ys := cutsP l) fun q hq => cutsP_mem hq
  have ho := fun z hz x => inL_out_y l x (cutsP l) (fun q hq => cutsP_mem hq) z hz
  have hp : (cutsP l).Pairwise (· < ·) := hc
  unfold edgesP
  cases hcp : cutsP l with
  | nil =>
    rw [hcp] at ho
    have hz : ∀ z x, inL l x z = false := fun z => ho z (.inl (by simp))
    refine ⟨by simp [edgesC], by simp [edgesC], fun p d hb => ?_, List.nodup_nil, by simp [edgesC]⟩
    cases d with
    | ri => rw [bd_ri, hz] at hb; cases hb
    | le => rw [bd_le, hz] at hb; cases hb
    | up => rw [bd_up, hz] at hb; cases hb
    | dn => rw [bd_dn, hz] at hb; cases hb
  | cons y r =>
    rw [hcp] at hp hs ho
    have hlow : ∀ z, z < y → ∀ x, inL l x z = false := fun z hz => ho z (.inl fun k hk => by
      rcases List.mem_cons.1 hk with rfl | hk
      · exact hz
      · have := (List.pairwise_cons.1 hp).1 k hk; omega)
    refine (edgesC_sub l hl r y hp (fun z _ hm => hs z hm) (fun z hz => ho z (.inr hz))).all fun p d hb => ?_
    unfold From
    cases d with
    | ri =>
      refine ⟨?_, fun e => by cases e⟩
      rcases Int.lt_or_le p.2 y with h | h
      · rw [bd_ri, hlow p.2 h] at hb; cases hb
      · exact h
    | le =>
      refine ⟨?_, fun e => by cases e⟩
      rcases Int.lt_or_le p.2 y with h | h
      · rw [bd_le, hlow (p.2 - 1) (by omega)] at hb; cases hb
      · exact h
    | up =>
      refine ⟨?_, fun e => by cases e⟩
      rcases Int.lt_or_le p.2 y with h | h
      · rw [bd_up, hlow p.2 h] at hb; cases hb
      · exact h
    | dn =>
      have : y < p.2 := by
        rcases Int.lt_or_le (p.2 - 1) y with h | h
        · rw [bd_dn, hlow (p.2 - 1) (by omega)] at hb; cases hb
        · omega
      exact ⟨by omega, fun _ => this⟩
end Go.Proofs.YtfmkmhhghmdakaaGreatDoor
namespace Go.Proofs.YtfmkmhhghmdakaaGreatDoor
set_option maxHeartbeats 64000000
set_option maxRecDepth 100000
open Go.RowKit Go.Shelf
set_option linter.unusedVariables false
set_option linter.unusedSimpArgs false
variable {P : Sq} {es : List R4}
def isH : Dr → Bool
  | .ri => true
  | .le => true
  | _ => false
def Sd (P : Sq) (n : Int) : Prop := ∀ x y, P x y = true → 0 ≤ x ∧ x < n ∧ 0 ≤ y ∧ y < n
theorem Sd.bd {n : Int} (h : Sd P n) {p : Pt} {d : Dr} (hb : bd P p d = true) : 0 ≤ p.1 ∧ p.1 ≤ n ∧ 0 ≤ p.2 ∧ p.2 ≤ n := by
  cases d with
  | ri => rw [bd_ri, Bool.and_eq_true] at hb; have := h _ _ hb.1; omega
  | le => rw [bd_le, Bool.and_eq_true] at hb; have := h _ _ hb.1; omega
  | up => rw [bd_up, Bool.and_eq_true] at hb; have := h _ _ hb.1; omega
  | dn => rw [bd_dn, Bool.and_eq_true] at hb; have := h _ _ hb.1; omega
theorem nodup_le : ∀ (n : Nat) (l : List Nat), l.Nodup → (∀ a ∈ l, a < n) → l.length ≤ n
  | 0, l, _, h => by
    cases l with
    | nil => simp
    | cons a t => have := h a (by simp); omega
  | n + 1, l, hn, h => by
    have h1 := nodup_le n (l.erase n) (hn.erase n) fun a ha => by
      have h2 := (hn.mem_erase_iff).1 ha
      have := h a h2.2
      omega
    rw [List.length_erase] at h1
    split at h1 <;> omega
def code (n : Int) (p : Pt) : Dr → Int
  | .ri => p.2 * n + p.1
  | .le => p.2 * n + (p.1 - 1)
  | .up => n * (n + 1) + (p.1 * n + p.2)
  | .dn => n * (n + 1) + (p.1 * n + (p.2 - 1))
theorem pair_inj {n x y x' y' : Int} (hx : 0 ≤ x ∧ x < n) (hx' : 0 ≤ x' ∧ x' < n) (h : y * n + x = y' * n + x') : x = x' ∧ y = y' := by
  have h1 : (y * n + x) % n = x := by rw [Int.add_comm, Int.add_mul_emod_self_right, Int.emod_eq_of_lt hx.1 hx.2]
  have h2 : (y' * n + x') % n = x' := by rw [Int.add_comm, Int.add_mul_emod_self_right, Int.emod_eq_of_lt hx'.1 hx'.2]
  have h3 : x = x' := by rw [← h1, ← h2, h]
  subst h3
  refine ⟨rfl, ?_⟩
  have h4 : y * n = y' * n := by omega
  exact Int.eq_of_mul_eq_mul_right (by omega) h4
theorem pair_lt {n x y : Int} (hx : 0 ≤ x ∧ x < n) (hy : 0 ≤ y ∧ y ≤ n) : 0 ≤ y * n + x ∧ y * n + x < n * (n + 1) := by
  have h1 : 0 ≤ y * n := Int.mul_nonneg hy.1 (by omega)
  have h2 : y * n ≤ n * n := Int.mul_le_mul_of_nonneg_right hy.2 (by omega)
  rw [Int.mul_add]
  omega
theorem Sd.code {n : Int} (h : Sd P n) {p : Pt} {d : Dr} (hb : _root_.Go.Proofs.YtfmkmhhghmdakaaGreatDoor.bd P p d = true) : ∃ x y, 0 ≤ x ∧ x < n ∧ 0 ≤ y ∧ y ≤ n ∧ ((isH d = true ∧ _root_.Go.Proofs.YtfmkmhhghmdakaaGreatDoor.code n p d = y * n + x ∧ p.2 = y ∧ ((d = .ri ∧ p.1 = x ∧ P x y = true) ∨ (d = .le ∧ p.1 = x + 1 ∧ P x y = false))) ∨ (isH d = false ∧ _root_.Go.Proofs.YtfmkmhhghmdakaaGreatDoor.code n p d = n * (n + 1) + (y * n + x) ∧ p.1 = y ∧ ((d = .up ∧ p.2 = x ∧ P y x = false) ∨ (d = .dn ∧ p.2 = x + 1 ∧ P y x = true)))) := by
  cases d with
  | ri =>
    rw [bd_ri, Bool.and_eq_true] at hb
    have := h _ _ hb.1
    exact ⟨p.1, p.2, by omega, by omega, by omega, by omega, .inl ⟨rfl, rfl, rfl, .inl ⟨rfl, rfl, hb.1⟩⟩⟩
  | le =>
    rw [bd_le, Bool.and_eq_true, Bool.not_eq_true'] at hb
    have := h _ _ hb.1
    exact ⟨p.1 - 1, p.2, by omega, by omega, by omega, by omega, .inl ⟨rfl, rfl, rfl, .inr ⟨rfl, by omega, hb.2⟩⟩⟩
  | up =>
    rw [bd_up, Bool.and_eq_true, Bool.not_eq_true'] at hb
    have := h _ _ hb.1
    exact ⟨p.2, p.1, by omega, by omega, by omega, by omega, .inr ⟨rfl, rfl, rfl, .inl ⟨rfl, rfl, hb.2⟩⟩⟩
  | dn =>
    rw [bd_dn, Bool.and_eq_true, Bool.not_eq_true'] at hb
    have := h _ _ hb.1
    exact ⟨p.2 - 1, p.1, by omega, by omega, by omega, by omega, .inr ⟨rfl, rfl, rfl, .inr ⟨rfl, by omega, hb.1⟩⟩⟩
theorem code_inj {n : Int} (h : Sd P n) {p q : Pt} {d f : Dr} (h1 : bd P p d = true) (h2 : bd P q f = true) (e : code n p d = code n q f) : p = q ∧ d = f := by
  obtain ⟨x, y, a1, a2, a3, a4, a5⟩ := h.code h1
  obtain ⟨x', y', b1, b2, b3, b4, b5⟩ := h.code h2
  have l1 := pair_lt ⟨a1, a2⟩ ⟨a3, a4⟩
  have l2 := pair_lt ⟨b1, b2⟩ ⟨b3, b4⟩
  rcases a5 with ⟨-, a5, a6, a7⟩ | ⟨-, a5, a6, a7⟩ <;> rcases b5 with ⟨-, b5, b6, b7⟩ | ⟨-, b5, b6, b7⟩ <;> rw [a5, b5] at e
  · obtain ⟨rfl, rfl⟩ := pair_inj ⟨a1, a2⟩ ⟨b1, b2⟩ e
    rcases a7 with ⟨rfl, a8, a9⟩ | ⟨rfl, a8, a9⟩ <;> rcases b7 with ⟨rfl, b8, b9⟩ | ⟨rfl, b8, b9⟩
    · exact ⟨Prod.ext (by omega) (by omega), rfl⟩
    · rw [a9] at b9; cases b9
    · rw [a9] at b9; cases b9
    · exact ⟨Prod.ext (by omega) (by omega), rfl⟩
  · omega
  · omega
  · obtain ⟨rfl, rfl⟩ := pair_inj (y := y) (y' := y') ⟨a1, a2⟩ ⟨b1, b2⟩ (by omega)
    rcases a7 with ⟨rfl, a8, a9⟩ | ⟨rfl, a8, a9⟩ <;> rcases b7 with ⟨rfl, b8, b9⟩ | ⟨rfl, b8, b9⟩
    · exact ⟨Prod.ext (by omega) (by omega), rfl⟩
    · rw [a9] at b9; cases b9
    · rw [a9] at b9; cases b9
    · exact ⟨Prod.ext (by omega) (by omega), rfl⟩
theorem eset_len (h : ESet P es) {n : Nat} (hs : Sd P n) : es.length ≤ 2 * (n * (n + 1)) := by
  have h1 := nodup_le (2 * (n * (n + 1))) (es.map fun e => (code n (frOf e) (dirOf e)).toNat) ?_ ?_
  · simpa using h1
  · have hn := h.nod
    have hall : ∀ e ∈ es, e ∈ es := fun _ h => h
    have key : ∀ l : List R4, (∀ e ∈ l, e ∈ es) → l.Nodup → (l.map fun e => (code n (frOf e) (dirOf e)).toNat).Nodup := fun l => by
      induction l with
      | nil => intro _ _; exact List.nodup_nil
      | cons x t ih =>
        intro g1 g2
        obtain ⟨g3, g4⟩ := List.nodup_cons.1 g2
        rw [List.map_cons]
        refine List.nodup_cons.2 ⟨fun hm => ?_, ih (fun e he => g1 e (List.mem_cons_of_mem _ he)) g4⟩
        obtain ⟨z, hz, ez⟩ := List.mem_map.1 hm
        have b1 := h.out (g1 x (by simp))
        have b2 := h.out (g1 z (List.mem_cons_of_mem _ hz))
        obtain ⟨_, _, a1, a2, a3, a4, a5⟩ := hs.code b1
        obtain ⟨_, _, c1, c2, c3, c4, c5⟩ := hs.code b2
        have l1 := pair_lt ⟨a1, a2⟩ ⟨a3, a4⟩
        have l2 := pair_lt ⟨c1, c2⟩ ⟨c3, c4⟩
        have hnn : 0 ≤ (n : Int) * ((n : Int) + 1) := Int.mul_nonneg (by omega) (by omega)
        have e2 : code n (frOf z) (dirOf z) = code n (frOf x) (dirOf x) := by
          rcases a5 with ⟨_, a5, _⟩ | ⟨_, a5, _⟩ <;> rcases c5 with ⟨_, c5, _⟩ | ⟨_, c5, _⟩ <;> omega
        obtain ⟨q1, q2⟩ := code_inj hs b2 b1 e2
        have := h.eq_first (g1 z (List.mem_cons_of_mem _ hz)) (g1 x (by simp)) q1 q2
        subst this
        exact g3 hz
    exact key es hall hn
  · intro a ha
    obtain ⟨z, hz, rfl⟩ := List.mem_map.1 ha
    obtain ⟨_, _, c1, c2, c3, c4, c5⟩ := hs.code (h.out hz)
    have l2 := pair_lt ⟨c1, c2⟩ ⟨c3, c4⟩
    have hc : ((n * (n + 1) : Nat) : Int) = (n : Int) * ((n : Int) + 1) := by simp
    rcases c5 with ⟨_, c5, _⟩ | ⟨_, c5, _⟩ <;> omega
end Go.Proofs.YtfmkmhhghmdakaaGreatDoor
namespace Go.Proofs.YtfmkmhhghmdakaaGreatDoor
set_option maxHeartbeats 64000000
set_option maxRecDepth 100000
open Go.RowKit Go.Shelf
set_option linter.unusedVariables false
set_option linter.unusedSimpArgs false
variable {P : Sq} {es : List R4}
def i1 (p : Prop) [Decidable p] : Int := if p then 1 else 0
def vD (X Y : Int) (e : R4) : Prop := e.l = e.r ∧ e.l = X ∧ e.t ≤ Y ∧ Y < e.b
def vU (X Y : Int) (e : R4) : Prop := e.l = e.r ∧ e.l = X ∧ e.b ≤ Y ∧ Y < e.t
def hR (X Y : Int) (e : R4) : Prop := e.b = e.t ∧ e.b = Y ∧ e.l ≤ X ∧ X < e.r
def hL (X Y : Int) (e : R4) : Prop := e.b = e.t ∧ e.b = Y ∧ e.r ≤ X ∧ X < e.l
instance (X Y : Int) (e : R4) : Decidable (vD X Y e) := by unfold vD; exact inferInstance
instance (X Y : Int) (e : R4) : Decidable (vU X Y e) := by unfold vU; exact inferInstance
instance (X Y : Int) (e : R4) : Decidable (hR X Y e) := by unfold hR; exact inferInstance
instance (X Y : Int) (e : R4) : Decidable (hL X Y e) := by unfold hL; exact inferInstance
end Go.Proofs.YtfmkmhhghmdakaaGreatDoor
namespace Go.Proofs.YtfmkmhhghmdakaaGreatDoor
set_option maxHeartbeats 64000000
set_option maxRecDepth 100000
open Go.RowKit Go.Shelf
set_option linter.unusedVariables false
set_option linter.unusedSimpArgs false
variable {P : Sq} {es : List R4}
end Go.Proofs.YtfmkmhhghmdakaaGreatDoor
namespace Go.Proofs.YtfmkmhhghmdakaaGreatDoor
set_option maxHeartbeats 64000000
set_option maxRecDepth 100000
open Go.RowKit Go.Shelf
set_option linter.unusedVariables false
set_option linter.unusedSimpArgs false
variable {P : Sq} {es : List R4}
end Go.Proofs.YtfmkmhhghmdakaaGreatDoor
