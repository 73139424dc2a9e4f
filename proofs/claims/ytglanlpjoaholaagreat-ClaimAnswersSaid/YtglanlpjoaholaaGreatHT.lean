/- A region that draws its order and ends in a tail of forced order: its head under a condition that the tail need not keep. No function of the program is met here. -/
import Derived.Test.YtglanlpjoaholaaGreatB
import Derived.StillTail
namespace Go.Proofs.YtglanlpjoaholaaGreat
open Go.RowKit Go
set_option linter.unusedVariables false

section
variable {P : Program} {md : Region.Mode}
/-- The post of the head: at its end T holds. -/
def tailQ (T : Act → World → Prop) (Q : Exit → Act → World → Prop) : Exit → Act → World → Prop
  | .normal, a, w => T a w
  | e, a, w => Q e a w
/-- No guards; each of the head waits for those before it at most, and is waited for; each of the tail behind its first waits for one of the tail. -/
def headB (md : Region.Mode) (l : List Oper) (n : Nat) : Bool :=
  l.all (fun o => o.guard.isNone) &&
  (List.range n).all (fun i => ((l[i]?).map fun o => o.after.all fun e => !Region.binds md e || decide (e.on < i)).getD true) &&
  decide (n < l.length) && Region.sinkB md l.toArray n && (List.range l.length).all (fun t => decide (t ≤ n) || (List.range t).any fun j => decide (n ≤ j) && Region.waitsFor md l.toArray t j)
def listedAt (n g : Nat) : Array Bool := (List.replicate n true ++ List.replicate g false).toArray
theorem out_tail {T : Act → World → Prop} {Q : Exit → Act → World → Prop} (h : LetsOut (tailQ T Q)) : LetsOut Q := h
/-- While one of the head has not come up, none of the tail may. -/
theorem tail_waits2 {ops : Array Oper} {n : Nat} {listed : Array Bool} (hs : Region.sinkB md ops n = true) (hc : (List.range ops.size).all (fun t => decide (t ≤ n) || (List.range t).any fun j => decide (n ≤ j) && Region.waitsFor md ops t j) = true) (hn : n < ops.size) (inv : HeadInv md ops n listed) :
    ∀ (d i : Nat), n - i = d → i < n → listed.getD i true = false → ∀ t, n ≤ t → t ∉ Region.ready md ops listed := by
  intro d
  induction d using Nat.strongRecOn with
  | _ d ih =>
    intro i hd hi hun t ht hr
    obtain ⟨_, ot, hot, hall⟩ := mem_ready.1 hr
    have htlt : t < ops.size := (Array.getElem?_eq_some_iff.1 hot).1
    by_cases htn : t = n
    · subst htn
      have h1 := List.all_eq_true.1 hs i (List.mem_range.2 hi)
      obtain ⟨j, hj, hj2⟩ := List.any_eq_true.1 h1
      simp only [Bool.and_eq_true, decide_eq_true_eq] at hj2
      obtain ⟨oj, hoj, e, he, hb, hon⟩ := Region.waitsFor_spec hj2.2
      have hjle : j ≤ t := by have := List.mem_range.1 hj; omega
      by_cases hjt : j = t
      · subst hjt
        have : oj = ot := Option.some.inj (hoj.symm.trans hot)
        subst this
        have h2 := hall e he hb
        rw [hon, getD_both hun] at h2
        cases h2
      · cases hl : listed.getD j false with
        | true =>
          have h2 := inv.closed j oj hoj hl e he hb
          rw [hon, getD_both hun] at h2
          cases h2
        | false =>
          have hjs : j < listed.size := by rw [inv.size]; omega
          exact ih (t - j) (by omega) j rfl (by omega) (getD_in hjs hl) t (Nat.le_refl _) hr
    · have h1 := List.all_eq_true.1 hc t (List.mem_range.2 htlt)
      simp only [Bool.or_eq_true, decide_eq_true_eq] at h1
      rcases h1 with h1 | h1
      · omega
      · obtain ⟨j, hj, hj2⟩ := List.any_eq_true.1 h1
        simp only [Bool.and_eq_true, decide_eq_true_eq] at hj2
        obtain ⟨o', ho', e, he, hb, hon⟩ := Region.waitsFor_spec hj2.2
        have : o' = ot := Option.some.inj (ho'.symm.trans hot)
        subst this
        have h2 := hall e he hb
        have := List.mem_range.1 hj
        rw [hon, getD_both (inv.tail j hj2.1 (by omega))] at h2
        cases h2
theorem wp_tail {T : Act → World → Prop} {Q : Exit → Act → World → Prop} {o : Oper} {a : Act} {w : World} {K K' : Act → World → Prop} (hk : ∀ a w, K a w → K' a w) (h : o.wp P a w K (tailQ T Q)) : o.wp P a w K' Q := by
  unfold Oper.wp at *
  generalize (execOp a.eval o).run P w = r at *
  cases r with
  | ok x w' =>
    cases x <;> simp only [Oper.upon] at h ⊢ <;> first
      | exact hk _ _ h
      | exact Calls.mono h (fun e w'' he => by cases e <;> first | exact hk _ _ he | exact he | exact out_tail he)
      | exact Rows.mono h (fun _ _ he => hk _ _ he)
  | halt x w' => cases x <;> simp only [Oper.upon] at h ⊢ <;> exact h

theorem head_any {l : List Oper} {n : Nat} {T : Act → World → Prop} {Q : Exit → Act → World → Prop} {S : World → Prop}
    (hg : ∀ o ∈ l, o.guard.isNone = true) (hd : ∀ i, i < n → ∀ o, l[i]? = some o → ∀ e ∈ o.after, Region.binds md e = true → e.on < i)
    (hnl : n < l.length) (hsk : Region.sinkB md l.toArray n = true) (hch : (List.range l.toArray.size).all (fun t => decide (t ≤ n) || (List.range t).any fun j => decide (n ≤ j) && Region.waitsFor md l.toArray t j) = true)
    (hT : ∀ a w, T a w → wpAny P md l.toArray Q (l.length - n) (listedAt n (l.length - n)) a w) :
    ∀ (f : Nat) (lh : List Bool) (a : Act) (w : World), lh.length = n → lh.countP (fun b => !b) = f →
      HeadInv md l.toArray n ((lh ++ List.replicate (l.length - n) false).toArray) →
      wpAnyH P md (l.take n).toArray (tailQ T Q) S f lh.toArray a w →
      wpAny P md l.toArray Q (f + (l.length - n)) ((lh ++ List.replicate (l.length - n) false).toArray) a w
  | 0, lh, a, w, hl, hc, inv, h => by
    have e : lh = List.replicate n true := by
      rw [List.eq_replicate_iff]
      refine ⟨hl, fun b hb => ?_⟩
      rw [List.countP_eq_zero] at hc
      have := hc b hb
      simpa using this
    subst e
    rw [Nat.zero_add]
    exact hT a w h.2
  | f + 1, lh, a, w, hl, hc, inv, h => by
    have hex : ∃ i, i < n ∧ lh[i]? = some false := by
      have : 0 < lh.countP (fun b => !b) := by omega
      rw [List.countP_pos_iff] at this
      obtain ⟨b, hb, hb2⟩ := this
      obtain ⟨i, hi, e⟩ := List.getElem_of_mem hb
      refine ⟨i, by omega, ?_⟩
      rw [List.getElem?_eq_getElem hi, e]
      simp at hb2
      rw [hb2]
    -- a flag of the head, in both arrays
    have hh : ∀ i d, i < n → ((lh ++ List.replicate (l.length - n) false).toArray).getD i d = lh.toArray.getD i d := by
      intro i d hi
      rw [← hl] at hi
      simp [Array.getD_eq_getD_getElem?, List.getElem?_append_left hi]
    rw [show f + 1 + (l.length - n) = (f + (l.length - n)) + 1 by omega]
    constructor
    · intro h0
      exfalso
      -- the least of the head that has not come up may come up
      have hmin : ∀ (k i : Nat), i = k → i < n → lh[i]? = some false → False := by
        intro k
        induction k using Nat.strongRecOn with
        | _ k ih =>
          intro i hik hi hf
          subst hik
          by_cases hall : ∀ j, j < i → lh[j]? = some true
          · have hm : i ∈ Region.ready md l.toArray ((lh ++ List.replicate (l.length - n) false).toArray) := by
              rw [mem_ready]
              refine ⟨by rw [hh i true hi]; simp [Array.getD_eq_getD_getElem?, hf], l[i], by simp, fun e he hb => ?_⟩
              have hlt := hd i hi l[i] (by simp) e he hb
              rw [hh _ false (by omega)]
              simp [Array.getD_eq_getD_getElem?, hall e.on hlt]
            rw [h0] at hm
            cases hm
          · simp only [Classical.not_forall] at hall
            obtain ⟨j, hj, hjf⟩ := hall
            refine ih j hj j rfl (by omega) ?_
            have hjl : j < lh.length := by omega
            rw [List.getElem?_eq_getElem hjl] at hjf ⊢
            cases hv : lh[j] with
            | true => rw [hv] at hjf; exact absurd rfl hjf
            | false => rfl
      obtain ⟨i, hi, hf⟩ := hex
      exact hmin i i rfl hi hf
    · intro i hi
      have hi' := hi
      rw [mem_ready] at hi'
      obtain ⟨h1, o, ho, hall⟩ := hi'
      have hil : i < l.length := by
        have := (Array.getElem?_eq_some_iff.1 ho).1
        simpa using this
      have hin : i < n := by
        rcases Nat.lt_or_ge i n with h' | h'
        · exact h'
        · obtain ⟨k, hk, hkf⟩ := hex
          exact absurd hi (tail_waits2 hsk hch (by simpa using hnl) inv _ k rfl hk (by rw [hh k true hk]; simp [Array.getD_eq_getD_getElem?, hkf]) i h')
      have hr : i ∈ Region.ready md (l.take n).toArray lh.toArray := by
        rw [mem_ready]
        refine ⟨by rw [← hh i true hin]; exact h1, o, ?_, fun e he hb => ?_⟩
        · simp at ho ⊢
          rw [List.getElem?_take]
          simp [hin, ho]
        · have hlt := hd i hin o (by simpa using ho) e he hb
          rw [← hh _ false (by omega)]
          exact hall e he hb
      have h2 := h.2 i hr
      have hset : ((lh ++ List.replicate (l.length - n) false).toArray).setIfInBounds i true = ((lh.set i true) ++ List.replicate (l.length - n) false).toArray := by
        simp [show i < lh.length by omega]
      have hset2 : lh.toArray.setIfInBounds i true = (lh.set i true).toArray := by simp
      rw [hset]
      have hof : lh[i]? = some false := by
        have hil' : i < lh.length := by omega
        rw [hh i true hin] at h1
        simp [Array.getD_eq_getD_getElem?, List.getElem?_eq_getElem hil'] at h1
        rw [List.getElem?_eq_getElem hil', h1]
      have hcount : (lh.set i true).countP (fun b => !b) = f := by
        have hil' : i < lh.length := by omega
        have := List.countP_set (p := fun b => !b) (l := lh) (a := true) hil'
        rw [List.getElem?_eq_getElem hil'] at hof
        injection hof with hof
        rw [this, hof]
        simp
        omega
      unfold wpOp at h2 ⊢
      have e1 : (l.take n).toArray[i]? = some o := by
        simp at ho ⊢
        rw [List.getElem?_take]
        simp [hin, ho]
      rw [e1] at h2
      rw [ho]
      have hgo : o.guard = none := by
        have := hg o (by
          have : l[i]? = some o := by simpa using ho
          exact List.mem_of_getElem? this)
        simpa using this
      have hw : ∀ t, Region.wanted o t = true := fun t => by simp [Region.wanted, hgo]
      simp only [hw, if_true] at h2 ⊢
      rcases h2 with h2 | h2
      · refine .inl (wp_tail (fun a' w' hk => ?_) h2)
        have hk2 := hk.2
        rw [hset2] at hk2
        exact head_any hg hd hnl hsk hch hT f (lh.set i true) a' w' (by simp [hl]) hcount (by rw [← hset]; exact inv.set hi hin) hk2
      · exact .inr ⟨h2.1, out_tail h2.2⟩

theorem wp_region_head {id : Nat} {T : Act → World → Prop} {Q : Exit → Act → World → Prop} {a : Act} {w : World} {l : List Oper} {S : World → Prop} (n : Nat) (hm : P.follows .mixedOrders = true) (hB : headB .any l n = true)
    (hT : ∀ a w, T a w → wpAny P .any l.toArray Q (l.length - n) (listedAt n (l.length - n)) a w)
    (h : wpAnyH P .any (l.take n).toArray (tailQ T Q) S n ((List.replicate n false).toArray) a w.drew) : (Code.region id l.toArray true).wp P Q a w := by
  simp only [headB, Bool.and_eq_true] at hB
  obtain ⟨⟨⟨⟨hg, hd⟩, hnl⟩, hsk⟩, hch⟩ := hB
  rw [List.all_eq_true] at hg hd
  have hnl : n < l.length := of_decide_eq_true hnl
  refine wp_region_any hm ?_
  have e1 : n + (l.length - n) = l.toArray.size := by simp; omega
  have e2 : (List.replicate n false ++ List.replicate (l.length - n) false).toArray = Array.replicate l.toArray.size false := by
    rw [List.replicate_append_replicate, e1]
    simp
  have key := head_any (P := P) (md := .any) (l := l) (n := n) (T := T) (Q := Q) (S := S) hg (fun i hi o ho e he hb => by
      have := hd i (List.mem_range.2 hi)
      rw [ho] at this
      simp only [Option.map_some, Option.getD_some] at this
      have h3 := Array.all_eq_true'.1 this e he
      rw [hb] at h3
      simpa using h3) hnl hsk (by simpa using hch) hT n (List.replicate n false) a w.drew (by simp) (by rw [List.countP_replicate]; rfl) (by rw [e2]; exact ⟨by simp, fun j oj _ hl => (by rw [getD_replicate_false] at hl; cases hl), fun t _ ht => getD_in (by simpa using ht) (getD_replicate_false _ _)⟩) h
  rw [e1, e2] at key
  exact key
/-- The region's beginning: its head under S, its tail as a row. -/
theorem wp_region_held_tail {id : Nat} {Q : Exit → Act → World → Prop} {a : Act} {w : World} {l : List Oper} {S : World → Prop} (n : Nat) (hm : P.follows .mixedOrders = true) (hB : headB .any l n = true) (hs : Region.seqB .any l.toArray (l.length - n) n (listedAt n (l.length - n)) = true)
    (h : wpAnyH P .any (l.take n).toArray (tailQ (fun a w => wpList P l.toArray Q (l.drop n) a w) Q) S n ((List.replicate n false).toArray) a w.drew) : (Code.region id l.toArray true).wp P Q a w :=
  wp_region_head n hm hB (fun a w h2 => by
    have := wpAny_of_seq (md := .any) (Q' := Q) (l.drop n) n (listedAt n (l.length - n)) a w (fun j => by simp [List.getElem?_drop]) (by rw [List.length_drop]; exact hs) h2
    rwa [List.length_drop] at this) h
/-- The region's beginning: its head under S, its tail in whatever order, under no condition. -/
theorem wp_region_held_two {id : Nat} {Q : Exit → Act → World → Prop} {a : Act} {w : World} {l : List Oper} {S : World → Prop} (n : Nat) (hm : P.follows .mixedOrders = true) (hB : headB .any l n = true)
    (h : wpAnyH P .any (l.take n).toArray (tailQ (fun a w => wpAnyH P .any l.toArray Q (fun _ => True) (l.length - n) (listedAt n (l.length - n)) a w) Q) S n ((List.replicate n false).toArray) a w.drew) : (Code.region id l.toArray true).wp P Q a w :=
  wp_region_head n hm hB (fun a w h2 => wpAny_of_held _ _ _ _ h2) h
end
end Go.Proofs.YtglanlpjoaholaaGreat
