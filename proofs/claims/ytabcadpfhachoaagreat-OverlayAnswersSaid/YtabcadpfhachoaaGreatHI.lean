/- A region that draws its order, in a fenced walk (in a round too): its head walked in the plain calculus under a condition, its tail in the fence. No function of the program is met here. -/
import Derived.Test.YtabcadpfhachoaaGreatHT
import Derived.RangeFuncCalls
import Derived.OrdersIn
namespace Go.Proofs.YtabcadpfhachoaaGreat
open Go.RowKit Go
set_option linter.unusedVariables false
set_option linter.unusedSimpArgs false

/-- A fence that asks nothing, in a round or not. -/
structure WideF (F : Fence) : Prop where
  fn : ∀ f, F.fn f
  depth : F.depth = none
  calls : ∀ {n : Nat} {P : Program} {f : FuncId} {args : Array Value} {w : World} {R : Ending → World → Prop}, Calls P f args w R → CallsIn F n P f args w R
  rows : ∀ {n : Nat} {P : Program} {row : String} {args : Array Value} {w : World} {R : Value → World → Prop}, Rows P row args w R → RowsIn F n P row args w R
theorem wideF : WideF Fence.wide := ⟨fun _ => trivial, rfl, fun h => callsIn_wide.2 h, fun h c cs _ => by
  obtain ⟨v, w', r, s⟩ := h c cs
  exact ⟨v, w', r, stepsIn_wide.2 s⟩⟩
theorem wideF_round (l : Nat) : WideF (Fence.wide.inRound l) := ⟨fun _ => trivial, rfl, fun h => CallsIn.inRound l (callsIn_wide.2 h), fun h c cs _ => by
  obtain ⟨v, w', r, s⟩ := h c cs
  exact ⟨v, w', r, stepsIn_wide.2 s⟩⟩
/-- The post of a head that ends in no other way. -/
def headQ (T : Act → World → Prop) : Exit → Act → World → Prop
  | .normal, a, w => T a w
  | _, _, _ => False
theorem headQ_out (T : Act → World → Prop) : ¬ LetsOut (headQ T) := fun ⟨_, _, h⟩ => h
def plainOp (o : Oper) : Bool := match o.op with | .defer _ => false | _ => true
theorem oper_in {F : Fence} (hF : WideF F) {n : Nat} {P : Program} {T : Act → World → Prop} {Q : Exit → Act → World → Prop} {o : Oper} {a : Act} {w : World} {K K' : Act → World → Prop} (hd : plainOp o = true) (hk : ∀ a w, K a w → K' a w) (h : o.wp P a w K (headQ T)) : o.wpIn F n P a w K' Q := by
  have hsem : o.semAt F.round a.eval = execOp a.eval o := by
    unfold plainOp at hd
    cases hr : F.round with
    | none => unfold Oper.semAt; rfl
    | some l => exact Oper.semAt_some l _ _ (fun c hc => by rw [hc] at hd; cases hd)
  refine ⟨fun f _ => hF.fn f, ?_⟩
  rw [hsem]
  unfold Oper.wp at h
  generalize (execOp a.eval o).run P w = r at *
  have hdep : F.depth.isSome = true → 1 ≤ n := fun e => by rw [hF.depth] at e; cases e
  cases r with
  | ok x w' =>
    cases x <;> simp only [Oper.upon, Oper.uponIn] at h ⊢ <;> first
      | exact hk _ _ h
      | exact ⟨hdep, hF.calls (Calls.mono h (fun e w'' he => by cases e <;> first | exact hk _ _ he | exact absurd he (headQ_out T) | exact he.elim))⟩
      | exact ⟨hdep, hF.rows (Rows.mono h (fun _ _ he => hk _ _ he))⟩
  | halt x w' => cases x <;> simp only [Oper.upon, Oper.uponIn] at h ⊢ <;> exact h.elim

/-- Each of the head has a guard of the head, waits for those before it at most, and is waited for; each of the tail behind its first waits for one of the tail. -/
def headG (md : Region.Mode) (l : List Oper) (n : Nat) : Bool :=
  (List.range n).all (fun i => ((l[i]?).map fun o => plainOp o && (match o.guard with | none => true | some (j, _) => decide (j < n)) && o.after.all fun e => !Region.binds md e || decide (e.on < i)).getD true) &&
  decide (n < l.length) && Region.sinkB md l.toArray n && (List.range l.length).all (fun t => decide (t ≤ n) || (List.range t).any fun j => decide (n ≤ j) && Region.waitsFor md l.toArray t j)
theorem wanted_head {l : List Oper} {n : Nat} {o : Oper} (hg : (match o.guard with | none => true | some (j, _) => decide (j < n)) = true) (t : Array Value) : Region.wanted o (yielded (l.take n).toArray t) = Region.wanted o (yielded l.toArray t) := by
  unfold Region.wanted
  cases hgu : o.guard with
  | none => rfl
  | some p =>
    obtain ⟨j, b⟩ := p
    rw [hgu] at hg
    have hj : j < n := of_decide_eq_true hg
    have e : (l.take n).toArray[j]? = l.toArray[j]? := by simp [List.getElem?_take, hj]
    simp only [yielded, e]
section
variable {F : Fence} {P : Program} {md : Region.Mode} {N : Nat}
theorem headG_any (hF : WideF F) {l : List Oper} {n : Nat} {T : Act → World → Prop} {Q : Exit → Act → World → Prop} {S : World → Prop}
    (hg : ∀ i, i < n → ∀ o, l[i]? = some o → plainOp o = true ∧ (match o.guard with | none => true | some (j, _) => decide (j < n)) = true)
    (hd : ∀ i, i < n → ∀ o, l[i]? = some o → ∀ e ∈ o.after, Region.binds md e = true → e.on < i)
    (hnl : n < l.length) (hsk : Region.sinkB md l.toArray n = true) (hch : (List.range l.toArray.size).all (fun t => decide (t ≤ n) || (List.range t).any fun j => decide (n ≤ j) && Region.waitsFor md l.toArray t j) = true)
    (hT : ∀ a w, T a w → wpAnyIn F N P md l.toArray Q (l.length - n) (listedAt n (l.length - n)) a w) :
    ∀ (f : Nat) (lh : List Bool) (a : Act) (w : World), lh.length = n → lh.countP (fun b => !b) = f →
      HeadInv md l.toArray n ((lh ++ List.replicate (l.length - n) false).toArray) →
      wpAnyH P md (l.take n).toArray (headQ T) S f lh.toArray a w →
      wpAnyIn F N P md l.toArray Q (f + (l.length - n)) ((lh ++ List.replicate (l.length - n) false).toArray) a w
  | 0, lh, a, w, hl, hc, inv, h => by
    have e : lh = List.replicate n true := by
      rw [List.eq_replicate_iff]
      refine ⟨hl, fun b hb => ?_⟩
      rw [List.countP_eq_zero] at hc
      have := hc b hb
      simpa using this
    subst e
    rw [Nat.zero_add]
    exact hT a w h.2
  | f + 1, lh, a, w, hl, hc, inv, h => by
    have hex : ∃ i, i < n ∧ lh[i]? = some false := by
      have : 0 < lh.countP (fun b => !b) := by omega
      rw [List.countP_pos_iff] at this
      obtain ⟨b, hb, hb2⟩ := this
      obtain ⟨i, hi, e⟩ := List.getElem_of_mem hb
      refine ⟨i, by omega, ?_⟩
      rw [List.getElem?_eq_getElem hi, e]
      simp at hb2
      rw [hb2]
    have hh : ∀ i d, i < n → ((lh ++ List.replicate (l.length - n) false).toArray).getD i d = lh.toArray.getD i d := by
      intro i d hi
      rw [← hl] at hi
      simp [Array.getD_eq_getD_getElem?, List.getElem?_append_left hi]
    rw [show f + 1 + (l.length - n) = (f + (l.length - n)) + 1 by omega]
    constructor
    · intro h0
      exfalso
      have hmin : ∀ (k i : Nat), i = k → i < n → lh[i]? = some false → False := by
        intro k
        induction k using Nat.strongRecOn with
        | _ k ih =>
          intro i hik hi hf
          subst hik
          by_cases hall : ∀ j, j < i → lh[j]? = some true
          · have hm : i ∈ Region.ready md l.toArray ((lh ++ List.replicate (l.length - n) false).toArray) := by
              rw [mem_ready]
              refine ⟨by rw [hh i true hi]; simp [Array.getD_eq_getD_getElem?, hf], l[i], by simp, fun e he hb => ?_⟩
              have hlt := hd i hi l[i] (by simp) e he hb
              rw [hh _ false (by omega)]
              simp [Array.getD_eq_getD_getElem?, hall e.on hlt]
            rw [h0] at hm
            cases hm
          · simp only [Classical.not_forall] at hall
            obtain ⟨j, hj, hjf⟩ := hall
            refine ih j hj j rfl (by omega) ?_
            have hjl : j < lh.length := by omega
            rw [List.getElem?_eq_getElem hjl] at hjf ⊢
            cases hv : lh[j] with
            | true => rw [hv] at hjf; exact absurd rfl hjf
            | false => rfl
      obtain ⟨i, hi, hf⟩ := hex
      exact hmin i i rfl hi hf
    · intro i hi
      have hi' := hi
      rw [mem_ready] at hi'
      obtain ⟨h1, o, ho, hall⟩ := hi'
      have hil : i < l.length := by
        have := (Array.getElem?_eq_some_iff.1 ho).1
        simpa using this
      have hin : i < n := by
        rcases Nat.lt_or_ge i n with h' | h'
        · exact h'
        · obtain ⟨k, hk, hkf⟩ := hex
          exact absurd hi (tail_waits2 hsk hch (by simpa using hnl) inv _ k rfl hk (by rw [hh k true hk]; simp [Array.getD_eq_getD_getElem?, hkf]) i h')
      have hr : i ∈ Region.ready md (l.take n).toArray lh.toArray := by
        rw [mem_ready]
        refine ⟨by rw [← hh i true hin]; exact h1, o, ?_, fun e he hb => ?_⟩
        · simp at ho ⊢
          rw [List.getElem?_take]
          simp [hin, ho]
        · have hlt := hd i hin o (by simpa using ho) e he hb
          rw [← hh _ false (by omega)]
          exact hall e he hb
      have h2 := h.2 i hr
      have hset : ((lh ++ List.replicate (l.length - n) false).toArray).setIfInBounds i true = ((lh.set i true) ++ List.replicate (l.length - n) false).toArray := by
        simp [show i < lh.length by omega]
      have hset2 : lh.toArray.setIfInBounds i true = (lh.set i true).toArray := by simp
      rw [hset]
      have hof : lh[i]? = some false := by
        have hil' : i < lh.length := by omega
        rw [hh i true hin] at h1
        simp [Array.getD_eq_getD_getElem?, List.getElem?_eq_getElem hil'] at h1
        rw [List.getElem?_eq_getElem hil', h1]
      have hcount : (lh.set i true).countP (fun b => !b) = f := by
        have hil' : i < lh.length := by omega
        have := List.countP_set (p := fun b => !b) (l := lh) (a := true) hil'
        rw [List.getElem?_eq_getElem hil'] at hof
        injection hof with hof
        rw [this, hof]
        simp
        omega
      have hgo := hg i hin o (by simpa using ho)
      have step : ∀ a' w', (S w' ∧ wpAnyH P md (l.take n).toArray (headQ T) S f (lh.toArray.setIfInBounds i true) a' w') → wpAnyIn F N P md l.toArray Q (f + (l.length - n)) ((lh.set i true) ++ List.replicate (l.length - n) false).toArray a' w' := by
        intro a' w' hk
        have hk2 := hk.2
        rw [hset2] at hk2
        exact headG_any hF hg hd hnl hsk hch hT f (lh.set i true) a' w' (by simp [hl]) hcount (by rw [← hset]; exact inv.set hi hin) hk2
      unfold wpOp at h2
      unfold wpOpIn
      have e1 : (l.take n).toArray[i]? = some o := by
        simp at ho ⊢
        rw [List.getElem?_take]
        simp [hin, ho]
      rw [e1] at h2
      rw [ho]
      simp only [wanted_head hgo.2] at h2
      by_cases hw : Region.wanted o (yielded l.toArray a.tmps) = true
      · simp only [hw, if_true] at h2 ⊢
        rcases h2 with h2 | h2
        · exact oper_in hF hgo.1 step h2
        · exact absurd h2.2 (headQ_out T)
      · simp only [hw] at h2 ⊢
        exact ⟨fun f _ => hF.fn f, step _ _ h2⟩

/-- The region's beginning in the plain calculus under S, its tail in the fence. -/
theorem wpIn_region_head (hF : WideF F) {id : Nat} {T : Act → World → Prop} {Q : Exit → Act → World → Prop} {a : Act} {w : World} {l : List Oper} {S : World → Prop} (n : Nat) (hm : P.follows .mixedOrders = true) (hB : headG .any l n = true)
    (hT : ∀ a w, T a w → wpAnyIn F N P .any l.toArray Q (l.length - n) (listedAt n (l.length - n)) a w)
    (h : wpAnyH P .any (l.take n).toArray (headQ T) S n ((List.replicate n false).toArray) a w.drew) : (Code.region id l.toArray true).wpIn F N P Q a w := by
  simp only [headG, Bool.and_eq_true] at hB
  obtain ⟨⟨⟨hd, hnl⟩, hsk⟩, hch⟩ := hB
  rw [List.all_eq_true] at hd
  have hnl : n < l.length := of_decide_eq_true hnl
  refine wpIn_region_any hm ?_
  have e1 : n + (l.length - n) = l.toArray.size := by simp; omega
  have e2 : (List.replicate n false ++ List.replicate (l.length - n) false).toArray = Array.replicate l.toArray.size false := by
    rw [List.replicate_append_replicate, e1]
    simp
  have hdi : ∀ i, i < n → ∀ o, l[i]? = some o → (plainOp o = true ∧ (match o.guard with | none => true | some (j, _) => decide (j < n)) = true) ∧ (o.after.all fun e => !Region.binds .any e || decide (e.on < i)) = true := fun i hi o ho => by
    have := hd i (List.mem_range.2 hi)
    rw [ho] at this
    simpa only [Option.map_some, Option.getD_some, Bool.and_eq_true] using this
  have key := headG_any hF (P := P) (md := .any) (N := N) (l := l) (n := n) (T := T) (Q := Q) (S := S) (fun i hi o ho => (hdi i hi o ho).1) (fun i hi o ho e he hb => by
      have h3 := Array.all_eq_true'.1 (hdi i hi o ho).2 e he
      rw [hb] at h3
      simpa using h3) hnl hsk (by simpa using hch) hT n (List.replicate n false) a w.drew (by simp) (by rw [List.countP_replicate]; rfl) (by rw [e2]; exact ⟨by simp, fun j oj _ hl => (by rw [getD_replicate_false] at hl; cases hl), fun t _ ht => getD_in (by simpa using ht) (getD_replicate_false _ _)⟩) h
  rw [e1, e2] at key
  exact key
end
end Go.Proofs.YtabcadpfhachoaaGreat
