import Derived.RangeFuncNested
import Derived.Maps.OwnIn
import Derived.Maps.Views
import Derived.Lib.SlKeysI
import Derived.WideKeyEntry
import Derived.StillTail
import Derived.RangeFuncCalls
import Derived.OrdersIn
import Derived.RangeFuncBound
import Derived.RangeFuncLeaves
import Derived.Shelf.Abstract
import Derived.Shelf.RegionOpen
import Derived.OwnWalkIn
import Derived.TacticsInMore
import Derived.LoopNIn
import Derived.LoopIn
import Derived.Sort.CutIn
import Derived.Deep.OwnRows
import Derived.Maps.Range
import Derived.Test.YtfmkmhhghmdakaaGreatDoorRA
import Derived.Test.YtfmkmhhghmdakaaGreatDoorRF
import Derived.Test.YtfmkmhhghmdakaaGreatDoorRG
import Derived.Test.YtfmkmhhghmdakaaGreatDoorRI
namespace Go.Proofs.YtfmkmhhghmdakaaGreatDoor
set_option maxHeartbeats 64000000
set_option maxRecDepth 100000
open Go.RowKit Go.Maps
set_option linter.unusedVariables false
def VR (v : Value) : Option (DataW Value × List MemPlace) := some (.held v, [])
section
variable {P : Program} {w : World} {k t E : TypeId} {b n : Nat} {D : DataW Value}
theorem held_look (h : w.ownsMap P k VR b n D) (K : Keyed P k) (ht : P.underlying t = some (.map k E)) {z : Value} (hz : (zeroValue E).run P w = .ok z w) {key : Value} {kl : Lit} (hkey : keyOf P k key = some kl) {v : Value} (hat : D.atKey kl (.held z) = .held v) :
    (Instr.lookup t (.map (some b)) key false).run P w = .ok v w := by
  obtain ⟨u, ps, hrun, hu⟩ := h.lookup K ht hz (zd := .held z) (zp := []) rfl hkey
  rw [hat] at hu
  simp only [VR, Option.some.injEq, Prod.mk.injEq, DataW.held.injEq] at hu
  rw [hrun, hu.1]
end
theorem Below.grown_none {w w' : World} (h : Below w.heap.size w w') : w.grownBy w' none := ⟨h.os, h.tape, h.output, h.size, fun k hk _ => h.block k hk⟩
end Go.Proofs.YtfmkmhhghmdakaaGreatDoor
namespace Go.Proofs.YtfmkmhhghmdakaaGreatDoor
open Go.RowKit Go.Shelf
set_option linter.unusedVariables false
set_option linter.unusedSimpArgs false
set_option maxHeartbeats 64000000
set_option maxRecDepth 100000
end Go.Proofs.YtfmkmhhghmdakaaGreatDoor
namespace Go.Proofs.YtfmkmhhghmdakaaGreatDoor
set_option maxHeartbeats 64000000
set_option maxRecDepth 100000
open Go.RowKit Go
set_option linter.unusedVariables false
section
variable {P : Program} {md : Region.Mode}
def tailQ (T : Act → World → Prop) (Q : Exit → Act → World → Prop) : Exit → Act → World → Prop
  | .normal, a, w => T a w
  | e, a, w => Q e a w
def headB (md : Region.Mode) (l : List Oper) (n : Nat) : Bool :=
  l.all (fun o => o.guard.isNone) &&
  (List.range n).all (fun i => ((l[i]?).map fun o => o.after.all fun e => !Region.binds md e || decide (e.on < i)).getD true) &&
  decide (n < l.length) && Region.sinkB md l.toArray n && (List.range l.length).all (fun t => decide (t ≤ n) || (List.range t).any fun j => decide (n ≤ j) && Region.waitsFor md l.toArray t j)
def listedAt (n g : Nat) : Array Bool := (List.replicate n true ++ List.replicate g false).toArray
theorem out_tail {T : Act → World → Prop} {Q : Exit → Act → World → Prop} (h : LetsOut (tailQ T Q)) : LetsOut Q := h
theorem tail_waits2 {ops : Array Oper} {n : Nat} {listed : Array Bool} (hs : Region.sinkB md ops n = true) (hc : (List.range ops.size).all (fun t => decide (t ≤ n) || (List.range t).any fun j => decide (n ≤ j) && Region.waitsFor md ops t j) = true) (hn : n < ops.size) (inv : HeadInv md ops n listed) :
    ∀ (d i : Nat), n - i = d → i < n → listed.getD i true = false → ∀ t, n ≤ t → t ∉ Region.ready md ops listed := by
  intro d
  induction d using Nat.strongRecOn with
  | _ d ih =>
    intro i hd hi hun t ht hr
    obtain ⟨_, ot, hot, hall⟩ := mem_ready.1 hr
    have htlt : t < ops.size := (Array.getElem?_eq_some_iff.1 hot).1
    by_cases htn : t = n
    · subst htn
      have h1 := List.all_eq_true.1 hs i (List.mem_range.2 hi)
      obtain ⟨j, hj, hj2⟩ := List.any_eq_true.1 h1
      simp only [Bool.and_eq_true, decide_eq_true_eq] at hj2
      obtain ⟨oj, hoj, e, he, hb, hon⟩ := Region.waitsFor_spec hj2.2
      have hjle : j ≤ t := by have := List.mem_range.1 hj; omega
      by_cases hjt : j = t
      · subst hjt
        have : oj = ot := Option.some.inj (hoj.symm.trans hot)
        subst this
        have h2 := hall e he hb
        rw [hon, getD_both hun] at h2
        cases h2
      · cases hl : listed.getD j false with
        | true =>
          have h2 := inv.closed j oj hoj hl e he hb
          rw [hon, getD_both hun] at h2
          cases h2
        | false =>
          have hjs : j < listed.size := by rw [inv.size]; omega
          exact ih (t - j) (by omega) j rfl (by omega) (getD_in hjs hl) t (Nat.le_refl _) hr
    · have h1 := List.all_eq_true.1 hc t (List.mem_range.2 htlt)
      simp only [Bool.or_eq_true, decide_eq_true_eq] at h1
      rcases h1 with h1 | h1
      · omega
      · obtain ⟨j, hj, hj2⟩ := List.any_eq_true.1 h1
        simp only [Bool.and_eq_true, decide_eq_true_eq] at hj2
        obtain ⟨o', ho', e, he, hb, hon⟩ := Region.waitsFor_spec hj2.2
        have : o' = ot := Option.some.inj (ho'.symm.trans hot)
        subst this
        have h2 := hall e he hb
        have := List.mem_range.1 hj
        rw [hon, getD_both (inv.tail j hj2.1 (by omega))] at h2
        cases h2
theorem wp_tail {T : Act → World → Prop} {Q : Exit → Act → World → Prop} {o : Oper} {a : Act} {w : World} {K K' : Act → World → Prop} (hk : ∀ a w, K a w → K' a w) (h : o.wp P a w K (tailQ T Q)) : o.wp P a w K' Q := by
  unfold Oper.wp at *
  generalize (execOp a.eval o).run P w = r at *
  cases r with
  | ok x w' =>
    cases x <;> simp only [Oper.upon] at h ⊢ <;> first
      | exact hk _ _ h
      | exact Calls.mono h (fun e w'' he => by cases e <;> first | exact hk _ _ he | exact he | exact out_tail he)
      | exact Rows.mono h (fun _ _ he => hk _ _ he)
  | halt x w' => cases x <;> simp only [Oper.upon] at h ⊢ <;> exact h
theorem head_any {l : List Oper} {n : Nat} {T : Act → World → Prop} {Q : Exit → Act → World → Prop} {S : World → Prop}
    (hg : ∀ o ∈ l, o.guard.isNone = true) (hd : ∀ i, i < n → ∀ o, l[i]? = some o → ∀ e ∈ o.after, Region.binds md e = true → e.on < i)
    (hnl : n < l.length) (hsk : Region.sinkB md l.toArray n = true) (hch : (List.range l.toArray.size).all (fun t => decide (t ≤ n) || (List.range t).any fun j => decide (n ≤ j) && Region.waitsFor md l.toArray t j) = true)
    (hT : ∀ a w, T a w → wpAny P md l.toArray Q (l.length - n) (listedAt n (l.length - n)) a w) :
    ∀ (f : Nat) (lh : List Bool) (a : Act) (w : World), lh.length = n → lh.countP (fun b => !b) = f →
      HeadInv md l.toArray n ((lh ++ List.replicate (l.length - n) false).toArray) →
      wpAnyH P md (l.take n).toArray (tailQ T Q) S f lh.toArray a w →
      wpAny P md l.toArray Q (f + (l.length - n)) ((lh ++ List.replicate (l.length - n) false).toArray) a w
  | 0, lh, a, w, hl, hc, inv, h => by
    have e : lh = List.replicate n true := by
      rw [List.eq_replicate_iff]
      refine ⟨hl, fun b hb => ?_⟩
      rw [List.countP_eq_zero] at hc
      have := hc b hb
      simpa using this
    subst e
    rw [Nat.zero_add]
    exact hT a w h.2
  | f + 1, lh, a, w, hl, hc, inv, h => by
    have hex : ∃ i, i < n ∧ lh[i]? = some false := by
      have : 0 < lh.countP (fun b => !b) := by omega
      rw [List.countP_pos_iff] at this
      obtain ⟨b, hb, hb2⟩ := this
      obtain ⟨i, hi, e⟩ := List.getElem_of_mem hb
      refine ⟨i, by omega, ?_⟩
      rw [List.getElem?_eq_getElem hi, e]
      simp at hb2
      rw [hb2]
    -- a flag of the head, in both arrays
    have hh : ∀ i d, i < n → ((lh ++ List.replicate (l.length - n) false).toArray).getD i d = lh.toArray.getD i d := by
      intro i d hi
      rw [← hl] at hi
      simp [Array.getD_eq_getD_getElem?, List.getElem?_append_left hi]
    rw [show f + 1 + (l.length - n) = (f + (l.length - n)) + 1 by omega]
    constructor
    · intro h0
      exfalso
      -- the least of the head that has not come up may come up
      have hmin : ∀ (k i : Nat), i = k → i < n → lh[i]? = some false → False := by
        intro k
        induction k using Nat.strongRecOn with
        | _ k ih =>
          intro i hik hi hf
          subst hik
          by_cases hall : ∀ j, j < i → lh[j]? = some true
          · have hm : i ∈ Region.ready md l.toArray ((lh ++ List.replicate (l.length - n) false).toArray) := by
              rw [mem_ready]
              refine ⟨by rw [hh i true hi]; simp [Array.getD_eq_getD_getElem?, hf], l[i], by simp, fun e he hb => ?_⟩
              have hlt := hd i hi l[i] (by simp) e he hb
              rw [hh _ false (by omega)]
              simp [Array.getD_eq_getD_getElem?, hall e.on hlt]
            rw [h0] at hm
            cases hm
          · simp only [Classical.not_forall] at hall
            obtain ⟨j, hj, hjf⟩ := hall
            refine ih j hj j rfl (by omega) ?_
            have hjl : j < lh.length := by omega
            rw [List.getElem?_eq_getElem hjl] at hjf ⊢
            cases hv : lh[j] with
            | true => rw [hv] at hjf; exact absurd rfl hjf
            | false => rfl
      obtain ⟨i, hi, hf⟩ := hex
      exact hmin i i rfl hi hf
    · intro i hi
      have hi' := hi
      rw [mem_ready] at hi'
      obtain ⟨h1, o, ho, hall⟩ := hi'
      have hil : i < l.length := by
        have := (Array.getElem?_eq_some_iff.1 ho).1
        simpa using this
      have hin : i < n := by
        rcases Nat.lt_or_ge i n with h' | h'
        · exact h'
        · obtain ⟨k, hk, hkf⟩ := hex
          exact absurd hi (tail_waits2 hsk hch (by simpa using hnl) inv _ k rfl hk (by rw [hh k true hk]; simp [Array.getD_eq_getD_getElem?, hkf]) i h')
      have hr : i ∈ Region.ready md (l.take n).toArray lh.toArray := by
        rw [mem_ready]
        refine ⟨by rw [← hh i true hin]; exact h1, o, ?_, fun e he hb => ?_⟩
        · simp at ho ⊢
          rw [List.getElem?_take]
          simp [hin, ho]
        · have hlt := hd i hin o (by simpa using ho) e he hb
          rw [← hh _ false (by omega)]
          exact hall e he hb
      have h2 := h.2 i hr
      have hset : ((lh ++ List.replicate (l.length - n) false).toArray).setIfInBounds i true = ((lh.set i true) ++ List.replicate (l.length - n) false).toArray := by
        simp [show i < lh.length by omega]
      have hset2 : lh.toArray.setIfInBounds i true = (lh.set i true).toArray := by simp
      rw [hset]
      have hof : lh[i]? = some false := by
        have hil' : i < lh.length := by omega
        rw [hh i true hin] at h1
        simp [Array.getD_eq_getD_getElem?, List.getElem?_eq_getElem hil'] at h1
        rw [List.getElem?_eq_getElem hil', h1]
      have hcount : (lh.set i true).countP (fun b => !b) = f := by
        have hil' : i < lh.length := by omega
        have := List.countP_set (p := fun b => !b) (l := lh) (a := true) hil'
        rw [List.getElem?_eq_getElem hil'] at hof
        injection hof with hof
        rw [this, hof]
        simp
        omega
      unfold wpOp at h2 ⊢
      have e1 : (l.take n).toArray[i]? = some o := by
        simp at ho ⊢
        rw [List.getElem?_take]
        simp [hin, ho]
      rw [e1] at h2
      rw [ho]
      have hgo : o.guard = none := by
        have := hg o (by
          have : l[i]? = some o := by simpa using ho
          exact List.mem_of_getElem? this)
        simpa using this
      have hw : ∀ t, Region.wanted o t = true := fun t => by simp [Region.wanted, hgo]
      simp only [hw, if_true] at h2 ⊢
      rcases h2 with h2 | h2
      · refine .inl (wp_tail (fun a' w' hk => ?_) h2)
        have hk2 := hk.2
        rw [hset2] at hk2
        exact head_any hg hd hnl hsk hch hT f (lh.set i true) a' w' (by simp [hl]) hcount (by rw [← hset]; exact inv.set hi hin) hk2
      · exact .inr ⟨h2.1, out_tail h2.2⟩
theorem wp_region_head {id : Nat} {T : Act → World → Prop} {Q : Exit → Act → World → Prop} {a : Act} {w : World} {l : List Oper} {S : World → Prop} (n : Nat) (hm : P.follows .mixedOrders = true) (hB : headB .any l n = true)
    (hT : ∀ a w, T a w → wpAny P .any l.toArray Q (l.length - n) (listedAt n (l.length - n)) a w)
    (h : wpAnyH P .any (l.take n).toArray (tailQ T Q) S n ((List.replicate n false).toArray) a w.drew) : (Code.region id l.toArray true).wp P Q a w := by
  simp only [headB, Bool.and_eq_true] at hB
  obtain ⟨⟨⟨⟨hg, hd⟩, hnl⟩, hsk⟩, hch⟩ := hB
  rw [List.all_eq_true] at hg hd
  have hnl : n < l.length := of_decide_eq_true hnl
  refine wp_region_any hm ?_
  have e1 : n + (l.length - n) = l.toArray.size := by simp; omega
  have e2 : (List.replicate n false ++ List.replicate (l.length - n) false).toArray = Array.replicate l.toArray.size false := by
    rw [List.replicate_append_replicate, e1]
    simp
  have key := head_any (P := P) (md := .any) (l := l) (n := n) (T := T) (Q := Q) (S := S) hg (fun i hi o ho e he hb => by
      have := hd i (List.mem_range.2 hi)
      rw [ho] at this
      simp only [Option.map_some, Option.getD_some] at this
      have h3 := Array.all_eq_true'.1 this e he
      rw [hb] at h3
      simpa using h3) hnl hsk (by simpa using hch) hT n (List.replicate n false) a w.drew (by simp) (by rw [List.countP_replicate]; rfl) (by rw [e2]; exact ⟨by simp, fun j oj _ hl => (by rw [getD_replicate_false] at hl; cases hl), fun t _ ht => getD_in (by simpa using ht) (getD_replicate_false _ _)⟩) h
  rw [e1, e2] at key
  exact key
theorem wp_region_held_tail {id : Nat} {Q : Exit → Act → World → Prop} {a : Act} {w : World} {l : List Oper} {S : World → Prop} (n : Nat) (hm : P.follows .mixedOrders = true) (hB : headB .any l n = true) (hs : Region.seqB .any l.toArray (l.length - n) n (listedAt n (l.length - n)) = true)
    (h : wpAnyH P .any (l.take n).toArray (tailQ (fun a w => wpList P l.toArray Q (l.drop n) a w) Q) S n ((List.replicate n false).toArray) a w.drew) : (Code.region id l.toArray true).wp P Q a w :=
  wp_region_head n hm hB (fun a w h2 => by
    have := wpAny_of_seq (md := .any) (Q' := Q) (l.drop n) n (listedAt n (l.length - n)) a w (fun j => by simp [List.getElem?_drop]) (by rw [List.length_drop]; exact hs) h2
    rwa [List.length_drop] at this) h
end
end Go.Proofs.YtfmkmhhghmdakaaGreatDoor
namespace Go.Proofs.YtfmkmhhghmdakaaGreatDoor
set_option maxHeartbeats 64000000
set_option maxRecDepth 100000
open Go.RowKit Go
set_option linter.unusedVariables false
set_option linter.unusedSimpArgs false
structure WideF (F : Fence) : Prop where
  fn : ∀ f, F.fn f
  depth : F.depth = none
  calls : ∀ {n : Nat} {P : Program} {f : FuncId} {args : Array Value} {w : World} {R : Ending → World → Prop}, Calls P f args w R → CallsIn F n P f args w R
  rows : ∀ {n : Nat} {P : Program} {row : String} {args : Array Value} {w : World} {R : Value → World → Prop}, Rows P row args w R → RowsIn F n P row args w R
theorem wideF : WideF Fence.wide := ⟨fun _ => trivial, rfl, fun h => callsIn_wide.2 h, fun h c cs _ => by
  obtain ⟨v, w', r, s⟩ := h c cs
  exact ⟨v, w', r, stepsIn_wide.2 s⟩⟩
theorem wideF_round (l : Nat) : WideF (Fence.wide.inRound l) := ⟨fun _ => trivial, rfl, fun h => CallsIn.inRound l (callsIn_wide.2 h), fun h c cs _ => by
  obtain ⟨v, w', r, s⟩ := h c cs
  exact ⟨v, w', r, stepsIn_wide.2 s⟩⟩
def headQ (T : Act → World → Prop) : Exit → Act → World → Prop
  | .normal, a, w => T a w
  | _, _, _ => False
theorem headQ_out (T : Act → World → Prop) : ¬ LetsOut (headQ T) := fun ⟨_, _, h⟩ => h
def plainOp (o : Oper) : Bool := match o.op with | .defer _ => false | _ => true
theorem oper_in {F : Fence} (hF : WideF F) {n : Nat} {P : Program} {T : Act → World → Prop} {Q : Exit → Act → World → Prop} {o : Oper} {a : Act} {w : World} {K K' : Act → World → Prop} (hd : plainOp o = true) (hk : ∀ a w, K a w → K' a w) (h : o.wp P a w K (headQ T)) : o.wpIn F n P a w K' Q := by
  have hsem : o.semAt F.round a.eval = execOp a.eval o := by
    unfold plainOp at hd
    cases hr : F.round with
    | none => unfold Oper.semAt; rfl
    | some l => exact Oper.semAt_some l _ _ (fun c hc => by rw [hc] at hd; cases hd)
  refine ⟨fun f _ => hF.fn f, ?_⟩
  rw [hsem]
  unfold Oper.wp at h
  generalize (execOp a.eval o).run P w = r at *
  have hdep : F.depth.isSome = true → 1 ≤ n := fun e => by rw [hF.depth] at e; cases e
  cases r with
  | ok x w' =>
    cases x <;> simp only [Oper.upon, Oper.uponIn] at h ⊢ <;> first
      | exact hk _ _ h
      | exact ⟨hdep, hF.calls (Calls.mono h (fun e w'' he => by cases e <;> first | exact hk _ _ he | exact absurd he (headQ_out T) | exact he.elim))⟩
      | exact ⟨hdep, hF.rows (Rows.mono h (fun _ _ he => hk _ _ he))⟩
  | halt x w' => cases x <;> simp only [Oper.upon, Oper.uponIn] at h ⊢ <;> exact h.elim
def headG (md : Region.Mode) (l : List Oper) (n : Nat) : Bool :=
  (List.range n).all (fun i => ((l[i]?).map fun o => plainOp o && (match o.guard with | none => true | some (j, _) => decide (j < n)) && o.after.all fun e => !Region.binds md e || decide (e.on < i)).getD true) &&
  decide (n < l.length) && Region.sinkB md l.toArray n && (List.range l.length).all (fun t => decide (t ≤ n) || (List.range t).any fun j => decide (n ≤ j) && Region.waitsFor md l.toArray t j)
theorem wanted_head {l : List Oper} {n : Nat} {o : Oper} (hg : (match o.guard with | none => true | some (j, _) => decide (j < n)) = true) (t : Array Value) : Region.wanted o (yielded (l.take n).toArray t) = Region.wanted o (yielded l.toArray t) := by
  unfold Region.wanted
  cases hgu : o.guard with
  | none => rfl
  | some p =>
    obtain ⟨j, b⟩ := p
    rw [hgu] at hg
    have hj : j < n := of_decide_eq_true hg
    have e : (l.take n).toArray[j]? = l.toArray[j]? := by simp [List.getElem?_take, hj]
    simp only [yielded, e]
section
variable {F : Fence} {P : Program} {md : Region.Mode} {N : Nat}
theorem headG_any (hF : WideF F) {l : List Oper} {n : Nat} {T : Act → World → Prop} {Q : Exit → Act → World → Prop} {S : World → Prop}
    (hg : ∀ i, i < n → ∀ o, l[i]? = some o → plainOp o = true ∧ (match o.guard with | none => true | some (j, _) => decide (j < n)) = true)
    (hd : ∀ i, i < n → ∀ o, l[i]? = some o → ∀ e ∈ o.after, Region.binds md e = true → e.on < i)
    (hnl : n < l.length) (hsk : Region.sinkB md l.toArray n = true) (hch : (List.range l.toArray.size).all (fun t => decide (t ≤ n) || (List.range t).any fun j => decide (n ≤ j) && Region.waitsFor md l.toArray t j) = true)
    (hT : ∀ a w, T a w → wpAnyIn F N P md l.toArray Q (l.length - n) (listedAt n (l.length - n)) a w) :
    ∀ (f : Nat) (lh : List Bool) (a : Act) (w : World), lh.length = n → lh.countP (fun b => !b) = f →
      HeadInv md l.toArray n ((lh ++ List.replicate (l.length - n) false).toArray) →
      wpAnyH P md (l.take n).toArray (headQ T) S f lh.toArray a w →
      wpAnyIn F N P md l.toArray Q (f + (l.length - n)) ((lh ++ List.replicate (l.length - n) false).toArray) a w
  | 0, lh, a, w, hl, hc, inv, h => by
    have e : lh = List.replicate n true := by
      rw [List.eq_replicate_iff]
      refine ⟨hl, fun b hb => ?_⟩
      rw [List.countP_eq_zero] at hc
      have := hc b hb
      simpa using this
    subst e
    rw [Nat.zero_add]
    exact hT a w h.2
  | f + 1, lh, a, w, hl, hc, inv, h => by
    have hex : ∃ i, i < n ∧ lh[i]? = some false := by
      have : 0 < lh.countP (fun b => !b) := by omega
      rw [List.countP_pos_iff] at this
      obtain ⟨b, hb, hb2⟩ := this
      obtain ⟨i, hi, e⟩ := List.getElem_of_mem hb
      refine ⟨i, by omega, ?_⟩
      rw [List.getElem?_eq_getElem hi, e]
      simp at hb2
      rw [hb2]
    have hh : ∀ i d, i < n → ((lh ++ List.replicate (l.length - n) false).toArray).getD i d = lh.toArray.getD i d := by
      intro i d hi
      rw [← hl] at hi
      simp [Array.getD_eq_getD_getElem?, List.getElem?_append_left hi]
    rw [show f + 1 + (l.length - n) = (f + (l.length - n)) + 1 by omega]
    constructor
    · intro h0
      exfalso
      have hmin : ∀ (k i : Nat), i = k → i < n → lh[i]? = some false → False := by
        intro k
        induction k using Nat.strongRecOn with
        | _ k ih =>
          intro i hik hi hf
          subst hik
          by_cases hall : ∀ j, j < i → lh[j]? = some true
          · have hm : i ∈ Region.ready md l.toArray ((lh ++ List.replicate (l.length - n) false).toArray) := by
              rw [mem_ready]
              refine ⟨by rw [hh i true hi]; simp [Array.getD_eq_getD_getElem?, hf], l[i], by simp, fun e he hb => ?_⟩
              have hlt := hd i hi l[i] (by simp) e he hb
              rw [hh _ false (by omega)]
              simp [Array.getD_eq_getD_getElem?, hall e.on hlt]
            rw [h0] at hm
            cases hm
          · simp only [Classical.not_forall] at hall
            obtain ⟨j, hj, hjf⟩ := hall
            refine ih j hj j rfl (by omega) ?_
            have hjl : j < lh.length := by omega
            rw [List.getElem?_eq_getElem hjl] at hjf ⊢
            cases hv : lh[j] with
            | true => rw [hv] at hjf; exact absurd rfl hjf
            | false => rfl
      obtain ⟨i, hi, hf⟩ := hex
      exact hmin i i rfl hi hf
    · intro i hi
      have hi' := hi
      rw [mem_ready] at hi'
      obtain ⟨h1, o, ho, hall⟩ := hi'
      have hil : i < l.length := by
        have := (Array.getElem?_eq_some_iff.1 ho).1
        simpa using this
      have hin : i < n := by
        rcases Nat.lt_or_ge i n with h' | h'
        · exact h'
        · obtain ⟨k, hk, hkf⟩ := hex
          exact absurd hi (tail_waits2 hsk hch (by simpa using hnl) inv _ k rfl hk (by rw [hh k true hk]; simp [Array.getD_eq_getD_getElem?, hkf]) i h')
      have hr : i ∈ Region.ready md (l.take n).toArray lh.toArray := by
        rw [mem_ready]
        refine ⟨by rw [← hh i true hin]; exact h1, o, ?_, fun e he hb => ?_⟩
        · simp at ho ⊢
          rw [List.getElem?_take]
          simp [hin, ho]
        · have hlt := hd i hin o (by simpa using ho) e he hb
          rw [← hh _ false (by omega)]
          exact hall e he hb
      have h2 := h.2 i hr
      have hset : ((lh ++ List.replicate (l.length - n) false).toArray).setIfInBounds i true = ((lh.set i true) ++ List.replicate (l.length - n) false).toArray := by
        simp [show i < lh.length by omega]
      have hset2 : lh.toArray.setIfInBounds i true = (lh.set i true).toArray := by simp
      rw [hset]
      have hof : lh[i]? = some false := by
        have hil' : i < lh.length := by omega
        rw [hh i true hin] at h1
        simp [Array.getD_eq_getD_getElem?, List.getElem?_eq_getElem hil'] at h1
        rw [List.getElem?_eq_getElem hil', h1]
      have hcount : (lh.set i true).countP (fun b => !b) = f := by
        have hil' : i < lh.length := by omega
        have := List.countP_set (p := fun b => !b) (l := lh) (a := true) hil'
        rw [List.getElem?_eq_getElem hil'] at hof
        injection hof with hof
        rw [this, hof]
        simp
        omega
      have hgo := hg i hin o (by simpa using ho)
      have step : ∀ a' w', (S w' ∧ wpAnyH P md (l.take n).toArray (headQ T) S f (lh.toArray.setIfInBounds i true) a' w') → wpAnyIn F N P md l.toArray Q (f + (l.length - n)) ((lh.set i true) ++ List.replicate (l.length - n) false).toArray a' w' := by
        intro a' w' hk
        have hk2 := hk.2
        rw [hset2] at hk2
        exact headG_any hF hg hd hnl hsk hch hT f (lh.set i true) a' w' (by simp [hl]) hcount (by rw [← hset]; exact inv.set hi hin) hk2
      unfold wpOp at h2
      unfold wpOpIn
      have e1 : (l.take n).toArray[i]? = some o := by
        simp at ho ⊢
        rw [List.getElem?_take]
        simp [hin, ho]
      rw [e1] at h2
      rw [ho]
      simp only [wanted_head hgo.2] at h2
      by_cases hw : Region.wanted o (yielded l.toArray a.tmps) = true
      · simp only [hw, if_true] at h2 ⊢
        rcases h2 with h2 | h2
        · exact oper_in hF hgo.1 step h2
        · exact absurd h2.2 (headQ_out T)
      · simp only [hw] at h2 ⊢
        exact ⟨fun f _ => hF.fn f, step _ _ h2⟩
theorem wpIn_region_head (hF : WideF F) {id : Nat} {T : Act → World → Prop} {Q : Exit → Act → World → Prop} {a : Act} {w : World} {l : List Oper} {S : World → Prop} (n : Nat) (hm : P.follows .mixedOrders = true) (hB : headG .any l n = true)
    (hT : ∀ a w, T a w → wpAnyIn F N P .any l.toArray Q (l.length - n) (listedAt n (l.length - n)) a w)
    (h : wpAnyH P .any (l.take n).toArray (headQ T) S n ((List.replicate n false).toArray) a w.drew) : (Code.region id l.toArray true).wpIn F N P Q a w := by
  simp only [headG, Bool.and_eq_true] at hB
  obtain ⟨⟨⟨hd, hnl⟩, hsk⟩, hch⟩ := hB
  rw [List.all_eq_true] at hd
  have hnl : n < l.length := of_decide_eq_true hnl
  refine wpIn_region_any hm ?_
  have e1 : n + (l.length - n) = l.toArray.size := by simp; omega
  have e2 : (List.replicate n false ++ List.replicate (l.length - n) false).toArray = Array.replicate l.toArray.size false := by
    rw [List.replicate_append_replicate, e1]
    simp
  have hdi : ∀ i, i < n → ∀ o, l[i]? = some o → (plainOp o = true ∧ (match o.guard with | none => true | some (j, _) => decide (j < n)) = true) ∧ (o.after.all fun e => !Region.binds .any e || decide (e.on < i)) = true := fun i hi o ho => by
    have := hd i (List.mem_range.2 hi)
    rw [ho] at this
    simpa only [Option.map_some, Option.getD_some, Bool.and_eq_true] using this
  have key := headG_any hF (P := P) (md := .any) (N := N) (l := l) (n := n) (T := T) (Q := Q) (S := S) (fun i hi o ho => (hdi i hi o ho).1) (fun i hi o ho e he hb => by
      have h3 := Array.all_eq_true'.1 (hdi i hi o ho).2 e he
      rw [hb] at h3
      simpa using h3) hnl hsk (by simpa using hch) hT n (List.replicate n false) a w.drew (by simp) (by rw [List.countP_replicate]; rfl) (by rw [e2]; exact ⟨by simp, fun j oj _ hl => (by rw [getD_replicate_false] at hl; cases hl), fun t _ ht => getD_in (by simpa using ht) (getD_replicate_false _ _)⟩) h
  rw [e1, e2] at key
  exact key
end
end Go.Proofs.YtfmkmhhghmdakaaGreatDoor
namespace Go.Proofs.YtfmkmhhghmdakaaGreatDoor
set_option maxHeartbeats 64000000
set_option maxRecDepth 100000
open Go.RowKit Go.Shelf
set_option linter.unusedVariables false
set_option linter.unusedSimpArgs false
attribute [local go_sem] Oper.semAt_some
end Go.Proofs.YtfmkmhhghmdakaaGreatDoor
namespace Go.Proofs.YtfmkmhhghmdakaaGreatDoor
set_option maxHeartbeats 64000000
set_option maxRecDepth 100000
open Go.RowKit Go.Shelf Go.Maps
set_option linter.unusedVariables false
set_option linter.unusedSimpArgs false
theorem lit_ne {s t : Int} (h : s ≠ t) : (Lit.int .i64 s) ≠ .int .i64 t := fun e => h (by injection e)
abbrev FL := List (Fc × LV)
section
variable {w w' : World} {base : Nat} {v : Value} {l : FL}
end
end Go.Proofs.YtfmkmhhghmdakaaGreatDoor
namespace Go.Proofs.YtfmkmhhghmdakaaGreatDoor
set_option maxHeartbeats 64000000
set_option maxRecDepth 100000
open Go.RowKit Go.Shelf Go.Maps
set_option linter.unusedVariables false
set_option linter.unusedSimpArgs false
attribute [local go_sem] Oper.semAt_some
theorem lawIntO : Keyed Tryz.prog 3 := int_keyed Tryz.underlying3
end Go.Proofs.YtfmkmhhghmdakaaGreatDoor
namespace Go.Proofs.YtfmkmhhghmdakaaGreatDoor
open Go.RowKit Go.Shelf Go.Maps
set_option linter.unusedVariables false
set_option linter.unusedSimpArgs false
set_option maxHeartbeats 64000000
set_option maxRecDepth 100000
def ofY (m : RcL) (y : Int) : RcL := m.filter fun x => decide (x.1.yr = y)
theorem ofY_snoc (m : RcL) (x : Rc × LV) (y : Int) : ofY (m ++ [x]) y = if x.1.yr = y then ofY m y ++ [x] else ofY m y := by
  unfold ofY
  rw [List.filter_append]
  by_cases h : x.1.yr = y <;> simp [h]
theorem ofY_len (m : RcL) (y : Int) : (ofY m y).length ≤ m.length := List.length_filter_le _ _
structure GrpR (W : World) (B : Nat) (pre : RcL) (D : DataW Value) (f : Int → Value) : Prop where
  map : IsMap D
  at' : ∀ y : Int, D.atKey (.int .i64 y) (.held (.slice none 0 0)) = .held (f y)
  own : ∀ y, W.ownsRow B 172 3 (f y) (ofY pre y).length (rcCells (ofY pre y))
  ap : ∀ y z, y ≠ z → ∀ g, (f y).ownBlock = some g → (f z).ownBlock ≠ some g
theorem GrpR.empty (W : World) (B : Nat) : GrpR W B [] (.map []) (fun _ => .slice none 0 0) :=
  ⟨isMap_empty, fun _ => rfl, fun _ => World.ownsRow_nil _ _ _ _, fun _ _ _ g h => (by simp [Value.ownBlock] at h)⟩
theorem GrpR.kept {W W' : World} {B : Nat} {pre : RcL} {D : DataW Value} {f : Int → Value} (h : GrpR W B pre D f) {row : Option Nat} (hg : W.grownBy W' row) (hr : ∀ y g, (f y).ownBlock = some g → row ≠ some g) : GrpR W' B pre D f :=
  ⟨h.map, h.at', fun y => own_grown (h.own y) hg (fun g hgs e => hr y g hgs e), h.ap⟩
theorem GrpR.below {W W' : World} {B : Nat} {pre : RcL} {D : DataW Value} {f : Int → Value} (h : GrpR W B pre D f) (hb : Below W.heap.size W W') : GrpR W' B pre D f := h.kept (Go.Proofs.YtfmkmhhghmdakaaGreatDoor.Below.grown_none hb) (fun y g hg e => by cases e)
theorem GrpR.step {W W' : World} {B : Nat} {pre : RcL} {D : DataW Value} {f : Int → Value} (h : GrpR W B pre D f) (x : Rc × LV) {v' : Value}
    (hown : W'.ownsRow B 172 3 v' ((ofY pre x.1.yr).length + 1) (rcCells (ofY pre x.1.yr) ++ [.int .i64 x.1.yr, .int .i64 x.1.cr, .slice x.2.a x.1.rg.length x.2.c])) (hoth : ∀ y, y ≠ x.1.yr → W'.ownsRow B 172 3 (f y) (ofY pre y).length (rcCells (ofY pre y)))
    (hat : v'.ownBlock = (f x.1.yr).ownBlock ∨ ∃ g, v'.ownBlock = some g ∧ ∀ y, (f y).ownBlock ≠ some g) : GrpR W' B (pre ++ [x]) (D.put (.int .i64 x.1.yr) (.held v')) (fun y => if y = x.1.yr then v' else f y) := by
  have hk : WideAt.IsKeyLit (.int .i64 x.1.yr) := trivial
  have hal : ∀ y, y ≠ x.1.yr → ∀ g, v'.ownBlock = some g → (f y).ownBlock ≠ some g := by
    intro t ht g hg
    rcases hat with e | ⟨g', e, hno⟩
    · rw [e] at hg
      exact h.ap x.1.yr t (fun e => ht e.symm) g hg
    · rw [e] at hg
      injection hg with hg
      subst hg
      exact hno t
  refine ⟨h.map.put _ _, fun y => ?_, fun y => ?_, fun y z hst g hs => ?_⟩
  · by_cases hs : y = x.1.yr
    · subst hs
      rw [if_pos rfl]
      exact atKey_put_same h.map hk _ _
    · rw [if_neg hs, atKey_put_other (lit_ne hs)]
      exact h.at' y
  · rw [ofY_snoc]
    by_cases hs : y = x.1.yr
    · subst hs
      rw [if_pos rfl, if_pos rfl, List.length_append, rcCells_snoc]
      exact hown
    · rw [if_neg hs, if_neg (fun e => hs e.symm)]
      exact hoth y hs
  · by_cases h1 : y = x.1.yr
    · rw [if_pos h1] at hs
      rw [if_neg (fun e => hst (h1.trans e.symm))]
      exact hal z (fun e => hst (h1.trans e.symm)) g hs
    · rw [if_neg h1] at hs
      by_cases h2 : z = x.1.yr
      · rw [if_pos h2]
        exact fun e => hal y h1 g e hs
      · rw [if_neg h2]
        exact h.ap y z hst g hs
theorem zeroRcs (w : World) : (zeroValue 72).run Tryz.prog w = .ok (.slice none 0 0) w := by kernel_rfl
def YrPost (w : World) (l : RcL) (e : Ending) (w' : World) : Prop :=
  ∃ (b N : Nat) (D : DataW Value) (f : Int → Value), e = .returned (.map (some b)) ∧ w.heap.size ≤ b ∧ N ≤ 200 ∧ w'.ownsMap Tryz.prog 3 VR b N D ∧ GrpR w' (b + 1) l D f ∧ Below w.heap.size w w'
theorem years_any (A : Option Addr) (n c : Nat) (l : RcL) (w : World) (hA : SlRc w A n c l) (hn : n ≤ 200) (hy : ∀ x ∈ l, 0 ≤ x.1.yr ∧ x.1.yr ≤ 100) :
    Calls Tryz.prog 199 #[.slice A n c] w (YrPost w l) := by
  obtain ⟨i0, hi, hz0, hz1, hz2⟩ := info_parts Tryz.infoRc
  have HA := Lib.hid hA
  have Hln := Lib.hid hA.len
  have Hy := Lib.hid hy
  clear hA hy
  have hmm := @run_makeMap Tryz.prog
  go_enter Tryz.func199, Tryz.ntmps199
  go_upto_region 3 with fail
  clear hmm
  obtain ⟨b, hb⟩ : ∃ b, b = w.heap.size := ⟨_, rfl⟩
  have Hb := Lib.hid hb
  go_loopw [5, 9] (fun _ iv wr => ∃ (k N : Nat) (D : DataW Value) (f : Int → Value), k ≤ n ∧ iv = .int .i64 (k : Int) ∧ N ≤ k ∧ wr.ownsMap Tryz.prog 3 VR w.heap.size N D ∧ GrpR wr (w.heap.size + 1) (l.take k) D f ∧ Below w.heap.size w wr ∧ w.heap.size < wr.heap.size) (fun _ iv _ => n - (intOf iv).toNat)
  case atStart => exact ⟨0, 0, _, _, Nat.zero_le _, rfl, Nat.le_refl _, World.ownsMap_made w _ _ _, GrpR.empty _ _, gBel, by simp⟩
  case round =>
    obtain ⟨k, N, D, f, hk, rfl, hN, hmap, hgrp, hbw, hsz⟩ := hrel
    obtain ⟨wo, rfl⟩ : ∃ wo : World, wo = wr := ⟨_, rfl⟩
    have Hmap := Lib.hid hmap
    have Hgrp := Lib.hid hgrp
    have Hbw := Lib.hid hbw
    clear hmap hgrp hbw
    by_cases hkn : k < n
    · have hkn' : (k : Int) < (n : Int) := by omega
      have hkl : k < l.length := by rw [Hln.out]; exact hkn
      obtain ⟨bA, off, rfl, hbl, c0, c1, c2, hS⟩ := (HA.out.below Hbw.out).at k hkl
      have hyk := Hy.out l[k] (List.getElem_mem hkl)
      have Hts := Lib.hid (List.take_succ_eq_append_getElem hkl)
      obtain ⟨x, hx⟩ : ∃ x, x = l[k] := ⟨_, rfl⟩
      rw [← hx] at c0 c1 c2 hyk Hts
      have hPl : (ofY (l.take k) x.1.yr).length ≤ 200 := by
        have h1 := ofY_len (l.take k) x.1.yr
        rw [List.length_take] at h1
        omega
      clear hx hS
      obtain ⟨Y, hY⟩ : ∃ Y, Y = x.1.yr := ⟨_, rfl⟩
      go_upto_region 5 with fail
      obtain ⟨wa, hwa⟩ : ∃ wa : World, wa = wo.alloc (.cells #[.int .i64 x.1.yr, .int .i64 x.1.cr, .slice x.2.a x.1.rg.length x.2.c] 172) := ⟨_, rfl⟩
      rw [← hwa]
      obtain ⟨X, hX⟩ : ∃ X, X = wo.heap.size := ⟨_, rfl⟩
      have Hra : Hid (wa.heap[X]? = some (.cells #[.int .i64 x.1.yr, .int .i64 x.1.cr, .slice x.2.a x.1.rg.length x.2.c] 172 (0, 0))) := Lib.hid (by rw [hwa, hX]; exact heap_alloc_new wo _)
      have Hba : Hid (Below wo.heap.size wo wa) := Lib.hid (by rw [hwa]; exact gBel)
      have hsa : X < wa.heap.size := by rw [hwa, hX]; simp
      have hXw : w.heap.size < X := by omega
      have hXo : wo.heap.size ≤ X := by omega
      rw [← hX]
      have hmapa : Hid (wa.ownsMap Tryz.prog 3 VR w.heap.size N D) := Lib.hid (Hmap.out.kept (Go.Proofs.YtfmkmhhghmdakaaGreatDoor.Below.grown_none Hba.out) (by simp))
      have hgrpa := Lib.hid (Hgrp.out.below Hba.out)
      clear hwa hX c0 c1 c2
      have Hlook : Hid (∀ W : World, W.ownsMap Tryz.prog 3 VR w.heap.size N D → (Instr.lookup 245 (.map (some w.heap.size)) (.int .i64 x.1.yr) false).run Tryz.prog W = .ok (f x.1.yr) W) := Lib.hid (fun W h => held_look h lawIntO Tryz.underlying245 (zeroRcs W) (keyOf_int_mk Tryz.underlying3 (WalkArith.wf_i64 (by omega))) (Hgrp.out.at' x.1.yr))
      have Hown := Lib.hid (hgrpa.out.own x.1.yr)
      have Hbf := Lib.hid (fun y g (hg : (f y).ownBlock = some g) => own_base (hgrpa.out.own y) g hg)
      have Hlf := Lib.hid (fun y g (hg : (f y).ownBlock = some g) => own_lt (hgrpa.out.own y) g hg)
      generalize hV : f x.1.yr = V at Hlook Hown
      have HV := Lib.hid hV
      clear hV
      have l0 := Hlook.out wa.drew hmapa.out
      have a0 : wa.drew.cell? ⟨X, 0, none⟩ = some (.int .i64 x.1.yr) := cell_of_row _ _ 0 _ _ _ Hra.out
      have a1 : wa.drew.cell? ⟨X, 1, none⟩ = some (.int .i64 x.1.cr) := cell_of_row _ _ 1 _ _ _ Hra.out
      have a2 : wa.drew.cell? ⟨X, 2, none⟩ = some (.slice x.2.a x.1.rg.length x.2.c) := cell_of_row _ _ 2 _ _ _ Hra.out
      refine wp_region_held_tail (S := fun w' => (Instr.lookup 245 (.map (some w.heap.size)) (.int .i64 x.1.yr) false).run Tryz.prog w' = .ok V w' ∧ w'.cell? ⟨X, 0, none⟩ = some (.int .i64 x.1.yr) ∧ w'.cell? ⟨X, 1, none⟩ = some (.int .i64 x.1.cr) ∧ w'.cell? ⟨X, 2, none⟩ = some (.slice x.2.a x.1.rg.length x.2.c)) 10 (by kernel_rfl) (by kernel_rfl) (by kernel_rfl) ?_
      have hHeld : (fun w' : World => (Instr.lookup 245 (.map (some w.heap.size)) (.int .i64 x.1.yr) false).run Tryz.prog w' = .ok V w' ∧ w'.cell? ⟨X, 0, none⟩ = some (.int .i64 x.1.yr) ∧ w'.cell? ⟨X, 1, none⟩ = some (.int .i64 x.1.cr) ∧ w'.cell? ⟨X, 2, none⟩ = some (.slice x.2.a x.1.rg.length x.2.c)) wa.drew := ⟨l0, a0, a1, a2⟩
      clear l0 a0 a1 a2
      simp only [List.take_succ_cons, List.take_zero, List.replicate]
      refine wpAnyH_take (i := 0) (v := ?vva0) rfl (by kernel_rfl) (by kernel_rfl) (by kernel_rfl) (fun _ _ _ h => h) (Or.inl ⟨by rfl, ?hya0⟩) hHeld ?resta0; (case hya0 => (intro w hSw; (try dsimp only at hSw); go_simp; all_goals (with_reducible rfl))); simp only [Act.put, List.getElem_toArray, List.getElem_cons_zero, List.getElem_cons_succ, List.setIfInBounds_toArray, List.set_cons_zero, List.set_cons_succ]
      refine wpAnyH_take (i := 1) (v := ?vva1) rfl (by kernel_rfl) (by kernel_rfl) (by kernel_rfl) (fun _ _ _ h => h) (Or.inl ⟨by rfl, ?hya1⟩) hHeld ?resta1; (case hya1 => (intro w hSw; (try dsimp only at hSw); go_simp; all_goals (with_reducible rfl))); simp only [Act.put, List.getElem_toArray, List.getElem_cons_zero, List.getElem_cons_succ, List.setIfInBounds_toArray, List.set_cons_zero, List.set_cons_succ]
      refine wpAnyH_take (i := 2) (v := ?vva2) rfl (by kernel_rfl) (by kernel_rfl) (by kernel_rfl) (fun _ _ _ h => h) (Or.inl ⟨by rfl, ?hya2⟩) hHeld ?resta2; (case hya2 => (intro w hSw; (try dsimp only at hSw); go_simp; all_goals (with_reducible rfl))); simp only [Act.put, List.getElem_toArray, List.getElem_cons_zero, List.getElem_cons_succ, List.setIfInBounds_toArray, List.set_cons_zero, List.set_cons_succ]
      refine wpAnyH_take (i := 3) (v := ?vva3) rfl (by kernel_rfl) (by kernel_rfl) (by kernel_rfl) (fun _ _ _ h => h) (Or.inl ⟨by rfl, ?hya3⟩) hHeld ?resta3; (case hya3 => (intro w hSw; (try dsimp only at hSw); go_simp; all_goals (with_reducible rfl))); simp only [Act.put, List.getElem_toArray, List.getElem_cons_zero, List.getElem_cons_succ, List.setIfInBounds_toArray, List.set_cons_zero, List.set_cons_succ]
      refine wpAnyH_take (i := 4) (v := ?vva4) rfl (by kernel_rfl) (by kernel_rfl) (by kernel_rfl) (fun _ _ _ h => h) (Or.inl ⟨by rfl, ?hya4⟩) hHeld ?resta4; (case hya4 => (intro w hSw; (try dsimp only at hSw); go_simp; all_goals (with_reducible rfl))); simp only [Act.put, List.getElem_toArray, List.getElem_cons_zero, List.getElem_cons_succ, List.setIfInBounds_toArray, List.set_cons_zero, List.set_cons_succ]
      refine wpAnyH_take (i := 5) (v := ?vva5) rfl (by kernel_rfl) (by kernel_rfl) (by kernel_rfl) (fun _ _ _ h => h) (Or.inl ⟨by rfl, ?hya5⟩) hHeld ?resta5; (case hya5 => (intro w hSw; (try dsimp only at hSw); go_simp; all_goals (with_reducible rfl))); simp only [Act.put, List.getElem_toArray, List.getElem_cons_zero, List.getElem_cons_succ, List.setIfInBounds_toArray, List.set_cons_zero, List.set_cons_succ]
      refine wpAnyH_take (i := 6) (v := ?vva6) rfl (by kernel_rfl) (by kernel_rfl) (by kernel_rfl) (fun _ _ _ h => h) (Or.inl ⟨by rfl, ?hya6⟩) hHeld ?resta6; (case hya6 => (intro w hSw; (try dsimp only at hSw); go_simp; all_goals (with_reducible rfl))); simp only [Act.put, List.getElem_toArray, List.getElem_cons_zero, List.getElem_cons_succ, List.setIfInBounds_toArray, List.set_cons_zero, List.set_cons_succ]
      refine wpAnyH_take (i := 7) (v := ?vva7) rfl (by kernel_rfl) (by kernel_rfl) (by kernel_rfl) (fun _ _ _ h => h) (Or.inl ⟨by rfl, ?hya7⟩) hHeld ?resta7; (case hya7 => (intro w hSw; (try dsimp only at hSw); go_simp; all_goals (with_reducible rfl))); simp only [Act.put, List.getElem_toArray, List.getElem_cons_zero, List.getElem_cons_succ, List.setIfInBounds_toArray, List.set_cons_zero, List.set_cons_succ]
      refine wpAnyH_ready (rs := [8]) (by kernel_rfl) (by simp) ?_; refine AllReadyH.cons rfl (fun K hK => ?_) AllReadyH.nil
      go_simp
      have Hb9 : Hid (Below wa.heap.size wa (wa.drew.alloc (.cells #[.int .i64 x.1.yr, .int .i64 x.1.cr, .slice x.2.a x.1.rg.length x.2.c] 172))) := Lib.hid (by exact gBelo)
      have hr9 := (Hb9.out.block X hsa).trans Hra.out
      refine hK.out _ _ ⟨Hlook.out _ (hmapa.out.kept (Go.Proofs.YtfmkmhhghmdakaaGreatDoor.Below.grown_none Hb9.out) (by simp)), cell_of_row _ _ 0 _ _ _ hr9, cell_of_row _ _ 1 _ _ _ hr9, cell_of_row _ _ 2 _ _ _ hr9⟩ (fun hHeld => ?_)
      clear hK K
      (try simp only [Act.put, List.getElem_toArray, List.getElem_cons_zero, List.getElem_cons_succ, List.setIfInBounds_toArray, List.set_cons_zero, List.set_cons_succ])
      refine wpAnyH_ready (rs := [9]) (by kernel_rfl) (by simp) ?_; refine AllReadyH.cons rfl (fun K hK => ?_) AllReadyH.nil
      refine step_append_any _ rfl (.tmp 19) (.tmp 21) 72 rfl (w.heap.size + 1) 172 i0 (.agg #[.int .i64 0, .int .i64 0, .slice none 0 0]) 3 40 Tryz.underlying72 hi hz0 hz1 hz2 rfl (by omega) V (ofY (l.take k) x.1.yr).length (rcCells (ofY (l.take k) x.1.yr)) rfl (ownsRow_below Hown.out Hb9.out) _ _ 1 1 [.int .i64 x.1.yr, .int .i64 x.1.cr, .slice x.2.a x.1.rg.length x.2.c] rfl ⟨rfl, fun _ => ⟨_, rfl, Nat.lt_succ_self _, fun j u hu => (by exact news_any _ _ _ j u hu)⟩⟩ (by simp [Value.oneCell']) (by unfold maxLen; omega) (by omega) (by simp; omega) ?_
      intro v5 w10 hown5 hg5 hat5
      have Hown5 := Lib.hid hown5
      have Hg5 := Lib.hid hg5
      have hsz9 : wa.heap.size ≤ w10.heap.size := Nat.le_trans Hb9.out.size hg5.size
      have hVb : ∀ g, V.ownBlock = some g → w.heap.size + 1 ≤ g := own_base Hown.out
      have hr10 : w10.heap[X]? = _ := (hg5.block X (by simp; omega) (fun e => by
        have h1 := Hlf.out x.1.yr X (by rw [HV.out]; exact e.symm)
        have h2 := own_lt (Hgrp.out.own x.1.yr) X (by rw [HV.out]; exact e.symm)
        omega)).trans hr9
      have Hmap10 : Hid (w10.ownsMap Tryz.prog 3 VR w.heap.size N D) := Lib.hid ((hmapa.out.kept (Go.Proofs.YtfmkmhhghmdakaaGreatDoor.Below.grown_none Hb9.out) (by simp)).kept hg5 (fun e => by have := hVb _ e.symm; omega))
      have Hgrp10 : Hid (∀ y, y ≠ x.1.yr → w10.ownsRow (w.heap.size + 1) 172 3 (f y) (ofY (l.take k) y).length (rcCells (ofY (l.take k) y))) := Lib.hid (fun y hy => own_grown (ownsRow_below (hgrpa.out.own y) Hb9.out) hg5 (fun g hg e => by rw [← HV.out] at e; exact hgrpa.out.ap y x.1.yr hy g hg e))
      have Hat5 : Hid (v5.ownBlock = (f x.1.yr).ownBlock ∨ ∃ g, v5.ownBlock = some g ∧ ∀ y, (f y).ownBlock ≠ some g) := Lib.hid (by
        rw [HV.out]
        rcases hat5 with h | h
        · exact .inl h
        · exact .inr ⟨_, h, fun y e => by have := Hlf.out y _ e; simp at this; omega⟩)
      refine hK.out _ _ ⟨Hlook.out _ Hmap10.out, cell_of_row _ _ 0 _ _ _ hr10, cell_of_row _ _ 1 _ _ _ hr10, cell_of_row _ _ 2 _ _ _ hr10⟩ (fun hHeld => ?_)
      clear hK K hown5 hat5 hr9 hr10
      (try simp only [Act.put, List.getElem_toArray, List.getElem_cons_zero, List.getElem_cons_succ, List.setIfInBounds_toArray, List.set_cons_zero, List.set_cons_succ])
      refine wpAnyH_done (by kernel_rfl) ?_ _
      clear hHeld
      show wpList _ _ _ _ _ _
      refine wpList_mapUpdate_own w10 rfl _ _ _ 245 rfl 3 72 lawIntO Tryz.underlying245 _ w.heap.size N _ rfl Hmap10.out (by unfold maxLen; omega) _ _ _ rfl rfl (keyOf_int_mk Tryz.underlying3 (WalkArith.wf_i64 (by omega))) (.held v5) [] rfl ?_
      intro w11 hown11 hg11
      have Hown11 := Lib.hid hown11
      have Hg11 := Lib.hid hg11
      clear hown11 hg11
      go_wp2
      go_roundw
      case rel =>
        refine ⟨k + 1, N + 1, _, (fun y => if y = x.1.yr then v5 else f y), by omega, by go_num, by omega, Hown11.out, ?_, ?_, ?_⟩
        · rw [Hts.out]
          refine Hgrp.out.step x ?_ (fun y hy => ?_) Hat5.out
          · exact own_grown Hown5.out Hg11.out (fun g hg e => by have := own_base Hown5.out g hg; injection e with e; omega)
          · exact own_grown (Hgrp10.out y hy) Hg11.out (fun g hg e => by have := own_base (Hgrp10.out y hy) g hg; injection e with e; omega)
        · have h1 : Below w.heap.size w w10 := ((Hbw.out.trans (Hba.out.mono (by omega))).trans (Hb9.out.mono (by omega))).grown Hg5.out (by simp; omega) (fun g hg => by have := hVb g hg; omega)
          exact h1.grown Hg11.out (by omega) (fun g hg => by injection hg with hg; omega)
        · have := Hg11.out.size; omega
      case measure => simp [intOf]; omega
    · have hkn' : ¬ (k : Int) < (n : Int) := by omega
      have Hend : Hid (l.take k = l) := Lib.hid (List.take_of_length_le (by rw [Hln.out]; omega))
      go_wp2
      go_ret
      exact ⟨_, N, D, f, rfl, Nat.le_refl _, by omega, Hmap.out, by rw [← Hend.out]; exact Hgrp.out, Hbw.out⟩
end Go.Proofs.YtfmkmhhghmdakaaGreatDoor
