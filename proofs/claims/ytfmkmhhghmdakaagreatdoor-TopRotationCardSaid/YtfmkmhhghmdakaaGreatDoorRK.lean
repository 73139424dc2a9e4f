import Derived.Laws.StructEq
import Derived.MapFrom
import Derived.ChangeMaps5
import Derived.WideKeyEntry
import Derived.Test.YtfmkmhhghmdakaaGreatDoorSh
import Derived.Test.YtfmkmhhghmdakaaGreatDoorSh05
import Derived.Outline
import Derived.Lib.AppendZerosOnto
import Derived.Laws.CopyRow
import Derived.Laws.AppendOwn
import Derived.Deep.Upon
import Derived.Test.YtfmkmhhghmdakaaGreatDoorRA
import Derived.Test.YtfmkmhhghmdakaaGreatDoorRB
import Derived.Test.YtfmkmhhghmdakaaGreatDoorRC
import Derived.Test.YtfmkmhhghmdakaaGreatDoorRG
import Derived.Test.YtfmkmhhghmdakaaGreatDoorRJ
namespace Go.Proofs.YtfmkmhhghmdakaaGreatDoor
open Go.RowKit
set_option linter.unusedVariables false
set_option linter.unusedSimpArgs false
set_option maxHeartbeats 64000000
set_option maxRecDepth 100000
abbrev Pt := Int × Int
def ptV (p : Pt) : Value := .agg #[.int .i64 p.1, .int .i64 p.2]
def entsOf : Nat → List (Pt × Value) → List MapEntry
  | _, [] => []
  | i, x :: t => ⟨ptV x.1, x.2, i⟩ :: entsOf (i + 1) t
def PMap (w : World) (b : Nat) (E : List (Pt × Value)) : Prop := w.heap[b]? = some (.map (entsOf 0 E).toArray E.length)
def findP (p : Pt) : List (Pt × Value) → Nat → Option (Nat × Value)
  | [], _ => none
  | x :: t, i => if x.1 = p then some (i, x.2) else findP p t (i + 1)
def nilS : Value := .slice none 0 0
theorem run_ptEq (p q : Pt) (w : World) : (Op.equal 189 (ptV p) (ptV q)).run Tryz.prog w = .ok (decide (q = p)) w := by
  obtain ⟨a, b⟩ := p
  obtain ⟨c, d⟩ := q
  unfold ptV
  dsimp only
  show (Op.equalIn (9999 + 1) 189 _ _).run Tryz.prog w = _
  rw [run_equalIn_agg _ _ _ _ _ (by kernel_rfl) (by kernel_rfl)]
  simp only [Program.fieldsOf, Tryz.underlying189]
  by_cases h1 : a = c
  · subst h1
    by_cases h2 : b = d
    · subst h2; simp [go_sem, Tryz.underlying3]
    · have h2' : ¬ d = b := fun e => h2 e.symm
      have h3 : (b == d) = false := by simpa using h2
      simp [go_sem, Tryz.underlying3, h2', h3]
  · have h1' : ¬ c = a := fun e => h1 e.symm
    have h3 : (a == c) = false := by simpa using h1
    simp [go_sem, Tryz.underlying3, h1', h3]
theorem run_checkInt (w : World) (e : Bool) (n : Nat) (a : Int) : (Instr.checkKey e (n + 1) 3 (.int .i64 a)).run Tryz.prog w = .ok () w := by
  unfold Instr.checkKey
  simp [go_sem, Tryz.underlying3]
theorem run_checkPt (w : World) (e : Bool) (p : Pt) : (Instr.checkKey e 10000 189 (ptV p)).run Tryz.prog w = .ok () w := by
  obtain ⟨a, b⟩ := p
  unfold ptV
  dsimp only
  have h : ∀ x, (Instr.checkKey e 9999 3 (.int .i64 x)).run Tryz.prog w = .ok () w := fun x => run_checkInt w e 9998 x
  show (Instr.checkKey e (9999 + 1) 189 _).run Tryz.prog w = _
  unfold Instr.checkKey
  simp [go_sem, Tryz.underlying189, h]
theorem run_findPt (p : Pt) (w : World) : ∀ (E : List (Pt × Value)) (j i : Nat), (Instr.findAsking 189 (ptV p) (entsOf j E) i).run Tryz.prog w = .ok (findP p E i) w
  | [], j, i => by simp [entsOf, Instr.findAsking, findP]
  | x :: t, j, i => by
    simp only [entsOf, Instr.findAsking, findP, Sem.run_bind, run_ptEq, Result.andThen_ok]
    by_cases h : x.1 = p
    · simp [h]
    · simp [h, run_findPt p w t (j + 1) (i + 1)]
theorem run_findKeyPt (p : Pt) (w : World) (E : List (Pt × Value)) : (Instr.findKey 189 (ptV p) (entsOf 0 E)).run Tryz.prog w = .ok (findP p E 0) w := by
  unfold Instr.findKey
  simp only [Sem.run_bind, run_underlying Tryz.underlying189, Result.andThen_ok]
  cases E with
  | nil => simp [entsOf, Instr.findNow, findP]
  | cons x t =>
    have : Instr.findNow (Tryz.prog.underlying 189).get! (ptV p) (entsOf 0 (x :: t)) 0 = none := by rw [Tryz.underlying189]; rfl
    rw [Tryz.underlying189] at this
    simp only [Option.get!_some] at this
    rw [this]
    exact run_findPt p w (x :: t) 0 0
theorem entsOf_get : ∀ (E : List (Pt × Value)) (j i : Nat), (entsOf j E)[i]? = E[i]?.map fun x => (⟨ptV x.1, x.2, j + i⟩ : MapEntry)
  | [], j, i => by simp [entsOf]
  | x :: t, j, 0 => by simp [entsOf]
  | x :: t, j, i + 1 => by
    simp only [entsOf, List.getElem?_cons_succ]
    rw [entsOf_get t (j + 1) i, show j + 1 + i = j + (i + 1) by omega]
theorem entsOf_snoc (x : Pt × Value) : ∀ (E : List (Pt × Value)) (j : Nat), entsOf j (E ++ [x]) = entsOf j E ++ [⟨ptV x.1, x.2, j + E.length⟩]
  | [], j => by simp [entsOf]
  | y :: t, j => by
    simp only [List.cons_append, entsOf, entsOf_snoc x t (j + 1), List.length_cons]
    rw [show j + 1 + t.length = j + (t.length + 1) by omega]
theorem entsOf_set (E : List (Pt × Value)) (i : Nat) (p : Pt) (v u : Value) (h : E[i]? = some (p, u)) (j : Nat) : (entsOf j E).modify i (fun e => { e with val := v }) = entsOf j (E.set i (p, v)) := by
  apply List.ext_getElem?
  intro m
  rw [List.getElem?_modify, entsOf_get, entsOf_get, List.getElem?_set]
  by_cases hm : i = m
  · subst hm
    obtain ⟨hl, he⟩ := List.getElem?_eq_some_iff.1 h
    simp [h, hl, he]
  · simp [hm]
theorem findP_some {p : Pt} : ∀ {E : List (Pt × Value)} {j i : Nat} {v : Value}, findP p E j = some (i, v) → ∃ d, i = j + d ∧ E[d]? = some (p, v)
  | [], j, i, v, h => by simp [findP] at h
  | x :: t, j, i, v, h => by
    unfold findP at h
    by_cases hx : x.1 = p
    · rw [if_pos hx] at h
      injection h with h
      injection h with h1 h2
      exact ⟨0, by omega, by subst h2; simp [← hx]⟩
    · rw [if_neg hx] at h
      obtain ⟨d, h1, h2⟩ := findP_some h
      exact ⟨d + 1, by omega, by simpa using h2⟩
def mapT (t : TypeId) : Prop := Tryz.prog.underlying t = some (.map 189 186)
def getP (p : Pt) (E : List (Pt × Value)) : Value := match findP p E 0 with
  | some (_, v) => v
  | none => nilS
theorem zeroEs (w : World) : (zeroValue 186).run Tryz.prog w = .ok (.slice none 0 0) w := Tryz.zeroValue186 w
section
theorem PMap.turn {w : World} {b : Nat} {es : Array MapEntry} {c : Nat} (h : w.heap[b]? = some (.map es c)) (E : List (Pt × Value)) : PMap (Go.ChangeMaps.setBlock w b (.map (entsOf 0 E).toArray E.length)) b E ∧ w.grownBy (Go.ChangeMaps.setBlock w b (.map (entsOf 0 E).toArray E.length)) (some b) ∧ (Go.ChangeMaps.setBlock w b (.map (entsOf 0 E).toArray E.length)).heap.size = w.heap.size :=
  ⟨Go.ChangeMaps.heap_setBlock_same h _, ⟨rfl, rfl, rfl, by simp [Go.ChangeMaps.setBlock], fun i _ hi => Go.ChangeMaps.heap_setBlock_other h _ (fun e => hi (by rw [e]))⟩, by simp [Go.ChangeMaps.setBlock]⟩
theorem pm_lookup {w : World} {b : Nat} {E : List (Pt × Value)} (h : PMap w b E) {t : TypeId} (ht : mapT t) (p : Pt) : (Instr.lookup t (.map (some b)) (ptV p) false).run Tryz.prog w = .ok (getP p E) w := by
  have hf := run_findKeyPt p w E
  unfold getP
  cases hx : findP p E 0 with
  | none =>
    rw [hx] at hf
    simp [Instr.lookup, run_underlying ht, MapKept.run_getObj_map h, run_checkPt, hf, zeroEs, Result.andThen, nilS]
  | some x =>
    obtain ⟨i, v⟩ := x
    rw [hx] at hf
    simp [Instr.lookup, run_underlying ht, MapKept.run_getObj_map h, run_checkPt, hf, Result.andThen]
theorem run_staysPt (p : Pt) (w : World) : (Instr.keyThatStays (ptV p) (ptV p)).run Tryz.prog w = .ok (ptV p) w := by
  have : Instr.sameBits 10000 (ptV p) (ptV p) = true := by
    show Instr.sameBits (9998 + 1 + 1) (ptV p) (ptV p) = true
    simp [Instr.sameBits, ptV]
  simp [Instr.keyThatStays, this]
theorem pm_update {w : World} {b : Nat} {E : List (Pt × Value)} (h : PMap w b E) {t : TypeId} (ht : mapT t) (p : Pt) (v : Value) {i : Nat} {u : Value} (hx : findP p E 0 = some (i, u)) :
    ∃ w', (Instr.mapUpdate t (.map (some b)) (ptV p) v).run Tryz.prog w = .ok () w' ∧ PMap w' b (E.set i (p, v)) ∧ w.grownBy w' (some b) ∧ w'.heap.size = w.heap.size := by
  have hf := run_findKeyPt p w E
  rw [hx] at hf
  obtain ⟨d, hd, hE⟩ := findP_some hx
  obtain rfl : i = d := by omega
  have hj : (entsOf 0 E)[i]? = some ⟨ptV p, u, i⟩ := by rw [entsOf_get, hE]; simp
  have hmod : (entsOf 0 E).modify i (fun e => { e with key := ptV p, val := v }) = entsOf 0 (E.set i (p, v)) := by
    rw [← entsOf_set E i p v u hE 0, Go.ChangeMaps.modify_eq_set _ _ _ _ hj, Go.ChangeMaps.modify_eq_set _ _ _ _ hj]
  have hlen : (E.set i (p, v)).length = E.length := List.length_set
  obtain ⟨h1, h2, h3⟩ := PMap.turn h (E.set i (p, v))
  refine ⟨_, ?_, h1, h2, h3⟩
  have hja : (entsOf 0 E).toArray[i]? = some ⟨ptV p, u, i⟩ := by simpa using hj
  simp [Instr.mapUpdate, run_underlying ht, MapKept.run_getObj_map h, run_checkPt, hf, hj, run_staysPt, hmod, hlen, MapKept.run_setObj_map _ h, Result.andThen, Go.ChangeMaps.setBlock]
def entE (p : Pt) (E : List (Pt × Value)) : List (Pt × Value) := match findP p E 0 with
  | some _ => E
  | none => E ++ [(p, nilS)]
def entI (p : Pt) (E : List (Pt × Value)) : Nat := match findP p E 0 with
  | some (i, _) => i
  | none => E.length
theorem pm_entry {w : World} {b : Nat} {E : List (Pt × Value)} (h : PMap w b E) {t : TypeId} (ht : mapT t) (p : Pt) :
    ∃ w', (Instr.mapEntry t (.map (some b)) (ptV p)).run Tryz.prog w = .ok (.tuple #[getP p E, goInt (entI p E)]) w' ∧ PMap w' b (entE p E) ∧ w.grownBy w' (some b) ∧ w'.heap.size = w.heap.size := by
  have hf := run_findKeyPt p w E
  obtain ⟨h1, h2, h3⟩ := PMap.turn h (entE p E)
  refine ⟨_, ?_, h1, h2, h3⟩
  unfold getP entE entI
  cases hx : findP p E 0 with
  | none =>
    rw [hx] at hf
    have hpush : entsOf 0 E ++ [⟨ptV p, nilS, E.length⟩] = entsOf 0 (E ++ [(p, nilS)]) := by
      rw [entsOf_snoc]
      simp
    simp only [nilS] at hpush
    simp [Instr.mapEntry, run_underlying ht, MapKept.run_getObj_map h, run_checkPt, hf, zeroEs, hpush, MapKept.run_setObj_map _ h, Result.andThen, Go.ChangeMaps.setBlock, nilS]
  | some x =>
    obtain ⟨i, v⟩ := x
    rw [hx] at hf
    obtain ⟨d, hd, hE⟩ := findP_some hx
    obtain rfl : i = d := by omega
    have hj : (entsOf 0 E)[i]? = some ⟨ptV p, v, i⟩ := by rw [entsOf_get, hE]; simp
    have hsame : (entsOf 0 E).modify i (fun e => { e with key := ptV p }) = entsOf 0 E := by
      rw [Go.ChangeMaps.modify_eq_set _ _ _ _ hj]
      exact Go.WideElems.set_self _ _ _ hj
    simp [Instr.mapEntry, run_underlying ht, MapKept.run_getObj_map h, run_checkPt, hf, hj, run_staysPt, hsame, MapKept.run_setObj_map _ h, Result.andThen, Go.ChangeMaps.setBlock]
theorem pm_store {w : World} {b : Nat} {E : List (Pt × Value)} (h : PMap w b E) {t : TypeId} (p : Pt) (v : Value) {i : Nat} {u : Value} (hE : E[i]? = some (p, u)) :
    ∃ w', (Instr.entryStore t (.map (some b)) (goInt i) v).run Tryz.prog w = .ok () w' ∧ PMap w' b (E.set i (p, v)) ∧ w.grownBy w' (some b) ∧ w'.heap.size = w.heap.size := by
  obtain ⟨h1, h2, h3⟩ := PMap.turn h (E.set i (p, v))
  refine ⟨_, ?_, h1, h2, h3⟩
  have hj : (entsOf 0 E)[i]? = some ⟨ptV p, u, i⟩ := by rw [entsOf_get, hE]; simp
  have hnd : ((entsOf 0 E).map (·.born)).Nodup := by
    have : (entsOf 0 E).map (·.born) = List.range E.length := by
      apply List.ext_getElem?
      intro m
      rw [List.getElem?_map, entsOf_get]
      by_cases hm : m < E.length
      · simp [hm]
      · simp [hm]
    rw [this]
    exact List.nodup_range
  have hidx : (entsOf 0 E).findIdx? (fun e => ((e.born : Nat) : Int) == ((i : Nat) : Int)) = some i := Go.WideElems.findIdx_born (e0 := ⟨ptV p, u, i⟩) hnd hj
  have hmod : (entsOf 0 E).modify i (fun e => { e with val := v }) = entsOf 0 (E.set i (p, v)) := entsOf_set E i p v u hE 0
  have hlen : (E.set i (p, v)).length = E.length := List.length_set
  simp [Instr.entryStore, MapKept.run_getObj_map h, asInt, asIntOf, goInt, hidx, hmod, hlen, MapKept.run_setObj_map _ h, Result.andThen, Go.ChangeMaps.setBlock]
end
end Go.Proofs.YtfmkmhhghmdakaaGreatDoor
namespace Go.Proofs.YtfmkmhhghmdakaaGreatDoor
open Go.RowKit Go.Shelf
set_option linter.unusedVariables false
set_option linter.unusedSimpArgs false
set_option maxHeartbeats 64000000
set_option maxRecDepth 100000
abbrev cI (a b : Int) : Int := Lib.compareInt a b
theorem cI_cases (a b : Int) : (cI a b = -1 ∧ a < b) ∨ (cI a b = 0 ∧ a = b) ∨ (cI a b = 1 ∧ b < a) := by
  unfold cI Lib.compareInt
  by_cases h1 : a < b
  · simp [h1]
  · by_cases h2 : b < a
    · simp [h1, h2]
    · simp [h1, h2]; omega
theorem cmpI_any (x y : Int) (w : World) : Calls Tryz.prog 171 #[.int .i64 x, .int .i64 y] w fun e w' => e = .returned (.int .i64 (cI x y)) ∧ w' = w := by
  have hcon := AnyG.cmp_Compare_int Tryz.layCompare x y w
  change Calls Tryz.prog 171 _ _ _ at hcon
  exact hcon
def orI (a b : Int) : Int := if a = 0 then b else a
theorem orI_any (g : Nat) (a b : Int) (w : World) (h0 : w.cell? ⟨g, 0, none⟩ = some (.int .i64 a)) (h1 : w.cell? ⟨g, 1, none⟩ = some (.int .i64 b)) :
    Calls Tryz.prog 170 #[.slice (some ⟨g, 0, none⟩) 2 2] w fun e w' => e = .returned (.int .i64 (orI a b)) ∧ w' = w := by
  by_cases ha : a = 0
  · have e0 : orI a b = b := if_pos ha
    rw [e0]
    clear e0
    subst ha
    by_cases hb : b = 0
    · subst hb
      go_enter Tryz.func170, Tryz.ntmps170
      go_wp2
      go_loop [8] (fun i => i = .int .i64 0 ∨ i = .int .i64 1 ∨ i = .int .i64 2) (fun i => 2 - (intOf i).toNat)
      case atStart => exact .inl rfl
      case round =>
        rcases hrel with rfl | rfl | rfl
        · go_wp2
          go_round
          case rel => exact .inr (.inl rfl)
          case measure => simp [intOf]
        · go_wp2
          go_round
          case rel => exact .inr (.inr rfl)
          case measure => simp [intOf]
        · go_wp2
          go_ret
          exact ⟨rfl, rfl⟩
    · go_enter Tryz.func170, Tryz.ntmps170
      go_wp2
      go_loop [8] (fun i => i = .int .i64 0 ∨ i = .int .i64 1) (fun i => 2 - (intOf i).toNat)
      case atStart => exact .inl rfl
      case round =>
        rcases hrel with rfl | rfl
        · go_wp2
          go_round
          case rel => exact .inr rfl
          case measure => simp [intOf]
        · go_wp2
          go_ret
          exact ⟨rfl, rfl⟩
  · have e0 : orI a b = a := if_neg ha
    rw [e0]
    clear e0
    go_enter Tryz.func170, Tryz.ntmps170
    go_wp2
    go_loop [8] (fun i => i = .int .i64 0) (fun i => 0)
    case atStart => rfl
    case round =>
      subst hrel
      go_wp2
      go_ret
      exact ⟨rfl, rfl⟩
def lowP (p q : Pt) : Int := orI (cI p.2 q.2) (cI p.1 q.1)
theorem lower_any (p q : Pt) (w : World) : Calls Tryz.prog 151 #[.agg #[.int .i64 p.1, .int .i64 p.2], .agg #[.int .i64 q.1, .int .i64 q.2]] w fun e w' => e = .returned (.int .i64 (lowP p q)) ∧ Below w.heap.size w w' := by
  obtain ⟨a, b⟩ := p
  obtain ⟨c, d⟩ := q
  have Hc1 := Lib.hid (fun W => cmpI_any b d W)
  have Hc2 := Lib.hid (fun W => cmpI_any a c W)
  have Hr : Hid (lowP (a, b) (c, d) = orI (cI b d) (cI a c)) := Lib.hid rfl
  generalize lowP (a, b) (c, d) = res at *
  generalize cI b d = c1 at *
  generalize cI a c = c2 at *
  dsimp only at *
  go_enter Tryz.func151, Tryz.ntmps151
  go_upto_region 1 with fail
  obtain ⟨wa, hwa⟩ : ∃ wa : World, wa = (w.alloc (.cells #[.int .i64 a, .int .i64 b] 189)).alloc (.cells #[.int .i64 c, .int .i64 d] 189) := ⟨_, rfl⟩
  rw [← hwa]
  have HG : Hid (wa.heap[w.heap.size]? = some (.cells #[.int .i64 a, .int .i64 b] 189 (0, 0))) := Lib.hid (by rw [hwa]; exact (Below.heap_alloc _ _ _ (by simp)).trans (heap_alloc_new w _))
  have HE : Hid (wa.heap[w.heap.size + 1]? = some (.cells #[.int .i64 c, .int .i64 d] 189 (0, 0))) := Lib.hid (by rw [hwa]; have hzz := heap_alloc_new (w.alloc (.cells #[.int .i64 a, .int .i64 b] 189)) (.cells #[.int .i64 c, .int .i64 d] 189); rw [World.size_alloc] at hzz; exact hzz)
  have Hba : Hid (Below w.heap.size w wa) := Lib.hid (by rw [hwa]; exact gBel)
  have hlE : w.heap.size + 1 < wa.heap.size := by rw [hwa]; simp
  clear hwa
  have hlG : w.heap.size < wa.heap.size := by omega
  have a0 := cell_of_row wa w.heap.size 0 _ _ _ HG.out
  have a1 := cell_of_row wa w.heap.size 1 _ _ _ HG.out
  have b0 := cell_of_row wa (w.heap.size + 1) 0 _ _ _ HE.out
  have b1 := cell_of_row wa (w.heap.size + 1) 1 _ _ _ HE.out
  have Hor := Lib.hid (orI_any wa.heap.size c1 c2 (wa.alloc (.cells #[.int .i64 c1, .int .i64 c2] 3)).drew (cell_of_row _ _ 0 _ _ _ (heap_alloc_new wa _)) (cell_of_row _ _ 1 _ _ _ (heap_alloc_new wa _)))
  have Hb2 : Hid (Below w.heap.size w (wa.alloc (.cells #[.int .i64 c1, .int .i64 c2] 3)).drew) := Lib.hid ((Hba.out.alloc (by omega) _).drew)
  rw [← Hr.out] at Hor
  go_region_held3 (fun w' => w'.cell? ⟨w.heap.size, 0, none⟩ = some (.int .i64 a) ∧ w'.cell? ⟨w.heap.size, 1, none⟩ = some (.int .i64 b) ∧ w'.cell? ⟨w.heap.size + 1, 0, none⟩ = some (.int .i64 c) ∧ w'.cell? ⟨w.heap.size + 1, 1, none⟩ = some (.int .i64 d))
    (first | exact ⟨a0, a1, b0, b1⟩ | exact ⟨(World.cell?_alloc_lt wa _ ⟨w.heap.size, 0, none⟩ hlG).trans a0, (World.cell?_alloc_lt wa _ ⟨w.heap.size, 1, none⟩ hlG).trans a1, (World.cell?_alloc_lt wa _ ⟨w.heap.size + 1, 0, none⟩ hlE).trans b0, (World.cell?_alloc_lt wa _ ⟨w.heap.size + 1, 1, none⟩ hlE).trans b1⟩ | go_keep)
    (first
      | (go_at_call_of 171 (Value.int IntKind.i64 b); refine (Hc1.out _).mono ?_; rintro e w1 ⟨rfl, rfl⟩)
      | (go_at_call_of 171 (Value.int IntKind.i64 a); refine (Hc2.out _).mono ?_; rintro e w1 ⟨rfl, rfl⟩)
      | (go_at_call 170; refine Hor.out.mono ?_; rintro e w1 ⟨rfl, rfl⟩)
      | fail)
  all_goals go_wp2
  all_goals go_ret
  all_goals exact ⟨rfl, Hb2.out⟩
def turnP (e f : R4) : Int := cI e.r e.l * cI f.t f.b - cI e.t e.b * cI f.r f.l
theorem cI_bd (a b : Int) : -1 ≤ cI a b ∧ cI a b ≤ 1 := by
  rcases cI_cases a b with h | h | h <;> omega
theorem mul_bd {a b : Int} (ha : -1 ≤ a ∧ a ≤ 1) (hb : -1 ≤ b ∧ b ≤ 1) : -1 ≤ a * b ∧ a * b ≤ 1 := by
  rcases (show a = -1 ∨ a = 0 ∨ a = 1 by omega) with rfl | rfl | rfl <;> omega
theorem turn_any (e f : R4) (w : World) : Calls Tryz.prog 228 #[.agg #[.int .i64 e.l, .int .i64 e.b, .int .i64 e.r, .int .i64 e.t], .agg #[.int .i64 f.l, .int .i64 f.b, .int .i64 f.r, .int .i64 f.t]] w fun en w' => en = .returned (.int .i64 (turnP e f)) ∧ Below w.heap.size w w' := by
  obtain ⟨el, eb, er, et⟩ := e
  obtain ⟨fl, fb, fr, ft⟩ := f
  have Hc1 := Lib.hid (fun W => cmpI_any er el W)
  have Hc2 := Lib.hid (fun W => cmpI_any et eb W)
  have Hc3 := Lib.hid (fun W => cmpI_any fr fl W)
  have Hc4 := Lib.hid (fun W => cmpI_any ft fb W)
  have Hr : Hid (turnP ⟨el, eb, er, et⟩ ⟨fl, fb, fr, ft⟩ = cI er el * cI ft fb - cI et eb * cI fr fl) := Lib.hid rfl
  have h1 := cI_bd er el
  have h2 := cI_bd et eb
  have h3 := cI_bd fr fl
  have h4 := cI_bd ft fb
  generalize turnP ⟨el, eb, er, et⟩ ⟨fl, fb, fr, ft⟩ = res at *
  generalize cI er el = x at *
  generalize cI et eb = y at *
  generalize cI fr fl = u at *
  generalize cI ft fb = v at *
  have m1 := mul_bd h1 h4
  have m2 := mul_bd h2 h3
  obtain ⟨xv, hxv⟩ : ∃ z, x * v = z := ⟨_, rfl⟩
  obtain ⟨yu, hyu⟩ : ∃ z, y * u = z := ⟨_, rfl⟩
  rw [hxv] at m1
  rw [hyu] at m2
  have w1 : IntKind.i64.wrap (x * v) = xv := by rw [hxv]; exact IntWalk.i64_in _ (by omega)
  have w2 : IntKind.i64.wrap (y * u) = yu := by rw [hyu]; exact IntWalk.i64_in _ (by omega)
  have w3 : IntKind.i64.wrap (xv - yu) = res := by rw [Hr.out, hxv, hyu]; exact IntWalk.i64_in _ (by omega)
  dsimp only at *
  clear Hr hxv hyu h1 h2 h3 h4 m1 m2
  have W1 := Lib.hid w1
  have W2 := Lib.hid w2
  have W3 := Lib.hid w3
  clear w1 w2 w3
  go_enter Tryz.func228, Tryz.ntmps228
  go_upto_region 1 with fail
  obtain ⟨wa, hwa⟩ : ∃ wa : World, wa = (w.alloc (.cells #[.int .i64 el, .int .i64 eb, .int .i64 er, .int .i64 et] 191)).alloc (.cells #[.int .i64 fl, .int .i64 fb, .int .i64 fr, .int .i64 ft] 191) := ⟨_, rfl⟩
  rw [← hwa]
  have HG : Hid (wa.heap[w.heap.size]? = some (.cells #[.int .i64 el, .int .i64 eb, .int .i64 er, .int .i64 et] 191 (0, 0))) := Lib.hid (by rw [hwa]; exact (Below.heap_alloc _ _ _ (by simp)).trans (heap_alloc_new w _))
  have HE : Hid (wa.heap[w.heap.size + 1]? = some (.cells #[.int .i64 fl, .int .i64 fb, .int .i64 fr, .int .i64 ft] 191 (0, 0))) := Lib.hid (by rw [hwa]; have hzz := heap_alloc_new (w.alloc (.cells #[.int .i64 el, .int .i64 eb, .int .i64 er, .int .i64 et] 191)) (.cells #[.int .i64 fl, .int .i64 fb, .int .i64 fr, .int .i64 ft] 191); rw [World.size_alloc] at hzz; exact hzz)
  have Hba : Hid (Below w.heap.size w wa) := Lib.hid (by rw [hwa]; exact gBel)
  have hlE : w.heap.size + 1 < wa.heap.size := by rw [hwa]; simp
  clear hwa
  have hlG : w.heap.size < wa.heap.size := by omega
  have a0 := cell_of_row wa w.heap.size 0 _ _ _ HG.out
  have a1 := cell_of_row wa w.heap.size 1 _ _ _ HG.out
  have a2 := cell_of_row wa w.heap.size 2 _ _ _ HG.out
  have a3 := cell_of_row wa w.heap.size 3 _ _ _ HG.out
  go_region_held3 (fun w' => w'.cell? ⟨w.heap.size, 0, none⟩ = some (.int .i64 el) ∧ w'.cell? ⟨w.heap.size, 1, none⟩ = some (.int .i64 eb) ∧ w'.cell? ⟨w.heap.size, 2, none⟩ = some (.int .i64 er) ∧ w'.cell? ⟨w.heap.size, 3, none⟩ = some (.int .i64 et))
    (first | exact ⟨a0, a1, a2, a3⟩ | go_keep)
    (first
      | (go_at_call_of 171 (Value.int IntKind.i64 er); refine (Hc1.out _).mono ?_; rintro e w1 ⟨rfl, rfl⟩)
      | (go_at_call_of 171 (Value.int IntKind.i64 et); refine (Hc2.out _).mono ?_; rintro e w1 ⟨rfl, rfl⟩)
      | fail)
  go_upto_region 2 with fail
  have b0 : wa.drew.cell? ⟨w.heap.size + 1, 0, none⟩ = _ := cell_of_row wa (w.heap.size + 1) 0 _ _ _ HE.out
  have b1 : wa.drew.cell? ⟨w.heap.size + 1, 1, none⟩ = _ := cell_of_row wa (w.heap.size + 1) 1 _ _ _ HE.out
  have b2 : wa.drew.cell? ⟨w.heap.size + 1, 2, none⟩ = _ := cell_of_row wa (w.heap.size + 1) 2 _ _ _ HE.out
  have b3 : wa.drew.cell? ⟨w.heap.size + 1, 3, none⟩ = _ := cell_of_row wa (w.heap.size + 1) 3 _ _ _ HE.out
  go_region_held3 (fun w' => w'.cell? ⟨w.heap.size + 1, 0, none⟩ = some (.int .i64 fl) ∧ w'.cell? ⟨w.heap.size + 1, 1, none⟩ = some (.int .i64 fb) ∧ w'.cell? ⟨w.heap.size + 1, 2, none⟩ = some (.int .i64 fr) ∧ w'.cell? ⟨w.heap.size + 1, 3, none⟩ = some (.int .i64 ft))
    (first | exact ⟨b0, b1, b2, b3⟩ | go_keep)
    (first
      | (go_at_call_of 171 (Value.int IntKind.i64 fr); refine (Hc3.out _).mono ?_; rintro e w1 ⟨rfl, rfl⟩)
      | (go_at_call_of 171 (Value.int IntKind.i64 ft); refine (Hc4.out _).mono ?_; rintro e w1 ⟨rfl, rfl⟩)
      | fail)
  have w1 := W1.out
  have w2 := W2.out
  have w3 := W3.out
  go_wp2
  go_ret
  exact ⟨rfl, Hba.out.drew.drew⟩
end Go.Proofs.YtfmkmhhghmdakaaGreatDoor
namespace Go.Proofs.YtfmkmhhghmdakaaGreatDoor
open Go.RowKit Go.Shelf Go.Lib Go.Sort
set_option linter.unusedVariables false
set_option linter.unusedSimpArgs false
set_option maxHeartbeats 64000000
set_option maxRecDepth 100000
theorem Tryz.infoPoint : (Tryz.prog.info? 189).map (fun i => (i.zero, i.size, i.bytes)) = some (some (.agg #[.int .i64 0, .int .i64 0]), 2, 16) := by kernel_rfl
def encPt (p : Pt) : List Value := [.int .i64 p.1, .int .i64 p.2]
def pCells (l : List Pt) : List Value := l.flatMap encPt
theorem pCells_len (l : List Pt) : (pCells l).length = l.length * 2 := by
  induction l with
  | nil => rfl
  | cons a t ih => simp [pCells, encPt] at *; omega
theorem pCells_at (l : List Pt) (i : Nat) (h : i < l.length) : (pCells l)[i * 2]? = some (.int .i64 l[i].1) ∧ (pCells l)[i * 2 + 1]? = some (.int .i64 l[i].2) := by
  induction l generalizing i with
  | nil => simp at h
  | cons o r ih =>
    have hc : pCells (o :: r) = [.int .i64 o.1, .int .i64 o.2] ++ pCells r := by simp [pCells, encPt]
    rw [hc]
    rcases i with _ | i
    · simp
    · have := ih i (by simpa using h)
      refine ⟨?_, ?_⟩ <;> rw [List.getElem?_append_right (by simp; omega)]
      · rw [show (i + 1) * 2 - ([Value.int .i64 o.1, .int .i64 o.2] : List Value).length = i * 2 from by simp; omega]; exact this.1
      · rw [show (i + 1) * 2 + 1 - ([Value.int .i64 o.1, .int .i64 o.2] : List Value).length = i * 2 + 1 from by simp; omega]; exact this.2
structure SlPt (w : World) (A : Option Addr) (n c : Nat) (l : List Pt) : Prop where
  len : l.length = n
  cap : n ≤ c
  top : c ≤ maxLen
  lies : Lies w A n (pCells l)
theorem SlPt.below {w w' : World} {A : Option Addr} {n c : Nat} {l : List Pt} (h : SlPt w A n c l) (hb : Below w.heap.size w w') : SlPt w' A n c l := ⟨h.len, h.cap, h.top, h.lies.below hb⟩
theorem SlPt.reads {w : World} {A : Option Addr} {n c : Nat} {l : List Pt} (h : SlPt w A n c l) : Reads w w.heap.size 2 A n (pCells l) := h.lies.reads (by rw [pCells_len, h.len])
theorem SlPt.at {w : World} {A : Option Addr} {n c : Nat} {l : List Pt} (h : SlPt w A n c l) (i : Nat) (hi : i < l.length) :
    ∃ b off, A = some ⟨b, off, none⟩ ∧ b < w.heap.size ∧ w.cell? ⟨b, off + i * 2, none⟩ = some (.int .i64 l[i].1) ∧ w.cell? ⟨b, off + i * 2 + 1, none⟩ = some (.int .i64 l[i].2) := by
  obtain ⟨b, off, e, hb, hc⟩ := h.lies.resolve_left (by have := h.len; omega)
  obtain ⟨h0, h1⟩ := pCells_at l i hi
  exact ⟨b, off, e, hb, hc _ _ h0, hc _ _ h1⟩
theorem SlPt.of_own {w : World} {base : Nat} {v : Value} {l : List Pt} (h : w.ownsRow base 189 2 v l.length (pCells l)) : ∃ A c, v = .slice A l.length c ∧ SlPt w A l.length c l := by
  obtain ⟨A, c, rfl, h1, h2, h3⟩ := own_slice h
  exact ⟨A, c, rfl, rfl, h2, h3, h1⟩
theorem pCells_app (a b : List Pt) : pCells (a ++ b) = pCells a ++ pCells b := by simp [pCells]
theorem pCells_one (l : List Pt) : ∀ u ∈ pCells l, u.oneCell' = true := by
  intro u hu
  simp only [pCells, List.mem_flatMap] at hu
  obtain ⟨s, _, hu⟩ := hu
  simp [encPt] at hu
  rcases hu with rfl | rfl <;> rfl
def PtPost (w : World) (l : List Pt) (e : Ending) (w' : World) : Prop := ∃ v, e = .returned v ∧ w'.ownsRow w.heap.size 189 2 v l.length (pCells l) ∧ Below w.heap.size w w'
theorem growPt_any (k : Nat) (w : World) (hn : k ≤ 2000000) :
    Calls Tryz.prog 296 #[.slice none 0 0, .int .i64 (k : Int)] w (PtPost w []) := by
  obtain ⟨i0, hi, hz0, hz1, hz2⟩ := info_parts Tryz.infoPoint
  by_cases h0 : k = 0
  · subst h0
    go_enter Tryz.func296, Tryz.ntmps296
    go_wp2
    go_ret
    exact ⟨_, rfl, World.ownsRow_nil _ _ _ _, Below.refl _ _⟩
  · have tb : Tryz.t189.bytes = 16 := by kernel_rfl
    have hf : ¬ 281474976710656 < Builtin.nextslicecap k 0 * 16 := by
      have := growslice_fits (need := k) (old := 0) (bytes := 16) (by omega) (by omega)
      omega
    have key : Hid (PtPost w [] (.returned (.slice (some ⟨w.heap.size, 0, none⟩) 0 (grownCap w k 0 189))) ((w.alloc (Obj.cells (Builtin.zeroCells #[Value.int IntKind.i64 0, Value.int IntKind.i64 0] k ++ Builtin.zeroCells #[Value.int IntKind.i64 0, Value.int IntKind.i64 0] (grownCap w k 0 189 - k)) 189)).drew)) := by
      have hGn := grownCap_ge w k 0 189
      have hGm := grownCap_le_maxLen w k 0 189 (by unfold maxLen; omega)
      generalize grownCap w k 0 189 = G at *
      refine ⟨_, rfl, World.ownsRow.drew (World.ownsRow_made w _ G (Nat.le_refl _) hGm ?_), gBel⟩
      rw [Array.size_append, size_zeroCells, size_zeroCells]
      simp
      omega
    go_enter Tryz.func296, Tryz.ntmps296
    go_wp2
    go_ret
    exact key.out
def lenP2 (n m : Nat) : Nat → Nat
  | 0 => 0
  | 1 => n
  | _ => n + m
def catP2 (xs ys : List Pt) : Nat → List Pt
  | 0 => []
  | 1 => [] ++ xs
  | _ => ([] ++ xs) ++ ys
theorem concatPt_any (g : Nat) (A B : Option Addr) (n c m d : Nat) (xs ys : List Pt) (w : World)
    (h0 : w.cell? ⟨g, 0, none⟩ = some (.slice A n c)) (h1 : w.cell? ⟨g, 1, none⟩ = some (.slice B m d)) (hg : g < w.heap.size)
    (hn : xs.length ≤ 100000) (hm : ys.length ≤ 100000) (hA : SlPt w A n c xs) (hB : SlPt w B m d ys) :
    Calls Tryz.prog 227 #[.slice (some ⟨g, 0, none⟩) 2 2] w (PtPost w (xs ++ ys)) := by
  obtain ⟨i0, hi, hz0, hz1, hz2⟩ := info_parts Tryz.infoPoint
  have hx := hA.len.symm
  have hy := hB.len.symm
  have HA := hA.reads
  have HB := hB.reads
  rw [← hx] at hn
  rw [← hy] at hm
  have Hx := Lib.hid hx
  have Hy := Lib.hid hy
  have HA := Lib.hid HA
  have HB := Lib.hid HB
  clear hx hy hA hB
  go_enter Tryz.func227, Tryz.ntmps227
  go_wp2
  go_loop [3, 11] (fun s i => ∃ k : Nat, k ≤ 2 ∧ i = .int .i64 (k : Int) ∧ s = .int .i64 (lenP2 n m k : Nat)) (fun _ i => 2 - (intOf i).toNat)
  case atStart => exact ⟨0, by omega, rfl, rfl⟩
  case round =>
    obtain ⟨k, hk, rfl, rfl⟩ := hrel
    rcases (show k = 0 ∨ k = 1 ∨ k = 2 by omega) with rfl | rfl | rfl
    · have e1 : lenP2 n m 0 = 0 := rfl
      rw [e1]
      clear e1
      go_wp2
      go_round
      case rel => exact ⟨1, by omega, rfl, by simp [lenP2]⟩
      case measure => simp [intOf]
    · have e1 : lenP2 n m 1 = n := rfl
      rw [e1]
      clear e1
      go_wp2
      go_round
      case rel => exact ⟨2, by omega, rfl, by simp [lenP2]⟩
      case measure => simp [intOf]
    · have e1 : lenP2 n m 2 = n + m := rfl
      rw [e1]
      clear e1
      go_wp2_with fail
      refine (growPt_any (n + m) w (by omega)).mono ?_
      rintro e w1 ⟨v1, rfl, hown1, hb1⟩
      have Hown1 := Lib.hid hown1
      clear hown1
      go_wp2
      go_loopw [6, 27] (fun v i wr => ∃ k : Nat, k ≤ 2 ∧ i = .int .i64 (k : Int) ∧ PtPost w (catP2 xs ys k) (.returned v) wr) (fun _ i _ => 2 - (intOf i).toNat)
      case atStart => exact ⟨0, by omega, rfl, v1, rfl, Hown1.out, hb1⟩
      case round =>
        obtain ⟨k, hk, rfl, v, hv, hown, hb⟩ := hrel
        injection hv with hv
        subst hv
        have c0 := (hb.cell (p := ⟨g, 0, none⟩) hg).trans h0
        have c1 := (hb.cell (p := ⟨g, 1, none⟩) hg).trans h1
        have Hown := Lib.hid hown
        clear hown
        have hsz := hb.size
        rcases (show k = 0 ∨ k = 1 ∨ k = 2 by omega) with rfl | rfl | rfl
        · go_wp2_with (at_builtin
                       refine wpList_append_any _ rfl (.tmp 31) (.tmp 32) _ rfl w.heap.size 189 i0 _ 2 16 Tryz.underlying123 hi hz0 hz1 hz2 rfl (by omega) _ 0 [] rfl
                         Hown.out w.heap.size A n c (pCells xs) rfl (HA.out.below hb) (pCells_one xs) (by simp only [maxLen]; omega) (by omega) hsz ?_
                       intro v2 w2 hown2 hg2 hat2)
          go_roundw
          case rel =>
            refine ⟨1, by omega, rfl, v2, rfl, ?_, hb.grown hg2 hsz (own_base Hown.out)⟩
            have e1 : (catP2 xs ys 1).length = 0 + n := by simp [catP2, Hx.out]
            rw [e1]
            exact hown2
          case measure => simp [intOf]
        · have e1 : Hid ((catP2 xs ys 1).length = n) := by show (catP2 xs ys 1).length = n; simp [catP2, Hx.out]
          rw [e1.out] at Hown
          go_wp2_with (at_builtin
                       refine wpList_append_any _ rfl (.tmp 31) (.tmp 32) _ rfl w.heap.size 189 i0 _ 2 16 Tryz.underlying123 hi hz0 hz1 hz2 rfl (by omega) _ n (pCells (catP2 xs ys 1)) rfl
                         Hown.out w.heap.size B m d (pCells ys) rfl (HB.out.below hb) (pCells_one ys) (by simp only [maxLen]; omega) (by omega) hsz ?_
                       intro v2 w2 hown2 hg2 hat2)
          go_roundw
          case rel =>
            refine ⟨2, by omega, rfl, v2, rfl, ?_, hb.grown hg2 hsz (own_base Hown.out)⟩
            have e1 : (catP2 xs ys 2).length = n + m := by simp [catP2, Hx.out, Hy.out]
            have e2 : pCells (catP2 xs ys 2) = pCells (catP2 xs ys 1) ++ pCells ys := by simp only [catP2]; rw [pCells_app]
            rw [e1, e2]
            exact hown2
          case measure => simp [intOf]
        · go_wp2
          go_ret
          exact ⟨_, rfl, Hown.out, hb⟩
end Go.Proofs.YtfmkmhhghmdakaaGreatDoor
namespace Go.Proofs.YtfmkmhhghmdakaaGreatDoor
open Go.RowKit Go.Shelf
set_option linter.unusedVariables false
set_option linter.unusedSimpArgs false
set_option maxHeartbeats 64000000
set_option maxRecDepth 100000
def begTo (r : List Pt) : Nat → Nat
  | 0 => 0
  | k + 1 => match r[k]?, r[begTo r k]? with
    | some p, some q => if lowP p q < 0 then k else begTo r k
    | _, _ => begTo r k
def begunP (r : List Pt) : List Pt := r.drop (begTo r r.length) ++ r.take (begTo r r.length)
theorem begTo_lt {r : List Pt} (h : 0 < r.length) : ∀ k, k ≤ r.length → begTo r k < r.length
  | 0, _ => h
  | k + 1, hk => by
    have ih := begTo_lt h k (by omega)
    unfold begTo
    rw [List.getElem?_eq_getElem (by omega : k < r.length), List.getElem?_eq_getElem ih]
    dsimp only
    split <;> omega
theorem begTo_step {r : List Pt} {k : Nat} (hk : k < r.length) (hb : begTo r k < r.length) : begTo r (k + 1) = if lowP r[k] r[begTo r k] < 0 then k else begTo r k := by
  rw [begTo]
  rw [List.getElem?_eq_getElem hk, List.getElem?_eq_getElem hb]
theorem SlPt.take {w : World} {A : Option Addr} {n c : Nat} {l : List Pt} (h : SlPt w A n c l) {k : Nat} (hk : k ≤ n) : SlPt w A k c (l.take k) := by
  refine ⟨by rw [List.length_take, h.len]; omega, Nat.le_trans hk h.cap, h.top, ?_⟩
  rcases h.lies with h0 | ⟨b, off, e, hb, hc⟩
  · exact .inl (by omega)
  · refine .inr ⟨b, off, e, hb, fun j u hu => hc j u ?_⟩
    have e2 : pCells l = pCells (l.take k) ++ pCells (l.drop k) := by rw [← pCells_app, List.take_append_drop]
    have hj : j < (pCells (l.take k)).length := by
      rcases Nat.lt_or_ge j (pCells (l.take k)).length with h1 | h1
      · exact h1
      · rw [List.getElem?_eq_none h1] at hu; cases hu
    rw [e2, List.getElem?_append_left hj]
    exact hu
theorem SlPt.drop {w : World} {b off n c : Nat} {l : List Pt} (h : SlPt w (some ⟨b, off, none⟩) n c l) {k : Nat} (hk : k ≤ n) : SlPt w (some ⟨b, off + k * 2, none⟩) (n - k) (c - k) (l.drop k) := by
  refine ⟨by rw [List.length_drop, h.len], by have := h.cap; omega, by have := h.top; omega, ?_⟩
  rcases h.lies with h0 | ⟨b', off', e, hb, hc⟩
  · exact .inl (by omega)
  · injection e with e
    injection e with e1 e2
    subst e1 e2
    refine .inr ⟨b, off + k * 2, rfl, hb, fun j u hu => ?_⟩
    have e2 : pCells l = pCells (l.take k) ++ pCells (l.drop k) := by rw [← pCells_app, List.take_append_drop]
    have e3 : (pCells (l.take k)).length = k * 2 := by rw [pCells_len, List.length_take, h.len]; omega
    rw [Nat.add_assoc]
    refine hc (k * 2 + j) u ?_
    rw [e2, List.getElem?_append_right (by omega), e3, show k * 2 + j - k * 2 = j by omega]
    exact hu
theorem begun_any (b off n c : Nat) (r : List Pt) (w : World) (hA : SlPt w (some ⟨b, off, none⟩) n c r) (hn : n ≤ 100000) (hn0 : 0 < n) (hbw : b < w.heap.size) :
    Calls Tryz.prog 145 #[.slice (some ⟨b, off, none⟩) n c] w (PtPost w (begunP r)) := by
  have hlen := hA.len
  have HA := Lib.hid hA
  have Hlen := Lib.hid hlen
  have Hlt := Lib.hid (fun k (hk : k ≤ r.length) => begTo_lt (by omega) k hk)
  have Hst := Lib.hid (fun (k : Nat) (hk : k < r.length) => begTo_step hk (Hlt.out k (by omega)))
  have Hres : Hid (begunP r = r.drop (begTo r r.length) ++ r.take (begTo r r.length)) := Lib.hid rfl
  have hcap := hA.cap
  generalize begunP r = res at *
  clear hA hlen
  go_enter Tryz.func145, Tryz.ntmps145
  go_wp2_with fail
  go_loopw [3, 8] (fun av iv wr => ∃ k : Nat, k ≤ n ∧ iv = .int .i64 (k : Int) ∧ av = .int .i64 ((begTo r k : Nat) : Int) ∧ Below w.heap.size w wr) (fun _ iv _ => n - (intOf iv).toNat)
  case atStart => exact ⟨0, Nat.zero_le _, rfl, rfl, Below.refl _ _⟩
  case round =>
    obtain ⟨k, hk, rfl, rfl, hbw1⟩ := hrel
    have Hbw := Lib.hid hbw1
    have hsw := hbw1.size
    clear hbw1
    by_cases hkn : k < n
    · have hkn' : (k : Int) < (n : Int) := by omega
      have hkl : k < r.length := by have := Hlen.out; omega
      have hal := Hlt.out k (by omega)
      have Hs := Lib.hid (Hst.out k hkl)
      obtain ⟨_, _, e1, -, p0, p1⟩ := (HA.out.below Hbw.out).at k hkl
      obtain ⟨_, _, e2, -, q0, q1⟩ := (HA.out.below Hbw.out).at _ hal
      injection e1 with e1
      injection e1 with e1 e1'
      injection e2 with e2
      injection e2 with e2 e2'
      subst e1 e1' e2 e2'
      obtain ⟨a, ha⟩ : ∃ a, begTo r k = a := ⟨_, rfl⟩
      obtain ⟨p, hp⟩ : ∃ p, r[k] = p := ⟨_, rfl⟩
      obtain ⟨q, hq⟩ : ∃ q, r[begTo r k] = q := ⟨_, rfl⟩
      rw [hp] at p0 p1 Hs
      rw [hq] at q0 q1 Hs
      rw [ha] at q0 q1 hal Hs ⊢
      obtain ⟨a2, ha2⟩ : ∃ a, begTo r (k + 1) = a := ⟨_, rfl⟩
      have Ha2 := Lib.hid ha2
      rw [ha2] at Hs
      clear hp hq ha ha2
      have hal' : (a : Int) < (n : Int) := by have := Hlen.out; omega
      have hbr : b < wr.heap.size := by omega
      have HLo := Lib.hid (fun W => lower_any p q W)
      obtain ⟨px, py⟩ := p
      obtain ⟨qx, qy⟩ := q
      dsimp only at *
      generalize lowP (px, py) (qx, qy) = lo at *
      have hrow := heap_alloc_new wr (.cells #[.int .i64 px, .int .i64 py] 189)
      have Hba : Hid (Below wr.heap.size wr (wr.alloc (.cells #[.int .i64 px, .int .i64 py] 189))) := Lib.hid gBel
      have hla : wr.heap.size < (wr.alloc (.cells #[.int .i64 px, .int .i64 py] 189)).heap.size := by simp
      go_upto_region 5 with fail
      obtain ⟨T, hT⟩ : ∃ T, wr.heap.size = T := ⟨_, rfl⟩
      rw [hT] at hrow hla ⊢
      generalize wr.alloc (.cells #[.int .i64 px, .int .i64 py] 189) = wa at *
      have t0 := cell_of_row wa T 0 _ _ _ hrow
      have t1 := cell_of_row wa T 1 _ _ _ hrow
      have q0a := (Hba.out.cell (p := ⟨b, off + a * 2, none⟩) hbr).trans q0
      have q1a := (Hba.out.cell (p := ⟨b, off + a * 2 + 1, none⟩) hbr).trans q1
      have hba : b < wa.heap.size := by omega
      have hsa := Hba.out.size
      clear p0 p1 q0 q1 hrow hT
      refine wp_region_below (W := wa) wa.heap.size (Nat.le_refl _) (by kernel_rfl) (by kernel_rfl) ?_
      intro I _ F hFc hFb hFs
      repeat (go_big_quiet_step ((go_at_call 151; with_reducible exact class_call hFb hFs (Nat.le_refl _) (HLo.out _))))
      refine wpQuiet_nil ?_
      rintro _ ⟨iq, rfl⟩
      have Hfq : Hid (Below w.heap.size w (F iq)) := Lib.hid (Hbw.out.trans ((Hba.out.trans ((hFb iq).mono hsa)).mono hsw))
      by_cases hlo : lo < 0
      · have Hs2 : Hid (a2 = k) := Lib.hid (by rw [Hs.out, if_pos hlo])
        go_wp2
        go_roundw
        case rel => exact ⟨k + 1, by omega, by go_num, by rw [Ha2.out, Hs2.out], Hfq.out⟩
        case measure => simp [intOf]; omega
      · have Hs2 : Hid (a2 = a) := Lib.hid (by rw [Hs.out, if_neg hlo])
        go_wp2
        go_roundw
        case rel => exact ⟨k + 1, by omega, by go_num, by rw [Ha2.out, Hs2.out], Hfq.out⟩
        case measure => simp [intOf]; omega
    · obtain rfl : k = n := by omega
      have hkn' : ¬ (k : Int) < (k : Int) := by omega
      have hal := Hlt.out k (by have := Hlen.out; omega)
      rw [Hlen.out] at Hres hal
      obtain ⟨a, ha⟩ : ∃ a, begTo r k = a := ⟨_, rfl⟩
      rw [ha] at Hres hal ⊢
      clear ha
      have hak : (a : Int) ≤ (k : Int) := by omega
      have hac : (a : Int) ≤ (c : Int) := by omega
      have hac2 : a ≤ c := by omega
      have hak2 : a ≤ k := by omega
      have ha0 : ¬ (a : Int) < 0 := by omega
      have hca : ¬ c = a := by omega
      have HAr := Lib.hid (HA.out.below Hbw.out)
      have hXX := heap_alloc_new wr (.cells #[.slice (some ⟨b, off + a * 2, none⟩) (k - a) (c - a), .slice (some ⟨b, off, none⟩) a c] 123)
      have HCo := Lib.hid (concatPt_any wr.heap.size (some ⟨b, off + a * 2, none⟩) (some ⟨b, off, none⟩) (k - a) (c - a) a c (r.drop a) (r.take a) (wr.alloc (.cells #[.slice (some ⟨b, off + a * 2, none⟩) (k - a) (c - a), .slice (some ⟨b, off, none⟩) a c] 123)).drew (cell_of_row _ _ 0 _ _ _ hXX) (cell_of_row _ _ 1 _ _ _ hXX) (by show _ < (wr.alloc _).heap.size; simp) (by rw [List.length_drop]; have := Hlen.out; omega) (by rw [List.length_take]; have := Hlen.out; omega) ((HAr.out.drop hak2).below gBel) ((HAr.out.take hak2).below gBel))
      rw [← Hres.out] at HCo
      clear hXX
      go_upto_region 8 with fail
      go_region_held3 (fun w' => True) (first | trivial)
        (first
          | (go_at_call 227
             refine HCo.out.mono ?_
             rintro e w9 ⟨v9, rfl, hown9, hb9⟩
             have Hown9 := Lib.hid hown9
             have Hb9 : Hid (Below wr.heap.size wr w9) := Lib.hid ((Below.drew ((Below.refl wr.heap.size wr).alloc (Nat.le_refl _) _)).trans (hb9.mono (by show _ ≤ (wr.alloc _).heap.size; simp)))
             clear hown9 hb9)
          | fail)
      all_goals go_wp2
      all_goals go_ret
      all_goals exact ⟨_, rfl, own_rebase Hown9.out (by show _ ≤ (wr.alloc _).heap.size; simp; omega), Hbw.out.trans (Hb9.out.mono hsw)⟩
theorem step_append_run {P : Program} {w : World} {ops : Array Oper} {o : Oper} {a : Act} {K : Act → World → Prop} {Q : Exit → Act → World → Prop} {E : Prop} (hgd : o.guard = none) (s x : Operand) (t : TypeId)
    (ho : o.op = .call { callee := .builtin .append, args := #[s, x], argTypes := #[t, t] }) (v u v' : Value) (w' : World) (hs : a.eval s = v) (hx : a.eval x = u)
    (hrun : (Builtin.append_ #[t, t] o.type #[v, u]).run P w = .ok v' w') (h : K (a.put o.dst v') w') :
    if Region.wanted o (yielded ops a.tmps) = true then Oper.wp P o a w K Q else E := by
  have hw : Region.wanted o (yielded ops a.tmps) = true := by simp [Region.wanted, hgd]
  rw [if_pos hw]
  unfold Oper.wp
  simp [execOp, ho, resolve, invoke, builtin, hs, hx, hrun, Result.andThen]
  exact h
theorem zeroEdge (w : World) : (zeroValue 191).run Tryz.prog w = .ok (.agg #[.int .i64 0, .int .i64 0, .int .i64 0, .int .i64 0]) w := by kernel_rfl
theorem run_clear_edge (w : World) (ty : TypeId) (g o c : Nat) (cur : Array Value) (hg : w.heap[g]? = some (.cells cur 191 (0, 0))) (ho : o + 4 ≤ cur.size) :
    (Builtin.clear_ #[186] ty #[.slice (some ⟨g, o, none⟩) 1 c]).run Tryz.prog w = .ok (.tuple #[]) (w.setRow g (cur.toList.take o ++ [Value.int .i64 0, Value.int .i64 0, Value.int .i64 0, Value.int .i64 0] ++ cur.toList.drop (o + 4)).toArray) := by
  have hst := run_storeCells_at (P := Tryz.prog) g o 191 [.int .i64 0, .int .i64 0, .int .i64 0, .int .i64 0] 0 cur w hg (by simpa using ho) (by intro v hv; simp at hv; subst hv; rfl)
  have hz : (Builtin.zeroCells #[.int .i64 0, .int .i64 0, .int .i64 0, .int .i64 0] 1).toList = [Value.int .i64 0, .int .i64 0, .int .i64 0, .int .i64 0] := by kernel_rfl
  simp only [Nat.add_zero, List.length_cons, List.length_nil] at hst
  simp [Builtin.clear_, run_underlying Tryz.underlying186, zeroEdge, Value.cells, hz, hst]
theorem rCells_appE (a b : List R4) : rCells (a ++ b) = rCells a ++ rCells b := by simp [rCells]
theorem run_append_gap (w : World) (ty : TypeId) (g n cap i c : Nat) (cur : Array Value) (l : List R4) (hg : w.heap[g]? = some (.cells cur 191 (0, 0))) (hl : l.length = n) (hcur : cur.toList.take (n * 4) = rCells l) (hsz : cur.size = cap * 4) (hcap : n ≤ cap) (hi : i + 1 < n) :
    (Builtin.append_ #[186, 186] ty #[.slice (some ⟨g, 0, none⟩) i cap, .slice (some ⟨g, (i + 1) * 4, none⟩) (n - (i + 1)) c]).run Tryz.prog w =
      .ok (.slice (some ⟨g, 0, none⟩) (n - 1) cap) (w.setRow g (rCells (l.take i) ++ rCells (l.drop (i + 1)) ++ cur.toList.drop ((n - 1) * 4)).toArray) := by
  obtain ⟨i0, hi0, hz0, hz1, hz2⟩ := info_parts Tryz.infoEdge
  have e1 : (rCells (l.drop (i + 1))).length = (n - (i + 1)) * i0.size := by rw [rCells_len, List.length_drop, hl, hz1]
  have hcl : ∀ j, j < n * 4 → cur[j]? = (rCells l)[j]? := fun j hj => by
    rw [← hcur, List.getElem?_take, if_pos hj, Array.getElem?_toList]
  have hspl : rCells l = rCells (l.take (i + 1)) ++ rCells (l.drop (i + 1)) := by
    rw [← rCells_appE, List.take_append_drop]
  have hlt : (rCells (l.take (i + 1))).length = (i + 1) * 4 := by rw [rCells_len, List.length_take, hl]; omega
  have h := run_append_room (P := Tryz.prog) w 186 ty 191 i0 Tryz.underlying186 hi0 g i cap cur hg ⟨g, (i + 1) * 4, none⟩ (n - (i + 1)) c (rCells (l.drop (i + 1))) e1 (fun j u hu => by
      have hj : j < (rCells (l.drop (i + 1))).length := by
        rcases Nat.lt_or_ge j (rCells (l.drop (i + 1))).length with h | h
        · exact h
        · rw [List.getElem?_eq_none h] at hu; cases hu
      rw [e1, hz1] at hj
      rw [add_none, cell_of_row w g _ _ _ _ hg, hcl _ (by omega), hspl, List.getElem?_append_right (by omega), hlt, show (i + 1) * 4 + j - (i + 1) * 4 = j by omega]
      exact hu) (fun u hu => rCells_one _ u hu) (by omega) (by rw [e1, hz1]; omega)
  rw [h, hz1]
  have e2 : i + (n - (i + 1)) = n - 1 := by omega
  have e3 : cur.toList.take (i * 4) = rCells (l.take i) := by
    have : rCells l = rCells (l.take i) ++ rCells (l.drop i) := by
      rw [← rCells_appE, List.take_append_drop]
    have h4 : (rCells (l.take i)).length = i * 4 := by rw [rCells_len, List.length_take, hl]; omega
    have : cur.toList.take (i * 4) = (cur.toList.take (n * 4)).take (i * 4) := by rw [List.take_take, Nat.min_eq_left (by omega)]
    rw [this, hcur, ‹rCells l = _›, List.take_append_of_le_length (by omega), List.take_of_length_le (by omega)]
  have e4 : i * 4 + (rCells (l.drop (i + 1))).length = (n - 1) * 4 := by rw [e1, hz1]; omega
  rw [e2, e3, e4]
theorem only_setRow {a w : World} {g : Nat} (h : a.grownBy w (some g)) (b : Nat) (cs : Array Value) (hb : b = g ∨ a.heap.size ≤ b) : a.grownBy (w.setRow b cs) (some g) :=
  ⟨h.os, h.tape, h.output, by simp [World.setRow]; exact h.size, fun i hi hne => by
    rw [← h.block i hi hne]
    have hib : b ≠ i := by
      rintro rfl
      rcases hb with rfl | hb
      · exact hne rfl
      · omega
    simp [World.setRow, Array.getElem?_modify, hib]⟩
theorem own_gap {w : World} {base g m cap : Nat} {cur : Array Value} {l : List R4} (hb : base ≤ g) (hg : w.heap[g]? = some (.cells cur 191 (0, 0))) (hsz : cur.size = cap * 4) (hcap : m + 1 ≤ cap) (hmx : cap ≤ maxLen) (hl : l.length = m) (ht : cur.toList.take (m * 4) = rCells l) : w.ownsRow base 191 4 (.slice (some ⟨g, 0, none⟩) m cap) m (rCells l) :=
  ⟨by rw [rCells_len, hl], .inr ⟨g, cap, cur, rfl, hb, hg, by omega, hmx, hsz, ht⟩⟩
theorem delete_any (g m cap i base : Nat) (l : List R4) (w : World) (h : w.ownsRow base 191 4 (.slice (some ⟨g, 0, none⟩) (m + 1) cap) (m + 1) (rCells l)) (hl : l.length = m + 1) (hi : i ≤ m) :
    Calls Tryz.prog 229 #[.slice (some ⟨g, 0, none⟩) (m + 1) cap, .int .i64 (i : Int), .int .i64 ((i : Int) + 1)] w fun e w' => e = .returned (.slice (some ⟨g, 0, none⟩) m cap) ∧ w'.ownsRow base 191 4 (.slice (some ⟨g, 0, none⟩) m cap) m (rCells (l.eraseIdx i)) ∧ w.grownBy w' (some g) := by
  obtain ⟨i0, hi0, hz0, hz1, hz2⟩ := info_parts Tryz.infoEdge
  obtain ⟨h1, h2⟩ := h
  rcases h2 with ⟨h3, _⟩ | ⟨g', cap', cur, h3, hb, hg, hcap, hmx, hsz, ht⟩
  · cases h3
  injection h3 with e1 e2 e3
  injection e1 with e1
  injection e1 with e1
  subst e1 e3
  clear e2 h1
  obtain ⟨n, hn⟩ : ∃ n, n = m + 1 := ⟨_, rfl⟩
  rw [← hn] at hl ht hcap ⊢
  have Hg := Lib.hid hg
  have Ht := Lib.hid ht
  have Hsz := Lib.hid hsz
  have Hl := Lib.hid hl
  have hmx' : cap ≤ 9223372036854775807 := Nat.le_trans hmx (by unfold maxLen; omega)
  have hin : (i : Int) + 1 ≤ (n : Int) := by omega
  have hic : (i : Int) + 1 ≤ (cap : Int) := by omega
  have hnc : (n : Int) ≤ (cap : Int) := by omega
  have hi0' : ¬ (i : Int) < 0 := by omega
  have hii : ¬ (i : Int) = (i : Int) + 1 := by omega
  have hiid : decide ((i : Int) = (i : Int) + 1) = false := decide_eq_false hii
  have hle : (i : Int) ≤ (i : Int) + 1 := by omega
  have h0i : (0 : Int) ≤ (i : Int) := by omega
  have h0j : (0 : Int) ≤ (i : Int) + 1 := by omega
  have hicp : (i : Int) ≤ (cap : Int) := by omega
  have hEr : l.eraseIdx i = l.take i ++ l.drop (i + 1) := List.eraseIdx_eq_take_drop_succ l i
  have HEr := Lib.hid hEr
  have Hn := Lib.hid hn
  clear hg ht hsz hl hEr hn
  go_enter Tryz.func229, Tryz.ntmps229
  go_upto_region 5 with fail
  by_cases him : i < m
  · have hine : ¬ cap = i + 1 := by have := Hn.out; omega
    have hrun := run_append_gap w.drew 186 g n cap i (cap - (i + 1)) cur l Hg.out Hl.out Ht.out Hsz.out hcap (by have := Hn.out; omega)
    rw [show n - 1 = m by have := Hn.out; omega] at hrun
    rw [← rCells_appE, ← HEr.out] at hrun
    obtain ⟨cur2, hcur2⟩ : ∃ c2, (rCells (l.eraseIdx i) ++ cur.toList.drop (m * 4)).toArray = c2 := ⟨_, rfl⟩
    rw [hcur2] at hrun
    have hle2 : (l.eraseIdx i).length = m := by rw [List.length_eraseIdx, if_pos (by have := Hl.out; have := Hn.out; omega)]; have := Hl.out; have := Hn.out; omega
    have hsz2 : cur2.size = cap * 4 := by
      rw [← hcur2]
      simp only [List.size_toArray, List.length_append, rCells_len, hle2, List.length_drop, Array.length_toList, Hsz.out]
      have := Hn.out; omega
    have Hrun := Lib.hid hrun
    have Hcur2 := Lib.hid hcur2
    have Hsz2 := Lib.hid hsz2
    have Hle2 := Lib.hid hle2
    clear hrun hcur2 hsz2 hle2
    go_region_held3 (fun w' => True) (first | trivial)
      (first
        | (go_loud (refine step_append_run rfl (.tmp 22) (.tmp 25) 186 rfl _ _ _ _ rfl rfl Hrun.out ?_))
        | fail)
    have hm1 : (m : Int) ≤ (n : Int) := by have := Hn.out; omega
    have hmc : (m : Int) ≤ (cap : Int) := by omega
    have hm0 : ¬ (m : Int) < 0 := by omega
    have hcm : ¬ cap = m := by have := Hn.out; omega
    have hnm : n - m = 1 := by have := Hn.out; omega
    have Hg2 : Hid ((w.drew.setRow g cur2).heap[g]? = some (.cells cur2 191 (0, 0))) := Lib.hid (setRow_heap _ g cur cur2 _ _ Hg.out)
    have hclr := fun ty => run_clear_edge (w.drew.setRow g cur2) ty g (m * 4) (cap - m) cur2 Hg2.out (by have := Hsz2.out; have := Hn.out; omega)
    obtain ⟨cur3, hcur3⟩ : ∃ c3, (cur2.toList.take (m * 4) ++ [Value.int .i64 0, Value.int .i64 0, Value.int .i64 0, Value.int .i64 0] ++ cur2.toList.drop (m * 4 + 4)).toArray = c3 := ⟨_, rfl⟩
    rw [hcur3] at hclr
    have Hclr := Lib.hid hclr
    have Hcur3 := Lib.hid hcur3
    clear hclr hcur3
    have hclr0 := Hclr.out 0
    go_wp2
    go_ret
    have hgw : w.grownBy ((w.drew.setRow g cur2).setRow g cur3) (some g) := by
      have e1 := only_setRow (only_drew (World.grownBy.refl w (some g))) g cur2 (.inl rfl)
      exact only_setRow e1 g cur3 (.inl rfl)
    refine ⟨rfl, own_gap hb (setRow_heap _ g cur2 cur3 _ _ Hg2.out) ?_ (by have := Hn.out; omega) hmx Hle2.out ?_, hgw⟩
    · rw [← Hcur3.out]
      simp only [List.size_toArray, List.length_append, List.length_take, List.length_drop, Array.length_toList, Hsz2.out, List.length_cons, List.length_nil]
      have := Hn.out; omega
    · rw [← Hcur3.out]
      simp only [List.append_assoc]
      rw [List.take_append_of_le_length (by simp only [List.length_take, Array.length_toList, Hsz2.out]; have := Hn.out; omega), List.take_take, Nat.min_self, ← Hcur2.out]
      rw [List.take_append_of_le_length (by rw [rCells_len, Hle2.out]; exact Nat.le_refl _), List.take_of_length_le (by rw [rCells_len, Hle2.out]; exact Nat.le_refl _)]
  · obtain rfl : i = m := by omega
    have hEm : Hid (l.eraseIdx i = l.take i) := Lib.hid (by rw [HEr.out, List.drop_of_length_le (by have := Hl.out; have := Hn.out; omega), List.append_nil])
    have Hlen : Hid ((l.take i).length = i) := Lib.hid (by rw [List.length_take]; have := Hl.out; have := Hn.out; omega)
    have hm1 : (i : Int) ≤ (n : Int) := by omega
    have hcm : ¬ cap = i := by have := Hn.out; omega
    have hnm : n - i = 1 := by have := Hn.out; omega
    have hni : n - (i + 1) = 0 := by have := Hn.out; omega
    have hrun := fun (A : Addr) (c : Nat) => run_append_nothing (P := Tryz.prog) w.drew 186 186 186 191 i0 Tryz.underlying186 hi0 (some ⟨g, 0, none⟩) i cap (by omega) (.slice (some A) 0 c) (Src.ofSlice w.drew Tryz.underlying186 A 0 c [] (by simp) (fun j u hu => by simp at hu) (fun u hu => by simp at hu))
    have Hrun := Lib.hid hrun
    have hclr := run_clear_edge w.drew 0 g (i * 4) (cap - i) cur Hg.out (by have := Hsz.out; have := Hn.out; omega)
    obtain ⟨cur3, hcur3⟩ : ∃ c3, (cur.toList.take (i * 4) ++ [Value.int .i64 0, Value.int .i64 0, Value.int .i64 0, Value.int .i64 0] ++ cur.toList.drop (i * 4 + 4)).toArray = c3 := ⟨_, rfl⟩
    rw [hcur3] at hclr
    have Hcur3 := Lib.hid hcur3
    have Hclr := Lib.hid hclr
    clear hrun hcur3 hclr
    have hin0 : (i : Int) + 1 ≤ (n : Int) := hin
    obtain ⟨sl, hsl⟩ : ∃ A : Addr, (if cap = i + 1 then some (⟨g, 0, none⟩ : Addr) else some ⟨g, (i + 1) * 4, none⟩) = some A := by
      by_cases h : cap = i + 1
      · exact ⟨_, by rw [if_pos h]⟩
      · exact ⟨_, by rw [if_neg h]⟩
    go_region_held3 (fun w' => True) (first | trivial)
      (first
        | (refine step_append_run rfl (.tmp 22) (.tmp 25) 186 rfl _ (.slice (some sl) 0 (cap - (i + 1))) _ _ rfl (by first | rfl | (simp [hsl, hni]; done) | (show _ = _; simp [Act.eval, hsl, hni]; done)) (Hrun.out _ _) ?_)
        | fail)
    clear hsl
    have hclr0 := Hclr.out
    have hic0 : (i : Int) ≤ (cap : Int) := by omega
    go_wp2
    go_ret
    have hgw : w.grownBy (w.drew.setRow g cur3) (some g) := only_setRow (only_drew (World.grownBy.refl w (some g))) g cur3 (.inl rfl)
    refine ⟨rfl, own_gap hb (setRow_heap w.drew g cur cur3 _ _ Hg.out) ?_ (by have := Hn.out; omega) hmx (by rw [hEm.out]; exact Hlen.out) ?_, hgw⟩
    · rw [← Hcur3.out]
      simp only [List.size_toArray, List.length_append, List.length_take, List.length_drop, Array.length_toList, Hsz.out, List.length_cons, List.length_nil]
      have := Hn.out; omega
    · rw [← Hcur3.out, hEm.out]
      simp only [List.append_assoc]
      rw [List.take_append_of_le_length (by simp only [List.length_take, Array.length_toList, Hsz.out]; have := Hn.out; omega), List.take_take, Nat.min_self]
      have e1 : cur.toList.take (i * 4) = (cur.toList.take (n * 4)).take (i * 4) := by rw [List.take_take, Nat.min_eq_left (by have := Hn.out; omega)]
      have e2 : rCells l = rCells (l.take i) ++ rCells (l.drop i) := by rw [← rCells_appE, List.take_append_drop]
      rw [e1, Ht.out, e2, List.take_append_of_le_length (by rw [rCells_len, Hlen.out]; exact Nat.le_refl _), List.take_of_length_le (by rw [rCells_len, Hlen.out]; exact Nat.le_refl _)]
theorem own_lt {w : World} {base : Nat} {e : TypeId} {size n : Nat} {v : Value} {xs : List Value} (h : w.ownsRow base e size v n xs) : ∀ g, v.ownBlock = some g → g < w.heap.size := by
  intro g hg
  rcases h.2 with ⟨rfl, _⟩ | ⟨g', cap, cur, rfl, _, hh, _⟩
  · simp [Value.ownBlock] at hg
  · have e : g' = g := by simpa [Value.ownBlock] using hg
    subst e
    rcases Nat.lt_or_ge g' w.heap.size with h | h
    · exact h
    · rw [Array.getElem?_eq_none h] at hh; cases hh
theorem own_grown {w w' : World} {base : Nat} {e : TypeId} {size n : Nat} {v : Value} {xs : List Value} {row : Option Nat} (h : w.ownsRow base e size v n xs) (hg : w.grownBy w' row) (hr : ∀ g, v.ownBlock = some g → row ≠ some g) : w'.ownsRow base e size v n xs := by
  obtain ⟨h1, h2⟩ := h
  refine ⟨h1, ?_⟩
  rcases h2 with h2 | ⟨g', cap, cur, rfl, hb, hh, r⟩
  · exact .inl h2
  · have hlt : g' < w.heap.size := by
      rcases Nat.lt_or_ge g' w.heap.size with h | h
      · exact h
      · rw [Array.getElem?_eq_none h] at hh; cases hh
    exact .inr ⟨g', cap, cur, rfl, hb, (hg.block g' hlt (fun e => hr g' (by simp [Value.ownBlock]) e.symm)).trans hh, r⟩
structure CellsBut (e : TypeId) (W W' : World) : Prop where
  size : W.heap.size ≤ W'.heap.size
  same : ∀ (k : Nat) (cs : Array Value) (T : TypeId) (i : Nat × Nat), T ≠ e → W.heap[k]? = some (.cells cs T i) → W'.heap[k]? = some (.cells cs T i)
theorem CellsBut.trans {e : TypeId} {A B C : World} (h : CellsBut e A B) (k : CellsBut e B C) : CellsBut e A C := ⟨Nat.le_trans h.size k.size, fun i cs T j hT hi => k.same i cs T j hT (h.same i cs T j hT hi)⟩
theorem CellsBut.below {e : TypeId} {W W' : World} (h : Below W.heap.size W W') : CellsBut e W W' := ⟨h.size, fun k cs T i _ hk => (h.block k (Array.getElem?_eq_some_iff.1 hk).1).trans hk⟩
theorem CellsBut.grown {e : TypeId} {W W' : World} {row : Option Nat} (hg : W.grownBy W' row) (hr : ∀ g, row = some g → ∀ cs T i, W.heap[g]? = some (.cells cs T i) → T = e) : CellsBut e W W' :=
  ⟨hg.size, fun k cs T i hT hk => (hg.block k (Array.getElem?_eq_some_iff.1 hk).1 (fun e1 => hT (hr k e1.symm cs T i hk))).trans hk⟩
theorem own_but {W W' : World} {base : Nat} {e T : TypeId} {size n : Nat} {v : Value} {xs : List Value} (h : W.ownsRow base T size v n xs) (hk : CellsBut e W W') (hT : T ≠ e) : W'.ownsRow base T size v n xs := by
  obtain ⟨h1, h2⟩ := h
  refine ⟨h1, ?_⟩
  rcases h2 with h3 | ⟨g, cap, cur, h3, hb, hg, hr⟩
  · exact .inl h3
  · exact .inr ⟨g, cap, cur, h3, hb, hk.same _ _ _ _ hT hg, hr⟩
def look (p : Pt) : List (Pt × Value) → Option Value
  | [] => none
  | x :: t => if x.1 = p then some x.2 else look p t
theorem findP_look (p : Pt) : ∀ (E : List (Pt × Value)) (j : Nat), (findP p E j).map (·.2) = look p E
  | [], j => rfl
  | x :: t, j => by
    unfold findP look
    by_cases h : x.1 = p
    · simp [h]
    · simp [h, findP_look p t (j + 1)]
theorem getP_look (p : Pt) (E : List (Pt × Value)) : getP p E = (look p E).getD nilS := by
  unfold getP
  rw [← findP_look p E 0]
  cases findP p E 0 with
  | none => rfl
  | some x => rfl
theorem look_set (p q : Pt) (v : Value) : ∀ (E : List (Pt × Value)) (j d : Nat) (u : Value), findP p E j = some (j + d, u) → look q (E.set d (p, v)) = if q = p then some v else look q E
  | [], j, d, u, h => by simp [findP] at h
  | x :: t, j, d, u, h => by
    unfold findP at h
    by_cases hx : x.1 = p
    · rw [if_pos hx] at h
      injection h with h
      injection h with h1 h2
      obtain rfl : d = 0 := by omega
      simp only [List.set_cons_zero, look]
      by_cases hq : q = p
      · simp [hq]
      · have h3 : ¬ p = q := fun e => hq e.symm
        have h4 : ¬ x.1 = q := fun e => hq (e.symm.trans hx)
        simp [hq, h3, h4]
    · rw [if_neg hx] at h
      obtain ⟨d', h1, h2⟩ := findP_some h
      obtain ⟨d2, rfl⟩ : ∃ d2, d = d2 + 1 := ⟨d', by omega⟩
      have ih := look_set p q v t (j + 1) d2 u (by rw [h]; congr 2; omega)
      simp only [List.set_cons_succ, look]
      by_cases hxq : x.1 = q
      · have hq : ¬ q = p := fun e => hx (hxq.trans e)
        simp [hxq, hq]
      · simp [hxq, ih]
theorem getP_set {p : Pt} {E : List (Pt × Value)} {i : Nat} {u : Value} (h : findP p E 0 = some (i, u)) (q : Pt) (v : Value) : getP q (E.set i (p, v)) = if q = p then v else getP q E := by
  rw [getP_look, getP_look, look_set p q v E 0 i u (by rw [h, Nat.zero_add])]
  by_cases hq : q = p <;> simp [hq]
theorem findP_snoc (p : Pt) (v : Value) : ∀ (E : List (Pt × Value)) (j : Nat), findP p E j = none → findP p (E ++ [(p, v)]) j = some (j + E.length, v)
  | [], j, _ => by simp [findP]
  | x :: t, j, h => by
    unfold findP at h
    by_cases hx : x.1 = p
    · rw [if_pos hx] at h; cases h
    · rw [if_neg hx] at h
      rw [List.cons_append, findP, if_neg hx, findP_snoc p v t (j + 1) h]
      simp; omega
theorem look_snoc (p q : Pt) : ∀ (E : List (Pt × Value)), (look q (E ++ [(p, nilS)])).getD nilS = (look q E).getD nilS
  | [] => by
    simp only [List.nil_append, look]
    by_cases h : p = q <;> simp [h]
  | x :: t => by
    simp only [List.cons_append, look]
    by_cases h : x.1 = q
    · simp [h]
    · simp [h, look_snoc p q t]
theorem getP_ent (p q : Pt) (E : List (Pt × Value)) : getP q (entE p E) = getP q E := by
  unfold entE
  cases h : findP p E 0 with
  | none => rw [getP_look, getP_look]; exact look_snoc p q E
  | some x => rfl
theorem findP_ent (p : Pt) (E : List (Pt × Value)) : findP p (entE p E) 0 = some (entI p E, getP p E) := by
  unfold entE entI getP
  cases h : findP p E 0 with
  | none =>
    have := findP_snoc p nilS E 0 h
    simpa using this
  | some x => simpa using h
def upd (f : Pt → List R4) (p : Pt) (l : List R4) : Pt → List R4 := fun q => if q = p then l else f q
structure EMap (w : World) (B b : Nat) (E : List (Pt × Value)) (f : Pt → List R4) : Prop where
  m : PMap w b E
  bB : b < B
  at' : ∀ p, w.ownsRow B 191 4 (getP p E) (f p).length (rCells (f p))
  ap : ∀ p q, p ≠ q → ∀ g, (getP p E).ownBlock = some g → (getP q E).ownBlock ≠ some g
theorem EMap.lt {w : World} {B b : Nat} {E : List (Pt × Value)} {f : Pt → List R4} (h : EMap w B b E f) : b < w.heap.size := (Array.getElem?_eq_some_iff.1 h.m).1
theorem EMap.here {w : World} {B b : Nat} {E : List (Pt × Value)} {f : Pt → List R4} (h : EMap w B b E f) {p : Pt} (hp : f p ≠ []) : ∃ i, findP p E 0 = some (i, getP p E) := by
  cases hx : findP p E 0 with
  | some x =>
    obtain ⟨i, u⟩ := x
    refine ⟨i, ?_⟩
    unfold getP
    rw [hx]
  | none =>
    have h1 := h.at' p
    have : getP p E = nilS := by unfold getP; rw [hx]
    rw [this] at h1
    rcases h1.2 with ⟨_, h0⟩ | ⟨g, cap, cur, h3, _⟩
    · exact absurd (List.length_eq_zero_iff.1 h0) hp
    · cases h3
theorem EMap.grown {w w' : World} {B b : Nat} {E : List (Pt × Value)} {f : Pt → List R4} (h : EMap w B b E f) {row : Option Nat} (hg : w.grownBy w' row) (hr : ∀ g, row = some g → ∃ cs T i, w.heap[g]? = some (.cells cs T i) ∧ T ≠ 191) : EMap w' B b E f := by
  refine ⟨?_, h.bB, fun p => own_grown (h.at' p) hg (fun g hgs e => ?_), h.ap⟩
  · unfold PMap
    rw [hg.block b h.lt (fun e => ?_)]
    · exact h.m
    · obtain ⟨cs, T, i, h1, _⟩ := hr b e.symm
      rw [h.m] at h1
      cases h1
  · obtain ⟨cs, T, i, h1, h2⟩ := hr g e
    rcases (h.at' p).2 with ⟨hv, _⟩ | ⟨g', cap, cur, hv, _, hh, _⟩
    · rw [hv] at hgs; simp [Value.ownBlock] at hgs
    · rw [hv] at hgs
      have : g' = g := by simpa [Value.ownBlock] using hgs
      subst this
      rw [hh] at h1
      injection h1 with h1
      injection h1 with _ h1
      exact h2 h1.symm
theorem EMap.below {w w' : World} {B b : Nat} {E : List (Pt × Value)} {f : Pt → List R4} (h : EMap w B b E f) (hb : Below w.heap.size w w') : EMap w' B b E f :=
  ⟨by unfold PMap; rw [hb.block b h.lt]; exact h.m, h.bB, fun p => ownsRow_below (h.at' p) hb, h.ap⟩
theorem EMap.ent {w w' : World} {B b : Nat} {E : List (Pt × Value)} {f : Pt → List R4} (h : EMap w B b E f) (p : Pt) (hP : PMap w' b (entE p E)) (hg : w.grownBy w' (some b)) : EMap w' B b (entE p E) f := by
  refine ⟨hP, h.bB, fun q => ?_, fun q r hqr g => ?_⟩
  · rw [getP_ent]
    exact own_grown (h.at' q) hg (fun g hgs e => by injection e with e; have := own_base (h.at' q) g hgs; have := h.bB; omega)
  · rw [getP_ent, getP_ent]
    exact h.ap q r hqr g
theorem EMap.step {w w1 w2 : World} {B b : Nat} {E : List (Pt × Value)} {f : Pt → List R4} (h : EMap w B b E f) {p : Pt} {i : Nat} (hx : findP p E 0 = some (i, getP p E)) {v' : Value} {l' : List R4}
    (hown : w1.ownsRow B 191 4 v' l'.length (rCells l')) (hloc : v'.ownBlock = (getP p E).ownBlock ∨ ∃ g, v'.ownBlock = some g ∧ w.heap.size ≤ g) (hg : w.grownBy w1 (getP p E).ownBlock) (hP : PMap w2 b (E.set i (p, v'))) (hg2 : w1.grownBy w2 (some b)) : EMap w2 B b (E.set i (p, v')) (upd f p l') := by
  have hb2 : ∀ {v : Value} {n : Nat} {xs : List Value}, w1.ownsRow B 191 4 v n xs → w2.ownsRow B 191 4 v n xs := fun ho => own_grown ho hg2 (fun g hgs e => by injection e with e; have := own_base ho g hgs; have := h.bB; omega)
  have hne : ∀ q, q ≠ p → ∀ g, v'.ownBlock = some g → (getP q E).ownBlock ≠ some g := fun q hq g hgv e => by
    rcases hloc with h1 | ⟨g', h1, h2⟩
    · rw [h1] at hgv
      exact h.ap p q (fun e => hq e.symm) g hgv e
    · rw [h1] at hgv
      injection hgv with hgv
      have := own_lt (h.at' q) g e
      omega
  refine ⟨hP, h.bB, fun q => ?_, fun q r hqr g => ?_⟩
  · rw [getP_set hx]
    unfold upd
    by_cases hq : q = p
    · rw [if_pos hq, if_pos hq]; exact hb2 hown
    · rw [if_neg hq, if_neg hq]
      refine hb2 (own_grown (h.at' q) hg (fun g hgs e => ?_))
      exact h.ap q p hq g hgs e
  · rw [getP_set hx, getP_set hx]
    by_cases hq : q = p
    · rw [if_pos hq, if_neg (fun e => hqr (hq.trans e.symm))]
      exact fun h1 => hne r (fun e => hqr (hq.trans e.symm)) g h1
    · rw [if_neg hq]
      by_cases hr : r = p
      · rw [if_pos hr]
        exact fun h1 h2 => hne q hq g h2 h1
      · rw [if_neg hr]
        exact h.ap q r hqr g
abbrev toOf (e : R4) : Pt := (e.r, e.t)
abbrev frOf (e : R4) : Pt := (e.l, e.b)
def pickI (now : R4) : List R4 → Nat
  | [] => 0
  | [_] => 0
  | x :: _ => if turnP now x = 1 then 0 else 1
def followF : Nat → (Pt → List R4) → R4 → R4 → List Pt → Option (List Pt × (Pt → List R4))
  | 0, _, _, _, _ => none
  | d + 1, f, first, now, acc =>
    match (f (toOf now))[pickI now (f (toOf now))]? with
    | none => none
    | some next =>
      if next = first then some (if turnP now next = 0 then acc else acc ++ [toOf now], upd f (toOf now) ((f (toOf now)).eraseIdx (pickI now (f (toOf now)))))
      else followF d (upd f (toOf now) ((f (toOf now)).eraseIdx (pickI now (f (toOf now))))) first next (if turnP now next = 0 then acc else acc ++ [toOf now])
def vlen : Value → Nat
  | .slice _ n _ => n
  | _ => 0
def sumLen (E : List (Pt × Value)) : Nat := (E.map fun x => vlen x.2).sum
def weight (w : World) (b : Nat) : Nat := match w.heap[b]? with
  | some (.map es _) => (es.toList.map fun e => vlen e.val).sum
  | _ => 0
theorem weight_of {w : World} {b : Nat} {E : List (Pt × Value)} (h : PMap w b E) : weight w b = sumLen E := by
  unfold weight
  rw [h]
  unfold sumLen
  dsimp only
  congr 1
  apply List.ext_getElem?
  intro i
  rw [List.getElem?_map, List.getElem?_map, entsOf_get]
  cases E[i]? <;> rfl
theorem sumLen_set {p : Pt} {v u : Value} : ∀ {E : List (Pt × Value)} {i : Nat}, E[i]? = some (p, u) → vlen v + 1 = vlen u → sumLen (E.set i (p, v)) + 1 = sumLen E
  | [], i, h, _ => by simp at h
  | x :: t, 0, h, hv => by
    simp at h
    subst h
    simp [sumLen]
    omega
  | x :: t, i + 1, h, hv => by
    have := sumLen_set (E := t) (i := i) (by simpa using h) hv
    simp [sumLen] at *
    omega
theorem row_set4 {w : World} {g : Nat} {x0 x1 x2 x3 y0 y1 y2 y3 : Value} {t : TypeId} (h : w.heap[g]? = some (.cells #[x0, x1, x2, x3] t (0, 0))) :
    ((((w.setCell ⟨g, 0, none⟩ y0).setCell ⟨g, 1, none⟩ y1).setCell ⟨g, 2, none⟩ y2).setCell ⟨g, 3, none⟩ y3).heap[g]? = some (.cells #[y0, y1, y2, y3] t (0, 0)) := by
  have h1 := heap_setCell_same w g 0 _ _ y0 h
  have h2 := heap_setCell_same _ g 1 _ _ y1 h1
  have h3 := heap_setCell_same _ g 2 _ _ y2 h2
  have h4 := heap_setCell_same _ g 3 _ _ y3 h3
  simpa using h4
theorem EMap.far {w w' : World} {B b : Nat} {E : List (Pt × Value)} {f : Pt → List R4} {N : Nat} (h : EMap w B b E f) (hg : w.grownBy w' (some N)) (hN : N ≠ b) (hr : ∀ p g, (getP p E).ownBlock = some g → g < N) : EMap w' B b E f := by
  refine ⟨?_, h.bB, fun p => own_grown (h.at' p) hg (fun g hgs e => ?_), h.ap⟩
  · unfold PMap
    rw [hg.block b h.lt (fun e => by injection e with e; exact hN e.symm)]
    exact h.m
  · injection e with e
    have := hr p g hgs
    omega
theorem own_type {w : World} {base : Nat} {T : TypeId} {size n : Nat} {v : Value} {xs : List Value} (h : w.ownsRow base T size v n xs) (g : Nat) (hg : v.ownBlock = some g) : ∃ cs i, w.heap[g]? = some (.cells cs T i) := by
  rcases h.2 with ⟨hv, _⟩ | ⟨g', cap, cur, hv, _, hh, _⟩
  · rw [hv] at hg; simp [Value.ownBlock] at hg
  · rw [hv] at hg
    have : g' = g := by simpa [Value.ownBlock] using hg
    subst this
    exact ⟨_, _, hh⟩
theorem mapEdge : mapT 199 := by unfold mapT; kernel_rfl
theorem rCells_at4 (l : List R4) (i : Nat) (x : R4) (h : l[i]? = some x) : (rCells l)[i * 4]? = some (.int .i64 x.l) ∧ (rCells l)[i * 4 + 1]? = some (.int .i64 x.b) ∧ (rCells l)[i * 4 + 2]? = some (.int .i64 x.r) ∧ (rCells l)[i * 4 + 3]? = some (.int .i64 x.t) := by
  induction l generalizing i with
  | nil => simp at h
  | cons o r ih =>
    have hc : rCells (o :: r) = [.int .i64 o.l, .int .i64 o.b, .int .i64 o.r, .int .i64 o.t] ++ rCells r := by simp [rCells, R4.cells]
    rw [hc]
    rcases i with _ | i
    · simp at h; subst h; simp
    · have := ih i (by simpa using h)
      refine ⟨?_, ?_, ?_, ?_⟩ <;> rw [List.getElem?_append_right (by simp; omega)]
      · rw [show (i + 1) * 4 - ([Value.int .i64 o.l, .int .i64 o.b, .int .i64 o.r, .int .i64 o.t] : List Value).length = i * 4 from by simp; omega]; exact this.1
      · rw [show (i + 1) * 4 + 1 - ([Value.int .i64 o.l, .int .i64 o.b, .int .i64 o.r, .int .i64 o.t] : List Value).length = i * 4 + 1 from by simp; omega]; exact this.2.1
      · rw [show (i + 1) * 4 + 2 - ([Value.int .i64 o.l, .int .i64 o.b, .int .i64 o.r, .int .i64 o.t] : List Value).length = i * 4 + 2 from by simp; omega]; exact this.2.2.1
      · rw [show (i + 1) * 4 + 3 - ([Value.int .i64 o.l, .int .i64 o.b, .int .i64 o.r, .int .i64 o.t] : List Value).length = i * 4 + 3 from by simp; omega]; exact this.2.2.2
theorem qEqualIn (w : World) (k : Nat) (a b a' b' : Int) : (Op.equalIn (k + 2) 189 (.agg #[.int .i64 a, .int .i64 b]) (.agg #[.int .i64 a', .int .i64 b'])).run Tryz.prog w = .ok (a == a' && b == b') w := by
  have ci : Tryz.prog.cellsOf 3 = 1 := by kernel_rfl
  have h3 : ∀ (x y : Int) (w : World), (Op.equalIn (k + 1) 3 (.int .i64 x) (.int .i64 y)).run Tryz.prog w = .ok (x == y) w := fun x y w => run_equalIn_int w k 3 .i64 .i64 x y Tryz.underlying3
  rw [run_equalIn_agg w (k + 1) _ _ _ (by kernel_rfl) (by kernel_rfl)]
  simp only [Program.fieldsOf, Tryz.underlying189]
  cases h1 : a == a' <;> cases h2 : b == b' <;> simp [Op.eqFields, go_sem, h3, h1, h2]
theorem eEqualIn (w : World) (k : Nat) (x y : R4) : (Op.equalIn (k + 3) 191 (.agg #[.int .i64 x.l, .int .i64 x.b, .int .i64 x.r, .int .i64 x.t]) (.agg #[.int .i64 y.l, .int .i64 y.b, .int .i64 y.r, .int .i64 y.t])).run Tryz.prog w = .ok (decide (x = y)) w := by
  obtain ⟨a, b, c, d⟩ := x
  obtain ⟨a', b', c', d'⟩ := y
  have ci : Tryz.prog.cellsOf 189 = 2 := by kernel_rfl
  rw [run_equalIn_agg w (k + 2) _ _ _ (by kernel_rfl) (by kernel_rfl)]
  simp only [Program.fieldsOf, Tryz.underlying191]
  have hd : decide ((⟨a, b, c, d⟩ : R4) = ⟨a', b', c', d'⟩) = ((a == a' && b == b') && (c == c' && d == d')) := by
    rw [Bool.eq_iff_iff]
    simp [and_assoc]
  rw [hd]
  cases h1 : (a == a' && b == b') <;> cases h2 : (c == c' && d == d') <;> simp [Op.eqFields, go_sem, qEqualIn, h1, h2, ci]
theorem e_eql (w : World) (x y : R4) : (binOp .eql 191 (.agg #[.int .i64 x.l, .int .i64 x.b, .int .i64 x.r, .int .i64 x.t]) (.agg #[.int .i64 y.l, .int .i64 y.b, .int .i64 y.r, .int .i64 y.t])).run Tryz.prog w = .ok (.bool (decide (x = y))) w := by
  rw [run_eql_struct, eEqualIn w 9997]
  rfl
theorem eGuard (w : World) (x y : Operand) (op : BinOp) (xs ys : Array Value) : (eqGuard op 191 x y (.agg xs) (.agg ys)).run Tryz.prog w = .ok () w := run_eqGuard_agg w op _ x y xs ys (by kernel_rfl)
structure FolAt (w wx : World) (wz B b N X : Nat) (E : List (Pt × Value)) (f : Pt → List R4) (e0 now next : R4) (cv : Value) (acc : List Pt) : Prop where
  em : EMap wx B b E f
  a : wx.heap[w.heap.size]? = some (.cells #[.int .i64 e0.l, .int .i64 e0.b, .int .i64 e0.r, .int .i64 e0.t] 191 (0, 0))
  n : wx.heap[N]? = some (.cells #[.int .i64 now.l, .int .i64 now.b, .int .i64 now.r, .int .i64 now.t] 191 (0, 0))
  x : wx.heap[X]? = some (.cells #[.int .i64 next.l, .int .i64 next.b, .int .i64 next.r, .int .i64 next.t] 191 (0, 0))
  o : wx.ownsRow wz 189 2 cv acc.length (pCells acc)
  bl : Below b w wx
  cb : CellsBut 191 w wx
  sz : wz ≤ wx.heap.size
  xz : X < wx.heap.size
  nz : N < wx.heap.size
  az : w.heap.size < wx.heap.size
theorem FolAt.below {w wx w2 : World} {wz B b N X : Nat} {E : List (Pt × Value)} {f : Pt → List R4} {e0 now next : R4} {cv : Value} {acc : List Pt} (h : FolAt w wx wz B b N X E f e0 now next cv acc) (hb : Below wx.heap.size wx w2) : FolAt w w2 wz B b N X E f e0 now next cv acc :=
  have hs := hb.size
  ⟨h.em.below hb, (hb.block _ h.az).trans h.a, (hb.block _ h.nz).trans h.n, (hb.block _ h.xz).trans h.x, ownsRow_below h.o hb, h.bl.trans (hb.mono (by have := h.em.lt; omega)), h.cb.trans (CellsBut.below hb), by have := h.sz; omega, by have := h.xz; omega, by have := h.nz; omega, by have := h.az; omega⟩
theorem FolAt.app {w wx w2 : World} {wz B b N X : Nat} {E : List (Pt × Value)} {f : Pt → List R4} {e0 now next : R4} {cv cv2 : Value} {acc acc2 : List Pt} (h : FolAt w wx wz B b N X E f e0 now next cv acc) (hwz : w.heap.size ≤ wz) (hbw : b < w.heap.size) (hg : wx.grownBy w2 cv.ownBlock) (ho : w2.ownsRow wz 189 2 cv2 acc2.length (pCells acc2)) : FolAt w w2 wz B b N X E f e0 now next cv2 acc2 := by
  have hT : ∀ g, cv.ownBlock = some g → ∃ cs i, wx.heap[g]? = some (.cells cs 189 i) := fun g hgs => own_type h.o g hgs
  have hne : ∀ (k : Nat) (cs : Array Value), wx.heap[k]? = some (.cells cs 191 (0, 0)) → cv.ownBlock ≠ some k := fun k cs hk e => by
    obtain ⟨cs', i, h1⟩ := hT k e
    rw [hk] at h1
    injection h1 with h1
    injection h1 with _ h1
    cases h1
  have hs := hg.size
  have hob := own_base h.o
  refine ⟨h.em.grown hg (fun g hgs => ?_), (hg.block _ h.az (fun e => hne _ _ h.a e.symm)).trans h.a, (hg.block _ h.nz (fun e => hne _ _ h.n e.symm)).trans h.n, (hg.block _ h.xz (fun e => hne _ _ h.x e.symm)).trans h.x, ho, h.bl.grown hg (by have := h.em.lt; omega) (fun g hgs => by have := hob g hgs; omega), ⟨by have := h.cb.size; omega, fun k cs T i hT hk => ?_⟩, by have := h.sz; omega, by have := h.xz; omega, by have := h.nz; omega, by have := h.az; omega⟩
  · obtain ⟨cs, i, h1⟩ := hT g hgs
    exact ⟨cs, _, i, h1, by decide⟩
  · have hkw := (Array.getElem?_eq_some_iff.1 hk).1
    have h1 := h.cb.same k cs T i hT hk
    exact (hg.block k (Array.getElem?_eq_some_iff.1 h1).1 (fun e => by have := hob k e.symm; omega)).trans h1
theorem own_lower {w : World} {base base' : Nat} {e : TypeId} {size : Nat} {v : Value} {n : Nat} {xs : List Value} (h : w.ownsRow base e size v n xs) (hb : base' ≤ base) : w.ownsRow base' e size v n xs := by
  obtain ⟨h1, h2⟩ := h
  refine ⟨h1, ?_⟩
  rcases h2 with h3 | ⟨g, cap, cur, h3, h4, r⟩
  · exact .inl h3
  · exact .inr ⟨g, cap, cur, h3, Nat.le_trans hb h4, r⟩
theorem FolAt.put {w wx : World} {wz B b N X : Nat} {E : List (Pt × Value)} {f : Pt → List R4} {e0 now next : R4} {cv : Value} {acc : List Pt} (h : FolAt w wx wz B b N X E f e0 now next cv acc) (hN : w.heap.size < N) (hb : b < w.heap.size) (hz : N < wz) (hr : ∀ p g, (getP p E).ownBlock = some g → g < w.heap.size) (w2 : World)
    (hw2 : w2 = (((wx.setCell ⟨N, 0, none⟩ (.int .i64 next.l)).setCell ⟨N, 1, none⟩ (.int .i64 next.b)).setCell ⟨N, 2, none⟩ (.int .i64 next.r)).setCell ⟨N, 3, none⟩ (.int .i64 next.t)) :
    EMap w2 B b E f ∧ w2.heap[w.heap.size]? = some (.cells #[.int .i64 e0.l, .int .i64 e0.b, .int .i64 e0.r, .int .i64 e0.t] 191 (0, 0)) ∧ w2.heap[N]? = some (.cells #[.int .i64 next.l, .int .i64 next.b, .int .i64 next.r, .int .i64 next.t] 191 (0, 0)) ∧ w2.ownsRow wz 189 2 cv acc.length (pCells acc) ∧ Below b w w2 ∧ CellsBut 191 w w2 ∧ wz ≤ w2.heap.size := by
  have g1 : wx.grownBy (wx.setCell ⟨N, 0, none⟩ (.int .i64 next.l)) (some N) := only_setCell (World.grownBy.refl wx (some N)) (.inl rfl) _
  have g2 : wx.grownBy ((wx.setCell ⟨N, 0, none⟩ (.int .i64 next.l)).setCell ⟨N, 1, none⟩ (.int .i64 next.b)) (some N) := only_setCell g1 (.inl rfl) _
  have g3 : wx.grownBy (((wx.setCell ⟨N, 0, none⟩ (.int .i64 next.l)).setCell ⟨N, 1, none⟩ (.int .i64 next.b)).setCell ⟨N, 2, none⟩ (.int .i64 next.r)) (some N) := only_setCell g2 (.inl rfl) _
  have hrow : w2.heap[N]? = some (.cells #[.int .i64 next.l, .int .i64 next.b, .int .i64 next.r, .int .i64 next.t] 191 (0, 0)) := by rw [hw2]; exact row_set4 h.n
  have hg : wx.grownBy w2 (some N) := by
    rw [hw2]
    exact only_setCell g3 (.inl rfl) _
  clear hw2 g1 g2 g3
  have hs := hg.size
  refine ⟨h.em.far hg (by omega) (fun p g e => by have := hr p g e; omega), (hg.block _ h.az (fun e => by injection e with e; omega)).trans h.a, hrow, own_grown h.o hg (fun g hgs e => by have := own_base h.o g hgs; injection e with e; omega), h.bl.grown hg (by have := h.em.lt; omega) (fun g hgs => by injection hgs with hgs; omega), h.cb.trans (CellsBut.grown hg (fun g hgs cs T i hk => ?_)), by have := h.sz; omega⟩
  injection hgs with hgs
  subst hgs
  rw [h.n] at hk
  injection hk with hk
  injection hk with _ hk
  exact hk.symm
theorem sumLen_upd {E : List (Pt × Value)} {p : Pt} {i g m cap : Nat} (h : findP p E 0 = some (i, .slice (some ⟨g, 0, none⟩) (m + 1) cap)) : sumLen (E.set i (p, .slice (some ⟨g, 0, none⟩) m cap)) + 1 = sumLen E := by
  obtain ⟨d, hd, hE⟩ := findP_some h
  obtain rfl : i = d := by omega
  exact sumLen_set hE rfl
theorem pick_01 (now : R4) (l : List R4) : pickI now l = 0 ∨ pickI now l = 1 := by
  unfold pickI
  split
  · exact .inl rfl
  · exact .inl rfl
  · split <;> simp
theorem pick_lt {now next : R4} {l : List R4} (h : l[pickI now l]? = some next) : pickI now l < l.length := (List.getElem?_eq_some_iff.1 h).1
theorem follow_any (b B : Nat) (E0 : List (Pt × Value)) (f0 : Pt → List R4) (e0 : R4) (w : World) (hM : EMap w B b E0 f0) (d0 : Nat) (res : List Pt × (Pt → List R4)) (hf : followF d0 f0 e0 e0 [] = some res) (hs : sumLen E0 ≤ 1000000000000) (hold : ∀ p g, (getP p E0).ownBlock = some g → g < w.heap.size) :
    Calls Tryz.prog 146 #[.map (some b), .agg #[.int .i64 e0.l, .int .i64 e0.b, .int .i64 e0.r, .int .i64 e0.t]] w fun e w' => ∃ v E', e = .returned v ∧ w'.ownsRow w.heap.size 189 2 v res.1.length (pCells res.1) ∧ EMap w' B b E' res.2 ∧ Below b w w' ∧ CellsBut 191 w w' ∧ sumLen E' ≤ sumLen E0 ∧ ∀ p g, (getP p E').ownBlock = some g → g < w.heap.size := by
  obtain ⟨i0, hi, hz0, hz1, hz2⟩ := info_parts Tryz.infoPoint
  have HM := Lib.hid hM
  have Hf := Lib.hid hf
  have Hold := Lib.hid hold
  have hbw := hM.lt
  clear hM hf hold
  go_enter Tryz.func146, Tryz.ntmps146
  go_wp2_with fail
  obtain ⟨wa, hwa⟩ : ∃ wa : World, wa = (w.alloc (.cells #[.int .i64 e0.l, .int .i64 e0.b, .int .i64 e0.r, .int .i64 e0.t] 191)).alloc (.cells #[.int .i64 e0.l, .int .i64 e0.b, .int .i64 e0.r, .int .i64 e0.t] 191) := ⟨_, rfl⟩
  rw [← hwa]
  have HA0 : Hid (wa.heap[w.heap.size]? = some (.cells #[.int .i64 e0.l, .int .i64 e0.b, .int .i64 e0.r, .int .i64 e0.t] 191 (0, 0))) := Lib.hid (by rw [hwa]; exact (Below.heap_alloc _ _ _ (by simp)).trans (heap_alloc_new w _))
  have HN0 : Hid (wa.heap[w.heap.size + 1]? = some (.cells #[.int .i64 e0.l, .int .i64 e0.b, .int .i64 e0.r, .int .i64 e0.t] 191 (0, 0))) := Lib.hid (by rw [hwa]; have hzz := heap_alloc_new (w.alloc (.cells #[.int .i64 e0.l, .int .i64 e0.b, .int .i64 e0.r, .int .i64 e0.t] 191)) (.cells #[.int .i64 e0.l, .int .i64 e0.b, .int .i64 e0.r, .int .i64 e0.t] 191); rw [World.size_alloc] at hzz; exact hzz)
  have Hba : Hid (Below w.heap.size w wa) := Lib.hid (by rw [hwa]; exact gBel)
  have hlN : w.heap.size + 1 < wa.heap.size := by rw [hwa]; simp
  clear hwa
  obtain ⟨N, hN⟩ : ∃ N, w.heap.size + 1 = N := ⟨_, rfl⟩
  have HNe : Hid (w.heap.size + 1 = N) := Lib.hid hN
  have hAN : w.heap.size < N := by omega
  rw [hN] at HN0 hlN ⊢
  clear hN
  go_loopw [5] (fun cv wr => ∃ (d : Nat) (E : List (Pt × Value)) (f : Pt → List R4) (now : R4) (acc : List Pt), Hid (followF d f e0 now acc = some res) ∧ EMap wr B b E f ∧ Hid (wr.heap[w.heap.size]? = some (.cells #[.int .i64 e0.l, .int .i64 e0.b, .int .i64 e0.r, .int .i64 e0.t] 191 (0, 0))) ∧ Hid (wr.heap[N]? = some (.cells #[.int .i64 now.l, .int .i64 now.b, .int .i64 now.r, .int .i64 now.t] 191 (0, 0))) ∧ wr.ownsRow wa.heap.size 189 2 cv acc.length (pCells acc) ∧ Below b w wr ∧ CellsBut 191 w wr ∧ wa.heap.size ≤ wr.heap.size ∧ Hid (acc.length + sumLen E ≤ sumLen E0) ∧ Hid (∀ p g, (getP p E).ownBlock = some g → g < w.heap.size)) (fun _ wr => weight wr b)
  case atStart => exact ⟨d0, E0, f0, e0, [], Hf, HM.out.below Hba.out, HA0, HN0, World.ownsRow_nil _ _ _ _, Hba.out.mono (by omega), CellsBut.below Hba.out, Nat.le_refl _, Lib.hid (by simp), Hold⟩
  case round =>
    obtain ⟨d, E, f, now, acc, Hfo, hEm, HA, HN, hown, hbw1, hcb, hsz, Hlen, Hrow⟩ := hrel
    obtain ⟨CA, cc, rfl, -, -, -⟩ := own_slice hown
    have HEm := Lib.hid hEm
    have Hown := Lib.hid hown
    have Hbw1 := Lib.hid hbw1
    have Hcb := Lib.hid hcb
    have hlt := hEm.lt
    have HW := Lib.hid (weight_of hEm.m)
    clear hEm hown hbw1 hcb
    obtain ⟨dd, rfl⟩ : ∃ dd, d = dd + 1 := by
      cases d with
      | zero => exact absurd Hfo.out (by simp [followF])
      | succ dd => exact ⟨dd, rfl⟩
    have hfo := Hfo.out
    rw [followF] at hfo
    obtain ⟨l, hl⟩ : ∃ l, f (toOf now) = l := ⟨_, rfl⟩
    rw [hl] at hfo
    obtain ⟨next, hnext⟩ : ∃ next, l[pickI now l]? = some next := by
      cases h : l[pickI now l]? with
      | none => rw [h] at hfo; cases hfo
      | some x => exact ⟨x, rfl⟩
    rw [hnext] at hfo
    dsimp only at hfo
    have hpl := pick_lt hnext
    have hlne : f (toOf now) ≠ [] := by rw [hl]; intro e; rw [e] at hpl; simp at hpl
    obtain ⟨i, hfi⟩ := HEm.out.here hlne
    have hE := HEm.out.at' (toOf now)
    rw [hl] at hE
    obtain ⟨v, hv⟩ : ∃ v, getP (toOf now) E = v := ⟨_, rfl⟩
    rw [hv] at hE hfi
    obtain ⟨g, cap, rfl, hgB, hgl, hnc, hcm, hcells, -⟩ := own_at hE (by omega)
    have Hv := Lib.hid hv
    have Hl := Lib.hid hl
    have Hfi := Lib.hid hfi
    have HEo := Lib.hid hE
    have hgw : g < w.heap.size := Hrow.out (toOf now) g (by rw [hv]; rfl)
    have Hnext := Lib.hid hnext
    have Hfo2 := Lib.hid hfo
    have Hcells := Lib.hid hcells
    have hlk := pm_lookup HEm.out.m mapEdge (toOf now)
    rw [hv] at hlk
    have n0 := cell_of_row wr N 0 _ _ _ HN.out
    have n1 := cell_of_row wr N 1 _ _ _ HN.out
    have n2 := cell_of_row wr N 2 _ _ _ HN.out
    have n3 := cell_of_row wr N 3 _ _ _ HN.out
    have hNr : N < wr.heap.size := by omega
    unfold ptV at hlk
    dsimp only at hlk
    clear hfo hnext hlne hfi hE hcells hv hl
    go_upto_region 5 with fail
    clear hlk
    go_cut [25] (fun tv wx => tv = .bool (decide (pickI now l = 1)) ∧ Below wr.heap.size wr wx)
    case first =>
      by_cases h1 : 1 < l.length
      · have h1' : (1 : Int) < (l.length : Int) := by omega
        have h0' : (0 : Int) < (l.length : Int) := by omega
        have h1d : decide (1 < l.length) = true := decide_eq_true h1
        obtain ⟨x, hx⟩ : ∃ x, l[0]? = some x := ⟨_, List.getElem?_eq_getElem (by omega)⟩
        have hpk : decide (pickI now l = 1) = !decide (turnP now x = 1) := by
          match l, h1, hx with
          | a :: c :: t, _, hx =>
            simp at hx
            subst hx
            unfold pickI
            by_cases ht : turnP now a = 1 <;> simp [ht]
        have hc4 := rCells_at4 l 0 x hx
        have g0 := Hcells.out _ _ hc4.1
        have g1 := Hcells.out _ _ hc4.2.1
        have g2 := Hcells.out _ _ hc4.2.2.1
        have g3 := Hcells.out _ _ hc4.2.2.2
        have HT := Lib.hid (fun W => turn_any now x W)
        clear hx hc4
        generalize turnP now x = tn at *
        have Hpk := Lib.hid hpk
        clear hpk
        obtain ⟨ql, qb, qr, qt⟩ := x
        dsimp only at *
        refine wp_region_below (W := wr) wr.heap.size (Nat.le_refl _) (by kernel_rfl) (by kernel_rfl) ?_
        intro I _ F hFc hFb hFs
        repeat (go_big_quiet_step ((go_at_call 228; with_reducible exact class_call hFb hFs (Nat.le_refl _) (HT.out _))))
        refine wpQuiet_nil ?_
        rintro _ ⟨iq, rfl⟩
        have hbq := hFb iq
        by_cases ht : tn = 1
        · subst ht
          go_wp2_with fail
          go_meet
          case rel => exact ⟨by rw [Hpk.out]; rfl, hbq⟩
        · have htd : decide (tn = 1) = false := decide_eq_false ht
          go_wp2_with fail
          go_meet
          case rel => exact ⟨by rw [Hpk.out, htd]; simp [ht], hbq⟩
      · have h1' : ¬ (1 : Int) < (l.length : Int) := by omega
        have h1d : decide (1 < l.length) = false := decide_eq_false h1
        have hpk : decide (pickI now l = 1) = false := by
          match l, hpl, h1 with
          | [a], _, _ => rfl
          | a :: c :: t, _, h1 => simp at h1
        have Hpk := Lib.hid hpk
        clear hpk
        refine wp_region_below (W := wr) wr.heap.size (Nat.le_refl _) (by kernel_rfl) (by kernel_rfl) ?_
        intro I _ F hFc hFb hFs
        repeat (go_big_quiet_step (fail))
        refine wpQuiet_nil ?_
        rintro _ ⟨iq, rfl⟩
        go_wp2_with fail
        go_meet
        case rel => exact ⟨by rw [Hpk.out], hFb iq⟩
    case rest =>
      obtain ⟨rfl, hb5⟩ := hcut
      obtain ⟨w5, rfl⟩ : ∃ wx : World, wx = wc := ⟨_, rfl⟩
      have Hb5 := Lib.hid hb5
      have hsz5 := hb5.size
      obtain ⟨k, hk⟩ : ∃ k, pickI now l = k := ⟨_, rfl⟩
      have hk1 : k = 0 ∨ k = 1 := by rw [← hk]; exact pick_01 now l
      have Hk := Lib.hid hk
      rw [hk] at hpl ⊢
      have hnx := Hnext.out
      rw [hk] at hnx
      have hc4 := rCells_at4 l k next hnx
      have g0 := (hb5.cell (p := ⟨g, k * 4, none⟩) hgl).trans (Hcells.out _ _ hc4.1)
      have g1 := (hb5.cell (p := ⟨g, k * 4 + 1, none⟩) hgl).trans (Hcells.out _ _ hc4.2.1)
      have g2 := (hb5.cell (p := ⟨g, k * 4 + 2, none⟩) hgl).trans (Hcells.out _ _ hc4.2.2.1)
      have g3 := (hb5.cell (p := ⟨g, k * 4 + 3, none⟩) hgl).trans (Hcells.out _ _ hc4.2.2.2)
      have hpli : (k : Int) < (l.length : Int) := by omega
      clear hc4 hnx hk hb5 n0 n1 n2 n3
      go_upto_if 25 with fail
      go_cut [8] (fun iv wx => iv = .int .i64 (k : Int) ∧ wx = w5)
      case first =>
        rcases hk1 with rfl | rfl
        · go_wp2_with fail
          go_meet
          case rel => exact ⟨rfl, rfl⟩
        · go_wp2_with fail
          go_meet
          case rel => exact ⟨rfl, rfl⟩
      case rest =>
        obtain ⟨rfl, rfl⟩ := hcut
        go_upto_region 8 with fail
        obtain ⟨m, hm⟩ : ∃ m, l.length = m + 1 := ⟨l.length - 1, by omega⟩
        have hwk : IntKind.i64.wrap ((k : Int) + 1) = (k : Int) + 1 := by rcases hk1 with rfl | rfl <;> rfl
        obtain ⟨w7, hw7⟩ : ∃ w7 : World, w7 = wc.alloc (.cells #[.int .i64 next.l, .int .i64 next.b, .int .i64 next.r, .int .i64 next.t] 191) := ⟨_, rfl⟩
        rw [← hw7]
        have Hb7 : Hid (Below wr.heap.size wr w7) := Lib.hid (by rw [hw7]; exact Hb5.out.alloc hsz5 _)
        have HX : Hid (w7.heap[wc.heap.size]? = some (.cells #[.int .i64 next.l, .int .i64 next.b, .int .i64 next.r, .int .i64 next.t] 191 (0, 0))) := Lib.hid (by rw [hw7]; exact heap_alloc_new _ _)
        have hX7 : wc.heap.size < w7.heap.size := by rw [hw7]; simp
        clear hw7 g0 g1 g2 g3 hpli
        obtain ⟨X, hX⟩ : ∃ X, wc.heap.size = X := ⟨_, rfl⟩
        have hXr : wr.heap.size ≤ X := by omega
        rw [hX] at HX hX7 ⊢
        clear hX
        obtain ⟨w8, hw8⟩ : ∃ w8 : World, w8 = w7.drew := ⟨_, rfl⟩
        have Hb8 : Hid (Below wr.heap.size wr w8) := Lib.hid (by rw [hw8]; exact Hb7.out.drew)
        have HX8 : Hid (w8.heap[X]? = some (.cells #[.int .i64 next.l, .int .i64 next.b, .int .i64 next.r, .int .i64 next.t] 191 (0, 0))) := Lib.hid (by rw [hw8]; exact HX.out)
        have HN8 : Hid (w8.heap[N]? = some (.cells #[.int .i64 now.l, .int .i64 now.b, .int .i64 now.r, .int .i64 now.t] 191 (0, 0))) := Lib.hid ((Hb8.out.block N hNr).trans HN.out)
        have HEm8 := Lib.hid (HEm.out.below Hb8.out)
        have HEo8 := Lib.hid (ownsRow_below HEo.out Hb8.out)
        rw [hm] at HEo8
        rw [hm]
        have hX8 : X < w8.heap.size := by rw [hw8]; simpa using hX7
        have y2 := cell_of_row _ _ 2 _ _ _ HN8.out
        have y3 := cell_of_row _ _ 3 _ _ _ HN8.out
        refine wp_region_held (S := fun w' => w'.cell? ⟨N, 2, none⟩ = some (.int .i64 now.r) ∧ w'.cell? ⟨N, 3, none⟩ = some (.int .i64 now.t)) (by kernel_rfl) ?_
        change wpAnyH _ _ _ _ _ 9 #[false, false, false, false, false, false, false, false, false] _ w7.drew
        rw [← hw8]
        have hHeld : (fun w' : World => w'.cell? ⟨N, 2, none⟩ = some (.int .i64 now.r) ∧ w'.cell? ⟨N, 3, none⟩ = some (.int .i64 now.t)) w8 := ⟨y2, y3⟩
        clear hw8 y2 y3 HX Hb7
        refine wpAnyH_take (i := 0) (v := ?vva0) rfl (by kernel_rfl) (by kernel_rfl) (by kernel_rfl) (fun _ _ _ h => h) (Or.inl ⟨by rfl, ?hya0⟩) hHeld ?resta0; (case hya0 => (intro w hSw; (try dsimp only at hSw); go_simp; all_goals (with_reducible rfl))); simp only [Act.put, List.getElem_toArray, List.getElem_cons_zero, List.getElem_cons_succ, List.setIfInBounds_toArray, List.set_cons_zero, List.set_cons_succ]
        refine wpAnyH_take (i := 1) (v := ?vva1) rfl (by kernel_rfl) (by kernel_rfl) (by kernel_rfl) (fun _ _ _ h => h) (Or.inl ⟨by rfl, ?hya1⟩) hHeld ?resta1; (case hya1 => (intro w hSw; (try dsimp only at hSw); go_simp; all_goals (with_reducible rfl))); simp only [Act.put, List.getElem_toArray, List.getElem_cons_zero, List.getElem_cons_succ, List.setIfInBounds_toArray, List.set_cons_zero, List.set_cons_succ]
        refine wpAnyH_take (i := 2) (v := ?vva2) rfl (by kernel_rfl) (by kernel_rfl) (by kernel_rfl) (fun _ _ _ h => h) (Or.inl ⟨by rfl, ?hya2⟩) hHeld ?resta2; (case hya2 => (intro w hSw; (try dsimp only at hSw); go_simp; all_goals (with_reducible rfl))); simp only [Act.put, List.getElem_toArray, List.getElem_cons_zero, List.getElem_cons_succ, List.setIfInBounds_toArray, List.set_cons_zero, List.set_cons_succ]
        refine wpAnyH_take (i := 3) (v := ?vva3) rfl (by kernel_rfl) (by kernel_rfl) (by kernel_rfl) (fun _ _ _ h => h) (Or.inl ⟨by rfl, ?hya3⟩) hHeld ?resta3; (case hya3 => (intro w hSw; (try dsimp only at hSw); go_simp; all_goals (with_reducible rfl))); simp only [Act.put, List.getElem_toArray, List.getElem_cons_zero, List.getElem_cons_succ, List.setIfInBounds_toArray, List.set_cons_zero, List.set_cons_succ]
        refine wpAnyH_take (i := 4) (v := ?vva4) rfl (by kernel_rfl) (by kernel_rfl) (by kernel_rfl) (fun _ _ _ h => h) (Or.inl ⟨by rfl, ?hya4⟩) hHeld ?resta4; (case hya4 => (intro w hSw; (try dsimp only at hSw); go_simp; all_goals (with_reducible rfl))); simp only [Act.put, List.getElem_toArray, List.getElem_cons_zero, List.getElem_cons_succ, List.setIfInBounds_toArray, List.set_cons_zero, List.set_cons_succ]
        refine wpAnyH_take (i := 5) (v := ?vva5) rfl (by kernel_rfl) (by kernel_rfl) (by kernel_rfl) (fun _ _ _ h => h) (Or.inl ⟨by rfl, ?hya5⟩) hHeld ?resta5; (case hya5 => (intro w hSw; (try dsimp only at hSw); go_simp; all_goals (with_reducible rfl))); simp only [Act.put, List.getElem_toArray, List.getElem_cons_zero, List.getElem_cons_succ, List.setIfInBounds_toArray, List.set_cons_zero, List.set_cons_succ]
        refine wpAnyH_take (i := 6) (v := ?vva6) rfl (by kernel_rfl) (by kernel_rfl) (by kernel_rfl) (fun _ _ _ h => h) (Or.inl ⟨by rfl, ?hya6⟩) hHeld ?resta6; (case hya6 => (intro w hSw; (try dsimp only at hSw); go_simp; all_goals (with_reducible rfl))); simp only [Act.put, List.getElem_toArray, List.getElem_cons_zero, List.getElem_cons_succ, List.setIfInBounds_toArray, List.set_cons_zero, List.set_cons_succ]
        refine wpAnyH_ready (rs := [7]) (by kernel_rfl) (by simp) ?_; refine AllReadyH.cons rfl (fun K hK => ?_) AllReadyH.nil
        go_simp
        go_at_call 229
        refine (delete_any g m cap k B l w8 HEo8.out hm (by omega)).mono ?_
        rintro e w9 ⟨rfl, hown9, hg9⟩
        have hN9 := (hg9.block N (by have := Hb8.out.size; omega) (fun e => by injection e with e; omega)).trans HN8.out
        have hX9 := (hg9.block X hX8 (fun e => by injection e with e; omega)).trans HX8.out
        have HN9 := Lib.hid hN9
        have HX9 := Lib.hid hX9
        refine hK.out _ _ ⟨cell_of_row _ _ 2 _ _ _ hN9, cell_of_row _ _ 3 _ _ _ hN9⟩ (fun hHeld => ?_)
        have hbg : ¬ g = b := fun e => by have := HEm.out.bB; omega
        have hP9 : PMap w9 b E := by
          unfold PMap
          rw [hg9.block b HEm8.out.lt (fun e => by injection e with e; exact hbg e.symm)]
          exact HEm8.out.m
        have Hown9 := Lib.hid hown9
        have Hg9 := Lib.hid hg9
        clear hK K hN9 hX9 hown9 hg9
        try simp only [Act.put, List.getElem_toArray, List.getElem_cons_zero, List.getElem_cons_succ, List.setIfInBounds_toArray, List.set_cons_zero, List.set_cons_succ]
        obtain ⟨w10, hrun, hP10, hg10, hs10⟩ := pm_update hP9 mapEdge (toOf now) (.slice (some ⟨g, 0, none⟩) m cap) Hfi.out
        unfold ptV at hrun
        dsimp only at hrun
        have Hrun := Lib.hid hrun
        have HP10 := Lib.hid hP10
        have HP9 := Lib.hid hP9
        have Hg10 := Lib.hid hg10
        clear hP9 hP10 hg10 hrun
        refine wpAnyH_ready (rs := [8]) (by kernel_rfl) (by simp) ?_; refine AllReadyH.cons rfl (fun K hK => ?_) AllReadyH.nil
        have hrun := Hrun.out
        go_simp
        have hwz8 := Hb8.out.size
        have hN10 := (Hg10.out.block N (by have := Hg9.out.size; omega) (fun e => by injection e with e; omega)).trans HN9.out
        have hX10 := (Hg10.out.block X (by have := Hg9.out.size; omega) (fun e => by injection e with e; omega)).trans HX9.out
        have hlen : (l.eraseIdx k).length = m := by rw [List.length_eraseIdx, if_pos (by omega)]; omega
        have HF10 : Hid (FolAt w w10 wa.heap.size B b N X (E.set i (toOf now, .slice (some ⟨g, 0, none⟩) m cap)) (upd f (toOf now) (l.eraseIdx k)) e0 now next (.slice CA acc.length cc) acc) := by
          have hs9 := Hg9.out.size
          have hs10 := Hg10.out.size
          have hbB := HEm.out.bB
          have hgt : ∀ cs T j, w8.heap[g]? = some (.cells cs T j) → T = 191 := fun cs T j hk => by
            obtain ⟨cs', i', h1⟩ := own_type HEo8.out g rfl
            rw [h1] at hk
            injection hk with hk
            injection hk with _ hk
            exact hk.symm
          refine Lib.hid ⟨HEm8.out.step (by rw [Hv.out]; exact Hfi.out) (by rw [hlen]; exact Hown9.out) (.inl (by rw [Hv.out]; rfl)) (by rw [Hv.out]; exact Hg9.out) HP10.out Hg10.out, ?_, hN10, hX10, ?_, ?_, ?_, by omega, by omega, by omega, by omega⟩
          · exact (Hg10.out.block _ (by omega) (fun e => by injection e with e; omega)).trans ((Hg9.out.block _ (by omega) (fun e => by injection e with e; omega)).trans ((Hb8.out.block _ (by omega)).trans HA.out))
          · have hob := own_base Hown.out
            exact own_grown (own_grown (ownsRow_below Hown.out Hb8.out) Hg9.out (fun z hz e => by injection e with e; have := hob z hz; omega)) Hg10.out (fun z hz e => by injection e with e; have := hob z hz; omega)
          · exact ((Hbw1.out.trans (Hb8.out.mono (by omega))).grown Hg9.out (by omega) (fun z hz => by injection hz with hz; omega)).grown Hg10.out (by omega) (fun z hz => by injection hz with hz; omega)
          · refine ((Hcb.out.trans (CellsBut.below Hb8.out)).trans (CellsBut.grown Hg9.out (fun z hz cs T j hk => ?_))).trans (CellsBut.grown Hg10.out (fun z hz cs T j hk => ?_))
            · injection hz with hz
              subst hz
              exact hgt cs T j hk
            · injection hz with hz
              subst hz
              rw [HP9.out] at hk
              cases hk
        have hsl : sumLen (E.set i (toOf now, .slice (some ⟨g, 0, none⟩) m cap)) + 1 = sumLen E := sumLen_upd (by have := Hfi.out; rw [hm] at this; exact this)
        have Hrow10 : Hid (∀ p z, (getP p (E.set i (toOf now, .slice (some ⟨g, 0, none⟩) m cap))).ownBlock = some z → z < w.heap.size) := Lib.hid (fun p z hz => by
          rw [getP_set Hfi.out] at hz
          by_cases hp : p = toOf now
          · rw [if_pos hp] at hz
            simp [Value.ownBlock] at hz
            omega
          · rw [if_neg hp] at hz
            exact Hrow.out p z hz)
        have Hsl := Lib.hid hsl
        refine hK.out _ _ ⟨cell_of_row _ _ 2 _ _ _ hN10, cell_of_row _ _ 3 _ _ _ hN10⟩ (fun hHeld => ?_)
        clear hK K hrun Hrun
        try simp only [Act.put, List.getElem_toArray, List.getElem_cons_zero, List.getElem_cons_succ, List.setIfInBounds_toArray, List.set_cons_zero, List.set_cons_succ]
        refine wpAnyH_done (by kernel_rfl) ?_ _
        clear hHeld
        have n0 := cell_of_row _ _ 0 _ _ _ hN10
        have n1 := cell_of_row _ _ 1 _ _ _ hN10
        have n2 := cell_of_row _ _ 2 _ _ _ hN10
        have n3 := cell_of_row _ _ 3 _ _ _ hN10
        have x0 := cell_of_row _ _ 0 _ _ _ hX10
        have x1 := cell_of_row _ _ 1 _ _ _ hX10
        have x2 := cell_of_row _ _ 2 _ _ _ hX10
        have x3 := cell_of_row _ _ 3 _ _ _ hX10
        have HT := Lib.hid (fun W => turn_any now next W)
        clear hN10 hX10 hlen hsl hs10
        obtain ⟨tn, htn⟩ : ∃ tn, turnP now next = tn := ⟨_, rfl⟩
        rw [htn] at HT
        have Htn := Lib.hid htn
        clear htn
        obtain ⟨acc2, hacc2⟩ : ∃ acc2, (if tn = 0 then acc else acc ++ [toOf now]) = acc2 := ⟨_, rfl⟩
        have Hacc2 := Lib.hid hacc2
        clear hacc2
        go_upto_if 41 with (first
          | (go_at_call 228
             refine (HT.out _).mono ?_
             rintro e wt ⟨rfl, hbt⟩)
          | fail)
        have HF11 := Lib.hid (HF10.out.below hbt)
        clear hbt n0 n1 n2 n3 x0 x1 x2 x3
        go_cut [5] (fun cv wx => FolAt w wx wa.heap.size B b N X (E.set i (toOf now, .slice (some ⟨g, 0, none⟩) m cap)) (upd f (toOf now) (l.eraseIdx k)) e0 now next cv acc2)
        case first =>
          have n2 := cell_of_row _ _ 2 _ _ _ HF11.out.n
          have n3 := cell_of_row _ _ 3 _ _ _ HF11.out.n
          by_cases ht : tn = 0
          · have Ha : Hid (acc2 = acc) := Lib.hid (by rw [← Hacc2.out, if_pos ht])
            subst ht
            go_wp2_with fail
            go_meet
            case rel => rw [Ha.out]; exact HF11.out
          · have Ha : Hid (acc2 = acc ++ [toOf now]) := Lib.hid (by rw [← Hacc2.out, if_neg ht])
            have htd : decide (tn = 0) = false := decide_eq_false ht
            have hz := HF11.out.sz
            have hacc : acc.length ≤ 1000000000000 := Nat.le_trans (Nat.le_trans (Nat.le_add_right _ _) Hlen.out) hs
            go_wp2_with (first
              | (at_builtin
                 go_loud (refine wpList_append_any _ rfl (.tmp 42) (.tmp 45) _ rfl wa.heap.size 189 i0 _ 2 16 Tryz.underlying123 hi hz0 hz1 hz2 rfl (by omega) _ acc.length (pCells acc) rfl (HF11.out.o.alloc _) _ _ 1 1 [.int .i64 now.r, .int .i64 now.t] rfl ⟨rfl, fun _ => ⟨_, rfl, Nat.lt_succ_self _, fun j u hu => (by exact news_any _ _ _ j u hu)⟩⟩ (by simp [Value.oneCell']) (by simp only [maxLen]; omega) (by omega) (by simp; omega) ?_)
                 intro v5 w5 hown5 hg5 hat5
                 have Hnew := Lib.hid (FolAt.app (acc2 := acc ++ [toOf now]) (HF11.out.below ((Below.refl _ _).alloc (Nat.le_refl _) _)) (by omega) hbw hg5 (by rw [List.length_append, pCells_app]; exact hown5))
                 clear hown5 hg5 hat5)
              | fail)
            go_meet
            case rel => rw [Ha.out]; exact Hnew.out
        case rest =>
          obtain ⟨w12, rfl⟩ : ∃ wx : World, wx = wc := ⟨_, rfl⟩
          have HF := Lib.hid hcut
          have Hfin : Hid ((if next = e0 then some (acc2, upd f (toOf now) (l.eraseIdx k)) else followF dd (upd f (toOf now) (l.eraseIdx k)) e0 next acc2) = some res) := Lib.hid (by
            have h := Hfo2.out
            rw [Hk.out, Htn.out, Hacc2.out] at h
            exact h)
          have Hal : Hid (acc2.length ≤ acc.length + 1) := Lib.hid (by rw [← Hacc2.out]; split <;> simp)
          have hcz := hcut.o
          obtain ⟨CB, cb, rfl, -, -, -⟩ := own_slice hcz
          have x0 := cell_of_row _ _ 0 _ _ _ hcut.x
          have x1 := cell_of_row _ _ 1 _ _ _ hcut.x
          have x2 := cell_of_row _ _ 2 _ _ _ hcut.x
          have x3 := cell_of_row _ _ 3 _ _ _ hcut.x
          have a0 := cell_of_row _ _ 0 _ _ _ hcut.a
          have a1 := cell_of_row _ _ 1 _ _ _ hcut.a
          have a2 := cell_of_row _ _ 2 _ _ _ hcut.a
          have a3 := cell_of_row _ _ 3 _ _ _ hcut.a
          have n0 := cell_of_row _ _ 0 _ _ _ hcut.n
          have n1 := cell_of_row _ _ 1 _ _ _ hcut.n
          have n2 := cell_of_row _ _ 2 _ _ _ hcut.n
          have n3 := cell_of_row _ _ 3 _ _ _ hcut.n
          have f0n := frozen_of_row w12 N 0 _ _ hcut.n
          have hqe := fun W => e_eql W next e0
          have hqg := eGuard
          clear hcz hcut
          by_cases hnf : next = e0
          · have hd : decide (next = e0) = true := decide_eq_true hnf
            rw [hd] at hqe
            have Hnf := Lib.hid hnf
            clear hnf hd
            go_wp2_with fail
            go_ret
            have hres := Hfin.out
            rw [if_pos Hnf.out] at hres
            injection hres with hres
            subst hres
            have ho := HF.out.o
            have hfo := Hsl.out
            have hfl := Hlen.out
            exact ⟨_, _, rfl, own_lower ho (by omega), HF.out.em, HF.out.bl, HF.out.cb, by omega, Hrow10.out⟩
          · have hd : decide (next = e0) = false := decide_eq_false hnf
            rw [hd] at hqe
            have Hnf := Lib.hid hnf
            clear hnf hd
            have r1 := heap_setCell_same w12 N 0 _ _ (.int .i64 next.l) HF.out.n
            have r2 := heap_setCell_same _ N 1 _ _ (.int .i64 next.b) r1
            have r3 := heap_setCell_same _ N 2 _ _ (.int .i64 next.r) r2
            have f1n := frozen_of_row (w12.setCell ⟨N, 0, none⟩ (.int .i64 next.l)) N 1 _ _ r1
            have f2n := frozen_of_row ((w12.setCell ⟨N, 0, none⟩ (.int .i64 next.l)).setCell ⟨N, 1, none⟩ (.int .i64 next.b)) N 2 _ _ r2
            have f3n := frozen_of_row (((w12.setCell ⟨N, 0, none⟩ (.int .i64 next.l)).setCell ⟨N, 1, none⟩ (.int .i64 next.b)).setCell ⟨N, 2, none⟩ (.int .i64 next.r)) N 3 _ _ r3
            clear r1 r2 r3
            go_wp2_with fail
            go_roundw
            case rel =>
              have hres := Hfin.out
              rw [if_neg Hnf.out] at hres
              obtain ⟨p1, p2, p3, p4, p5, p6, p7⟩ := HF.out.put hAN hbw (by omega) Hrow10.out _ rfl
              have hfo := Hsl.out
              have hfl := Hlen.out
              have hal := Hal.out
              exact ⟨dd, _, _, next, acc2, Lib.hid hres, p1, Lib.hid p2, Lib.hid p3, p4, p5, p6, p7, Lib.hid (by omega), Hrow10⟩
            case measure =>
              have hp := HF.out.put hAN hbw (by omega) Hrow10.out _ rfl
              have h1 := weight_of hp.1.m
              have h2 := HW.out
              have h3 := Hsl.out
              omega
def Rem (f : Pt → List R4) (R : List R4) : Prop := ∀ p, (f p).Perm (R.filter fun e => decide (frOf e = p))
def outN (R : List R4) (v : Pt) : Nat := R.countP fun e => decide (frOf e = v)
def inN (R : List R4) (v : Pt) : Nat := R.countP fun e => decide (toOf e = v)
def Bal (R : List R4) : Prop := ∀ v, outN R v = inN R v
def oneAt (p v : Pt) : Nat := if p = v then 1 else 0
theorem count_erase {P : R4 → Bool} {R : List R4} {x : R4} (h : x ∈ R) : R.countP P = (R.erase x).countP P + (if P x then 1 else 0) := by
  rw [(List.perm_cons_erase h).countP_eq, List.countP_cons]
theorem out_erase {R : List R4} {x : R4} (h : x ∈ R) (v : Pt) : outN R v = outN (R.erase x) v + oneAt (frOf x) v := by
  unfold outN oneAt
  rw [count_erase h]
  simp
theorem in_erase {R : List R4} {x : R4} (h : x ∈ R) (v : Pt) : inN R v = inN (R.erase x) v + oneAt (toOf x) v := by
  unfold inN oneAt
  rw [count_erase h]
  simp
theorem Rem.out {f : Pt → List R4} {R : List R4} (h : Rem f R) (p : Pt) : (f p).length = outN R p := by
  rw [(h p).length_eq, outN, List.countP_eq_length_filter]
theorem Rem.mem {f : Pt → List R4} {R : List R4} (h : Rem f R) {p : Pt} {x : R4} (hx : x ∈ f p) : x ∈ R ∧ frOf x = p := by
  have := (h p).mem_iff.1 hx
  rw [List.mem_filter] at this
  exact ⟨this.1, by simpa using this.2⟩
theorem eraseIdx_perm {x : R4} : ∀ {l : List R4} {k : Nat}, l[k]? = some x → (x :: l.eraseIdx k).Perm l
  | [], k, h => by simp at h
  | y :: t, 0, h => by simp at h; subst h; exact List.Perm.refl _
  | y :: t, k + 1, h => by
    rw [List.eraseIdx_cons_succ]
    exact (List.Perm.swap y x _).trans ((eraseIdx_perm (l := t) (by simpa using h)).cons y)
theorem Rem.step {f : Pt → List R4} {R : List R4} (h : Rem f R) {p : Pt} {k : Nat} {x : R4} (hx : (f p)[k]? = some x) : Rem (upd f p ((f p).eraseIdx k)) (R.erase x) := by
  obtain ⟨hk, he⟩ := List.getElem?_eq_some_iff.1 hx
  obtain ⟨hm, hf⟩ := h.mem (List.mem_of_getElem? hx)
  intro q
  have h2 : (R.filter fun e => decide (frOf e = q)).Perm ((x :: R.erase x).filter fun e => decide (frOf e = q)) := (List.perm_cons_erase hm).filter _
  unfold upd
  by_cases hq : q = p
  · subst hq
    rw [if_pos rfl]
    have h1 : (x :: (f q).eraseIdx k).Perm (f q) := by
      exact eraseIdx_perm hx
    have h3 := h1.trans ((h q).trans h2)
    rw [List.filter_cons_of_pos (by simp [hf])] at h3
    exact h3.cons_inv
  · rw [if_neg hq]
    have h3 := (h q).trans h2
    rw [List.filter_cons_of_neg (by simp [hf]; exact fun e => hq e.symm)] at h3
    exact h3
theorem pick_in (now : R4) {l : List R4} (h : l ≠ []) : ∃ x, l[pickI now l]? = some x := by
  refine ⟨l[pickI now l]'?_, List.getElem?_eq_getElem _⟩
  match l, h with
  | [a], _ => simp [pickI]
  | a :: b :: t, _ =>
    unfold pickI
    dsimp only
    split <;> simp
theorem follow_ok : ∀ (d : Nat) (R : List R4) (f : Pt → List R4) (e0 now : R4) (acc : List Pt), Rem f R → e0 ∈ R → R.length ≤ d → (∀ v, outN R v + oneAt (toOf e0) v = inN R v + oneAt (toOf now) v) →
    ∃ cs f' R', followF d f e0 now acc = some (cs, f') ∧ Rem f' R' ∧ Bal R' ∧ R'.Sublist R ∧ R'.Sublist (R.erase e0) ∧ R'.length < R.length ∧ cs.length + R'.length ≤ acc.length + R.length
  | 0, R, f, e0, now, acc, hr, he, hd, hb => by
    cases R with
    | nil => cases he
    | cons x t => simp at hd
  | d + 1, R, f, e0, now, acc, hr, he, hd, hb => by
    obtain ⟨p, hp⟩ : ∃ p, toOf now = p := ⟨_, rfl⟩
    have hne : f p ≠ [] := by
      intro e
      have h0 := hr.out p
      rw [e] at h0
      have h1 := hb p
      rw [hp] at h1
      have h2 := in_erase he p
      simp only [List.length_nil] at h0
      have h3 : oneAt p p = 1 := by simp [oneAt]
      omega
    obtain ⟨x, hx⟩ := pick_in now hne
    obtain ⟨hm, hf⟩ := hr.mem (List.mem_of_getElem? hx)
    have hr2 := hr.step hx
    have hlen := List.length_erase_of_mem hm
    have hpos : 0 < R.length := List.length_pos_of_mem hm
    have hb2 : ∀ v, outN (R.erase x) v + oneAt (toOf e0) v = inN (R.erase x) v + oneAt (toOf x) v := fun v => by
      have h1 := hb v
      have h2 := out_erase hm v
      have h3 := in_erase hm v
      rw [hp] at h1
      rw [hf] at h2
      omega
    have hal : (if turnP now x = 0 then acc else acc ++ [p]).length ≤ acc.length + 1 := by split <;> simp
    rw [followF, hp]
    obtain ⟨k, hk⟩ : ∃ k, pickI now (f p) = k := ⟨_, rfl⟩
    rw [hk] at hx hr2 ⊢
    rw [hx]
    dsimp only
    by_cases hxe : x = e0
    · subst hxe
      rw [if_pos rfl]
      exact ⟨_, _, R.erase x, rfl, hr2, fun v => by have := hb2 v; omega, List.erase_sublist, List.Sublist.refl _, by omega, by omega⟩
    · rw [if_neg hxe]
      obtain ⟨cs, f', R', h1, h2, h3, h4, h5, h6, h7⟩ := follow_ok d (R.erase x) _ e0 x (if turnP now x = 0 then acc else acc ++ [p]) hr2 ((List.mem_erase_of_ne (fun e => hxe e.symm)).2 he) (by omega) hb2
      refine ⟨cs, f', R', h1, h2, h3, h4.trans List.erase_sublist, h5.trans ?_, by omega, by omega⟩
      rw [List.erase_comm]
      exact List.erase_sublist
def atE (a x : Int) : Int := if a = x then 1 else 0
def gP (p : Int → Bool) (c z : Int) : Int := if c ≤ z then ind (p z) else 0
theorem tel {p : Int → Bool} : ∀ {l : List (Sg Unit)} {c : Int}, SegF (fun x => opt (p x)) c l → ∀ x, sumL (fun s : Sg Unit => atE s.1 x - atE s.2.1 x) l = gP p c x - gP p c (x - 1)
  | [], c, h, x => by
    have h0 : ∀ z, gP p c z = 0 := fun z => by
      unfold gP
      split
      · next hz => rw [(opt_none _).1 (h z hz)]; rfl
      · rfl
    rw [h0, h0]
    rfl
  | s :: t, c, ⟨h1, h2, h3, h4, h5, h6⟩, x => by
    have ih := tel h6 x
    have hz : ∀ z, gP p c z = (if s.1 ≤ z ∧ z < s.2.1 then 1 else 0) + gP p s.2.1 z := fun z => by
      unfold gP
      by_cases a1 : c ≤ z
      · by_cases a2 : z < s.1
        · rw [if_pos a1, if_neg (by omega), if_neg (by omega), (opt_none _).1 (h3 z a1 a2)]; rfl
        · by_cases a3 : z < s.2.1
          · have : p z = true := (opt_some _).1 (h4 z (by omega) a3)
            rw [if_pos a1, if_pos (by omega), if_neg (by omega), this]; rfl
          · rw [if_pos a1, if_neg (by omega), if_pos (by omega)]; omega
      · rw [if_neg a1, if_neg (by omega), if_neg (by omega)]; rfl
    rw [sumL_cons, ih, hz x, hz (x - 1)]
    unfold atE
    by_cases a1 : s.1 = x <;> by_cases a2 : s.2.1 = x <;> by_cases a3 : s.1 ≤ x ∧ x < s.2.1 <;> by_cases a4 : s.1 ≤ x - 1 ∧ x - 1 < s.2.1 <;> simp [a1, a2, a3, a4] <;> omega
theorem tels {p : Int → Bool} {l : List (Sg Unit)} (h : Segs (fun x => opt (p x)) l) (x : Int) : sumL (fun s : Sg Unit => atE s.1 x - atE s.2.1 x) l = ind (p x) - ind (p (x - 1)) := by
  obtain ⟨c, hc, hl⟩ := h
  have hz : ∀ z, gP p c z = ind (p z) := fun z => by
    unfold gP
    split
    · rfl
    · rw [(opt_none _).1 (hc z (by omega))]; rfl
  rw [tel hl, hz, hz]
theorem rows_choose (A B : List (Sg Unit)) (hA : ∀ s ∈ A, s.1 < s.2.1) (hB : ∀ s ∈ B, s.1 < s.2.1) : ∃ v, Segs (fun x => opt (inR A x && !inR B x)) v ∧ chooseP notB (rr A) (rr B) = rr v := by
  obtain ⟨row, bs, hr, hb, e⟩ := choose_canon notB rfl (rr A) (rr B) (rr_pos hA) (rr_pos hB)
  have hP : ∀ x y, notB (inL (rr A) x y) (inL (rr B) x y) = (inR A x && !inR B x && decide (0 ≤ y) && decide (y < 1)) := fun x y => by
    rw [rr_in, rr_in]
    unfold notB
    cases inR A x <;> cases inR B x <;> cases decide (0 ≤ y) <;> cases decide (y < 1) <;> rfl
  have hrow : ∀ y, y ≠ 0 → row y = [] := fun y hy => by
    refine (hr y).uniq ⟨0, fun x _ => ?_, fun x _ => ?_⟩ <;>
    · dsimp only
      rw [hP]
      have : (decide (0 ≤ y) && decide (y < 1)) = false := by simp; omega
      rw [Bool.and_assoc, this, Bool.and_false]
      rfl
  have h0 := hr 0
  have e0 : (fun x => opt (notB (inL (rr A) x 0) (inL (rr B) x 0))) = fun x => opt (inR A x && !inR B x) := funext fun x => by rw [hP]; simp
  rw [e0] at h0
  refine ⟨row 0, h0, ?_⟩
  rw [e]
  have hnz : ∀ y, y ≠ 0 → nz (row y) = none := fun y hy => by rw [hrow y hy]; rfl
  by_cases hv : row 0 = []
  · have : bs = [] := hb.uniq ⟨0, fun y hy => hnz y (by omega), fun y hy => by
      by_cases hy0 : y = 0
      · dsimp only
        rw [hy0, hv]; rfl
      · exact hnz y hy0⟩
    rw [this, hv]
    rfl
  · have hs : nz (row 0) = some (row 0) := by
      unfold nz
      rw [if_neg (by simpa using hv)]
    have : bs = [(0, 1, row 0)] := hb.uniq ⟨0, fun y hy => hnz y (by omega), Int.le_refl _, (show (0 : Int) < 1 by decide), fun y h1 h2 => by
      dsimp only at h2
      omega, fun y h1 h2 => by
      dsimp only at h1 h2
      have : y = 0 := by omega
      show nz (row y) = some (row 0)
      rw [this, hs], by
      dsimp only
      rw [hnz 1 (by decide)]
      simp, fun y hy => hnz y (by dsimp only at hy; omega)⟩
    rw [this]
    simp [flat, rr]
def nt (v : Pt) (e : R4) : Int := ind (decide (frOf e = v)) - ind (decide (toOf e = v))
theorem net_sum (v : Pt) (l : List R4) : sumL (nt v) l = (outN l v : Int) - (inN l v : Int) := by
  induction l with
  | nil => rfl
  | cons e t ih =>
    rw [sumL_cons, ih]
    unfold outN inN nt ind
    rw [List.countP_cons, List.countP_cons]
    by_cases h1 : frOf e = v <;> by_cases h2 : toOf e = v <;> simp [h1, h2] <;> omega
theorem nt_flat (x z a b y : Int) : nt (x, z) ⟨a, y, b, y⟩ = if y = z then atE a x - atE b x else 0 := by
  unfold nt frOf toOf ind atE
  by_cases h : y = z <;> by_cases h1 : a = x <;> by_cases h2 : b = x <;> simp [h, h1, h2]
theorem nt_up (x z a y y' : Int) : nt (x, z) ⟨a, y, a, y'⟩ = if a = x then atE y z - atE y' z else 0 := by
  unfold nt frOf toOf ind atE
  by_cases h : a = x <;> by_cases h1 : y = z <;> by_cases h2 : y' = z <;> simp [h, h1, h2]
def dl (p : Int → Bool) (x : Int) : Int := ind (p x) - ind (p (x - 1))
theorem net_level (A B : List (Sg Unit)) (hA : ∀ s ∈ A, s.1 < s.2.1) (hB : ∀ s ∈ B, s.1 < s.2.1) (x z y : Int) : sumL (nt (x, z)) (levelP B A y) = if y = z then dl (inR A) x - dl (inR B) x else 0 := by
  obtain ⟨v, hv, ev⟩ := rows_choose A B hA hB
  obtain ⟨u, hu, eu⟩ := rows_choose B A hB hA
  have h1 := tels hv x
  have h2 := tels hu x
  unfold levelP
  rw [ev, eu, sumL_app, sumL_map, sumL_map]
  unfold rr
  rw [sumL_map, sumL_map]
  by_cases h : y = z
  · rw [if_pos h, sumL_congr (h := fun s : Sg Unit => atE s.1 x - atE s.2.1 x) fun s _ => by rw [nt_flat, if_pos h], h1]
    have h3 : sumL (fun s : Sg Unit => nt (x, z) ⟨s.2.1, y, s.1, y⟩) u = - sumL (fun s : Sg Unit => atE s.1 x - atE s.2.1 x) u := by
      clear hu eu h2
      induction u with
      | nil => rfl
      | cons s t ih => rw [sumL_cons, sumL_cons, ih, nt_flat, if_pos h]; omega
    rw [h3, h2]
    unfold dl
    cases inR A x <;> cases inR B x <;> cases inR A (x - 1) <;> cases inR B (x - 1) <;> rfl
  · have h3 : sumL (fun s : Sg Unit => nt (x, z) ⟨s.1, y, s.2.1, y⟩) v = sumL (fun _ => 0) v := sumL_congr fun s _ => by rw [nt_flat, if_neg h]
    have h4 : sumL (fun s : Sg Unit => nt (x, z) ⟨s.2.1, y, s.1, y⟩) u = sumL (fun _ => 0) u := sumL_congr fun s _ => by rw [nt_flat, if_neg h]
    rw [if_neg h, h3, h4, sumL_zero, sumL_zero]
    rfl
theorem net_walls {p : Int → Bool} {v : List (Sg Unit)} (hv : Segs (fun x => opt (p x)) v) (x z y y' : Int) : sumL (nt (x, z)) (wallsP v y y') = (if y' = z then dl p x else 0) - (if y = z then dl p x else 0) := by
  have h1 := tels hv x
  unfold wallsP
  rw [sumL_flat]
  have h2 : ∀ k : Int, sumL (fun s : Sg Unit => (atE s.1 x - atE s.2.1 x) * k) v = (ind (p x) - ind (p (x - 1))) * k := fun k => by
    rw [← h1]
    clear h1 hv
    induction v with
    | nil => simp [sumL]
    | cons s t ih => rw [sumL_cons, sumL_cons, ih, Int.add_mul]
  rw [sumL_congr (h := fun s : Sg Unit => (atE s.1 x - atE s.2.1 x) * (atE y' z - atE y z)) fun s _ => by
    rw [sumL_cons, sumL_cons, sumL_nil, nt_up, nt_up]
    unfold atE
    by_cases a1 : s.1 = x <;> by_cases a2 : s.2.1 = x <;> by_cases a3 : y = z <;> by_cases a4 : y' = z <;> simp [a1, a2, a3, a4]]
  rw [h2]
  unfold dl atE
  by_cases a3 : y = z <;> by_cases a4 : y' = z <;> simp [a3, a4]
theorem segF_pos {p : Int → Bool} : ∀ {l : List (Sg Unit)} {c : Int}, SegF (fun x => opt (p x)) c l → ∀ s ∈ l, s.1 < s.2.1
  | [], _, _ => by simp
  | s :: t, c, ⟨h1, h2, h3, h4, h5, h6⟩ => fun q hq => by
    rcases List.mem_cons.1 hq with rfl | hq
    · exact h2
    · exact segF_pos h6 q hq
theorem net_edges (l : List R4) (hl : ∀ q ∈ l, q.l < q.r) (x z : Int) : ∀ (r : List Int) (y : Int), (y :: r).Pairwise (· < ·) → (∀ x, Steady (fun y => inL l x y) (y :: r)) → (∀ x z, (∀ k ∈ y :: r, k ≤ z) → inL l x z = false) →
    sumL (nt (x, z)) (edgesC l (y :: r)) = - (if y = z then dl (fun x => inL l x (y - 1)) x else 0) := by
  have hpos : ∀ y, ∀ s ∈ rowP l y, s.1 < s.2.1 := fun y => by
    obtain ⟨c, _, h⟩ := rowP_segs l y hl
    exact segF_pos h
  have hin : ∀ y, inR (rowP l y) = fun x => inL l x y := fun y => funext fun x => inR_row l y x hl
  have hlev : ∀ y, sumL (nt (x, z)) (levelP (rowP l (y - 1)) (rowP l y) y) = if y = z then dl (fun x => inL l x y) x - dl (fun x => inL l x (y - 1)) x else 0 := fun y => by
    rw [net_level _ _ (hpos y) (hpos (y - 1)), hin, hin]
  intro r
  induction r with
  | nil =>
    intro y _ _ ho
    show sumL _ (levelP (rowP l (y - 1)) (rowP l y) y) = _
    rw [hlev]
    have h0 : dl (fun x => inL l x y) x = 0 := by
      unfold dl
      dsimp only
      rw [ho x y (by simp), ho (x - 1) y (by simp)]
      rfl
    rw [h0]
    split <;> omega
  | cons y' r ih =>
    intro y hp hs ho
    have hpc := List.pairwise_cons.1 hp
    have hy := hpc.1 y' (by simp)
    have h1 := ih y' hpc.2 (fun x => (hs x).tail hp) (fun x z hz => ho x z fun k hk => by
      rcases List.mem_cons.1 hk with rfl | hk
      · have := hz y' (by simp); omega
      · exact hz k hk)
    show sumL _ (levelP (rowP l (y - 1)) (rowP l y) y ++ wallsP (rowP l y) y y' ++ edgesC l (y' :: r)) = _
    have hsame : (fun x => inL l x (y' - 1)) = fun x => inL l x y := funext fun x => hs x y (y' - 1) (by simp) (by omega) fun k hk => by
      rcases List.mem_cons.1 hk with rfl | hk
      · exact .inl (Int.le_refl _)
      · rcases List.mem_cons.1 hk with rfl | hk
        · exact .inr (by omega)
        · have := (List.pairwise_cons.1 hpc.2).1 k hk
          exact .inr (by omega)
    rw [sumL_app, sumL_app, hlev, net_walls (rowP_segs l y hl), h1, hsame]
    split <;> split <;> omega
theorem edges_bal (l : List R4) (hl : ∀ q ∈ l, q.l < q.r) : Bal (edgesP l) := by
  intro v
  obtain ⟨x, z⟩ := v
  have h : sumL (nt (x, z)) (edgesP l) = 0 := by
    unfold edgesP
    have hc := (asc_all (yEdges l)).1
    have hs := fun x => inL_steady_y l x (cutsP l) fun q hq => cutsP_mem hq
    have ho := fun x z hz => inL_out_y l x (cutsP l) (fun q hq => cutsP_mem hq) z hz
    have hp : (cutsP l).Pairwise (· < ·) := hc
    cases hcp : cutsP l with
    | nil => rfl
    | cons y r =>
      rw [hcp] at hp hs ho
      rw [net_edges l hl x z r y hp hs (fun x z hz => ho x z (.inr hz))]
      have h0 : ∀ x, inL l x (y - 1) = false := fun x => ho x (y - 1) (.inl fun k hk => by
        rcases List.mem_cons.1 hk with rfl | hk
        · omega
        · have := (List.pairwise_cons.1 hp).1 k hk; omega)
      have h1 : dl (fun x => inL l x (y - 1)) x = 0 := by
        unfold dl
        dsimp only
        rw [h0, h0]
        rfl
      rw [h1]
      split <;> rfl
  have := net_sum (x, z) (edgesP l)
  omega
theorem edgeEql : EqlAt Tryz.prog 191 (fun x : R4 => .agg x.cells.toArray) (fun x y => decide (x = y)) :=
  ⟨fun x y w => e_eql w x y, GuardAt.agg (fun x : R4 => x.cells.toArray) (by kernel_rfl)⟩
theorem containsEdge_any (g m c : Nat) (l : List R4) (x : R4) (w : World) (hm : m ≤ 1000000000000) (h : ∀ j u, (rCells l)[j]? = some u → w.cell? ⟨g, j, none⟩ = some u) (hl : l.length = m) :
    Calls Tryz.prog 144 #[.slice (some ⟨g, 0, none⟩) m c, .agg #[.int .i64 x.l, .int .i64 x.b, .int .i64 x.r, .int .i64 x.t]] w fun e w' => e = .returned (.bool (decide (x ∈ l))) ∧ Below w.heap.size w w' := by
  have hq : (l.take m).any (fun y => decide (x = y)) = decide (x ∈ l) := by
    rw [List.take_of_length_le (by omega), Bool.eq_iff_iff]
    simp
  have := AnyQ.slices_Contains Tryz.layContainsEdge 4 (fun w => by kernel_rfl) (fun w => by kernel_rfl) (fun x : R4 => x.cells) (fun x => rfl) (fun x y => decide (x = y)) edgeEql g 0 m c l x w (by omega) (by omega) (fun j hj i v hi => by
    have hr := rCells_at4 l j l[j] (List.getElem?_eq_getElem hj)
    rw [getElem!_pos l j hj] at hi
    rw [Nat.zero_add]
    rcases i with _ | _ | _ | _ | i <;> simp [R4.cells] at hi <;> subst hi
    · exact h _ _ hr.1
    · exact h _ _ hr.2.1
    · exact h _ _ hr.2.2.1
    · exact h _ _ hr.2.2.2)
  rw [hq] at this
  exact this
theorem indexEdge_nil (x : R4) (w : World) : Calls Tryz.prog 226 #[.slice none 0 0, .agg #[.int .i64 x.l, .int .i64 x.b, .int .i64 x.r, .int .i64 x.t]] w fun e w' => e = .returned (.int .i64 (-1)) ∧ Below w.heap.size w w' := by
  go_enter Tryz.func226, Tryz.ntmps226
  go_wp2_with fail
  go_loopw [8] (fun iv wr => iv = .int .i64 0 ∧ Below w.heap.size w wr) (fun _ _ => 0)
  case atStart => exact ⟨rfl, gBel⟩
  case round =>
    obtain ⟨rfl, hb⟩ := hrel
    have Hb := Lib.hid hb
    clear hb
    go_wp2
    go_ret
    exact ⟨rfl, Hb.out⟩
theorem containsEdge_nil (x : R4) (w : World) : Calls Tryz.prog 144 #[.slice none 0 0, .agg #[.int .i64 x.l, .int .i64 x.b, .int .i64 x.r, .int .i64 x.t]] w fun e w' => e = .returned (.bool false) ∧ Below w.heap.size w w' := by
  have HI := Lib.hid (fun W => indexEdge_nil x W)
  go_enter Tryz.func144, Tryz.ntmps144
  go_wp2_with (first
    | (go_at_call 226
       refine (HI.out _).mono ?_
       rintro e w1 ⟨rfl, hb1⟩
       have Hb1 := Lib.hid hb1
       clear hb1)
    | fail)
  go_ret
  exact ⟨rfl, by have hbq := Hb1.out; exact gBelo⟩
theorem contains_own {B : Nat} {v : Value} {l : List R4} {w : World} (h : w.ownsRow B 191 4 v l.length (rCells l)) (hl : l.length ≤ 1000000000000) (x : R4) :
    Calls Tryz.prog 144 #[v, .agg #[.int .i64 x.l, .int .i64 x.b, .int .i64 x.r, .int .i64 x.t]] w fun e w' => e = .returned (.bool (decide (x ∈ l))) ∧ Below w.heap.size w w' := by
  rcases Nat.eq_zero_or_pos l.length with h0 | h0
  · obtain rfl : l = [] := List.length_eq_zero_iff.1 h0
    rcases h.2 with ⟨rfl, _⟩ | ⟨g, cap, cur, rfl, _⟩
    · simpa using containsEdge_nil x w
    · exact containsEdge_any g 0 cap [] x w (by omega) (fun j u hu => by simp [rCells] at hu) rfl
  · obtain ⟨g, cap, rfl, _, _, _, _, hc, _⟩ := own_at h h0
    exact containsEdge_any g l.length cap l x w hl (fun j u hu => hc j u hu) rfl
structure RgAt (w : World) (B : Nat) (cv : Value) (rs : List (Value × List Pt)) : Prop where
  row : w.ownsRow B 123 1 cv rs.length (rs.map (·.1))
  pts : ∀ x ∈ rs, w.ownsRow B 189 2 x.1 x.2.length (pCells x.2)
theorem RgAt.nil (w : World) (B : Nat) : RgAt w B (.slice none 0 0) [] := ⟨World.ownsRow_nil _ _ _ _, by simp⟩
theorem RgAt.below {w w' : World} {B : Nat} {cv : Value} {rs : List (Value × List Pt)} (h : RgAt w B cv rs) (hb : Below w.heap.size w w') : RgAt w' B cv rs :=
  ⟨ownsRow_below h.row hb, fun x hx => ownsRow_below (h.pts x hx) hb⟩
theorem RgAt.but {w w' : World} {B : Nat} {cv : Value} {rs : List (Value × List Pt)} (h : RgAt w B cv rs) (hb : CellsBut 191 w w') : RgAt w' B cv rs :=
  ⟨own_but h.row hb (by decide), fun x hx => own_but (h.pts x hx) hb (by decide)⟩
theorem RgAt.app {w w' : World} {B : Nat} {cv cv' : Value} {rs : List (Value × List Pt)} (h : RgAt w B cv rs) (hg : w.grownBy w' cv.ownBlock) (v : Value) (r : List Pt) (hv : w.ownsRow B 189 2 v r.length (pCells r)) (ho : w'.ownsRow B 123 1 cv' (rs.length + 1) (rs.map (·.1) ++ [v])) : RgAt w' B cv' (rs ++ [(v, r)]) := by
  have key : ∀ (u : Value) (n : Nat) (xs : List Value), w.ownsRow B 189 2 u n xs → w'.ownsRow B 189 2 u n xs := fun u n xs hu => own_grown hu hg (fun g hgs e => by
    obtain ⟨cs, i, h1⟩ := own_type hu g hgs
    obtain ⟨cs', i', h2⟩ := own_type h.row g e
    rw [h1] at h2
    injection h2 with h2
    injection h2 with _ h2
    exact absurd h2 (by decide))
  refine ⟨by simpa using ho, fun x hx => ?_⟩
  rcases List.mem_append.1 hx with hx | hx
  · exact key _ _ _ (h.pts x hx)
  · rw [List.mem_singleton] at hx
    subst hx
    exact key _ _ _ hv
def ringsF (d : Nat) : List R4 → (Pt → List R4) → List (List Pt)
  | [], _ => []
  | e :: t, f => if e ∈ f (frOf e) then
      match followF d f e e [] with
      | some (cs, f') => begunP cs :: ringsF d t f'
      | none => []
    else ringsF d t f
theorem rem_mem {f : Pt → List R4} {R : List R4} (h : Rem f R) (e : R4) : e ∈ f (frOf e) ↔ e ∈ R := by
  rw [(h (frOf e)).mem_iff, List.mem_filter]
  simp
end Go.Proofs.YtfmkmhhghmdakaaGreatDoor
