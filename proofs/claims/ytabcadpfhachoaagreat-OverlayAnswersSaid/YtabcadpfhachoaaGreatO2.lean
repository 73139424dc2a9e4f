/- Maps whose values are read as they stand (a map of slices of structs); appends and look-ups in a fenced walk; what a loop's body keeps. No function of the program is met here. -/
import Derived.Test.YtabcadpfhachoaaGreatB
import Derived.RangeFuncNested
import Derived.Maps.OwnIn
import Derived.Maps.Views
import Derived.Lib.SlKeysI
import Derived.WideKeyEntry
namespace Go.Proofs.YtabcadpfhachoaaGreat
open Go.RowKit Go.Maps
set_option linter.unusedVariables false

/-- A value, read as it stands. -/
def VR (v : Value) : Option (DataW Value × List MemPlace) := some (.held v, [])

section
variable {P : Program} {w : World} {k t E : TypeId} {b n : Nat} {D : DataW Value}
theorem held_look (h : w.ownsMap P k VR b n D) (K : Keyed P k) (ht : P.underlying t = some (.map k E)) {z : Value} (hz : (zeroValue E).run P w = .ok z w) {key : Value} {kl : Lit} (hkey : keyOf P k key = some kl) {v : Value} (hat : D.atKey kl (.held z) = .held v) :
    (Instr.lookup t (.map (some b)) key false).run P w = .ok v w := by
  obtain ⟨u, ps, hrun, hu⟩ := h.lookup K ht hz (zd := .held z) (zp := []) rfl hkey
  rw [hat] at hu
  simp only [VR, Option.some.injEq, Prod.mk.injEq, DataW.held.injEq] at hu
  rw [hrun, hu.1]
end

open Go.WideElems (Fit findIdx_born findIdx_arr modify_last set_self) in
open Go.ChangeMaps (setBlock heap_setBlock_same heap_setBlock_other modify_eq_set) in
/-- The two steps of 'm[k] = append(m[k], ..)': the entry (made if it is not there), and the store into it, with whatever between them that leaves the map's block alone. -/
theorem entry_held {P : Program} {w : World} {k t E : TypeId} {b n : Nat} {D : DataW Value} (h : w.ownsMap P k VR b n D) (K : Keyed P k) (ht : P.underlying t = some (.map k E)) {z : Value} (hz : ∀ u : World, (zeroValue E).run P u = .ok z u)
    {key : Value} {kl : Lit} (hkey : keyOf P k key = some kl) {v : Value} (hat : D.atKey kl (.held z) = .held v) (hn : n < maxLen) :
    ∃ (st : Nat) (w1 : World), (Instr.mapEntry t (.map (some b)) key).run P w = .ok (.tuple #[v, goInt st]) w1 ∧ w.grownBy w1 (some b) ∧ w1.heap.size = w.heap.size ∧ (∃ o, w1.heap[b]? = some o ∧ o.isCells = false) ∧
      ∀ (w2 : World) (val : Value), w2.heap[b]? = w1.heap[b]? → ∃ w3, (Instr.entryStore t (.map (some b)) (goInt st) val).run P w2 = .ok () w3 ∧ w3.ownsMap P k VR b (n + 1) (D.put kl (.held val)) ∧ w2.grownBy w3 (some b) := by
  have hown := h
  have hv := held_look h K ht (hz w) hkey hat
  obtain ⟨es, clock, hb, F, hs, hD⟩ := h
  obtain ⟨s1, s2, _⟩ := F.stamped
  have turn : ∀ (u : World) (xs : Array MapEntry) (cl : Nat) (o' : Obj), u.heap[b]? = some (.map xs cl) → u.grownBy (setBlock u b o') (some b) := fun u xs cl o' ho => ⟨rfl, rfl, rfl, by simp [setBlock], fun i _ hi => heap_setBlock_other ho _ (fun e => hi (by rw [e]))⟩
  have fin : ∀ (val : Value) (ES : Array MapEntry) (CL : Nat), (Instr.mapUpdate t (.map (some b)) key val).run P w = .ok () (setBlock w b (.map ES CL)) → ∀ (w2 : World) (xs : Array MapEntry) (cl : Nat), w2.heap[b]? = some (.map xs cl) → (setBlock w2 b (.map ES CL)).ownsMap P k VR b (n + 1) (D.put kl (.held val)) := by
    intro val ES CL hrun w2 xs cl ho
    obtain ⟨w', hrun', hown', _⟩ := hown.update K ht hn (val := val) (d := .held val) (ps := []) hkey rfl
    rw [hrun] at hrun'
    injection hrun' with _ hw'
    obtain ⟨es2, cl2, hb2, rest⟩ := hown'
    rw [← hw', heap_setBlock_same hb] at hb2
    injection hb2 with hb2
    injection hb2 with h1 h2
    subst h1
    subst h2
    exact ⟨_, _, heap_setBlock_same ho _, rest⟩
  rcases K.find w hkey es.toList F.keys with ⟨h1, h2⟩ | ⟨j, e0, h1, h2, h3⟩
  · have hvz : v = z := by
      have : (Instr.lookup t (.map (some b)) key false).run P w = .ok z w := by simp [Instr.lookup, run_underlying ht, MapKept.run_getObj_map hb, K.check w _ hkey, h1, hz, Result.andThen]
      rw [hv] at this
      injection this
    subst hvz
    refine ⟨clock, setBlock w b (.map (es.push ⟨key, v, clock⟩) (clock + 1)), ?_, turn w _ _ _ hb, by simp [setBlock], ⟨_, heap_setBlock_same hb _, rfl⟩, fun w2 val hw2 => ?_⟩
    · simp [Instr.mapEntry, run_underlying ht, MapKept.run_getObj_map hb, K.check w false hkey, h1, hz, MapKept.run_setObj_map _ hb, Result.andThen, setBlock]
    · rw [heap_setBlock_same hb] at hw2
      have hidx : (es.push ⟨key, v, clock⟩).findIdx? (fun e => ((e.born : Nat) : Int) == ((clock : Nat) : Int)) = some es.size := by
        rw [findIdx_arr]
        refine findIdx_born (l := (es.push ⟨key, v, clock⟩).toList) (j := es.size) (e0 := ⟨key, v, clock⟩) ?_ (by simp)
        simp only [Array.toList_push, List.map_append, List.map_cons, List.map_nil]
        refine List.nodup_append.2 ⟨s2, by simp, fun a ha c hc e1 => ?_⟩
        simp only [List.mem_singleton] at hc
        obtain ⟨x, hx, rfl⟩ := List.mem_map.1 ha
        have := s1 x hx
        omega
      have hmod : (es.push ⟨key, v, clock⟩).modify es.size (fun e => { e with val := val }) = es.push ⟨key, val, clock⟩ := by
        apply Array.ext'
        rw [Array.toList_modify, Array.toList_push, Array.toList_push, ← Array.length_toList, modify_last]
      refine ⟨setBlock w2 b (.map (es.push ⟨key, val, clock⟩) (clock + 1)), ?_, fin val _ _ ?_ w2 _ _ hw2, turn w2 _ _ _ hw2⟩
      · simp [Instr.entryStore, MapKept.run_getObj_map hw2, asInt, asIntOf, goInt, hidx, hmod, MapKept.run_setObj_map _ hw2, Result.andThen, setBlock]
      · simp [Instr.mapUpdate, run_underlying ht, MapKept.run_getObj_map hb, K.check w false hkey, h1, MapKept.run_setObj_map _ hb, Result.andThen, setBlock]
  · have hve : v = e0.val := by
      have : (Instr.lookup t (.map (some b)) key false).run P w = .ok e0.val w := by simp [Instr.lookup, run_underlying ht, MapKept.run_getObj_map hb, K.check w _ hkey, h1, Result.andThen]
      rw [hv] at this
      injection this
    subst hve
    have hj : es[j]? = some e0 := by simpa using h2
    have hsame : es.modify j (fun e => { e with key := key }) = es := by
      apply Array.ext'
      rw [Array.toList_modify, modify_eq_set _ _ _ _ h2]
      have : ({ e0 with key := key } : MapEntry) = e0 := by rw [← h3]
      rw [this]
      exact set_self _ _ _ h2
    refine ⟨e0.born, setBlock w b (.map es clock), ?_, turn w _ _ _ hb, by simp [setBlock], ⟨_, heap_setBlock_same hb _, rfl⟩, fun w2 val hw2 => ?_⟩
    · simp [Instr.mapEntry, run_underlying ht, MapKept.run_getObj_map hb, K.check w false hkey, h1, hj, h3, K.stays w hkey, hsame, MapKept.run_setObj_map _ hb, Result.andThen, setBlock]
    · rw [heap_setBlock_same hb] at hw2
      have hidx : es.findIdx? (fun e => ((e.born : Nat) : Int) == ((e0.born : Nat) : Int)) = some j := by
        rw [findIdx_arr]
        exact findIdx_born s2 h2
      have hmod : es.modify j (fun e => { e with val := val }) = es.modify j (fun e' => { e' with key := key, val := val }) := by
        apply Array.ext'
        rw [Array.toList_modify, Array.toList_modify, modify_eq_set _ _ _ _ h2, modify_eq_set _ _ _ _ h2, ← h3]
      refine ⟨setBlock w2 b (.map (es.modify j (fun e' => { e' with key := key, val := val })) clock), ?_, fin val _ _ ?_ w2 _ _ hw2, turn w2 _ _ _ hw2⟩
      · simp [Instr.entryStore, MapKept.run_getObj_map hw2, asInt, asIntOf, goInt, hidx, hmod, MapKept.run_setObj_map _ hw2, Result.andThen, setBlock]
      · simp [Instr.mapUpdate, run_underlying ht, MapKept.run_getObj_map hb, K.check w false hkey, h1, hj, h3, K.stays w hkey, MapKept.run_setObj_map _ hb, Result.andThen, setBlock]

/-- What an entry's store may do (the hypothesis that entry_held hands over). -/
def EntryBack (P : Program) (t k : TypeId) (b n : Nat) (D : DataW Value) (kl : Lit) (st : Nat) (w1 : World) : Prop :=
  ∀ (w2 : World) (val : Value), w2.heap[b]? = w1.heap[b]? → ∃ w3, (Instr.entryStore t (.map (some b)) (goInt st) val).run P w2 = .ok () w3 ∧ w3.ownsMap P k VR b (n + 1) (D.put kl (.held val)) ∧ w2.grownBy w3 (some b)
theorem wpListIn_entry_held {F : Fence} {nF : Nat} {P : Program} (w : World) {ops : Array Oper} {rest : List Oper} {o : Oper} {a : Act} {Q : Exit → Act → World → Prop}
    (hg : o.guard = none) (m x : Operand) (t : TypeId) (hop : o.op = Op.mapEntry t m x)
    (k E : TypeId) (K : Keyed P k) (ht : P.underlying t = some (.map k E)) (z : Value) (hz : ∀ u : World, (zeroValue E).run P u = .ok z u) (b n : Nat) (D : DataW Value)
    (hm : a.eval m = .map (some b)) (hown : w.ownsMap P k VR b n D) (hn : n < maxLen) (key : Value) (kl : Lit) (hx : a.eval x = key) (hkey : keyOf P k key = some kl) (v : Value) (hat : D.atKey kl (.held z) = .held v)
    (hK : ∀ (st : Nat) (w1 : World), w.grownBy w1 (some b) → w1.heap.size = w.heap.size → (∃ o, w1.heap[b]? = some o ∧ o.isCells = false) → EntryBack P t k b n D kl st w1 → wpListIn F nF P ops Q rest (a.put o.dst (.tuple #[v, goInt st])) w1) : wpListIn F nF P ops Q (o :: rest) a w := by
  refine wpListIn_plain hg fun K' hK' => ?_
  obtain ⟨st, w1, hrun, h1, h2, h3, h4⟩ := entry_held hown K ht hz hkey hat hn
  unfold Oper.wpIn
  refine ⟨by simp [Oper.about, hop], ?_⟩
  rw [Oper.semAt_plain F _ _ (by rw [hop]; intro c hc'; cases hc')]
  simp [execOp, hop, hm, hx, hrun, Result.andThen]
  exact hK' _ _ (hK st w1 h1 h2 h3 h4)
theorem wpList_entry_held {P : Program} (w : World) {ops : Array Oper} {rest : List Oper} {o : Oper} {a : Act} {Q : Exit → Act → World → Prop}
    (hg : o.guard = none) (m x : Operand) (t : TypeId) (hop : o.op = Op.mapEntry t m x)
    (k E : TypeId) (K : Keyed P k) (ht : P.underlying t = some (.map k E)) (z : Value) (hz : ∀ u : World, (zeroValue E).run P u = .ok z u) (b n : Nat) (D : DataW Value)
    (hm : a.eval m = .map (some b)) (hown : w.ownsMap P k VR b n D) (hn : n < maxLen) (key : Value) (kl : Lit) (hx : a.eval x = key) (hkey : keyOf P k key = some kl) (v : Value) (hat : D.atKey kl (.held z) = .held v)
    (hK : ∀ (st : Nat) (w1 : World), w.grownBy w1 (some b) → w1.heap.size = w.heap.size → (∃ o, w1.heap[b]? = some o ∧ o.isCells = false) → EntryBack P t k b n D kl st w1 → wpList P ops Q rest (a.put o.dst (.tuple #[v, goInt st])) w1) : wpList P ops Q (o :: rest) a w := by
  refine wpList_plain hg fun K' hK' => ?_
  obtain ⟨st, w1, hrun, h1, h2, h3, h4⟩ := entry_held hown K ht hz hkey hat hn
  unfold Oper.wp
  simp [execOp, hop, hm, hx, hrun, Result.andThen]
  exact hK' _ _ (hK st w1 h1 h2 h3 h4)
theorem wpListIn_entryStore_held {F : Fence} {nF : Nat} {P : Program} (w : World) {ops : Array Oper} {rest : List Oper} {o : Oper} {a : Act} {Q : Exit → Act → World → Prop}
    (hg : o.guard = none) (m s x : Operand) (t : TypeId) (hop : o.op = Op.entryStore t m s x) {k : TypeId} {b n : Nat} {D : DataW Value} {kl : Lit} {st : Nat} {w1 : World}
    (hback : EntryBack P t k b n D kl st w1) (hm : a.eval m = .map (some b)) (hs : a.eval s = goInt st) (val : Value) (hx : a.eval x = val) (hw : w.heap[b]? = w1.heap[b]?)
    (hK : ∀ w3, w3.ownsMap P k VR b (n + 1) (D.put kl (.held val)) → w.grownBy w3 (some b) → wpListIn F nF P ops Q rest (a.put o.dst undef) w3) : wpListIn F nF P ops Q (o :: rest) a w := by
  refine wpListIn_plain hg fun K' hK' => ?_
  obtain ⟨w3, hrun, h1, h2⟩ := hback w val hw
  unfold Oper.wpIn
  refine ⟨by simp [Oper.about, hop], ?_⟩
  rw [Oper.semAt_plain F _ _ (by rw [hop]; intro c hc'; cases hc')]
  simp [execOp, hop, hm, hs, hx, hrun, Result.andThen]
  exact hK' _ _ (hK w3 h1 h2)
theorem wpList_entryStore_held {P : Program} (w : World) {ops : Array Oper} {rest : List Oper} {o : Oper} {a : Act} {Q : Exit → Act → World → Prop}
    (hg : o.guard = none) (m s x : Operand) (t : TypeId) (hop : o.op = Op.entryStore t m s x) {k : TypeId} {b n : Nat} {D : DataW Value} {kl : Lit} {st : Nat} {w1 : World}
    (hback : EntryBack P t k b n D kl st w1) (hm : a.eval m = .map (some b)) (hs : a.eval s = goInt st) (val : Value) (hx : a.eval x = val) (hw : w.heap[b]? = w1.heap[b]?)
    (hK : ∀ w3, w3.ownsMap P k VR b (n + 1) (D.put kl (.held val)) → w.grownBy w3 (some b) → wpList P ops Q rest (a.put o.dst undef) w3) : wpList P ops Q (o :: rest) a w := by
  refine wpList_plain hg fun K' hK' => ?_
  obtain ⟨w3, hrun, h1, h2⟩ := hback w val hw
  unfold Oper.wp
  simp [execOp, hop, hm, hs, hx, hrun, Result.andThen]
  exact hK' _ _ (hK w3 h1 h2)

theorem wpListIn_lookup_held {F : Fence} {nF : Nat} {P : Program} (w : World) {ops : Array Oper} {rest : List Oper} {o : Oper} {a : Act} {Q : Exit → Act → World → Prop}
    (hg : o.guard = none) (m x : Operand) (t : TypeId) (hop : o.op = Op.lookup t m x false)
    (k E : TypeId) (K : Keyed P k) (ht : P.underlying t = some (.map k E)) (z : Value) (hz : (zeroValue E).run P w = .ok z w) (b n : Nat) (D : DataW Value)
    (hm : a.eval m = .map (some b)) (hown : w.ownsMap P k VR b n D) (key : Value) (kl : Lit) (hx : a.eval x = key) (hkey : keyOf P k key = some kl) (v : Value) (hat : D.atKey kl (.held z) = .held v)
    (hK : wpListIn F nF P ops Q rest (a.put o.dst v) w) : wpListIn F nF P ops Q (o :: rest) a w := by
  refine wpListIn_plain hg fun K' hK' => ?_
  have hrun := held_look hown K ht hz hkey hat
  unfold Oper.wpIn
  refine ⟨by simp [Oper.about, hop], ?_⟩
  rw [Oper.semAt_plain F _ _ (by rw [hop]; intro c hc'; cases hc')]
  simp [execOp, hop, hm, hx, hrun, Result.andThen]
  exact hK' _ _ hK
theorem wpList_lookup_held {P : Program} (w : World) {ops : Array Oper} {rest : List Oper} {o : Oper} {a : Act} {Q : Exit → Act → World → Prop}
    (hg : o.guard = none) (m x : Operand) (t : TypeId) (hop : o.op = Op.lookup t m x false)
    (k E : TypeId) (K : Keyed P k) (ht : P.underlying t = some (.map k E)) (z : Value) (hz : (zeroValue E).run P w = .ok z w) (b n : Nat) (D : DataW Value)
    (hm : a.eval m = .map (some b)) (hown : w.ownsMap P k VR b n D) (key : Value) (kl : Lit) (hx : a.eval x = key) (hkey : keyOf P k key = some kl) (v : Value) (hat : D.atKey kl (.held z) = .held v)
    (hK : wpList P ops Q rest (a.put o.dst v) w) : wpList P ops Q (o :: rest) a w := by
  refine wpList_plain hg fun K' hK' => ?_
  have hrun := held_look hown K ht hz hkey hat
  unfold Oper.wp
  simp [execOp, hop, hm, hx, hrun, Result.andThen]
  exact hK' _ _ hK

theorem wpListIn_append_any {F : Fence} {nF : Nat} {P : Program} (w : World) {ops : Array Oper} {rest : List Oper} {o : Oper} {a : Act} {Q : Exit → Act → World → Prop} (hgd : o.guard = none) (s x : Operand) (t : TypeId)
    (ho : o.op = .call { callee := .builtin .append, args := #[s, x], argTypes := #[t, t] })
    (base : Nat) (e : TypeId) (i : TypeInfo) (z : Value) (size bytes : Nat) (ht : P.underlying t = some (.slice e)) (hi : P.info? e = some i) (hz : i.zero = some z)
    (hsize : i.size = size) (hby : i.bytes = bytes) (hzs : z.cells.size = size) (hsz : 0 < size)
    (v : Value) (n : Nat) (xs : List Value) (hs : a.eval s = v) (hown : w.ownsRow base e size v n xs)
    (B : Nat) (A : Option Addr) (m c : Nat) (news : List Value) (hx : a.eval x = .slice A m c) (hr : Reads w B size A m news) (h1 : ∀ u ∈ news, u.oneCell' = true)
    (h63 : n + m ≤ maxLen) (hbytes : (n + m) * bytes ≤ 140737488355328) (hbase : base ≤ w.heap.size)
    (h : ∀ v' w', w'.ownsRow base e size v' (n + m) (xs ++ news) → w.grownBy w' v.ownBlock → (v'.ownBlock = v.ownBlock ∨ v'.ownBlock = some w.heap.size) → wpListIn F nF P ops Q rest (a.put o.dst v') w') : wpListIn F nF P ops Q (o :: rest) a w := by
  refine wpListIn_plain hgd fun K hK => ?_
  obtain ⟨v', w', hrun, h2, h3, h4⟩ := run_append_any (P := P) w base t o.type e i z size bytes ht hi hz hsize hby hzs hsz v n xs hown B A m c news hr h1 h63 hbytes hbase
  unfold Oper.wpIn
  refine ⟨by simp [Oper.about, ho, resolve, Target.leads, Sem.run_pure], ?_⟩
  rw [Oper.semAt_plain F _ _ (by rw [ho]; intro c hc'; cases hc')]
  simp [execOp, ho, resolve, invoke, builtin, hs, hx, hrun, Result.andThen]
  exact hK _ _ (h v' w' h2 h3 h4)

theorem Below.grown_none {w w' : World} (h : Below w.heap.size w w') : w.grownBy w' none := ⟨h.os, h.tape, h.output, h.size, fun k hk _ => h.block k hk⟩
/-- Whatever is a block of cells of another type than e stays. -/
structure CellsBut (e : TypeId) (W W' : World) : Prop where
  size : W.heap.size ≤ W'.heap.size
  same : ∀ (k : Nat) (cs : Array Value) (T : TypeId) (i : Nat × Nat), T ≠ e → W.heap[k]? = some (.cells cs T i) → W'.heap[k]? = some (.cells cs T i)
theorem CellsBut.refl (e : TypeId) (W : World) : CellsBut e W W := ⟨Nat.le_refl _, fun _ _ _ _ _ h => h⟩
theorem CellsBut.trans {e : TypeId} {A B C : World} (h : CellsBut e A B) (k : CellsBut e B C) : CellsBut e A C := ⟨Nat.le_trans h.size k.size, fun i cs T j hT hi => k.same i cs T j hT (h.same i cs T j hT hi)⟩
theorem CellsBut.alloc (e : TypeId) (W : World) (o : Obj) : CellsBut e W (W.alloc o) :=
  ⟨by simp, fun k cs T i _ h => (Below.heap_alloc W o k (Array.getElem?_eq_some_iff.1 h).1).trans h⟩
theorem CellsBut.below {e : TypeId} {W W' : World} (h : Below W.heap.size W W') : CellsBut e W W' := ⟨h.size, fun k cs T i _ hk => (h.block k (Array.getElem?_eq_some_iff.1 hk).1).trans hk⟩
theorem CellsBut.put (e : TypeId) (W : World) (l : Nat) (o o' : Obj) (h : W.heap[l]? = some o) (ho : o.isCells = false) : CellsBut e W (W.putObj l o') := by
  have hg := grownBy_putObj' W l o'
  refine ⟨hg.size, fun k cs T i _ hk => (hg.block k (Array.getElem?_eq_some_iff.1 hk).1 (fun e1 => ?_)).trans hk⟩
  cases e1
  rw [h] at hk
  cases hk
  cases ho
/-- What turns one block: a map, or a row of e's. -/
theorem CellsBut.grown {e : TypeId} {W W' : World} {row : Option Nat} (hg : W.grownBy W' row) (hr : ∀ g, row = some g → ∀ cs T i, W.heap[g]? = some (.cells cs T i) → T = e) : CellsBut e W W' :=
  ⟨hg.size, fun k cs T i hT hk => (hg.block k (Array.getElem?_eq_some_iff.1 hk).1 (fun e1 => hT (hr k e1.symm cs T i hk))).trans hk⟩
/-- What a round keeps for an iterator: all below n₀, and all cells but those of e's rows. -/
structure Keeps (n₀ : Nat) (e : TypeId) (W W' : World) : Prop where
  low : Below n₀ W W'
  but : CellsBut e W W'
theorem Keeps.t {n₀ : Nat} {e : TypeId} {A B C : World} (h : Keeps n₀ e A B) (k : Keeps n₀ e B C) : Keeps n₀ e A C := ⟨h.low.trans k.low, h.but.trans k.but⟩
theorem Keeps.b {n₀ : Nat} {e : TypeId} {w : World} (hn : n₀ ≤ w.heap.size) (W : World) (l : Nat) (o o' : Obj) (hl : w.heap.size ≤ l) (h : W.heap[l]? = some o) (hc : o.isCells = false) (hw : o.isWalk = false) : Keeps n₀ e W (W.putObj l o') :=
  ⟨belowK_b hn W l o o' hl h hc hw, CellsBut.put e W l o o' h hc⟩
end Go.Proofs.YtabcadpfhachoaaGreat
