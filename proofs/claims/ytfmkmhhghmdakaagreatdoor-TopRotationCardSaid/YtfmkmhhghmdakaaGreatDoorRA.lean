import Derived.Test.YtfmkmhhghmdakaaGreatDoorRows
import Derived.WalkKit
import Derived.WalkSpells
import Derived.WalkLawsBesides
import Derived.BigGuardPart
import Derived.BigQuiet
import Derived.BigRegion
import Derived.OpenShut
import Derived.OwnWalk
import Derived.RegionTactic
import Derived.Lib.Hide
import Derived.Laws.OwnMore
import Derived.Laws.Rows
import Derived.Maps.AppendAt
import Derived.Deep.QuietTactic
import Derived.Deep.AppendLies
import Derived.Deep.Draws
import Derived.Deep.DeepFit
import Derived.Deep.RegionHeld3
import Derived.Deep.DeepCutAuto
import Derived.Deep.CutBlock
import Derived.Lib.SlicesCompact
namespace Go.Proofs.YtfmkmhhghmdakaaGreatDoor
set_option maxHeartbeats 64000000
set_option maxRecDepth 100000
open Go.RowKit
set_option linter.unusedVariables false
theorem ret_bool {a b : Bool} (h : a = true ↔ b = true) : Ending.returned (.bool a) = .returned (.bool b) := by
  rw [Bool.eq_iff_iff.2 h]
theorem ret_int {k : IntKind} {a b : Int} (h : a = b) : Ending.returned (.int k a) = .returned (.int k b) := by rw [h]
theorem below_drewN {B : Nat} {a w : World} (h : Below B a w) (n : Nat) : Below B a (w.drewN n) := ⟨h.os, h.tape, h.output, h.size, h.block⟩
theorem quiet_left {P : Program} {f : FuncId} {args : Array Value} {w : World} {n : Nat} {v : Value}
    (h : Calls P f args (w.drewN n) fun e w' => e = .returned v ∧ w.drewN n = w') : Calls P f args (w.drewN n) fun e w' => e = .returned v ∧ ∃ m, w' = w.drewN m :=
  h.mono fun _ _ ⟨he, hm⟩ => ⟨he, n, hm.symm⟩
theorem tdiv_floor (a b : Int) (hb : 1 ≤ b) : a / b = if a.tmod b < 0 then a.tdiv b - 1 else a.tdiv b := by
  have h1 := Int.tmod_add_mul_tdiv a b
  have h2 := Int.tmod_lt_of_pos a (show 0 < b by omega)
  by_cases h : a.tmod b < 0
  · rw [if_pos h]
    have h3 : -b < a.tmod b := by
      have := Int.lt_tmod_of_pos a (show 0 < b by omega)
      omega
    have e : a = (a.tmod b + b) + b * (a.tdiv b - 1) := by rw [Int.mul_sub]; omega
    rw [e, Int.add_mul_ediv_left _ _ (by omega), Int.ediv_eq_zero_of_lt (by omega) (by omega)]
    rw [← e]; omega
  · rw [if_neg h]
    have e : a = a.tmod b + b * a.tdiv b := by omega
    conv => lhs; rw [e]
    rw [Int.add_mul_ediv_left _ _ (by omega), Int.ediv_eq_zero_of_lt (by omega) (by omega)]; omega
theorem ownsRow_below {w w' : World} {base : Nat} {e : TypeId} {size : Nat} {v : Value} {n : Nat} {xs : List Value} (h : w.ownsRow base e size v n xs) (hb : Below w.heap.size w w') : w'.ownsRow base e size v n xs := by
  obtain ⟨h1, h2⟩ := h
  refine ⟨h1, ?_⟩
  rcases h2 with h2 | ⟨g, cap, cur, hv, hg, hh, r⟩
  · exact Or.inl h2
  · have hlt : g < w.heap.size := by
      rcases Nat.lt_or_ge g w.heap.size with h | h
      · exact h
      · rw [Array.getElem?_eq_none h] at hh; cases hh
    exact Or.inr ⟨g, cap, cur, hv, hg, (hb.block g hlt).trans hh, r⟩
theorem own_fresh {w : World} {base : Nat} {e : TypeId} {size : Nat} {v : Value} {n : Nat} {xs : List Value} (h : w.ownsRow base e size v n xs) : v.ownBlock ≠ some w.heap.size := by
  rcases h.2 with ⟨rfl, _⟩ | ⟨g, cap, cur, rfl, _, hg, _⟩
  · simp [Value.ownBlock]
  · intro he
    have : g = w.heap.size := by simpa [Value.ownBlock] using he
    subst this
    rw [Array.getElem?_eq_none (Nat.le_refl _)] at hg
    cases hg
theorem own_base {w : World} {base : Nat} {e : TypeId} {size : Nat} {v : Value} {n : Nat} {xs : List Value} (h : w.ownsRow base e size v n xs) : ∀ k, v.ownBlock = some k → base ≤ k := by
  intro k hk
  rcases h.2 with ⟨rfl, _⟩ | ⟨g, cap, cur, rfl, hg, _⟩
  · simp [Value.ownBlock] at hk
  · have : g = k := by simpa [Value.ownBlock] using hk
    omega
def Lies (w : World) (A : Option Addr) (n : Nat) (xs : List Value) : Prop := n = 0 ∨ ∃ b off, A = some ⟨b, off, none⟩ ∧ b < w.heap.size ∧ ∀ j u, xs[j]? = some u → w.cell? ⟨b, off + j, none⟩ = some u
theorem add_none (b off j : Nat) : Addr.add ⟨b, off, none⟩ j = ⟨b, off + j, none⟩ := by
  unfold Addr.add
  split
  · subst_vars; rfl
  · rfl
theorem Lies.new (w : World) (t : TypeId) (cs : Array Value) (n : Nat) (xs : List Value) (hx : xs = cs.toList) (B : Nat) (hB : B = w.heap.size) : Lies (w.alloc (.cells cs t)) (some ⟨B, 0, none⟩) n xs := by
  subst hB
  subst hx
  refine .inr ⟨_, 0, rfl, by simp, ?_⟩
  intro x u hx
  have := World.news_of_block (heap_alloc_new w (.cells cs t)) x u hx
  rwa [add_none] at this
theorem Lies.below {w w' : World} {A : Option Addr} {n : Nat} {xs : List Value} (h : Lies w A n xs) (hb : Below w.heap.size w w') : Lies w' A n xs := by
  rcases h with h | ⟨b, off, e, hlt, hc⟩
  · exact .inl h
  · exact .inr ⟨b, off, e, Nat.lt_of_lt_of_le hlt hb.size, fun j u hu => (hb.cell (p := ⟨b, off + j, none⟩) hlt).trans (hc j u hu)⟩
theorem Lies.alloc {w : World} {A : Option Addr} {n : Nat} {xs : List Value} (h : Lies w A n xs) (o : Obj) : Lies (w.alloc o) A n xs := h.below ((Below.refl _ _).alloc (Nat.le_refl _) o)
theorem Lies.of_own {w : World} {base : Nat} {e : TypeId} {size n c : Nat} {A : Option Addr} {xs : List Value} (h : w.ownsRow base e size (.slice A n c) n xs) : Lies w A n xs := by
  rcases Nat.eq_zero_or_pos n with h0 | h0
  · exact .inl h0
  · obtain ⟨g, cap, hv, _, hlt⟩ := h.form h0
    injection hv with hA _ _
    subst hA
    refine .inr ⟨g, 0, rfl, hlt, fun j u hu => ?_⟩
    have := h.cells (g := g) rfl j u hu
    rwa [add_none] at this
theorem own_slice {w : World} {base : Nat} {e : TypeId} {size n : Nat} {v : Value} {xs : List Value} (h : w.ownsRow base e size v n xs) : ∃ A c, v = .slice A n c ∧ Lies w A n xs ∧ n ≤ c ∧ c ≤ maxLen := by
  rcases h.2 with ⟨rfl, rfl⟩ | ⟨g, cap, cur, rfl, _, _, hnc, hcm, _⟩
  · exact ⟨none, 0, rfl, .inl rfl, Nat.le_refl _, Nat.zero_le _⟩
  · exact ⟨_, cap, rfl, Lies.of_own h, hnc, hcm⟩
theorem ownsRow_only {w w' : World} {base : Nat} {e : TypeId} {size : Nat} {v : Value} {n : Nat} {xs : List Value} {g : Nat} (h : w.ownsRow base e size v n xs) (hg : w.grownBy w' (some g)) (hb : g < base) : w'.ownsRow base e size v n xs := by
  obtain ⟨h1, h2⟩ := h
  refine ⟨h1, ?_⟩
  rcases h2 with h2 | ⟨x, cap, cur, hv, hx, hh, r⟩
  · exact Or.inl h2
  · have hlt : x < w.heap.size := by
      rcases Nat.lt_or_ge x w.heap.size with h | h
      · exact h
      · rw [Array.getElem?_eq_none h] at hh; cases hh
    exact Or.inr ⟨x, cap, cur, hv, hx, (hg.block x hlt (by intro e; injection e; omega)).trans hh, r⟩
theorem only_drewN {a w : World} {row : Option Nat} (h : a.grownBy w row) (n : Nat) : a.grownBy (w.drewN n) row := ⟨h.os, h.tape, h.output, h.size, h.block⟩
theorem only_drew {a w : World} {row : Option Nat} (h : a.grownBy w row) : a.grownBy w.drew row := ⟨h.os, h.tape, h.output, h.size, h.block⟩
theorem only_alloc {a w : World} {row : Option Nat} (h : a.grownBy w row) (o : Obj) : a.grownBy (w.alloc o) row :=
  ⟨h.os, h.tape, h.output, Nat.le_trans h.size (by simp), fun i hi hne => (Below.heap_alloc w o i (Nat.lt_of_lt_of_le hi h.size)).trans (h.block i hi hne)⟩
theorem only_setCell {a w : World} {g : Nat} (h : a.grownBy w (some g)) {p : Addr} (hp : p.block = g ∨ a.heap.size ≤ p.block) (u : Value) : a.grownBy (w.setCell p u) (some g) :=
  ⟨h.os, h.tape, h.output, by simpa [World.setCell] using h.size, fun i hi hne => (Below.heap_setCell w p u i (by
    rintro rfl
    rcases hp with hp | hp
    · exact hne (by rw [hp])
    · omega)).trans (h.block i hi hne)⟩
theorem only_trans {a b c : World} {g : Nat} (h : a.grownBy b (some g)) (k : b.grownBy c (some g)) : a.grownBy c (some g) :=
  ⟨k.os.trans h.os, k.tape.trans h.tape, k.output.trans h.output, Nat.le_trans h.size k.size, fun i hi hne => (k.block i (Nat.lt_of_lt_of_le hi h.size) hne).trans (h.block i hi hne)⟩
theorem only_below {a b c : World} {row : Option Nat} {B : Nat} (h : a.grownBy b row) (k : Below B b c) (hB : a.heap.size ≤ B) : a.grownBy c row :=
  ⟨k.os.trans h.os, k.tape.trans h.tape, k.output.trans h.output, Nat.le_trans h.size k.size, fun i hi hne => (k.block i (Nat.lt_of_lt_of_le hi hB)).trans (h.block i hi hne)⟩
theorem below_only {a b c : World} {g B : Nat} (h : Below B a b) (k : b.grownBy c (some g)) (hB : B ≤ g) (hs : B ≤ b.heap.size) : Below B a c :=
  h.grown k hs (fun x hx => by injection hx; omega)
theorem gBel {S : Nat} {w w' : World} (h : Below S w w' := by repeat' (first | with_reducible exact Below.refl _ _ | with_reducible refine below_drewN ?_ _ | with_reducible refine Below.drew ?_ | with_reducible refine Below.alloc ?_ ?_ _ | with_reducible refine Below.setCell ?_ ?_ _ | with_reducible refine Below.trans ?_ (Below.mono (by with_reducible assumption) ?_) | (simp; done) | (simp; omega) | omega)) : Below S w w' := h
theorem gBelo {S : Nat} {w w' : World} (h : Below S w w' := by repeat' (first | with_reducible exact Below.refl _ _ | with_reducible assumption | with_reducible refine below_drewN ?_ _ | with_reducible refine Below.drew ?_ | with_reducible refine Below.alloc ?_ ?_ _ | with_reducible refine Below.setCell ?_ ?_ _ | with_reducible refine Below.trans ?_ (Below.mono (by with_reducible assumption) ?_) | with_reducible refine below_only ?_ (by with_reducible assumption) ?_ ?_ | (simp; done) | (simp; omega) | omega)) : Below S w w' := h
theorem only_grown {a b c : World} {g : Nat} {row : Option Nat} (h : a.grownBy b (some g)) (k : b.grownBy c row) (hr : ∀ x, row = some x → a.heap.size ≤ x) : a.grownBy c (some g) :=
  ⟨k.os.trans h.os, k.tape.trans h.tape, k.output.trans h.output, Nat.le_trans h.size k.size, fun i hi hne => (k.block i (Nat.lt_of_lt_of_le hi h.size) (fun e => by have := hr i e.symm; omega)).trans (h.block i hi hne)⟩
theorem block_of_add (a : Addr) (n : Nat) : (a.add n).block = a.block := by unfold Addr.add; split <;> rfl
theorem add_of_add (a : Addr) (i j : Nat) : (a.add i).add j = a.add (i + j) := by
  unfold Addr.add
  by_cases hi : i = 0 <;> by_cases hj : j = 0 <;> simp [hi, hj, Nat.add_assoc]
def Reads (w : World) (B size : Nat) (A : Option Addr) (n : Nat) (xs : List Value) : Prop :=
  xs.length = n * size ∧ (0 < n → ∃ ad, A = some ad ∧ ad.block < B ∧ ∀ j u, xs[j]? = some u → w.cell? (ad.add j) = some u)
section
variable {w w' : World} {B B' size n : Nat} {A : Option Addr} {xs : List Value}
theorem Reads.none_ : Reads w B size A 0 [] := ⟨by simp, fun h => absurd h (by omega)⟩
theorem Reads.keep (h : Reads w B size A n xs) (hk : ∀ p : Addr, p.block < B → w'.cell? p = w.cell? p) : Reads w' B size A n xs :=
  ⟨h.1, fun hn => by
    obtain ⟨ad, e, hb, hc⟩ := h.2 hn
    exact ⟨ad, e, hb, fun j u hu => (hk _ (by rw [block_of_add]; exact hb)).trans (hc j u hu)⟩⟩
theorem Reads.below (h : Reads w B size A n xs) (hb : Below B w w') : Reads w' B size A n xs := h.keep fun _ hp => hb.cell hp
theorem Reads.alloc (h : Reads w B size A n xs) (hB : B ≤ w.heap.size) (o : Obj) : Reads (w.alloc o) B size A n xs := h.keep fun p hp => World.cell?_alloc_lt w o p (by omega)
theorem Reads.cut (h : Reads w B size A n xs) {k cap : Nat} (hk : k ≤ n) (hc : n ≤ cap) :
    Reads w B size (if cap = k then A else A.map (·.add (k * size))) (n - k) (xs.drop (k * size)) := by
  refine ⟨by rw [List.length_drop, h.1, Nat.sub_mul], fun hn => ?_⟩
  obtain ⟨ad, rfl, hb, hcell⟩ := h.2 (by omega)
  rw [if_neg (by omega)]
  refine ⟨ad.add (k * size), rfl, by rw [block_of_add]; exact hb, fun j u hu => ?_⟩
  rw [add_of_add]
  exact hcell _ u (by rw [← hu, List.getElem?_drop])
end
section
variable {P : Program} (w : World)
theorem run_append_of_nil (base : Nat) (t ty e : TypeId) (i : TypeInfo) (size : Nat) (ht : P.underlying t = some (.slice e)) (hi : P.info? e = some i)
    (v : Value) (n : Nat) (xs : List Value) (hown : w.ownsRow base e size v n xs) (c : Nat) : (Builtin.append_ #[t, t] ty #[v, .slice none 0 c]).run P w = .ok v w := by
  rcases hown.2 with ⟨rfl, rfl⟩ | ⟨g, cap, cur, rfl, _, _, hnc, _⟩
  · simp [Builtin.append_, run_underlying ht, sizeOf, typeInfo, hi, Builtin.lenOf, Builtin.firstCells]
  · simp [Builtin.append_, run_underlying ht, sizeOf, typeInfo, hi, Builtin.lenOf, Builtin.firstCells, hnc, storeCells]
theorem run_append_any (base : Nat) (t ty e : TypeId) (i : TypeInfo) (z : Value) (size bytes : Nat) (ht : P.underlying t = some (.slice e)) (hi : P.info? e = some i) (hz : i.zero = some z)
    (hsize : i.size = size) (hby : i.bytes = bytes) (hzs : z.cells.size = size) (hsz : 0 < size)
    (v : Value) (n : Nat) (xs : List Value) (hown : w.ownsRow base e size v n xs)
    (B : Nat) (A : Option Addr) (m c : Nat) (news : List Value) (hr : Reads w B size A m news) (h1 : ∀ u ∈ news, u.oneCell' = true)
    (h63 : n + m ≤ maxLen) (hbytes : (n + m) * bytes ≤ 140737488355328) (hbase : base ≤ w.heap.size) :
    ∃ v' w', (Builtin.append_ #[t, t] ty #[v, .slice A m c]).run P w = .ok v' w' ∧ w'.ownsRow base e size v' (n + m) (xs ++ news) ∧ w.grownBy w' v.ownBlock ∧
      (v'.ownBlock = v.ownBlock ∨ v'.ownBlock = some w.heap.size) := by
  rcases A with _ | ad
  · have hm : m = 0 := by
      rcases Nat.eq_zero_or_pos m with h0 | h0
      · exact h0
      · obtain ⟨ad, h, _⟩ := hr.2 h0
        cases h
    subst hm
    have hn : news = [] := List.eq_nil_of_length_eq_zero (by simpa using hr.1)
    subst hn
    exact ⟨v, w, run_append_of_nil w base t ty e i size ht hi v n xs hown c, by simpa using hown, World.grownBy.refl w _, .inl rfl⟩
  · have hcells : ∀ j u, news[j]? = some u → w.cell? (ad.add j) = some u := by
      intro j u hu
      rcases Nat.eq_zero_or_pos m with h0 | h0
      · subst h0
        have hn : news = [] := List.eq_nil_of_length_eq_zero (by simpa using hr.1)
        subst hn
        simp at hu
      · obtain ⟨ad', h, _, hc⟩ := hr.2 h0
        injection h with h
        subst h
        exact hc j u hu
    obtain ⟨v', w', hrun, h2, h3, _, h5⟩ := run_append_own_at (P := P) w base t ty e i z size bytes ht hi hz hsize hby hzs hsz v n xs hown ad m c news hr.1 hcells h1 h63 hbytes hbase
    exact ⟨v', w', hrun, h2, h3, h5⟩
theorem wp_append_any {o : Oper} {a : Act} {K : Act → World → Prop} {Q : Exit → Act → World → Prop} (s x : Operand) (t : TypeId)
    (ho : o.op = .call { callee := .builtin .append, args := #[s, x], argTypes := #[t, t] })
    (base : Nat) (e : TypeId) (i : TypeInfo) (z : Value) (size bytes : Nat) (ht : P.underlying t = some (.slice e)) (hi : P.info? e = some i) (hz : i.zero = some z)
    (hsize : i.size = size) (hby : i.bytes = bytes) (hzs : z.cells.size = size) (hsz : 0 < size)
    (v : Value) (n : Nat) (xs : List Value) (hs : a.eval s = v) (hown : w.ownsRow base e size v n xs)
    (B : Nat) (A : Option Addr) (m c : Nat) (news : List Value) (hx : a.eval x = .slice A m c) (hr : Reads w B size A m news) (h1 : ∀ u ∈ news, u.oneCell' = true)
    (h63 : n + m ≤ maxLen) (hbytes : (n + m) * bytes ≤ 140737488355328) (hbase : base ≤ w.heap.size)
    (h : ∀ v' w', w'.ownsRow base e size v' (n + m) (xs ++ news) → w.grownBy w' v.ownBlock → (v'.ownBlock = v.ownBlock ∨ v'.ownBlock = some w.heap.size) → K (a.put o.dst v') w') : o.wp P a w K Q := by
  obtain ⟨v', w', hrun, h2, h3, h4⟩ := run_append_any (P := P) w base t o.type e i z size bytes ht hi hz hsize hby hzs hsz v n xs hown B A m c news hr h1 h63 hbytes hbase
  unfold Oper.wp execOp
  simp only [ho, resolve, invoke, builtin, Sem.run_bind, Sem.run_pure, Result.andThen_ok, List.map_toArray, List.map_cons, List.map_nil, hs, hx, hrun]
  exact h v' w' h2 h3 h4
theorem wpList_append_any {ops : Array Oper} {rest : List Oper} {o : Oper} {a : Act} {Q : Exit → Act → World → Prop} (hgd : o.guard = none) (s x : Operand) (t : TypeId)
    (ho : o.op = .call { callee := .builtin .append, args := #[s, x], argTypes := #[t, t] })
    (base : Nat) (e : TypeId) (i : TypeInfo) (z : Value) (size bytes : Nat) (ht : P.underlying t = some (.slice e)) (hi : P.info? e = some i) (hz : i.zero = some z)
    (hsize : i.size = size) (hby : i.bytes = bytes) (hzs : z.cells.size = size) (hsz : 0 < size)
    (v : Value) (n : Nat) (xs : List Value) (hs : a.eval s = v) (hown : w.ownsRow base e size v n xs)
    (B : Nat) (A : Option Addr) (m c : Nat) (news : List Value) (hx : a.eval x = .slice A m c) (hr : Reads w B size A m news) (h1 : ∀ u ∈ news, u.oneCell' = true)
    (h63 : n + m ≤ maxLen) (hbytes : (n + m) * bytes ≤ 140737488355328) (hbase : base ≤ w.heap.size)
    (h : ∀ v' w', w'.ownsRow base e size v' (n + m) (xs ++ news) → w.grownBy w' v.ownBlock → (v'.ownBlock = v.ownBlock ∨ v'.ownBlock = some w.heap.size) → wpList P ops Q rest (a.put o.dst v') w') : wpList P ops Q (o :: rest) a w :=
  wpList_plain hgd fun _ hK => wp_append_any w s x t ho base e i z size bytes ht hi hz hsize hby hzs hsz v n xs hs hown B A m c news hx hr h1 h63 hbytes hbase fun v' w' h2 h3 h4 => hK _ _ (h v' w' h2 h3 h4)
theorem step_append_any {ops : Array Oper} {o : Oper} {a : Act} {K : Act → World → Prop} {Q : Exit → Act → World → Prop} {E : Prop} (hgd : o.guard = none) (s x : Operand) (t : TypeId)
    (ho : o.op = .call { callee := .builtin .append, args := #[s, x], argTypes := #[t, t] })
    (base : Nat) (e : TypeId) (i : TypeInfo) (z : Value) (size bytes : Nat) (ht : P.underlying t = some (.slice e)) (hi : P.info? e = some i) (hz : i.zero = some z)
    (hsize : i.size = size) (hby : i.bytes = bytes) (hzs : z.cells.size = size) (hsz : 0 < size)
    (v : Value) (n : Nat) (xs : List Value) (hs : a.eval s = v) (hown : w.ownsRow base e size v n xs)
    (B : Nat) (A : Option Addr) (m c : Nat) (news : List Value) (hx : a.eval x = .slice A m c) (hr : Reads w B size A m news) (h1 : ∀ u ∈ news, u.oneCell' = true)
    (h63 : n + m ≤ maxLen) (hbytes : (n + m) * bytes ≤ 140737488355328) (hbase : base ≤ w.heap.size)
    (h : ∀ v' w', w'.ownsRow base e size v' (n + m) (xs ++ news) → w.grownBy w' v.ownBlock → (v'.ownBlock = v.ownBlock ∨ v'.ownBlock = some w.heap.size) → K (a.put o.dst v') w') :
    if Region.wanted o (yielded ops a.tmps) = true then Oper.wp P o a w K Q else E := by
  have hw : Region.wanted o (yielded ops a.tmps) = true := by simp [Region.wanted, hgd]
  rw [if_pos hw]
  exact wp_append_any w s x t ho base e i z size bytes ht hi hz hsize hby hzs hsz v n xs hs hown B A m c news hx hr h1 h63 hbytes hbase h
end
theorem Lies.reads {w : World} {A : Option Addr} {n size : Nat} {xs : List Value} (h : Lies w A n xs) (hl : xs.length = n * size) : Reads w w.heap.size size A n xs := by
  refine ⟨hl, fun hn => ?_⟩
  rcases h with h0 | ⟨b, off, e, hb, hc⟩
  · omega
  · exact ⟨_, e, hb, fun j u hu => by rw [add_none]; exact hc j u hu⟩
theorem own_zero (w : World) (base : Nat) (t : TypeId) (size : Nat) (hb : base ≤ w.heap.size) : (w.alloc (.cells #[] t)).ownsRow base t size (.slice (some ⟨w.heap.size, 0, none⟩) 0 0) 0 [] :=
  World.ownsRow_lit w #[] 0 hb (Nat.zero_le _) (by simp)
theorem own_zero1 (w : World) (o : Obj) (t : TypeId) (size : Nat) (base : Nat) (hb : base ≤ w.heap.size) : ((w.alloc o).alloc (.cells #[] t)).ownsRow base t size (.slice (some ⟨w.heap.size + 1, 0, none⟩) 0 0) 0 [] := by
  have h := own_zero (w.alloc o) base t size (by simp; omega)
  rwa [World.size_alloc] at h
theorem news_far {W wa : World} {B : Nat} {cs : Array Value} {t : TypeId} {row : Option Nat} (h : W.heap[B]? = some (.cells cs t (0, 0))) (hg : W.grownBy wa row) (hne : some B ≠ row) : ∀ j u, cs.toList[j]? = some u → wa.cell? ((⟨B, 0, none⟩ : Addr).add j) = some u := by
  have hlt : B < W.heap.size := by
    rcases Nat.lt_or_ge B W.heap.size with h' | h'
    · exact h'
    · rw [Array.getElem?_eq_none h'] at h; cases h
  exact World.news_of_block ((hg.block B hlt hne).trans h)
theorem alloc_second (w : World) (o o' : Obj) : ((w.alloc o).alloc o').drew.heap[w.heap.size + 1]? = some o' := by
  have h := heap_alloc_new (w.alloc o) o'
  rw [World.size_alloc] at h
  exact h
theorem alloc_first (w : World) (o o' : Obj) : ((w.alloc o).alloc o').drew.heap[w.heap.size]? = some o :=
  (Below.heap_alloc (w.alloc o) o' w.heap.size (by simp)).trans (heap_alloc_new w o)
end Go.Proofs.YtfmkmhhghmdakaaGreatDoor
namespace Go.Proofs.YtfmkmhhghmdakaaGreatDoor
set_option maxHeartbeats 64000000
set_option maxRecDepth 100000
set_option linter.unusedVariables false
abbrev Sg (V : Type) := Int × Int × V
def SegF {V : Type} (f : Int → Option V) : Int → List (Sg V) → Prop
  | c, [] => ∀ x, c ≤ x → f x = none
  | c, s :: t => c ≤ s.1 ∧ s.1 < s.2.1 ∧ (∀ x, c ≤ x → x < s.1 → f x = none) ∧ (∀ x, s.1 ≤ x → x < s.2.1 → f x = some s.2.2) ∧ f s.2.1 ≠ some s.2.2 ∧ SegF f s.2.1 t
theorem SegF.uniq {V : Type} {f : Int → Option V} : ∀ {l m : List (Sg V)} {c : Int}, SegF f c l → SegF f c m → l = m
  | [], [], _, _, _ => rfl
  | [], s :: t, c, h, h' => by
    obtain ⟨h1, h2, _, h4, _⟩ := h'
    have := h4 s.1 (Int.le_refl _) h2
    rw [h s.1 h1] at this; cases this
  | s :: t, [], c, h', h => by
    obtain ⟨h1, h2, _, h4, _⟩ := h'
    have := h4 s.1 (Int.le_refl _) h2
    rw [h s.1 h1] at this; cases this
  | s :: t, s' :: t', c, h, h' => by
    obtain ⟨a1, a2, a3, a4, a5, a6⟩ := h
    obtain ⟨b1, b2, b3, b4, b5, b6⟩ := h'
    have e1 : s.1 = s'.1 := by
      rcases Int.lt_trichotomy s.1 s'.1 with h | h | h
      · have := b3 s.1 a1 h; rw [a4 s.1 (Int.le_refl _) a2] at this; cases this
      · exact h
      · have := a3 s'.1 b1 h; rw [b4 s'.1 (Int.le_refl _) b2] at this; cases this
    have e2 : s.2.2 = s'.2.2 := by
      have h1 := a4 s.1 (Int.le_refl _) a2
      have h2 := b4 s'.1 (Int.le_refl _) b2
      rw [← e1] at h2
      exact Option.some.inj (h1.symm.trans h2)
    have e3 : s.2.1 = s'.2.1 := by
      rcases Int.lt_trichotomy s.2.1 s'.2.1 with h | h | h
      · exact absurd (e2 ▸ b4 s.2.1 (by omega) h) a5
      · exact h
      · exact absurd (e2 ▸ a4 s'.2.1 (by omega) h) b5
    have e : s = s' := Prod.ext e1 (Prod.ext e3 e2)
    subst e
    rw [SegF.uniq a6 b6]
theorem SegF.down {V : Type} {f : Int → Option V} {l : List (Sg V)} {c d : Int} (h : SegF f c l) (hd : d ≤ c) (hn : ∀ x, d ≤ x → x < c → f x = none) : SegF f d l := by
  cases l with
  | nil =>
    intro x hx
    by_cases hc : c ≤ x
    · exact h x hc
    · exact hn x hx (by omega)
  | cons s t =>
    obtain ⟨a1, a2, a3, a4, a5, a6⟩ := h
    refine ⟨by omega, a2, fun x h1 h2 => ?_, a4, a5, a6⟩
    by_cases hc : c ≤ x
    · exact a3 x hc h2
    · exact hn x h1 (by omega)
def Segs {V : Type} (f : Int → Option V) (l : List (Sg V)) : Prop := ∃ c, (∀ x, x < c → f x = none) ∧ SegF f c l
theorem Segs.uniq {V : Type} {f : Int → Option V} {l m : List (Sg V)} (h : Segs f l) (h' : Segs f m) : l = m := by
  obtain ⟨c, hc, hl⟩ := h
  obtain ⟨d, hd, hm⟩ := h'
  by_cases h : c ≤ d
  · exact SegF.uniq hl (hm.down h fun x _ hx => hd x hx)
  · exact SegF.uniq (hl.down (by omega) fun x _ hx => hc x hx) hm
theorem SegF.mem {V : Type} {f : Int → Option V} : ∀ {l : List (Sg V)} {c : Int}, SegF f c l → ∀ x v, c ≤ x → (f x = some v ↔ ∃ s ∈ l, s.1 ≤ x ∧ x < s.2.1 ∧ s.2.2 = v)
  | [], c, h, x, v, hx => by simp [h x hx]
  | s :: t, c, h, x, v, hx => by
    obtain ⟨a1, a2, a3, a4, a5, a6⟩ := h
    by_cases h1 : x < s.1
    · rw [a3 x hx h1]
      simp only [List.mem_cons, reduceCtorEq, false_iff]
      rintro ⟨q, hq, h2, h3, h4⟩
      rcases hq with rfl | hq
      · omega
      · have := SegF.ge a6 q hq; omega
    · by_cases h2 : x < s.2.1
      · rw [a4 x (by omega) h2]
        constructor
        · intro h; exact ⟨s, by simp, by omega, h2, Option.some.inj h⟩
        · rintro ⟨q, hq, h3, h4, h5⟩
          rcases List.mem_cons.1 hq with rfl | hq
          · rw [h5]
          · have := SegF.ge a6 q hq; omega
      · rw [SegF.mem a6 x v (by omega)]
        constructor
        · rintro ⟨q, hq, h⟩; exact ⟨q, by simp [hq], h⟩
        · rintro ⟨q, hq, h3, h4, h5⟩
          rcases List.mem_cons.1 hq with rfl | hq
          · omega
          · exact ⟨q, hq, h3, h4, h5⟩
where
  SegF.ge {V : Type} {f : Int → Option V} : ∀ {l : List (Sg V)} {c : Int}, SegF f c l → ∀ s ∈ l, c ≤ s.1
    | s :: t, c, h, q, hq => by
      obtain ⟨a1, a2, a3, a4, a5, a6⟩ := h
      rcases List.mem_cons.1 hq with rfl | hq
      · exact a1
      · have := SegF.ge a6 q hq; omega
theorem SegF.pos {V : Type} {f : Int → Option V} : ∀ {l : List (Sg V)} {c : Int}, SegF f c l → ∀ s ∈ l, s.1 < s.2.1
  | s :: t, c, h, q, hq => by
    obtain ⟨a1, a2, a3, a4, a5, a6⟩ := h
    rcases List.mem_cons.1 hq with rfl | hq
    · exact a2
    · exact SegF.pos a6 q hq
theorem Segs.pos {V : Type} {f : Int → Option V} {l : List (Sg V)} (h : Segs f l) : ∀ s ∈ l, s.1 < s.2.1 := by
  obtain ⟨c, hc, hl⟩ := h
  exact hl.pos
theorem SegF.low {V : Type} {f : Int → Option V} : ∀ {l : List (Sg V)} {c : Int}, SegF f c l → ∀ s ∈ l, c ≤ s.1
  | s :: t, c, h, q, hq => by
    obtain ⟨a1, a2, a3, a4, a5, a6⟩ := h
    rcases List.mem_cons.1 hq with rfl | hq
    · exact a1
    · have := SegF.low a6 q hq; omega
theorem Segs.mem {V : Type} {f : Int → Option V} {l : List (Sg V)} (h : Segs f l) (x : Int) (v : V) : f x = some v ↔ ∃ s ∈ l, s.1 ≤ x ∧ x < s.2.1 ∧ s.2.2 = v := by
  obtain ⟨c, hc, hl⟩ := h
  by_cases hx : c ≤ x
  · exact hl.mem x v hx
  · rw [hc x (by omega)]
    simp only [reduceCtorEq, false_iff]
    rintro ⟨q, hq, h2, h3, h4⟩
    have := hl.low q hq; omega
def SegI {V : Type} (f : Int → Option V) : Int → Int → List (Sg V) → Prop
  | c, e, [] => c ≤ e ∧ ∀ x, c ≤ x → x < e → f x = none
  | c, e, s :: t => c ≤ s.1 ∧ s.1 < s.2.1 ∧ (∀ x, c ≤ x → x < s.1 → f x = none) ∧ (∀ x, s.1 ≤ x → x < s.2.1 → f x = some s.2.2) ∧ (s.2.1 < e → f s.2.1 ≠ some s.2.2) ∧ SegI f s.2.1 e t
theorem SegI.le {V : Type} {f : Int → Option V} : ∀ {l : List (Sg V)} {c e : Int}, SegI f c e l → c ≤ e
  | [], _, _, h => h.1
  | s :: t, c, e, h => by
    obtain ⟨a1, a2, a3, a4, a5, a6⟩ := h
    have := SegI.le a6; omega
theorem SegI.full {V : Type} {f : Int → Option V} : ∀ {l : List (Sg V)} {c e : Int}, SegI f c e l → (∀ x, e ≤ x → f x = none) → SegF f c l
  | [], c, e, h, hn => fun x hx => by
    by_cases h1 : x < e
    · exact h.2 x hx h1
    · exact hn x (by omega)
  | s :: t, c, e, h, hn => by
    obtain ⟨a1, a2, a3, a4, a5, a6⟩ := h
    refine ⟨a1, a2, a3, a4, ?_, SegI.full a6 hn⟩
    by_cases h1 : s.2.1 < e
    · exact a5 h1
    · rw [hn s.2.1 (by omega)]; simp
def stepO {V : Type} [DecidableEq V] (l : List (Sg V)) (lo hi : Int) : Option V → List (Sg V)
  | none => l
  | some v => match l.getLast? with
    | none => [(lo, hi, v)]
    | some s => if s.2.1 = lo ∧ s.2.2 = v then l.dropLast ++ [(s.1, hi, v)] else l ++ [(lo, hi, v)]
theorem stepO_cons {V : Type} [DecidableEq V] (s s' : Sg V) (t : List (Sg V)) (lo hi : Int) (o : Option V) : stepO (s :: s' :: t) lo hi o = s :: stepO (s' :: t) lo hi o := by
  cases o with
  | none => rfl
  | some v =>
    simp only [stepO, List.getLast?_cons_cons]
    cases h : (s' :: t).getLast? with
    | none => simp at h
    | some q =>
      simp only
      split
      · simp [List.dropLast_cons_of_ne_nil]
      · simp
theorem SegI.step {V : Type} [DecidableEq V] {f : Int → Option V} {o : Option V} : ∀ {l : List (Sg V)} {c e e' : Int}, SegI f c e l → e < e' → (∀ x, e ≤ x → x < e' → f x = o) → SegI f c e' (stepO l e e' o)
  | [], c, e, e', h, he, ho => by
    cases o with
    | none =>
      refine ⟨by have := h.1; omega, fun x h1 h2 => ?_⟩
      by_cases h3 : x < e
      · exact h.2 x h1 h3
      · exact ho x (by omega) h2
    | some v =>
      show SegI f c e' [(e, e', v)]
      exact ⟨h.1, he, h.2, ho, fun h => absurd h (by simp), by simp [SegI]; intros; omega⟩
  | [s], c, e, e', h, he, ho => by
    obtain ⟨a1, a2, a3, a4, a5, a6, a7⟩ := h
    cases o with
    | none =>
      show SegI f c e' [s]
      refine ⟨a1, a2, a3, a4, fun _ => ?_, by omega, fun x h1 h2 => ?_⟩
      · by_cases h3 : s.2.1 < e
        · exact a5 h3
        · rw [ho s.2.1 (by omega) (by omega)]; simp
      · by_cases h3 : x < e
        · exact a7 x h1 h3
        · exact ho x (by omega) h2
    | some v =>
      by_cases hm : s.2.1 = e ∧ s.2.2 = v
      · have e1 : stepO [s] e e' (some v) = [(s.1, e', v)] := by simp [stepO, hm]
        rw [e1]
        refine ⟨a1, by simp only; omega, a3, fun x h1 h2 => ?_, fun h => absurd h (by simp), by simp [SegI]; intros; omega⟩
        by_cases h3 : x < e
        · rw [a4 x h1 (by omega), hm.2]
        · exact ho x (by omega) h2
      · have e1 : stepO [s] e e' (some v) = [s, (e, e', v)] := by simp [stepO, hm]
        rw [e1]
        refine ⟨a1, a2, a3, a4, fun _ => ?_, a6, he, a7, ho, fun h => absurd h (by simp), by simp [SegI]; intros; omega⟩
        by_cases h3 : s.2.1 < e
        · exact a5 h3
        · have h4 : s.2.1 = e := by omega
          rw [h4, ho e (by omega) he]
          intro h5
          exact hm ⟨h4, (Option.some.inj h5).symm⟩
  | s :: s' :: t, c, e, e', h, he, ho => by
    obtain ⟨a1, a2, a3, a4, a5, a6⟩ := h
    rw [stepO_cons]
    refine ⟨a1, a2, a3, a4, fun _ => a5 ?_, SegI.step a6 he ho⟩
    have h1 := a6.2.2.2.2.2.le
    have h2 := a6.1
    have h3 := a6.2.1
    omega
def foldC {V : Type} [DecidableEq V] (g : Int → Option V) : List Int → List (Sg V) → List (Sg V)
  | x :: y :: r, acc => foldC g (y :: r) (stepO acc x y (g x))
  | _, acc => acc
def Adj {V : Type} (f g : Int → Option V) : List Int → Prop
  | x :: y :: r => (∀ z, x ≤ z → z < y → f z = g x) ∧ Adj f g (y :: r)
  | _ => True
theorem foldC_segI {V : Type} [DecidableEq V] {f g : Int → Option V} : ∀ (r : List Int) (x c : Int) (acc : List (Sg V)), (x :: r).Pairwise (· < ·) → Adj f g (x :: r) → SegI f c x acc → SegI f c ((x :: r).getLast (by simp)) (foldC g (x :: r) acc)
  | [], x, c, acc, _, _, h => h
  | y :: r, x, c, acc, hp, ha, h => by
    have hxy : x < y := (List.pairwise_cons.1 hp).1 y (by simp)
    have := foldC_segI r y c (stepO acc x y (g x)) (List.pairwise_cons.1 hp).2 ha.2 (h.step hxy ha.1)
    simpa [foldC] using this
theorem getLast_max : ∀ (l : List Int) (h : l ≠ []), l.Pairwise (· < ·) → ∀ k ∈ l, k ≤ l.getLast h
  | [x], _, _, k, hk => by simp at hk; simp [hk]
  | x :: y :: r, _, hp, k, hk => by
    have h1 := getLast_max (y :: r) (by simp) (List.pairwise_cons.1 hp).2
    rw [List.getLast_cons (by simp)]
    rcases List.mem_cons.1 hk with rfl | hk
    · have := (List.pairwise_cons.1 hp).1 y (by simp)
      have := h1 y (by simp)
      omega
    · exact h1 k hk
theorem segs_of_cuts {V : Type} [DecidableEq V] {f g : Int → Option V} (cuts : List Int) (hp : cuts.Pairwise (· < ·)) (ha : Adj f g cuts) (hlo : ∀ z, (∀ k ∈ cuts, z < k) → f z = none) (hhi : ∀ z, (∀ k ∈ cuts, k ≤ z) → f z = none) : Segs f (foldC g cuts []) := by
  cases cuts with
  | nil => exact ⟨0, fun x _ => hlo x (by simp), fun x _ => hlo x (by simp)⟩
  | cons x r =>
    refine ⟨x, fun z hz => hlo z fun k hk => ?_, (foldC_segI r x x [] hp ha ⟨Int.le_refl _, fun z h1 h2 => by omega⟩).full fun z hz => hhi z fun k hk => ?_⟩
    · rcases List.mem_cons.1 hk with rfl | hk
      · exact hz
      · have := (List.pairwise_cons.1 hp).1 k hk; omega
    · have := getLast_max (x :: r) (by simp) hp k hk
      omega
def Steady {V : Type} (f : Int → V) (cuts : List Int) : Prop := ∀ x z, x ∈ cuts → x ≤ z → (∀ k ∈ cuts, k ≤ x ∨ z < k) → f z = f x
theorem Steady.adj {V : Type} {f : Int → Option V} : ∀ {cuts : List Int}, cuts.Pairwise (· < ·) → Steady f cuts → Adj f f cuts
  | [], _, _ => trivial
  | [x], _, _ => trivial
  | x :: y :: r, hp, hs => by
    obtain ⟨h1, h2⟩ := List.pairwise_cons.1 hp
    refine ⟨fun z hz hy => hs x z (by simp) hz fun k hk => ?_, Steady.adj h2 fun a z ha haz hk => hs a z (by simp [ha]) haz fun k hk' => ?_⟩
    · rcases List.mem_cons.1 hk with rfl | hk
      · exact .inl (Int.le_refl _)
      · rcases List.mem_cons.1 hk with rfl | hk
        · exact .inr hy
        · have := (List.pairwise_cons.1 h2).1 k hk
          exact .inr (by omega)
    · rcases List.mem_cons.1 hk' with rfl | hk'
      · exact .inl (by have := h1 a ha; omega)
      · exact hk k hk'
theorem SegF.bind {V U : Type} {f : Int → Option V} (g : V → Option U) (hg : ∀ v v' u, g v = some u → g v' = some u → v = v') : ∀ {l : List (Sg V)} {c : Int}, SegF f c l → SegF (fun x => (f x).bind g) c (l.filterMap fun s => (g s.2.2).map fun u => (s.1, s.2.1, u))
  | [], c, h => fun x hx => by simp [h x hx]
  | s :: t, c, h => by
    obtain ⟨a1, a2, a3, a4, a5, a6⟩ := h
    have ih := SegF.bind g hg a6
    cases hv : g s.2.2 with
    | none =>
      rw [List.filterMap_cons_none (by simp [hv])]
      refine ih.down (by omega) fun x h1 h2 => ?_
      by_cases h3 : x < s.1
      · simp [a3 x h1 h3]
      · simp [a4 x (by omega) h2, hv]
    | some u =>
      rw [List.filterMap_cons_some (by simp [hv]; rfl)]
      refine ⟨a1, a2, fun x h1 h2 => by simp [a3 x h1 h2], fun x h1 h2 => by simp [a4 x h1 h2, hv], ?_, ih⟩
      simp only
      intro h6
      cases hf : f s.2.1 with
      | none => simp [hf] at h6
      | some v' =>
        rw [hf] at h6
        simp at h6
        exact a5 (by rw [hf, hg _ _ _ h6 hv])
theorem Segs.bind {V U : Type} {f : Int → Option V} (g : V → Option U) (hg : ∀ v v' u, g v = some u → g v' = some u → v = v') {l : List (Sg V)} (h : Segs f l) : Segs (fun x => (f x).bind g) (l.filterMap fun s => (g s.2.2).map fun u => (s.1, s.2.1, u)) := by
  obtain ⟨c, hc, hl⟩ := h
  exact ⟨c, fun x hx => by simp [hc x hx], hl.bind g hg⟩
def opt (b : Bool) : Option Unit := if b then some () else none
theorem opt_some (b : Bool) : opt b = some () ↔ b = true := by cases b <;> simp [opt]
theorem opt_ne (b : Bool) (u : Unit) : opt b ≠ some u ↔ b = false := by cases b <;> simp [opt]
theorem opt_none (b : Bool) : opt b = none ↔ b = false := by cases b <;> simp [opt]
def nz {V : Type} (l : List V) : Option (List V) := if l.isEmpty then none else some l
theorem nz_inj {V : Type} (v v' u : List V) (h : nz v = some u) (h' : nz v' = some u) : v = v' := by
  unfold nz at h h'
  split at h <;> split at h' <;> simp_all
def sweep (l : List (Sg Unit)) (s : Sg Unit) : List (Sg Unit) := match l.getLast? with
  | none => [s]
  | some q => if s.1 ≤ q.2.1 then l.dropLast ++ [(q.1, max q.2.1 s.2.1, ())] else l ++ [s]
theorem sweep_cons (q q' : Sg Unit) (t : List (Sg Unit)) (s : Sg Unit) : sweep (q :: q' :: t) s = q :: sweep (q' :: t) s := by
  simp only [sweep, List.getLast?_cons_cons]
  cases h : (q' :: t).getLast? with
  | none => simp at h
  | some p =>
    simp only
    split
    · simp [List.dropLast_cons_of_ne_nil]
    · simp
def inS (s : Sg Unit) (x : Int) : Bool := decide (s.1 ≤ x) && decide (x < s.2.1)
theorem sweep_segF (s : Sg Unit) (hs : s.1 < s.2.1) : ∀ {l : List (Sg Unit)} {p : Int → Bool} {c : Int}, c ≤ s.1 → SegF (fun x => opt (p x)) c l → (∀ q ∈ l, q.1 ≤ s.1) → SegF (fun x => opt (p x || inS s x)) c (sweep l s) ∧ ∀ q ∈ sweep l s, q.1 ≤ s.1
  | [], p, c, hc, h, _ => by
    have h0 : ∀ x, c ≤ x → p x = false := fun x hx => (opt_none _).1 (h x hx)
    refine ⟨⟨hc, hs, fun x h1 h2 => ?_, fun x h1 h2 => ?_, ?_, fun x hx => ?_⟩, by simp [sweep]⟩
    · rw [opt_none, h0 x h1]; simp [inS]; omega
    · rw [opt_some]; simp [inS]; omega
    · rw [opt_ne, h0 s.2.1 (by omega)]; simp [inS]
    · rw [opt_none, h0 x (by omega)]; simp [inS]; omega
  | [q], p, c, hc, h, hq => by
    obtain ⟨a1, a2, a3, a4, a5, a6⟩ := h
    have hq1 := hq q (by simp)
    have h3 : ∀ x, c ≤ x → x < q.1 → p x = false := fun x h1 h2 => (opt_none _).1 (a3 x h1 h2)
    have h4 : ∀ x, q.1 ≤ x → x < q.2.1 → p x = true := fun x h1 h2 => (opt_some _).1 (a4 x h1 h2)
    have h6 : ∀ x, q.2.1 ≤ x → p x = false := fun x hx => (opt_none _).1 (a6 x hx)
    by_cases hm : s.1 ≤ q.2.1
    · have e1 : sweep [q] s = [(q.1, max q.2.1 s.2.1, ())] := by simp [sweep, hm]
      rw [e1]
      refine ⟨⟨a1, by simp only; omega, fun x h1 h2 => ?_, fun x h1 h2 => ?_, ?_, fun x hx => ?_⟩, by simp [hq1]⟩
      · simp only at h2; rw [opt_none, h3 x h1 h2]; simp [inS]; omega
      · simp only at h1 h2
        rw [opt_some]
        by_cases h5 : x < q.2.1
        · simp [h4 x h1 h5]
        · simp [inS]; right; omega
      · simp only; rw [opt_ne, h6 _ (by omega)]; simp [inS]; omega
      · simp only at hx; rw [opt_none, h6 x (by omega)]; simp [inS]; omega
    · have e1 : sweep [q] s = [q, s] := by simp [sweep, hm]
      rw [e1]
      refine ⟨⟨a1, a2, fun x h1 h2 => ?_, fun x h1 h2 => ?_, ?_, by omega, hs, fun x h1 h2 => ?_, fun x h1 h2 => ?_, ?_, fun x hx => ?_⟩, by simp [hq1]⟩
      · rw [opt_none, h3 x h1 h2]; simp [inS]; omega
      · rw [opt_some, h4 x h1 h2]; simp
      · rw [opt_ne, h6 _ (by omega)]; simp [inS]; omega
      · rw [opt_none, h6 x h1]; simp [inS]; omega
      · rw [opt_some]; simp [inS]; right; omega
      · rw [opt_ne, h6 _ (by omega)]; simp [inS]
      · rw [opt_none, h6 x (by omega)]; simp [inS]; omega
  | q :: q' :: t, p, c, hc, h, hq => by
    obtain ⟨a1, a2, a3, a4, a5, a6⟩ := h
    have hq' := hq q' (by simp)
    have hlow := a6.1
    have ⟨i1, i2⟩ := sweep_segF s hs (c := q.2.1) (by omega) a6 (fun r hr => hq r (by simp [List.mem_cons.1 hr]))
    rw [sweep_cons]
    refine ⟨⟨a1, a2, fun x h1 h2 => ?_, fun x h1 h2 => ?_, ?_, i1⟩, fun r hr => ?_⟩
    · rw [opt_none, (opt_none _).1 (a3 x h1 h2)]; simp [inS]; omega
    · rw [opt_some, (opt_some _).1 (a4 x h1 h2)]; simp
    · have h5 : p q.2.1 = false := by
        exact (opt_ne _ _).1 a5
      have h7 : q.2.1 < s.1 := by
        rcases Int.lt_or_eq_of_le (Int.le_trans hlow hq') with h | h
        · exact h
        · have h8 := a6.2.2.2.1 q'.1 (Int.le_refl _) a6.2.1
          have h9 : q'.1 = q.2.1 := by omega
          rw [h9, opt_some] at h8
          rw [h8] at h5; cases h5
      rw [opt_ne, h5]; simp [inS]; omega
    · rcases List.mem_cons.1 hr with rfl | hr
      · exact hq r (by simp)
      · exact i2 r hr
theorem sweep_segs : ∀ (ss : List (Sg Unit)) (l : List (Sg Unit)) (p : Int → Bool), (∀ s ∈ ss, s.1 < s.2.1) → ss.Pairwise (fun a b => a.1 ≤ b.1) → Segs (fun x => opt (p x)) l → (∀ q ∈ l, ∀ s ∈ ss, q.1 ≤ s.1) → Segs (fun x => opt (p x || ss.any (inS · x))) (ss.foldl sweep l)
  | [], l, p, _, _, h, _ => by simpa using h
  | s :: ss, l, p, hs, hp, h, hl => by
    obtain ⟨c, hc, hf⟩ := h
    obtain ⟨p1, p2⟩ := List.pairwise_cons.1 hp
    have hs1 := hs s (by simp)
    obtain ⟨d, hd1, hd2⟩ : ∃ d : Int, d ≤ c ∧ d ≤ s.1 := ⟨min c s.1, by omega, by omega⟩
    have hf' := hf.down hd1 fun x _ hx => hc x hx
    have ⟨i1, i2⟩ := sweep_segF s hs1 hd2 hf' (fun q hq => hl q hq s (by simp))
    have := sweep_segs ss (sweep l s) (fun x => p x || inS s x) (fun q hq => hs q (by simp [hq])) p2 ⟨d, fun x hx => by rw [opt_none, (opt_none _).1 (hc x (by omega))]; simp [inS]; omega, i1⟩ (fun q hq r hr => Int.le_trans (i2 q hq) (p1 r hr))
    simpa [Bool.or_assoc] using this
theorem sweep_len (l : List (Sg Unit)) (s : Sg Unit) : (sweep l s).length ≤ l.length + 1 := by
  unfold sweep
  cases h : l.getLast? with
  | none => simp
  | some q =>
    simp only
    split
    · simp
    · simp
theorem sweeps_len : ∀ (ss l : List (Sg Unit)), (ss.foldl sweep l).length ≤ l.length + ss.length
  | [], l => by simp
  | s :: ss, l => by
    have h1 := sweeps_len ss (sweep l s)
    have h2 := sweep_len l s
    simp at h1 ⊢
    omega
structure R4 where
  l : Int
  b : Int
  r : Int
  t : Int
  deriving DecidableEq
instance : Inhabited R4 := ⟨⟨0, 0, 0, 0⟩⟩
def R4.has (q : R4) (x y : Int) : Bool := decide (q.l ≤ x) && decide (x < q.r) && decide (q.b ≤ y) && decide (y < q.t)
def inL (l : List R4) (x y : Int) : Bool := l.any fun q => q.has x y
def flat (bs : List (Sg (List (Sg Unit)))) : List R4 := bs.flatMap fun b => b.2.2.map fun s => ⟨s.1, b.1, s.2.1, b.2.1⟩
def Canon (P : Int → Int → Bool) (R : List R4) : Prop :=
  ∃ (row : Int → List (Sg Unit)) (bs : List (Sg (List (Sg Unit)))), (∀ y, Segs (fun x => opt (P x y)) (row y)) ∧ Segs (fun y => nz (row y)) bs ∧ R = flat bs
theorem Canon.uniq {P : Int → Int → Bool} {R S : List R4} (h : Canon P R) (h' : Canon P S) : R = S := by
  obtain ⟨row, bs, h1, h2, rfl⟩ := h
  obtain ⟨row', bs', h1', h2', rfl⟩ := h'
  have e : row = row' := funext fun y => (h1 y).uniq (h1' y)
  subst e
  rw [h2.uniq h2']
theorem Canon.congr {P Q : Int → Int → Bool} {R : List R4} (h : Canon P R) (hq : ∀ x y, P x y = Q x y) : Canon Q R := by
  have e : P = Q := funext fun x => funext fun y => hq x y
  exact e ▸ h
theorem nz_some {V : Type} {v u : List V} (h : nz v = some u) : v = u ∧ u ≠ [] := by
  unfold nz at h
  split at h
  · cases h
  · simp_all
theorem Canon.mem {P : Int → Int → Bool} {R : List R4} (h : Canon P R) (x y : Int) : inL R x y = P x y := by
  obtain ⟨row, bs, h1, h2, rfl⟩ := h
  rw [Bool.eq_iff_iff]
  have h3 := (h1 y).mem x ()
  rw [opt_some] at h3
  rw [h3]
  simp only [inL, flat, List.any_flatMap, List.any_map, List.any_eq_true, Function.comp, R4.has, Bool.and_eq_true, decide_eq_true_eq]
  constructor
  · rintro ⟨b, hb, s, hs, ⟨⟨h4, h5⟩, h6⟩, h7⟩
    have h8 := (h2.mem y b.2.2).2 ⟨b, hb, h6, h7, rfl⟩
    rw [(nz_some h8).1]
    exact ⟨s, hs, h4, h5, trivial⟩
  · rintro ⟨s, hs, h4, h5, _⟩
    have h6 : nz (row y) = some (row y) := by
      unfold nz
      rw [if_neg]
      intro h
      rw [List.isEmpty_iff.1 h] at hs
      simp at hs
    obtain ⟨b, hb, h7, h8, h9⟩ := (h2.mem y (row y)).1 h6
    exact ⟨b, hb, s, by rw [h9]; exact hs, ⟨⟨h4, h5⟩, h7⟩, h8⟩
theorem Canon.bd {P : Int → Int → Bool} {R : List R4} (h : Canon P R) (a b c d : Int) (hP : ∀ x y, P x y = true → a ≤ x ∧ x < b ∧ c ≤ y ∧ y < d) : ∀ q ∈ R, a ≤ q.l ∧ q.l < q.r ∧ q.r ≤ b ∧ c ≤ q.b ∧ q.b < q.t ∧ q.t ≤ d := by
  have hm := h.mem
  obtain ⟨row, bs, h1, h2, rfl⟩ := h
  intro q hq
  have key : q.l < q.r ∧ q.b < q.t := by
    simp only [flat, List.mem_flatMap, List.mem_map] at hq
    obtain ⟨B, hB, s, hs, rfl⟩ := hq
    have h3 := h2.pos B hB
    have h4 := (h2.mem B.1 B.2.2).2 ⟨B, hB, Int.le_refl _, h3, rfl⟩
    rw [← (nz_some h4).1] at hs
    exact ⟨(h1 B.1).pos s hs, h3⟩
  have h3 : inL (flat bs) q.l q.b = true := by
    simp only [inL, List.any_eq_true]
    exact ⟨q, hq, by simp [R4.has]; omega⟩
  have h4 : inL (flat bs) (q.r - 1) (q.t - 1) = true := by
    simp only [inL, List.any_eq_true]
    exact ⟨q, hq, by simp [R4.has]; omega⟩
  rw [hm] at h3 h4
  have := hP _ _ h3
  have := hP _ _ h4
  omega
end Go.Proofs.YtfmkmhhghmdakaaGreatDoor
namespace Go.Proofs.YtfmkmhhghmdakaaGreatDoor
set_option maxHeartbeats 64000000
set_option maxRecDepth 100000
set_option linter.unusedVariables false
def srt (l : List Int) : List Int := l.mergeSort fun x y => decide (x ≤ y)
theorem srt_le (l : List Int) : (srt l).Pairwise (· ≤ ·) := by
  have := List.pairwise_mergeSort (le := fun x y : Int => decide (x ≤ y)) (by intro a b c h1 h2; simp at *; omega) (by intro a b; simp; omega) l
  exact this.imp fun h => by simpa using h
theorem srt_mem (l : List Int) (k : Int) : k ∈ srt l ↔ k ∈ l := (List.mergeSort_perm l _).mem_iff
theorem srt_len (l : List Int) : (srt l).length = l.length := (List.mergeSort_perm l _).length_eq
def asc (l : List Int) : List Int := Lib.compact (srt l)
theorem compact_upto (d : Array Int) (hd : ∀ i j, i ≤ j → j < d.size → d[i]! ≤ d[j]!) : ∀ m, m ≤ d.size → (Lib.compactUpTo d m).Pairwise (· < ·) ∧ (∀ k, k ∈ Lib.compactUpTo d m ↔ ∃ j, j < m ∧ d[j]! = k) ∧ (Lib.compactUpTo d m).length ≤ m
  | 0, _ => by simp [Lib.compactUpTo]
  | m + 1, hm => by
    obtain ⟨h1, h2, h3⟩ := compact_upto d hd m (by omega)
    rw [Lib.compactUpTo_succ]
    by_cases hk : Lib.keeps d m
    · rw [if_pos hk]
      refine ⟨?_, fun k => ?_, by simp; omega⟩
      · rw [List.pairwise_append]
        refine ⟨h1, by simp, fun a ha b hb => ?_⟩
        simp at hb
        subst hb
        obtain ⟨j, hj, rfl⟩ := (h2 a).1 ha
        have e1 := hd j (m - 1) (by omega) (by omega)
        have e2 := hd (m - 1) m (by omega) (by omega)
        have e3 : d[m]! ≠ d[m - 1]! := by
          simp [Lib.keeps] at hk
          rcases hk with hk | hk
          · omega
          · simpa using hk
        omega
      · simp only [List.mem_append, h2, List.mem_singleton]
        constructor
        · rintro (⟨j, hj, e⟩ | e)
          · exact ⟨j, by omega, e⟩
          · exact ⟨m, by omega, e.symm⟩
        · rintro ⟨j, hj, e⟩
          by_cases hjm : j = m
          · exact .inr (by rw [← e, hjm])
          · exact .inl ⟨j, by omega, e⟩
    · rw [if_neg hk, List.append_nil]
      refine ⟨h1, fun k => ?_, by omega⟩
      rw [h2]
      constructor
      · rintro ⟨j, hj, e⟩
        exact ⟨j, by omega, e⟩
      · rintro ⟨j, hj, e⟩
        by_cases hjm : j = m
        · subst hjm
          have hm0 : j ≠ 0 := by intro h; simp [Lib.keeps, h] at hk
          refine ⟨j - 1, by omega, ?_⟩
          simp [Lib.keeps, hm0] at hk
          rw [← e]
          simpa using hk.symm
        · exact ⟨j, by omega, e⟩
theorem asc_all (l : List Int) : (asc l).Pairwise (· < ·) ∧ (∀ k, k ∈ asc l ↔ k ∈ l) ∧ (asc l).length ≤ l.length := by
  have hd : ∀ i j, i ≤ j → j < (srt l).toArray.size → (srt l).toArray[i]! ≤ (srt l).toArray[j]! := by
    intro i j hij hj
    have hj' : j < (srt l).length := by simpa using hj
    have := List.pairwise_iff_getElem.1 (srt_le l) i j (by omega) hj'
    by_cases h : i = j
    · subst h; exact Int.le_refl _
    · simpa [getElem!_pos, hj', show i < (srt l).length by omega] using this (by omega)
  obtain ⟨h1, h2, h3⟩ := compact_upto (srt l).toArray hd (srt l).length (by simp)
  refine ⟨h1, fun k => ?_, by unfold asc Lib.compact; exact Nat.le_trans h3 (Nat.le_of_eq (srt_len l))⟩
  rw [← srt_mem l k]
  unfold asc Lib.compact
  rw [h2]
  constructor
  · rintro ⟨j, hj, rfl⟩
    simp [getElem!_pos, hj]
  · intro h
    obtain ⟨j, hj, e⟩ := List.getElem_of_mem h
    exact ⟨j, hj, by simpa [getElem!_pos, hj] using e⟩
def yEdges (l : List R4) : List Int := l.flatMap fun q => [q.b, q.t]
def xEdges (l : List R4) : List Int := l.flatMap fun q => [q.l, q.r]
theorem yEdges_mem {l : List R4} {q : R4} (h : q ∈ l) : q.b ∈ yEdges l ∧ q.t ∈ yEdges l := by
  simp only [yEdges, List.mem_flatMap]
  exact ⟨⟨q, h, by simp⟩, ⟨q, h, by simp⟩⟩
theorem xEdges_mem {l : List R4} {q : R4} (h : q ∈ l) : q.l ∈ xEdges l ∧ q.r ∈ xEdges l := by
  simp only [xEdges, List.mem_flatMap]
  exact ⟨⟨q, h, by simp⟩, ⟨q, h, by simp⟩⟩
theorem yEdges_len (l : List R4) : (yEdges l).length = 2 * l.length := by
  induction l with
  | nil => rfl
  | cons q t ih => simp [yEdges] at ih ⊢; omega
def putL : List Int → Int → List Int
  | [], n => [n]
  | x :: t, n => if x < n then x :: putL t n else if x = n then x :: t else n :: x :: t
theorem putL_mem : ∀ (l : List Int) (n k : Int), k ∈ putL l n ↔ k = n ∨ k ∈ l
  | [], n, k => by simp [putL]
  | x :: t, n, k => by
    unfold putL
    split
    · simp [putL_mem t n k]; constructor <;> (intro h; rcases h with h | h | h <;> simp [h])
    · split
      · rename_i h; simp [h]
      · simp
theorem putL_lt : ∀ (l : List Int) (n : Int), l.Pairwise (· < ·) → (putL l n).Pairwise (· < ·)
  | [], n, _ => by simp [putL]
  | x :: t, n, h => by
    obtain ⟨h1, h2⟩ := List.pairwise_cons.1 h
    unfold putL
    split
    · rename_i hx
      refine List.pairwise_cons.2 ⟨fun k hk => ?_, putL_lt t n h2⟩
      rcases (putL_mem t n k).1 hk with rfl | hk
      · exact hx
      · exact h1 k hk
    · split
      · exact h
      · rename_i h3 h4
        refine List.pairwise_cons.2 ⟨fun k hk => ?_, h⟩
        rcases List.mem_cons.1 hk with rfl | hk
        · omega
        · have := h1 k hk; omega
theorem puts_lt : ∀ (es l : List Int), l.Pairwise (· < ·) → (es.foldl putL l).Pairwise (· < ·)
  | [], l, h => h
  | e :: es, l, h => puts_lt es _ (putL_lt l e h)
theorem puts_mem : ∀ (es l : List Int) (k : Int), k ∈ es.foldl putL l ↔ k ∈ es ∨ k ∈ l
  | [], l, k => by simp
  | e :: es, l, k => by
    rw [List.foldl_cons, puts_mem es, putL_mem]
    simp only [List.mem_cons]
    constructor
    · rintro (h | h | h) <;> simp [h]
    · rintro ((h | h) | h) <;> simp [h]
theorem has_same_x {q : R4} {x z y : Int} (h1 : q.l ≤ x ∨ z < q.l) (h2 : q.r ≤ x ∨ z < q.r) (hxz : x ≤ z) : q.has z y = q.has x y := by
  unfold R4.has
  rw [show decide (q.l ≤ z) = decide (q.l ≤ x) from by simp; omega, show decide (z < q.r) = decide (x < q.r) from by simp; omega]
theorem has_same_y {q : R4} {x y z : Int} (h1 : q.b ≤ y ∨ z < q.b) (h2 : q.t ≤ y ∨ z < q.t) (hxz : y ≤ z) : q.has x z = q.has x y := by
  unfold R4.has
  rw [show decide (q.b ≤ z) = decide (q.b ≤ y) from by simp; omega, show decide (z < q.t) = decide (y < q.t) from by simp; omega]
theorem any_congr' {α : Type} {l : List α} {f g : α → Bool} (h : ∀ a ∈ l, f a = g a) : l.any f = l.any g := by
  induction l with
  | nil => rfl
  | cons a t ih => simp only [List.any_cons]; rw [h a (by simp), ih fun b hb => h b (by simp [hb])]
theorem any_false' {α : Type} {l : List α} {f : α → Bool} (h : ∀ a ∈ l, f a = false) : l.any f = false := by
  rw [any_congr' (g := fun _ => false) h]; simp
theorem inL_steady_x (l : List R4) (y : Int) (cuts : List Int) (h : ∀ q ∈ l, q.l ∈ cuts ∧ q.r ∈ cuts) : Steady (fun x => inL l x y) cuts := fun x z hx hz hk =>
  any_congr' fun q hq => has_same_x (hk _ (h q hq).1) (hk _ (h q hq).2) hz
theorem inL_steady_y (l : List R4) (x : Int) (cuts : List Int) (h : ∀ q ∈ l, q.b ∈ cuts ∧ q.t ∈ cuts) : Steady (fun y => inL l x y) cuts := fun y z hy hz hk =>
  any_congr' fun q hq => has_same_y (hk _ (h q hq).1) (hk _ (h q hq).2) hz
theorem inL_out_x (l : List R4) (y : Int) (cuts : List Int) (h : ∀ q ∈ l, q.l ∈ cuts ∧ q.r ∈ cuts) (z : Int) (hz : (∀ k ∈ cuts, z < k) ∨ ∀ k ∈ cuts, k ≤ z) : inL l z y = false :=
  any_false' fun q hq => by
    unfold R4.has
    rcases hz with hz | hz
    · have := hz _ (h q hq).1; simp; omega
    · have := hz _ (h q hq).2; simp; omega
theorem inL_out_y (l : List R4) (x : Int) (cuts : List Int) (h : ∀ q ∈ l, q.b ∈ cuts ∧ q.t ∈ cuts) (z : Int) (hz : (∀ k ∈ cuts, z < k) ∨ ∀ k ∈ cuts, k ≤ z) : inL l x z = false :=
  any_false' fun q hq => by
    unfold R4.has
    rcases hz with hz | hz
    · have := hz _ (h q hq).1; simp; omega
    · have := hz _ (h q hq).2; simp; omega
theorem segs_opt (p : Int → Bool) (cuts : List Int) (hp : cuts.Pairwise (· < ·)) (hs : Steady p cuts) (ho : ∀ z, (∀ k ∈ cuts, z < k) ∨ (∀ k ∈ cuts, k ≤ z) → p z = false) : Segs (fun x => opt (p x)) (foldC (fun x => opt (p x)) cuts []) :=
  segs_of_cuts cuts hp (Steady.adj hp fun x z hx hz hk => by rw [hs x z hx hz hk]) (fun z hz => by rw [ho z (.inl hz)]; rfl) (fun z hz => by rw [ho z (.inr hz)]; rfl)
theorem segs_none {p : Int → Bool} (h : ∀ x, p x = false) {l : List (Sg Unit)} (hl : Segs (fun x => opt (p x)) l) : l = [] :=
  hl.uniq ⟨0, fun x _ => by simp only; rw [h x]; rfl, fun x _ => by simp only; rw [h x]; rfl⟩
def rowC (how : Bool → Bool → Bool) (a b : List R4) (xs : List Int) (y : Int) : List (Sg Unit) := foldC (fun x => opt (how (inL a x y) (inL b x y))) xs []
def bandsC (how : Bool → Bool → Bool) (a b : List R4) (xs : List Int) (ys : List Int) (acc : List (Sg (List (Sg Unit)))) : List (Sg (List (Sg Unit))) := foldC (fun y => nz (rowC how a b xs y)) ys acc
def xsC (a b : List R4) : List Int := (xEdges (a ++ b)).foldl putL []
def ysC (a b : List R4) : List Int := (yEdges (a ++ b)).foldl putL []
def combP (how : Bool → Bool → Bool) (a b : List R4) : List R4 := flat (bandsC how a b (xsC a b) (ysC a b) [])
theorem comb_canon (how : Bool → Bool → Bool) (h0 : how false false = false) (a b : List R4) : Canon (fun x y => how (inL a x y) (inL b x y)) (combP how a b) := by
  have hx : ∀ q, q ∈ a ∨ q ∈ b → q.l ∈ xsC a b ∧ q.r ∈ xsC a b := by
    intro q hq
    have := xEdges_mem (l := a ++ b) (List.mem_append.2 hq)
    exact ⟨(puts_mem _ _ _).2 (.inl this.1), (puts_mem _ _ _).2 (.inl this.2)⟩
  have hy : ∀ q, q ∈ a ∨ q ∈ b → q.b ∈ ysC a b ∧ q.t ∈ ysC a b := by
    intro q hq
    have := yEdges_mem (l := a ++ b) (List.mem_append.2 hq)
    exact ⟨(puts_mem _ _ _).2 (.inl this.1), (puts_mem _ _ _).2 (.inl this.2)⟩
  have hrow : ∀ y, Segs (fun x => opt (how (inL a x y) (inL b x y))) (rowC how a b (xsC a b) y) := fun y =>
    segs_opt (fun x => how (inL a x y) (inL b x y)) _ (puts_lt _ _ List.Pairwise.nil)
      (fun x z h1 h2 h3 => by
        have e1 := inL_steady_x a y (xsC a b) (fun q hq => hx q (.inl hq)) x z h1 h2 h3
        have e2 := inL_steady_x b y (xsC a b) (fun q hq => hx q (.inr hq)) x z h1 h2 h3
        simp only at e1 e2 ⊢
        rw [e1, e2])
      (fun z hz => by rw [inL_out_x a y _ (fun q hq => hx q (.inl hq)) z hz, inL_out_x b y _ (fun q hq => hx q (.inr hq)) z hz, h0])
  refine ⟨fun y => rowC how a b (xsC a b) y, _, hrow, segs_of_cuts _ (puts_lt _ _ List.Pairwise.nil) (Steady.adj (puts_lt _ _ List.Pairwise.nil) ?_) ?_ ?_, rfl⟩
  · intro y z h1 h2 h3
    have e1 := fun x => inL_steady_y a x (ysC a b) (fun q hq => hy q (.inl hq)) y z h1 h2 h3
    have e2 := fun x => inL_steady_y b x (ysC a b) (fun q hq => hy q (.inr hq)) y z h1 h2 h3
    simp only at e1 e2
    unfold rowC
    simp only [e1, e2]
  · intro z hz
    have : rowC how a b (xsC a b) z = [] := segs_none (p := fun x => how (inL a x z) (inL b x z)) (fun x => by rw [inL_out_y a x _ (fun q hq => hy q (.inl hq)) z (.inl hz), inL_out_y b x _ (fun q hq => hy q (.inr hq)) z (.inl hz), h0]) (hrow z)
    simp only; rw [this]; rfl
  · intro z hz
    have : rowC how a b (xsC a b) z = [] := segs_none (p := fun x => how (inL a x z) (inL b x z)) (fun x => by rw [inL_out_y a x _ (fun q hq => hy q (.inl hq)) z (.inr hz), inL_out_y b x _ (fun q hq => hy q (.inr hq)) z (.inr hz), h0]) (hrow z)
    simp only; rw [this]; rfl
theorem flat_nz (bs : List (Sg (List (Sg Unit)))) : flat (bs.filterMap fun s => (nz s.2.2).map fun u => (s.1, s.2.1, u)) = flat bs := by
  induction bs with
  | nil => rfl
  | cons s t ih =>
    unfold flat at ih ⊢
    cases hs : s.2.2 with
    | nil => rw [List.filterMap_cons_none (by simp [nz, hs]), ih]; simp [hs]
    | cons p r => rw [List.filterMap_cons_some (by simp [nz, hs]; rfl), List.flatMap_cons, ih]; simp [hs]
def buildP (row : Int → List (Sg Unit)) (cuts : List Int) : List R4 := flat (foldC (fun y => some (row y)) cuts [])
theorem build_canon (P : Int → Int → Bool) (row : Int → List (Sg Unit)) (cuts : List Int) (hr : ∀ y, Segs (fun x => opt (P x y)) (row y)) (hp : cuts.Pairwise (· < ·)) (hs : ∀ x, Steady (fun y => P x y) cuts) (ho : ∀ x z, (∀ k ∈ cuts, z < k) ∨ (∀ k ∈ cuts, k ≤ z) → P x z = false) : Canon P (buildP row cuts) := by
  have hsame : ∀ y z, y ∈ cuts → y ≤ z → (∀ k ∈ cuts, k ≤ y ∨ z < k) → row z = row y := fun y z h1 h2 h3 => by
    have e : (fun x => opt (P x z)) = fun x => opt (P x y) := funext fun x => by have := hs x y z h1 h2 h3; simp only at this; rw [this]
    exact (e ▸ hr z).uniq (hr y)
  have hnone : ∀ z, (∀ k ∈ cuts, z < k) ∨ (∀ k ∈ cuts, k ≤ z) → row z = [] := fun z hz => segs_none (p := fun x => P x z) (fun x => ho x z hz) (hr z)
  obtain ⟨f, hf⟩ : ∃ f : Int → Option (List (Sg Unit)), ∀ y, f y = if (∃ k ∈ cuts, k ≤ y) ∧ (∃ k ∈ cuts, y < k) then some (row y) else none := by
    classical
    exact ⟨fun y => if (∃ k ∈ cuts, k ≤ y) ∧ (∃ k ∈ cuts, y < k) then some (row y) else none, fun y => by congr⟩
  have hadj : ∀ pre l, cuts = pre ++ l → l.Pairwise (· < ·) → (∀ a ∈ pre, ∀ b ∈ l, a < b) → Adj f (fun y => some (row y)) l := by
    intro pre l
    induction l generalizing pre with
    | nil => intros; trivial
    | cons x r ih =>
      cases r with
      | nil => intros; trivial
      | cons y r =>
        intro hc hl hpre
        obtain ⟨h1, h2⟩ := List.pairwise_cons.1 hl
        refine ⟨fun z hz hy => ?_, ih (pre ++ [x]) (by simp [hc]) h2 fun a ha b hb => ?_⟩
        · rw [hf, if_pos ⟨⟨x, by simp [hc], hz⟩, ⟨y, by simp [hc], hy⟩⟩]
          simp only
          rw [hsame x z (by simp [hc]) hz fun k hk => ?_]
          rw [hc] at hk
          rcases List.mem_append.1 hk with hk | hk
          · exact .inl (by have := hpre k hk x (by simp); omega)
          · rcases List.mem_cons.1 hk with rfl | hk
            · exact .inl (Int.le_refl _)
            · rcases List.mem_cons.1 hk with rfl | hk
              · exact .inr hy
              · exact .inr (by have := (List.pairwise_cons.1 h2).1 k hk; omega)
        · rcases List.mem_append.1 ha with ha | ha
          · exact hpre a ha b (by simp [List.mem_cons.1 hb])
          · simp at ha; subst ha; exact h1 b hb
  have h1 : Segs f (foldC (fun y => some (row y)) cuts []) := by
    refine segs_of_cuts cuts hp (hadj [] cuts rfl hp (by simp)) (fun z hz => ?_) (fun z hz => ?_)
    · rw [hf, if_neg]
      rintro ⟨⟨k, hk, h⟩, _⟩
      have := hz k hk; omega
    · rw [hf, if_neg]
      rintro ⟨_, ⟨k, hk, h⟩⟩
      have := hz k hk; omega
  refine ⟨row, _, hr, ?_, (flat_nz _).symm⟩
  have h2 := h1.bind nz nz_inj
  have e : (fun x => (f x).bind nz) = fun y => nz (row y) := funext fun y => by
    rw [hf]
    split
    · rfl
    · rename_i h
      have : row y = [] := by
        apply hnone
        rw [Classical.not_and_iff_not_or_not] at h
        rcases h with h | h
        · exact .inl fun k hk => by
            rcases Int.lt_or_le y k with h1 | h1
            · exact h1
            · exact absurd ⟨k, hk, h1⟩ h
        · exact .inr fun k hk => by
            rcases Int.lt_or_le y k with h1 | h1
            · exact absurd ⟨k, hk, h1⟩ h
            · exact h1
      rw [this]; rfl
  exact e ▸ h2
def covers (y : Int) (q : R4) : Bool := decide (q.b ≤ y) && decide (y < q.t)
def spansAt (l : List R4) (y : Int) : List (Sg Unit) := (l.filter (covers y)).map fun q => (q.l, q.r, ())
def rowP (l : List R4) (y : Int) : List (Sg Unit) := ((spansAt l y).mergeSort fun p q => decide (p.1 ≤ q.1)).foldl sweep []
theorem spansAt_any (l : List R4) (x y : Int) : (spansAt l y).any (inS · x) = inL l x y := by
  unfold spansAt inL
  rw [List.any_map, List.any_filter]
  refine any_congr' fun q _ => ?_
  simp only [covers, inS, R4.has, Function.comp]
  rw [Bool.eq_iff_iff]; simp; omega
theorem any_perm {α : Type} {l m : List α} (h : l.Perm m) (f : α → Bool) : l.any f = m.any f := by
  rw [Bool.eq_iff_iff, List.any_eq_true, List.any_eq_true]
  constructor
  · rintro ⟨a, ha, e⟩; exact ⟨a, h.mem_iff.1 ha, e⟩
  · rintro ⟨a, ha, e⟩; exact ⟨a, h.mem_iff.2 ha, e⟩
theorem row_segs (l : List R4) (y : Int) (hl : ∀ q ∈ l, q.l < q.r) (ss : List (Sg Unit)) (hp : ss.Perm (spansAt l y)) (hs : ss.Pairwise (fun a b => a.1 ≤ b.1)) : Segs (fun x => opt (inL l x y)) (ss.foldl sweep []) := by
  have h := sweep_segs ss [] (fun _ => false) (fun s hs => ?_) hs ⟨0, fun x _ => rfl, fun x _ => rfl⟩ (by simp)
  · simp only [Bool.false_or] at h
    have e : (fun x => opt (ss.any (inS · x))) = fun x => opt (inL l x y) := funext fun x => by rw [any_perm hp, spansAt_any]
    exact e ▸ h
  · have := hp.mem_iff.1 hs
    simp only [spansAt, List.mem_map, List.mem_filter] at this
    obtain ⟨q, hq, rfl⟩ := this
    exact hl q hq.1
theorem rowP_segs (l : List R4) (y : Int) (hl : ∀ q ∈ l, q.l < q.r) : Segs (fun x => opt (inL l x y)) (rowP l y) := by
  refine row_segs l y hl _ (List.mergeSort_perm _ _) ?_
  have := List.pairwise_mergeSort (le := fun p q : Sg Unit => decide (p.1 ≤ q.1)) (by intro a b c h1 h2; simp at *; omega) (by intro a b; simp; omega) (spansAt l y)
  exact this.imp fun h => by simpa using h
theorem rowP_eq (l : List R4) (y : Int) (hl : ∀ q ∈ l, q.l < q.r) (ss : List (Sg Unit)) (hp : ss.Perm (spansAt l y)) (hs : ss.Pairwise (fun a b => a.1 ≤ b.1)) : ss.foldl sweep [] = rowP l y :=
  (row_segs l y hl ss hp hs).uniq (rowP_segs l y hl)
theorem spansAt_len (l : List R4) (y : Int) : (spansAt l y).length ≤ l.length := by
  unfold spansAt; rw [List.length_map]; exact List.length_filter_le _ _
theorem rowP_len (l : List R4) (y : Int) : (rowP l y).length ≤ l.length := by
  have h1 := sweeps_len ((spansAt l y).mergeSort fun p q => decide (p.1 ≤ q.1)) []
  rw [(List.mergeSort_perm _ _).length_eq] at h1
  have h2 := spansAt_len l y
  unfold rowP
  simp at h1 ⊢
  omega
def cutsP (l : List R4) : List Int := asc (yEdges l)
theorem cutsP_mem {l : List R4} {q : R4} (h : q ∈ l) : q.b ∈ cutsP l ∧ q.t ∈ cutsP l := ⟨((asc_all _).2.1 _).2 (yEdges_mem h).1, ((asc_all _).2.1 _).2 (yEdges_mem h).2⟩
def canonP (l : List R4) : List R4 := buildP (rowP l) (cutsP l)
theorem canonP_canon (l : List R4) (hl : ∀ q ∈ l, q.l < q.r) : Canon (inL l) (canonP l) :=
  build_canon (inL l) (rowP l) (cutsP l) (fun y => rowP_segs l y hl) (asc_all _).1 (fun x => inL_steady_y l x _ fun q hq => cutsP_mem hq) (fun x z hz => inL_out_y l x _ (fun q hq => cutsP_mem hq) z hz)
def sEdges (l : List (Sg Unit)) : List Int := l.flatMap fun s => [s.1, s.2.1]
theorem sEdges_mem {l : List (Sg Unit)} {s : Sg Unit} (h : s ∈ l) : s.1 ∈ sEdges l ∧ s.2.1 ∈ sEdges l := by
  simp only [sEdges, List.mem_flatMap]
  exact ⟨⟨s, h, by simp⟩, ⟨s, h, by simp⟩⟩
def inR (l : List (Sg Unit)) (x : Int) : Bool := l.any (inS · x)
def mergeP (how : Bool → Bool → Bool) (A B : List (Sg Unit)) : List (Sg Unit) := foldC (fun x => opt (how (inR A x) (inR B x))) (asc (sEdges (A ++ B))) []
theorem inR_steady (l : List (Sg Unit)) (cuts : List Int) (h : ∀ s ∈ l, s.1 ∈ cuts ∧ s.2.1 ∈ cuts) : Steady (inR l) cuts := fun x z hx hz hk =>
  any_congr' fun s hs => by
    have h1 := hk _ (h s hs).1
    have h2 := hk _ (h s hs).2
    unfold inS
    rw [show decide (s.1 ≤ z) = decide (s.1 ≤ x) from by simp; omega, show decide (z < s.2.1) = decide (x < s.2.1) from by simp; omega]
theorem inR_out (l : List (Sg Unit)) (cuts : List Int) (h : ∀ s ∈ l, s.1 ∈ cuts ∧ s.2.1 ∈ cuts) (z : Int) (hz : (∀ k ∈ cuts, z < k) ∨ ∀ k ∈ cuts, k ≤ z) : inR l z = false :=
  any_false' fun s hs => by
    unfold inS
    rcases hz with hz | hz
    · have := hz _ (h s hs).1; simp; omega
    · have := hz _ (h s hs).2; simp; omega
theorem merge_segs (how : Bool → Bool → Bool) (h0 : how false false = false) (A B : List (Sg Unit)) : Segs (fun x => opt (how (inR A x) (inR B x))) (mergeP how A B) := by
  have hA : ∀ s, s ∈ A ∨ s ∈ B → s.1 ∈ asc (sEdges (A ++ B)) ∧ s.2.1 ∈ asc (sEdges (A ++ B)) := fun s hs => by
    have := sEdges_mem (l := A ++ B) (List.mem_append.2 hs)
    exact ⟨((asc_all _).2.1 _).2 this.1, ((asc_all _).2.1 _).2 this.2⟩
  refine segs_opt (fun x => how (inR A x) (inR B x)) _ (asc_all _).1 (fun x z h1 h2 h3 => ?_) (fun z hz => ?_)
  · simp only
    rw [inR_steady A _ (fun s hs => hA s (.inl hs)) x z h1 h2 h3, inR_steady B _ (fun s hs => hA s (.inr hs)) x z h1 h2 h3]
  · rw [inR_out A _ (fun s hs => hA s (.inl hs)) z hz, inR_out B _ (fun s hs => hA s (.inr hs)) z hz, h0]
theorem inR_row (l : List R4) (y x : Int) (hl : ∀ q ∈ l, q.l < q.r) : inR (rowP l y) x = inL l x y := by
  have h := (rowP_segs l y hl).mem x ()
  rw [opt_some] at h
  rw [Bool.eq_iff_iff, h]
  simp [inR, inS]
def chooseP (how : Bool → Bool → Bool) (a b : List R4) : List R4 := buildP (fun y => mergeP how (rowP a y) (rowP b y)) (cutsP (a ++ b))
theorem choose_canon (how : Bool → Bool → Bool) (h0 : how false false = false) (a b : List R4) (ha : ∀ q ∈ a, q.l < q.r) (hb : ∀ q ∈ b, q.l < q.r) : Canon (fun x y => how (inL a x y) (inL b x y)) (chooseP how a b) := by
  refine build_canon _ _ _ (fun y => ?_) (asc_all _).1 (fun x y z h1 h2 h3 => ?_) (fun x z hz => ?_)
  · have h := merge_segs how h0 (rowP a y) (rowP b y)
    have e : (fun x => opt (how (inR (rowP a y) x) (inR (rowP b y) x))) = fun x => opt (how (inL a x y) (inL b x y)) := funext fun x => by rw [inR_row a y x ha, inR_row b y x hb]
    exact e ▸ h
  · have e1 := inL_steady_y a x (cutsP (a ++ b)) (fun q hq => cutsP_mem (by simp [hq])) y z h1 h2 h3
    have e2 := inL_steady_y b x (cutsP (a ++ b)) (fun q hq => cutsP_mem (by simp [hq])) y z h1 h2 h3
    simp only at e1 e2 ⊢
    rw [e1, e2]
  · rw [inL_out_y a x (cutsP (a ++ b)) (fun q hq => cutsP_mem (by simp [hq])) z hz, inL_out_y b x (cutsP (a ++ b)) (fun q hq => cutsP_mem (by simp [hq])) z hz, h0]
theorem choose_comb (how : Bool → Bool → Bool) (h0 : how false false = false) (a b : List R4) (ha : ∀ q ∈ a, q.l < q.r) (hb : ∀ q ∈ b, q.l < q.r) : chooseP how a b = combP how a b :=
  (choose_canon how h0 a b ha hb).uniq (comb_canon how h0 a b)
theorem canonP_comb (l : List R4) (hl : ∀ q ∈ l, q.l < q.r) : canonP l = combP (· || ·) l [] :=
  (canonP_canon l hl).uniq ((comb_canon (· || ·) rfl l []).congr fun x y => by simp [inL])
theorem stepO_len {V : Type} [DecidableEq V] (l : List (Sg V)) (lo hi : Int) (o : Option V) : (stepO l lo hi o).length ≤ l.length + 1 := by
  unfold stepO
  cases o with
  | none => simp
  | some v =>
    simp only
    cases h : l.getLast? with
    | none => simp
    | some s =>
      simp only
      split <;> simp
theorem foldC_len {V : Type} [DecidableEq V] (g : Int → Option V) : ∀ (cuts : List Int) (acc : List (Sg V)), (foldC g cuts acc).length ≤ acc.length + (cuts.length - 1)
  | [], acc => by simp [foldC]
  | [x], acc => by simp [foldC]
  | x :: y :: r, acc => by
    have h1 := foldC_len g (y :: r) (stepO acc x y (g x))
    have h2 := stepO_len acc x y (g x)
    simp [foldC] at h1 ⊢
    omega
theorem stepO_val {V : Type} [DecidableEq V] (Q : V → Prop) (l : List (Sg V)) (lo hi : Int) (o : Option V) (hl : ∀ s ∈ l, Q s.2.2) (ho : ∀ v, o = some v → Q v) : ∀ s ∈ stepO l lo hi o, Q s.2.2 := by
  unfold stepO
  cases o with
  | none => exact hl
  | some v =>
    simp only
    have hv := ho v rfl
    cases h : l.getLast? with
    | none => simpa using hv
    | some s =>
      simp only
      split
      · intro q hq
        rcases List.mem_append.1 hq with hq | hq
        · exact hl q (List.dropLast_subset _ hq)
        · simp at hq; subst hq; exact hv
      · intro q hq
        rcases List.mem_append.1 hq with hq | hq
        · exact hl q hq
        · simp at hq; subst hq; exact hv
theorem foldC_val {V : Type} [DecidableEq V] (Q : V → Prop) (g : Int → Option V) (hg : ∀ x v, g x = some v → Q v) : ∀ (cuts : List Int) (acc : List (Sg V)), (∀ s ∈ acc, Q s.2.2) → ∀ s ∈ foldC g cuts acc, Q s.2.2
  | [], acc, h => by simpa [foldC] using h
  | [x], acc, h => by simpa [foldC] using h
  | x :: y :: r, acc, h => by
    simp only [foldC]
    exact foldC_val Q g hg (y :: r) _ (stepO_val Q acc x y (g x) h fun v hv => hg x v hv)
theorem flat_len (n : Nat) : ∀ (bs : List (Sg (List (Sg Unit)))), (∀ s ∈ bs, s.2.2.length ≤ n) → (flat bs).length ≤ bs.length * n
  | [], _ => by simp [flat]
  | s :: t, h => by
    have h1 := flat_len n t fun q hq => h q (by simp [hq])
    have h2 := h s (by simp)
    simp [flat] at h1 ⊢
    rw [Nat.add_mul]
    omega
theorem canonP_len (l : List R4) : (canonP l).length ≤ (2 * l.length - 1) * l.length := by
  have h1 := flat_len l.length (foldC (fun y => some (rowP l y)) (cutsP l) []) (foldC_val (fun v : List (Sg Unit) => v.length ≤ l.length) _ (fun x v hv => by injection hv with hv; subst hv; exact rowP_len l x) _ _ (by simp))
  have h2 := foldC_len (fun y => some (rowP l y)) (cutsP l) []
  have h3 : (cutsP l).length ≤ 2 * l.length := by rw [← yEdges_len]; exact (asc_all _).2.2
  refine Nat.le_trans h1 (Nat.mul_le_mul_right _ ?_)
  simp at h2
  omega
end Go.Proofs.YtfmkmhhghmdakaaGreatDoor
namespace Go.Proofs.YtfmkmhhghmdakaaGreatDoor
open Go.RowKit
set_option linter.unusedVariables false
set_option linter.unusedSimpArgs false
set_option maxHeartbeats 64000000
set_option maxRecDepth 100000
def R4.cells (q : R4) : List Value := [.int .i64 q.l, .int .i64 q.b, .int .i64 q.r, .int .i64 q.t]
def rCells (l : List R4) : List Value := l.flatMap R4.cells
theorem rCells_len (l : List R4) : (rCells l).length = l.length * 4 := by
  induction l with
  | nil => rfl
  | cons o r ih => simp [rCells, R4.cells] at *; omega
theorem rCells_snoc (l : List R4) (q : R4) : rCells (l ++ [q]) = rCells l ++ [.int .i64 q.l, .int .i64 q.b, .int .i64 q.r, .int .i64 q.t] := by simp [rCells, R4.cells]
theorem rCells_app (l m : List R4) : rCells (l ++ m) = rCells l ++ rCells m := by simp [rCells]
theorem rCells_at (l : List R4) (i : Nat) (h : i < l.length) : (rCells l)[i * 4]? = some (.int .i64 l[i].l) ∧ (rCells l)[i * 4 + 1]? = some (.int .i64 l[i].b) ∧ (rCells l)[i * 4 + 2]? = some (.int .i64 l[i].r) ∧ (rCells l)[i * 4 + 3]? = some (.int .i64 l[i].t) := by
  induction l generalizing i with
  | nil => simp at h
  | cons o r ih =>
    have hc : rCells (o :: r) = o.cells ++ rCells r := by simp [rCells]
    rw [hc]
    rcases i with _ | i
    · simp [R4.cells]
    · have := ih i (by simpa using h)
      have hl : o.cells.length = 4 := rfl
      refine ⟨?_, ?_, ?_, ?_⟩ <;> (rw [List.getElem?_append_right (by rw [hl]; omega), hl])
      · rw [show (i + 1) * 4 - 4 = i * 4 from by omega]; exact this.1
      · rw [show (i + 1) * 4 + 1 - 4 = i * 4 + 1 from by omega]; exact this.2.1
      · rw [show (i + 1) * 4 + 2 - 4 = i * 4 + 2 from by omega]; exact this.2.2.1
      · rw [show (i + 1) * 4 + 3 - 4 = i * 4 + 3 from by omega]; exact this.2.2.2
theorem rCells_one (l : List R4) : ∀ u ∈ rCells l, u.oneCell' = true := by
  intro u hu
  simp only [rCells, List.mem_flatMap, R4.cells] at hu
  obtain ⟨o, _, hu⟩ := hu
  simp at hu
  rcases hu with rfl | rfl | rfl | rfl <;> rfl
theorem lies_r {w : World} {A : Option Addr} {n : Nat} {l : List R4} (h : Lies w A n (rCells l)) (i : Nat) (hi : i < n) (hl : i < l.length) :
    ∃ b off, A = some ⟨b, off, none⟩ ∧ b < w.heap.size ∧ w.cell? ⟨b, off + i * 4, none⟩ = some (.int .i64 l[i].l) ∧ w.cell? ⟨b, off + i * 4 + 1, none⟩ = some (.int .i64 l[i].b) ∧ w.cell? ⟨b, off + i * 4 + 2, none⟩ = some (.int .i64 l[i].r) ∧ w.cell? ⟨b, off + i * 4 + 3, none⟩ = some (.int .i64 l[i].t) := by
  obtain ⟨b, off, e, hb, hc⟩ := h.resolve_left (by omega)
  obtain ⟨h0, h1, h2, h3⟩ := rCells_at l i hl
  exact ⟨b, off, e, hb, hc _ _ h0, hc _ _ h1, hc _ _ h2, hc _ _ h3⟩
structure SlR (w : World) (A : Option Addr) (n c : Nat) (l : List R4) : Prop where
  len : l.length = n
  cap : n ≤ c
  top : c ≤ maxLen
  lies : Lies w A n (rCells l)
theorem SlR.below {w w' : World} {A : Option Addr} {n c : Nat} {l : List R4} (h : SlR w A n c l) (hb : Below w.heap.size w w') : SlR w' A n c l := ⟨h.len, h.cap, h.top, h.lies.below hb⟩
theorem SlR.alloc {w : World} {A : Option Addr} {n c : Nat} {l : List R4} (h : SlR w A n c l) (o : Obj) : SlR (w.alloc o) A n c l := ⟨h.len, h.cap, h.top, h.lies.alloc o⟩
theorem SlR.nil (w : World) : SlR w none 0 0 [] := ⟨rfl, Nat.le_refl _, Nat.zero_le _, .inl rfl⟩
theorem SlR.of_own {w : World} {base : Nat} {v : Value} {l : List R4} (h : w.ownsRow base 68 4 v l.length (rCells l)) : ∃ A c, v = .slice A l.length c ∧ SlR w A l.length c l := by
  obtain ⟨A, c, rfl, h1, h2, h3⟩ := own_slice h
  exact ⟨A, c, rfl, rfl, h2, h3, h1⟩
structure SlI (w : World) (A : Option Addr) (n c : Nat) (l : List Int) : Prop where
  len : l.length = n
  cap : n ≤ c
  top : c ≤ maxLen
  lies : Lies w A n (l.map (.int .i64))
theorem SlI.below {w w' : World} {A : Option Addr} {n c : Nat} {l : List Int} (h : SlI w A n c l) (hb : Below w.heap.size w w') : SlI w' A n c l := ⟨h.len, h.cap, h.top, h.lies.below hb⟩
theorem SlI.nil (w : World) : SlI w none 0 0 [] := ⟨rfl, Nat.le_refl _, Nat.zero_le _, .inl rfl⟩
theorem SlI.of_own {w : World} {base : Nat} {v : Value} {l : List Int} (h : w.ownsRow base 3 1 v l.length (l.map (.int .i64))) : ∃ A c, v = .slice A l.length c ∧ SlI w A l.length c l := by
  obtain ⟨A, c, rfl, h1, h2, h3⟩ := own_slice h
  exact ⟨A, c, rfl, rfl, h2, h3, h1⟩
theorem SlI.at {w : World} {A : Option Addr} {n c : Nat} {l : List Int} (h : SlI w A n c l) (i : Nat) (hi : i < l.length) : ∃ b off, A = some ⟨b, off, none⟩ ∧ b < w.heap.size ∧ w.cell? ⟨b, off + i, none⟩ = some (.int .i64 l[i]) := by
  obtain ⟨b, off, e, hb, hc⟩ := h.lies.resolve_left (by have := h.len; omega)
  exact ⟨b, off, e, hb, hc i _ (by simp [hi])⟩
theorem SlR.at {w : World} {A : Option Addr} {n c : Nat} {l : List R4} (h : SlR w A n c l) (i : Nat) (hi : i < l.length) :
    ∃ b off, A = some ⟨b, off, none⟩ ∧ b < w.heap.size ∧ w.cell? ⟨b, off + i * 4, none⟩ = some (.int .i64 l[i].l) ∧ w.cell? ⟨b, off + i * 4 + 1, none⟩ = some (.int .i64 l[i].b) ∧ w.cell? ⟨b, off + i * 4 + 2, none⟩ = some (.int .i64 l[i].r) ∧ w.cell? ⟨b, off + i * 4 + 3, none⟩ = some (.int .i64 l[i].t) :=
  lies_r h.lies i (by have := h.len; omega) hi
theorem rGuard (w : World) (x y : Operand) (op : BinOp) (xs ys : Array Value) : (eqGuard op 68 x y (.agg xs) (.agg ys)).run Tryz.prog w = .ok () w := run_eqGuard_agg w op _ x y xs ys (by kernel_rfl)
theorem rFields : Tryz.prog.fieldsOf 68 = #[{ name := "Left", type := 3, offset := 0, embedded := false, tag := "", pkgPath := "", byteOffset := 0 }, { name := "Low", type := 3, offset := 1, embedded := false, tag := "", pkgPath := "", byteOffset := 8 }, { name := "Right", type := 3, offset := 2, embedded := false, tag := "", pkgPath := "", byteOffset := 16 }, { name := "High", type := 3, offset := 3, embedded := false, tag := "", pkgPath := "", byteOffset := 24 }] := by kernel_rfl
def rEq (a b c d a' b' c' d' : Int) : Bool := a == a' && (b == b' && (c == c' && d == d'))
theorem rEqualIn (w : World) (k : Nat) (a b c d a' b' c' d' : Int) : (Op.equalIn (k + 2) 68 (.agg #[.int .i64 a, .int .i64 b, .int .i64 c, .int .i64 d]) (.agg #[.int .i64 a', .int .i64 b', .int .i64 c', .int .i64 d'])).run Tryz.prog w = .ok (rEq a b c d a' b' c' d') w := by
  have ci : Tryz.prog.cellsOf 3 = 1 := by kernel_rfl
  have h3 : ∀ (x y : Int) (w : World), (Op.equalIn (k + 1) 3 (.int .i64 x) (.int .i64 y)).run Tryz.prog w = .ok (x == y) w := fun x y w => run_equalIn_int w k 3 .i64 .i64 x y Tryz.underlying3
  rw [run_equalIn_agg w (k + 1) _ _ _ (by kernel_rfl) (by kernel_rfl), rFields]
  unfold rEq
  cases h1 : a == a' <;> cases h2 : b == b' <;> cases h4 : c == c' <;> cases h5 : d == d' <;> simp [Op.eqFields, go_sem, h3, h1, h2, h4, h5]
theorem r_neq (w : World) (a b c d a' b' c' d' : Int) : (binOp .neq 68 (.agg #[.int .i64 a, .int .i64 b, .int .i64 c, .int .i64 d]) (.agg #[.int .i64 a', .int .i64 b', .int .i64 c', .int .i64 d'])).run Tryz.prog w = .ok (.bool (!(rEq a b c d a' b' c' d'))) w := by
  rw [run_neq_struct, rEqualIn w 9998]
  rfl
theorem rEq_iff (o p : R4) : rEq o.l o.b o.r o.t p.l p.b p.r p.t = true ↔ o = p := by
  cases o; cases p; simp [rEq]
theorem Tryz.infoInt : (Tryz.prog.info? 3).map (fun i => (i.zero, i.size, i.bytes)) = some (some (.int .i64 0), 1, 8) := by kernel_rfl
theorem Tryz.infoRect : (Tryz.prog.info? 68).map (fun i => (i.zero, i.size, i.bytes)) = some (some (.agg #[.int .i64 0, .int .i64 0, .int .i64 0, .int .i64 0]), 4, 32) := by kernel_rfl
def R4.ok (q : R4) : Bool := decide (0 ≤ q.l) && decide (q.l < q.r) && decide (q.r ≤ 16384) && decide (0 ≤ q.b) && decide (q.b < q.t) && decide (q.t ≤ 16384)
theorem R4.ok_iff (q : R4) : q.ok = true ↔ 0 ≤ q.l ∧ q.l < q.r ∧ q.r ≤ 16384 ∧ 0 ≤ q.b ∧ q.b < q.t ∧ q.t ≤ 16384 := by
  simp [R4.ok]; omega
theorem inL_take_succ (l : List R4) (k : Nat) (h : k < l.length) (x y : Int) : inL (l.take (k + 1)) x y = (inL (l.take k) x y || l[k].has x y) := by
  unfold inL
  rw [List.take_succ_eq_append_getElem h, List.any_append, List.any_cons, List.any_nil, Bool.or_false]
end Go.Proofs.YtfmkmhhghmdakaaGreatDoor
namespace Go.Proofs.YtfmkmhhghmdakaaGreatDoor
set_option maxHeartbeats 64000000
set_option maxRecDepth 100000
set_option linter.unusedVariables false
def lr (l : List R4) : List (Int × Int) := l.map fun q => (q.l, q.r)
def bandR (y y' : Int) (v : List (Sg Unit)) : List R4 := v.map fun s => ⟨s.1, y, s.2.1, y'⟩
theorem flat_one (B : Sg (List (Sg Unit))) : flat [B] = bandR B.1 B.2.1 B.2.2 := by simp [flat, bandR]
theorem flat_app (a b : List (Sg (List (Sg Unit)))) : flat (a ++ b) = flat a ++ flat b := by simp [flat]
theorem lr_band (y y' : Int) (v : List (Sg Unit)) : lr (bandR y y' v) = v.map fun s => (s.1, s.2.1) := by simp [lr, bandR]
theorem lr_inj {y y' z z' : Int} : ∀ {v u : List (Sg Unit)}, lr (bandR y y' v) = lr (bandR z z' u) → v = u
  | [], [], _ => rfl
  | [], s :: t, h => by simp [lr, bandR] at h
  | s :: t, [], h => by simp [lr, bandR] at h
  | s :: t, s' :: t', h => by
    have ⟨h1, h2⟩ : ((s.1 = s'.1 ∧ s.2.1 = s'.2.1) ∧ lr (bandR y y' t) = lr (bandR z z' t')) := by simpa [lr, bandR] using h
    rw [lr_inj h2, show s = s' from Prod.ext h1.1 (Prod.ext h1.2 rfl)]
theorem nz_cons {V : Type} {v : List V} (h : v ≠ []) : nz v = some v := by
  unfold nz
  rw [if_neg]
  intro h1
  exact h (List.isEmpty_iff.1 h1)
structure OutSt (acc : List (Sg (List (Sg Unit)))) (y : Int) (out last : List R4) : Prop where
  le : ∀ s ∈ acc, s.2.1 ≤ y
  st : (last = [] ∧ out = flat acc ∧ ∀ s, acc.getLast? = some s → s.2.1 ≠ y) ∨ ∃ acc0 B, acc = acc0 ++ [B] ∧ out = flat acc0 ∧ last = flat [B] ∧ B.2.1 = y ∧ B.2.2 ≠ []
theorem OutSt.start (y : Int) : OutSt [] y [] [] := ⟨by simp, .inl ⟨rfl, rfl, by simp⟩⟩
theorem OutSt.done {acc : List (Sg (List (Sg Unit)))} {y : Int} {out last : List R4} (h : OutSt acc y out last) : out ++ last = flat acc := by
  rcases h.st with ⟨rfl, rfl, _⟩ | ⟨acc0, B, rfl, rfl, rfl, _, _⟩
  · simp
  · rw [flat_app]
theorem OutSt.high {acc : List (Sg (List (Sg Unit)))} {y : Int} {out last : List R4} (h : OutSt acc y out last) : ∀ q ∈ last, q.t = y := by
  rcases h.st with ⟨rfl, rfl, _⟩ | ⟨acc0, B, rfl, rfl, rfl, h1, _⟩
  · simp
  · rw [flat_one]
    intro q hq
    simp only [bandR, List.mem_map] at hq
    obtain ⟨s, _, rfl⟩ := hq
    exact h1
theorem OutSt.ext {acc : List (Sg (List (Sg Unit)))} {y y' : Int} {out last : List R4} {v : List (Sg Unit)} (h : OutSt acc y out last) (hl : last ≠ []) (hlr : lr last = lr (bandR y y' v)) (hy : y < y') : OutSt (stepO acc y y' (nz v)) y' out (last.map fun q => ⟨q.l, q.b, q.r, y'⟩) := by
  rcases h.st with ⟨rfl, _⟩ | ⟨acc0, B, rfl, rfl, rfl, h1, h2⟩
  · exact absurd rfl hl
  · rw [flat_one] at hlr
    have hv := lr_inj hlr
    subst hv
    have e1 : stepO (acc0 ++ [B]) y y' (nz B.2.2) = acc0 ++ [(B.1, y', B.2.2)] := by rw [nz_cons h2]; simp [stepO, h1]
    rw [e1]
    refine ⟨fun s hs => ?_, .inr ⟨acc0, _, rfl, rfl, ?_, rfl, h2⟩⟩
    · rcases List.mem_append.1 hs with hs | hs
      · have := h.le s (by simp [hs]); omega
      · simp at hs; subst hs; exact Int.le_refl _
    · rw [flat_one, flat_one]; simp [bandR]
theorem OutSt.push {acc : List (Sg (List (Sg Unit)))} {y y' : Int} {out last : List R4} {v : List (Sg Unit)} (h : OutSt acc y out last) (hn : ¬ (last ≠ [] ∧ lr last = lr (bandR y y' v))) (hy : y < y') : OutSt (stepO acc y y' (nz v)) y' (out ++ last) (bandR y y' v) := by
  rw [h.done]
  by_cases hv : v = []
  · subst hv
    refine ⟨fun s hs => by have := h.le s hs; omega, .inl ⟨rfl, rfl, fun s hs => ?_⟩⟩
    have := h.le s (List.mem_of_getLast? hs)
    omega
  · have hnew : stepO acc y y' (nz v) = acc ++ [(y, y', v)] := by
      rw [nz_cons hv]
      cases hs : acc.getLast? with
      | none =>
        have : acc = [] := List.getLast?_eq_none_iff.1 hs
        subst this; rfl
      | some s =>
        simp only [stepO, hs]
        rw [if_neg]
        rintro ⟨h1, h2⟩
        rcases h.st with ⟨_, _, h3⟩ | ⟨acc0, B, rfl, rfl, rfl, h3, h4⟩
        · exact h3 s hs h1
        · have e : B = s := by simpa using hs
          subst e
          refine hn ⟨?_, ?_⟩
          · rw [flat_one]; intro h5; exact h4 (by simpa [bandR] using h5)
          · rw [flat_one, lr_band, lr_band, h2]
    rw [hnew]
    refine ⟨fun s hs => ?_, .inr ⟨acc, _, rfl, rfl, by rw [flat_one], rfl, hv⟩⟩
    rcases List.mem_append.1 hs with hs | hs
    · have := h.le s hs; omega
    · simp at hs; subst hs; exact Int.le_refl _
theorem foldC_drop {V : Type} [DecidableEq V] (g : Int → Option V) (l : List Int) (i : Nat) (h : i + 1 < l.length) (acc : List (Sg V)) : foldC g (l.drop i) acc = foldC g (l.drop (i + 1)) (stepO acc l[i] l[i + 1] (g l[i])) := by
  rw [List.drop_eq_getElem_cons (show i < l.length by omega), List.drop_eq_getElem_cons h]
  rfl
theorem foldC_end {V : Type} [DecidableEq V] (g : Int → Option V) (l : List Int) (i : Nat) (h : l.length ≤ i + 1) (acc : List (Sg V)) : foldC g (l.drop i) acc = acc := by
  rcases Nat.lt_or_ge i l.length with h1 | h1
  · rw [List.drop_eq_getElem_cons h1, List.drop_eq_nil_of_le (by omega)]; rfl
  · rw [List.drop_eq_nil_of_le h1]; rfl
theorem step_band_ext (y y' lo hi : Int) (acc : List (Sg Unit)) (s : Sg Unit) (h : s.2.1 = lo) : stepO (acc ++ [s]) lo hi (some ()) = acc ++ [(s.1, hi, ())] := by
  simp [stepO, h]
theorem step_band_new (lo hi : Int) (acc : List (Sg Unit)) (h : ∀ s, acc.getLast? = some s → s.2.1 ≠ lo) : stepO acc lo hi (some ()) = acc ++ [(lo, hi, ())] := by
  unfold stepO
  cases hs : acc.getLast? with
  | none =>
    have : acc = [] := List.getLast?_eq_none_iff.1 hs
    subst this; simp
  | some s =>
    simp only
    rw [if_neg (fun h1 => h s hs h1.1)]
theorem bandR_snoc (y y' : Int) (v : List (Sg Unit)) (s : Sg Unit) : bandR y y' (v ++ [s]) = bandR y y' v ++ [⟨s.1, y, s.2.1, y'⟩] := by simp [bandR]
theorem bandR_len (y y' : Int) (v : List (Sg Unit)) : (bandR y y' v).length = v.length := by simp [bandR]
def xsOf (l : List R4) : List Int := (xEdges l).foldl putL []
def ysOf (l : List R4) : List Int := (yEdges l).foldl putL []
theorem xsOf_snoc (l : List R4) (q : R4) : xsOf (l ++ [q]) = putL (putL (xsOf l) q.l) q.r := by simp [xsOf, xEdges, List.foldl_append]
theorem ysOf_snoc (l : List R4) (q : R4) : ysOf (l ++ [q]) = putL (putL (ysOf l) q.b) q.t := by simp [ysOf, yEdges, List.foldl_append]
theorem putL_ne (l : List Int) (v : Int) : putL l v ≠ [] := by
  intro h
  have := (putL_mem l v v).2 (.inl rfl)
  rw [h] at this
  cases this
theorem putL_len (l : List Int) (v : Int) : (putL l v).length ≤ l.length + 1 := by
  induction l with
  | nil => simp [putL]
  | cons x t ih =>
    unfold putL
    split
    · simp; omega
    · split <;> simp
theorem puts_len (es l : List Int) : (es.foldl putL l).length ≤ l.length + es.length := by
  induction es generalizing l with
  | nil => simp
  | cons e es ih => have h1 := ih (putL l e); have h2 := putL_len l e; simp at h1 ⊢; omega
theorem xEdges_len (l : List R4) : (xEdges l).length = 2 * l.length := by
  induction l with
  | nil => rfl
  | cons q t ih => simp [xEdges] at ih ⊢; omega
theorem xsOf_len (l : List R4) : (xsOf l).length ≤ 2 * l.length := by have := puts_len (xEdges l) []; rw [xEdges_len] at this; simpa [xsOf] using this
theorem ysOf_len (l : List R4) : (ysOf l).length ≤ 2 * l.length := by have := puts_len (yEdges l) []; rw [yEdges_len] at this; simpa [ysOf] using this
theorem xsOf_lt (l : List R4) : (xsOf l).Pairwise (· < ·) := puts_lt _ _ List.Pairwise.nil
theorem ysOf_lt (l : List R4) : (ysOf l).Pairwise (· < ·) := puts_lt _ _ List.Pairwise.nil
theorem lt_next {l : List Int} (h : l.Pairwise (· < ·)) (i : Nat) (hi : i + 1 < l.length) : l[i] < l[i + 1] := List.pairwise_iff_getElem.1 h i (i + 1) (by omega) hi (by omega)
end Go.Proofs.YtfmkmhhghmdakaaGreatDoor
namespace Go.Proofs.YtfmkmhhghmdakaaGreatDoor
open Go.RowKit
set_option linter.unusedVariables false
set_option linter.unusedSimpArgs false
set_option maxHeartbeats 64000000
set_option maxRecDepth 100000
theorem properR_any (q : R4) (w : World) :
    Calls Tryz.prog 183 #[.agg #[.int .i64 q.l, .int .i64 q.b, .int .i64 q.r, .int .i64 q.t]] w fun e w' => e = .returned (.bool q.ok) ∧ Below w.heap.size w w' := by
  go_enter Tryz.func183, Tryz.ntmps183
  go_wp2
  all_goals
    go_ret
    exact ⟨ret_bool (by simp [R4.ok]; omega), gBel⟩
theorem insideR_any (A : Option Addr) (n c : Nat) (l : List R4) (x y : Int) (w : World) (h : SlR w A n c l) :
    Calls Tryz.prog 129 #[.slice A n c, .int .i64 x, .int .i64 y] w fun e w' => e = .returned (.bool (inL l x y)) ∧ Below w.heap.size w w' := by
  have hn := h.len
  have hc := h.cap
  have hm := h.top
  unfold maxLen at hm
  have H := Lib.hid h
  clear h
  go_enter Tryz.func129, Tryz.ntmps129
  go_wp2
  go_loopw [8, 11] (fun _ i wr => ∃ k : Nat, k ≤ n ∧ i = .int .i64 (k : Int) ∧ Hid (inL (l.take k) x y = false) ∧ Below w.heap.size w wr) (fun _ i _ => n - (intOf i).toNat)
  case atStart => exact ⟨0, Nat.zero_le _, rfl, Lib.hid rfl, Below.refl _ _⟩
  case round =>
    obtain ⟨k, hk, rfl, hf, hbw⟩ := hrel
    have hsz := hbw.size
    by_cases hkn : k < n
    · have hl : k < l.length := by omega
      obtain ⟨b, off, rfl, hbl, c0, c1, c2, c3⟩ := (H.out.below hbw).at k hl
      have Hs := Lib.hid (inL_take_succ l k hl x y)
      have Hin : Hid (l[k].has x y = true → inL l x y = true) := fun h => by
        unfold inL
        rw [List.any_eq_true]
        exact ⟨l[k], List.getElem_mem hl, h⟩
      have Hh : Hid (l[k].has x y = (decide (l[k].l ≤ x) && decide (x < l[k].r) && decide (l[k].b ≤ y) && decide (y < l[k].t))) := Lib.hid rfl
      generalize l[k] = q at *
      generalize q.has x y = hv at *
      go_wp2
      all_goals first
        | (go_roundw
           case rel => exact ⟨k + 1, by omega, by go_num, (by show inL (l.take (k + 1)) x y = false; rw [Hs.out, hf.out, Hh.out]; simp; omega), gBelo⟩
           case measure => simp [intOf]; omega)
        | (go_ret
           exact ⟨by rw [Hin.out (by rw [Hh.out]; simp; omega)]; rfl, gBelo⟩)
    · have e1 : Hid (inL l x y = false) := by
        have := hf.out
        rw [List.take_of_length_le (by omega)] at this
        exact this
      go_wp2
      go_ret
      exact ⟨by rw [e1.out]; rfl, hbw⟩
def howR (k : Int) (a b : Bool) : Bool := if k = 1 then a || b else if k = 2 then a && b else a && !b
theorem howR_no (k : Int) : howR k false false = false := by unfold howR; split <;> (try split) <;> rfl
theorem keepR_any (a b : Bool) (k : Int) (w : World) :
    Calls Tryz.prog 128 #[.bool a, .bool b, .int .i64 k] w fun e w' => e = .returned (.bool (howR k a b)) ∧ w = w' := by
  unfold howR
  by_cases h1 : k = 1
  · subst h1
    rw [if_pos rfl]
    cases a <;> cases b <;> (go_enter Tryz.func128, Tryz.ntmps128; go_wp2; go_ret; exact ⟨rfl, rfl⟩)
  · rw [if_neg h1]
    by_cases h2 : k = 2
    · subst h2
      rw [if_pos rfl]
      cases a <;> cases b <;> (go_enter Tryz.func128, Tryz.ntmps128; go_wp2; go_ret; exact ⟨rfl, rfl⟩)
    · rw [if_neg h2]
      cases a <;> cases b <;> (go_enter Tryz.func128, Tryz.ntmps128; go_wp2; go_ret; exact ⟨rfl, rfl⟩)
theorem boundR_big (A : Option Addr) (n c : Nat) (w : World) (h : 120 < n) :
    Calls Tryz.prog 184 #[.slice A n c] w fun e w' => e = .returned (.tuple #[.agg #[.slice none 0 0], .int .i64 1]) ∧ Below w.heap.size w w' := by
  have h' : (120 : Int) < (n : Int) := by omega
  go_enter Tryz.func184, Tryz.ntmps184
  go_wp2
  refine bodyPost_ret (v := .tuple #[.agg #[.slice none 0 0], .int .i64 1]) (by simp [results, Tryz.results184, go_sem, *]) rfl ?_
  exact ⟨rfl, gBel⟩
theorem boundR_ok (A : Option Addr) (n c : Nat) (w : World) (h : n ≤ 120) :
    Calls Tryz.prog 184 #[.slice A n c] w fun e w' => e = .returned (.tuple #[.agg #[.slice A n c], .int .i64 0]) ∧ Below w.heap.size w w' := by
  have h' : ¬ (120 : Int) < (n : Int) := by omega
  go_enter Tryz.func184, Tryz.ntmps184
  go_wp2
  refine bodyPost_ret (v := .tuple #[.agg #[.slice A n c], .int .i64 0]) (by simp [results, Tryz.results184, go_sem, *]) rfl ?_
  exact ⟨rfl, gBel⟩
theorem rectsR_any (A B : Option Addr) (n c m d : Nat) (l k : List R4) (w : World) (hA : SlR w A n c l) (hB : SlR w B m d k) :
    Calls Tryz.prog 210 #[.slice A n c, .slice B m d] w fun e w' => e = .returned (.bool (decide (l = k))) ∧ Below w.heap.size w w' := by
  have hx := hA.len
  have hy := hB.len
  have hn := Nat.le_trans hA.cap hA.top
  have hm := Nat.le_trans hB.cap hB.top
  unfold maxLen at hn hm
  have HA := Lib.hid hA
  have HB := Lib.hid hB
  clear hA hB
  by_cases hnm : n = m
  · subst hnm
    go_enter Tryz.func210, Tryz.ntmps210
    go_wp2
    go_loopw [5, 13] (fun _ i wr => ∃ j : Nat, j ≤ n ∧ i = .int .i64 (j : Int) ∧ Hid (l.take j = k.take j) ∧ Below w.heap.size w wr) (fun _ i _ => n - (intOf i).toNat)
    case atStart => exact ⟨0, Nat.zero_le _, rfl, Lib.hid rfl, Below.refl _ _⟩
    case round =>
      obtain ⟨j, hj, rfl, Heq, hbw⟩ := hrel
      by_cases hjn : j < n
      · have hl1 : j < l.length := by omega
        have hl2 : j < k.length := by omega
        obtain ⟨b, off, rfl, hbl, c0, c1, c2, c3⟩ := (HA.out.below hbw).at j hl1
        obtain ⟨b', off', rfl, hbl', d0, d1, d2, d3⟩ := (HB.out.below hbw).at j hl2
        have hj1 : (j : Int) < (n : Int) := by omega
        have hj0 : (0 : Int) ≤ (j : Int) := by omega
        have Hstep : Hid (l[j] = k[j] → l.take (j + 1) = k.take (j + 1)) := by
          intro h
          have t1 := List.take_succ_eq_append_getElem hl1
          have t2 := List.take_succ_eq_append_getElem hl2
          rw [t1, t2, Heq.out, h]
        have Hlk : Hid (l = k → l[j] = k[j]) := fun h => by subst h; rfl
        have Ho := Lib.hid (rEq_iff l[j] k[j])
        have hnq := r_neq
        have hgd := rGuard
        generalize l[j] = o at *
        generalize k[j] = p at *
        by_cases hop : o = p
        · have hob : rEq o.l o.b o.r o.t p.l p.b p.r p.t = true := Ho.out.2 hop
          have Hop := Lib.hid hop
          clear hop
          go_wp2
          go_quiet (fail)
          go_wp2
          go_roundw
          case rel => exact ⟨j + 1, by omega, by go_num, Hstep.out Hop.out, below_drewN hbw _⟩
          case measure => simp [intOf]; omega
        · have hob : rEq o.l o.b o.r o.t p.l p.b p.r p.t = false := by
            cases h : rEq o.l o.b o.r o.t p.l p.b p.r p.t
            · rfl
            · exact absurd (Ho.out.1 h) hop
          have Hop := Lib.hid hop
          clear hop
          go_wp2
          go_quiet (fail)
          go_wp2
          go_ret
          exact ⟨ret_bool (by simp; intro h; exact Hop.out (Hlk.out h)), below_drewN hbw _⟩
      · have e1 : l.take j = l := List.take_of_length_le (by omega)
        have e2 : k.take j = k := List.take_of_length_le (by omega)
        have Hlk : Hid (l = k) := by have := Heq.out; rw [e1, e2] at this; exact this
        clear e1 e2
        go_wp2
        go_ret
        exact ⟨by rw [Hlk.out]; simp, hbw⟩
  · go_enter Tryz.func210, Tryz.ntmps210
    go_wp2
    go_ret
    exact ⟨ret_bool (by simp; intro e; rw [e] at hx; omega), Below.refl _ _⟩
theorem sameR_any (A B : Option Addr) (n c m d : Nat) (l k : List R4) (w : World) (hA : SlR w A n c l) (hB : SlR w B m d k) :
    Calls Tryz.prog 130 #[.slice A n c, .slice B m d] w fun e w' => e = .returned (.bool (decide (lr l = lr k))) ∧ Below w.heap.size w w' := by
  have hx := hA.len
  have hy := hB.len
  have hn := Nat.le_trans hA.cap hA.top
  have hm := Nat.le_trans hB.cap hB.top
  unfold maxLen at hn hm
  have HA := Lib.hid hA
  have HB := Lib.hid hB
  clear hA hB
  by_cases hnm : n = m
  · subst hnm
    go_enter Tryz.func130, Tryz.ntmps130
    go_wp2
    go_loopw [5, 13] (fun _ i wr => ∃ j : Nat, j ≤ n ∧ i = .int .i64 (j : Int) ∧ Hid (lr (l.take j) = lr (k.take j)) ∧ Below w.heap.size w wr) (fun _ i _ => n - (intOf i).toNat)
    case atStart => exact ⟨0, Nat.zero_le _, rfl, Lib.hid rfl, Below.refl _ _⟩
    case round =>
      obtain ⟨j, hj, rfl, Heq, hbw⟩ := hrel
      by_cases hjn : j < n
      · have hl1 : j < l.length := by omega
        have hl2 : j < k.length := by omega
        obtain ⟨b, off, rfl, hbl, c0, c1, c2, c3⟩ := (HA.out.below hbw).at j hl1
        obtain ⟨b', off', rfl, hbl', d0, d1, d2, d3⟩ := (HB.out.below hbw).at j hl2
        have hj1 : (j : Int) < (n : Int) := by omega
        have hj0 : (0 : Int) ≤ (j : Int) := by omega
        have Hstep : Hid (l[j].l = k[j].l → l[j].r = k[j].r → lr (l.take (j + 1)) = lr (k.take (j + 1))) := by
          intro h h'
          have t1 := List.take_succ_eq_append_getElem hl1
          have t2 := List.take_succ_eq_append_getElem hl2
          have := Heq.out
          unfold lr at *
          rw [t1, t2, List.map_append, List.map_append, this]
          simp [h, h']
        have Hlk : Hid (lr l = lr k → l[j].l = k[j].l ∧ l[j].r = k[j].r) := fun h => by
          have := congrArg (fun z => z[j]?) h
          simp [lr, hl1, hl2] at this
          exact this
        generalize l[j] = o at *
        generalize k[j] = p at *
        by_cases h1 : o.l = p.l
        · by_cases h2 : o.r = p.r
          · have H1 := Lib.hid h1
            have H2 := Lib.hid h2
            rw [h1] at c0
            rw [h2] at c2
            clear h1 h2
            go_wp2
            go_quiet (fail)
            go_wp2
            go_roundw
            case rel => exact ⟨j + 1, by omega, by go_num, Hstep.out H1.out H2.out, below_drewN hbw _⟩
            case measure => simp [intOf]; omega
          · rw [h1] at c0
            have H2 := Lib.hid h2
            go_wp2
            go_quiet (fail)
            go_wp2
            go_ret
            exact ⟨ret_bool (by simp; intro h; exact H2.out (Hlk.out h).2), below_drewN hbw _⟩
        · have H1 := Lib.hid h1
          go_wp2
          go_quiet (fail)
          go_wp2
          go_ret
          exact ⟨ret_bool (by simp; intro h; exact H1.out (Hlk.out h).1), below_drewN hbw _⟩
      · have e1 : l.take j = l := List.take_of_length_le (by omega)
        have e2 : k.take j = k := List.take_of_length_le (by omega)
        have Hlk : Hid (lr l = lr k) := by have := Heq.out; rw [e1, e2] at this; exact this
        clear e1 e2
        go_wp2
        go_ret
        exact ⟨by rw [Hlk.out]; simp, hbw⟩
  · go_enter Tryz.func130, Tryz.ntmps130
    go_wp2
    go_ret
    exact ⟨ret_bool (by simp; intro e; have := congrArg List.length e; simp [lr] at this; omega), Below.refl _ _⟩
theorem putL_split : ∀ (l : List Int) (v : Int) (k : Nat), k ≤ l.length → (∀ j, j < k → ∀ x, l[j]? = some x → x < v) → (∀ x, l[k]? = some x → v < x) → putL l v = l.take k ++ v :: l.drop k
  | [], v, k, hk, _, _ => by
    obtain rfl : k = 0 := by simpa using hk
    rfl
  | x :: t, v, 0, _, _, h => by
    have := h x rfl
    unfold putL
    rw [if_neg (by omega), if_neg (by omega)]
    rfl
  | x :: t, v, k + 1, hk, h1, h2 => by
    have := h1 0 (by omega) x rfl
    unfold putL
    rw [if_pos this, putL_split t v k (by simpa using hk) (fun j hj y hy => h1 (j + 1) (by omega) y hy) (fun y hy => h2 y hy)]
    rfl
theorem putL_same : ∀ (l : List Int) (v : Int) (k : Nat), (∀ j, j < k → ∀ x, l[j]? = some x → x < v) → l[k]? = some v → putL l v = l
  | [], v, k, _, h => by simp at h
  | x :: t, v, 0, _, h => by
    have : x = v := by simpa using h
    unfold putL
    rw [if_neg (by omega), if_pos this]
  | x :: t, v, k + 1, h1, h2 => by
    have := h1 0 (by omega) x rfl
    unfold putL
    rw [if_pos this, putL_same t v k (fun j hj y hy => h1 (j + 1) (by omega) y hy) h2]
theorem news_any (w : World) (cs : Array Value) (t : TypeId) (j : Nat) (u : Value) (hu : cs.toList[j]? = some u) : (w.alloc (.cells cs t)).cell? ((⟨w.heap.size, 0, none⟩ : Addr).add j) = some u :=
  World.news_of_block (heap_alloc_new w (.cells cs t)) j u hu
theorem SlI.cast {w : World} {A : Option Addr} {n m c : Nat} {l : List Int} (h : SlI w A n c l) (e : n = m) : SlI w A m c l := e ▸ h
theorem reads_take {w : World} {b off n k : Nat} {l : List Int} (h : Reads w w.heap.size 1 (some ⟨b, off, none⟩) n (l.map (.int .i64))) (hk : k ≤ n) : Reads w w.heap.size 1 (some ⟨b, off, none⟩) k ((l.take k).map (.int .i64)) := by
  refine ⟨by have := h.1; simp at this ⊢; omega, fun hk0 => ?_⟩
  obtain ⟨ad, e, h1, h2⟩ := h.2 (by omega)
  refine ⟨ad, e, h1, fun j u hu => h2 j u ?_⟩
  rw [List.map_take, List.getElem?_take] at hu
  split at hu
  · exact hu
  · cases hu
theorem reads_drop {w : World} {b off n k c : Nat} {l : List Int} (h : Reads w w.heap.size 1 (some ⟨b, off, none⟩) n (l.map (.int .i64))) (hk : k ≤ n) (hc : n ≤ c) : Reads w w.heap.size 1 (if c = k then some ⟨b, off, none⟩ else some ⟨b, off + k, none⟩) (n - k) ((l.drop k).map (.int .i64)) := by
  have h1 := h.cut (k := k) (cap := c) hk hc
  simp only [Nat.mul_one, Option.map_some, add_none] at h1
  rw [List.map_drop]
  exact h1
def IntsPost (w : World) (l : List Int) (e : Ending) (w' : World) : Prop := ∃ A n c, e = .returned (.slice A n c) ∧ SlI w' A n c l ∧ Below w.heap.size w w'
theorem put_nil (c : Nat) (v : Int) (w : World) :
    Calls Tryz.prog 23 #[.slice none 0 0, .int .i64 v] w (IntsPost w [v]) := by
  obtain ⟨i0, hi, hz0, hz1, hz2⟩ := info_parts Tryz.infoInt
  go_enter Tryz.func23, Tryz.ntmps23
  go_wp2
  go_loop [5] (fun i => i = .int .i64 0) (fun i => 0)
  case atStart => rfl
  case round =>
    subst hrel
    go_upto_region 6 with fail
    go_region_held3 (fun w' => True)
      (first | trivial)
      (first
        | (refine step_append_any _ rfl (.tmp 40) (.tmp 43) 22 rfl w.heap.size 3 i0 (.int .i64 0) 1 8 Tryz.underlying22 hi hz0 hz1 hz2 rfl (by omega) v2 1 [.int .i64 v] rfl (by exact Hown2.out) w.heap.size none 0 0 [] rfl Reads.none_ (by simp) (by unfold maxLen; omega) (by omega) (by exact hsB) ?_
           intro v3 w3 hown3 hg3 hat3
           have HbC : Hid (Below w.heap.size w w3) := Below.grown HbB.out hg3 hsB (own_base Hown2.out)
           have Hown3 : Hid (w3.ownsRow w.heap.size 3 1 v3 [v].length ([v].map (.int .i64))) := Lib.hid (show w3.ownsRow w.heap.size 3 1 v3 [v].length ([v].map (.int .i64)) from (by simpa using hown3))
           obtain ⟨A3, c3, rfl, hS⟩ := SlI.of_own Hown3.out
           have HS := Lib.hid hS
           clear hown3 hg3 hat3 Hown3 hS)
        | (refine step_append_any _ rfl (.tmp 37) (.tmp 39) 22 rfl w.heap.size 3 i0 (.int .i64 0) 1 8 Tryz.underlying22 hi hz0 hz1 hz2 rfl (by omega) v1 0 [] rfl (by first | exact Hown1.out | exact ownsRow_below Hown1.out gBel) _ _ 1 1 [.int .i64 v] rfl ⟨rfl, fun _ => ⟨_, rfl, Nat.lt_succ_self _, fun j u hu => (by first | exact news_any _ _ _ j u hu | exact news_far (cs := #[.int .i64 v]) (t := 3) (alloc_second w _ _) Hg1.out (by simp [Value.ownBlock]) j u hu | exact news_far (cs := #[.int .i64 v]) (t := 3) (alloc_first w _ _) Hg1.out (by simp [Value.ownBlock]) j u hu)⟩⟩ (by simp [Value.oneCell']) (by unfold maxLen; omega) (by omega) (by first | exact hsA | (simp; omega)) ?_
           intro v2 w2 hown2 hg2 hat2
           have HbB : Hid (Below w.heap.size w w2) := Below.grown (by have hbA := HbA.out; exact gBelo) hg2 (by first | (simp; done) | (simp; omega) | omega) (own_base Hown1.out)
           have hsB : w.heap.size ≤ w2.heap.size := HbB.out.size
           have Hown2 : Hid (w2.ownsRow w.heap.size 3 1 v2 1 [.int .i64 v]) := Lib.hid (show w2.ownsRow w.heap.size 3 1 v2 1 [.int .i64 v] from (by simpa using hown2))
           clear hown2 hg2 hat2)
        | (refine step_append_any _ rfl (.tmp 33) (.tmp 36) 22 rfl w.heap.size 3 i0 (.int .i64 0) 1 8 Tryz.underlying22 hi hz0 hz1 hz2 rfl (by omega) (.slice (some ⟨w.heap.size, 0, none⟩) 0 0) 0 [] rfl (by first | exact own_zero w _ _ _ (Nat.le_refl _) | exact ownsRow_below (own_zero w _ _ _ (Nat.le_refl _)) gBel) w.heap.size none 0 _ [] rfl Reads.none_ (by simp) (by unfold maxLen; omega) (by omega) (by first | (simp; done) | (simp; omega)) ?_
           intro v1 w1 hown1 hg1 hat1
           have HbA : Hid (Below w.heap.size w w1) := Below.grown (by exact gBel) hg1 (by first | (simp; done) | (simp; omega) | omega) (fun q hq => by injection hq with hq; exact Nat.le_of_eq hq)
           have hsA : w.heap.size ≤ w1.heap.size := HbA.out.size
           have Hg1 := Lib.hid hg1
           have Hown1 : Hid (w1.ownsRow w.heap.size 3 1 v1 0 []) := Lib.hid hown1
           clear hown1 hg1 hat1)
        | (refine step_append_any _ rfl (.tmp 33) (.tmp 36) 22 rfl w.heap.size 3 i0 (.int .i64 0) 1 8 Tryz.underlying22 hi hz0 hz1 hz2 rfl (by omega) (.slice (some ⟨w.heap.size + 1, 0, none⟩) 0 0) 0 [] rfl (by exact own_zero1 w _ _ _ _ (Nat.le_refl _)) w.heap.size none 0 _ [] rfl Reads.none_ (by simp) (by unfold maxLen; omega) (by omega) (by first | (simp; done) | (simp; omega)) ?_
           intro v1 w1 hown1 hg1 hat1
           have HbA : Hid (Below w.heap.size w w1) := Below.grown (by exact gBel) hg1 (by first | (simp; done) | (simp; omega) | omega) (fun q hq => by injection hq with hq; subst hq; exact Nat.le_succ _)
           have hsA : w.heap.size ≤ w1.heap.size := HbA.out.size
           have Hg1 := Lib.hid hg1
           have Hown1 : Hid (w1.ownsRow w.heap.size 3 1 v1 0 []) := Lib.hid hown1
           clear hown1 hg1 hat1)
        | fail)
    all_goals
      go_wp2
      go_ret
      exact ⟨A3, _, c3, rfl, HS.out, HbC.out⟩
theorem put_some (b off : Nat) (n c : Nat) (l : List Int) (v : Int) (w : World) (h : SlI w (some ⟨b, off, none⟩) n c l) (hb : n ≤ 1000000) (hn0 : 0 < n) :
    Calls Tryz.prog 23 #[.slice (some ⟨b, off, none⟩) n c, .int .i64 v] w (IntsPost w (putL l v)) := by
  obtain ⟨i0, hi, hz0, hz1, hz2⟩ := info_parts Tryz.infoInt
  have hn := h.len
  have hc := h.cap
  have hm := h.top
  unfold maxLen at hm
  have H := Lib.hid h
  have HR := Lib.hid (h.lies.reads (size := 1) (by simp [hn]))
  clear h
  go_enter Tryz.func23, Tryz.ntmps23
  go_wp2
  go_loop [5] (fun i => ∃ k : Nat, k ≤ n ∧ i = .int .i64 (k : Int) ∧ Hid (∀ j, j < k → ∀ x, l[j]? = some x → x < v)) (fun i => n - (intOf i).toNat)
  case atStart => exact ⟨0, Nat.zero_le _, rfl, Lib.hid (fun j hj => absurd hj (Nat.not_lt_zero _))⟩
  case round =>
    obtain ⟨k, hk, rfl, Hlt⟩ := hrel
    by_cases hkn : k < n
    · have hl : k < l.length := by omega
      obtain ⟨b', off', hA, hbl, c0⟩ := H.out.at k hl
      injection hA with hA
      injection hA with e1 e2 _
      subst e1 e2
      have hkn' : (k : Int) < (n : Int) := by omega
      have Hk : Hid (l[k]? = some l[k]) := Lib.hid (List.getElem?_eq_getElem hl)
      have Hstep : Hid (l[k] < v → ∀ j, j < k + 1 → ∀ x, l[j]? = some x → x < v) := Lib.hid (fun h j hj x hx => by
        by_cases hjk : j = k
        · subst hjk
          rw [Hk.out] at hx
          injection hx with hx
          omega
        · exact Hlt.out j (by omega) x hx)
      generalize l[k] = x at *
      by_cases h1 : x < v
      · go_wp2
        go_round
        case rel => exact ⟨k + 1, by omega, by go_num, Hstep.out h1⟩
        case measure => simp [intOf]; omega
      · by_cases h2 : x = v
        · subst h2
          have Hput : Hid (putL l x = l) := Lib.hid (putL_same l x k Hlt.out Hk.out)
          go_wp2
          go_ret
          exact ⟨_, n, c, rfl, by rw [Hput.out]; exact H.out, Below.refl _ _⟩
        · have Hput : Hid (putL l v = l.take k ++ v :: l.drop k) := Lib.hid (putL_split l v k (by omega) Hlt.out (fun y hy => by rw [Hk.out] at hy; injection hy with hy; omega))
          clear Hstep
          go_upto_region 6 with fail
          clear c0
          have hck : ¬ c = k := (by omega)
          have hck2 : ¬ (c : Int) = (k : Int) := (by omega)
          have HA1 : Hid (Reads w w.heap.size 1 (some ⟨b, off, none⟩) k ((l.take k).map (.int .i64))) := Lib.hid (reads_take HR.out hk)
          have HA2 : Hid (Reads w w.heap.size 1 (some ⟨b, off + k, none⟩) (n - k) ((l.drop k).map (.int .i64))) := Lib.hid (by have h9 := reads_drop HR.out hk hc; rw [if_neg hck] at h9; exact h9)
          have hkc : (k : Int) ≤ (c : Int) := by omega
          have hkn2 : (k : Int) ≤ (n : Int) := by omega
          have hk0 : (0 : Int) ≤ (k : Int) := by omega
          have htk : (l.take k).length = k := by simp; omega
          have hdk : (l.drop k).length = n - k := by simp; omega
          generalize l.take k = l1 at *
          generalize l.drop k = l2 at *
          go_region_held3 (fun w' => True)
            (first | trivial)
            (first
              | (refine step_append_any _ rfl (.tmp 40) (.tmp 43) 22 rfl w.heap.size 3 i0 (.int .i64 0) 1 8 Tryz.underlying22 hi hz0 hz1 hz2 rfl (by omega) v2 (k + 1) ((l1 ++ [v]).map (.int .i64)) rfl (by exact Hown2.out) w.heap.size (some ⟨b, off + k, none⟩) (n - k) _ (l2.map (.int .i64)) rfl (HA2.out.below (by exact HbB.out)) (ints_oneCell .i64 _) (by unfold maxLen; omega) (by omega) (by exact hsB) ?_
                 intro v3 w3 hown3 hg3 hat3
                 have HbC : Hid (Below w.heap.size w w3) := Below.grown HbB.out hg3 hsB (own_base Hown2.out)
                 have Hown3 : Hid (w3.ownsRow w.heap.size 3 1 v3 (l1 ++ v :: l2).length ((l1 ++ v :: l2).map (.int .i64))) := Lib.hid (show w3.ownsRow w.heap.size 3 1 v3 (l1 ++ v :: l2).length ((l1 ++ v :: l2).map (.int .i64)) from (by
                   have e1 : (l1 ++ v :: l2).length = k + 1 + (n - k) := by simp; omega
                   have e2 : (l1 ++ v :: l2).map (Value.int .i64) = (l1 ++ [v]).map (Value.int .i64) ++ l2.map (Value.int .i64) := by simp
                   rw [e1, e2]; exact hown3))
                 obtain ⟨A3, c3, rfl, hS⟩ := SlI.of_own Hown3.out
                 have HS := Lib.hid hS
                 clear hown3 hg3 hat3 Hown3 hS)
              | (refine step_append_any _ rfl (.tmp 37) (.tmp 39) 22 rfl w.heap.size 3 i0 (.int .i64 0) 1 8 Tryz.underlying22 hi hz0 hz1 hz2 rfl (by omega) v1 k (l1.map (.int .i64)) rfl (by first | exact Hown1.out | exact ownsRow_below Hown1.out gBel) _ _ 1 1 [.int .i64 v] rfl ⟨rfl, fun _ => ⟨_, rfl, Nat.lt_succ_self _, fun j u hu => (by first | exact news_any _ _ _ j u hu | exact news_far (cs := #[.int .i64 v]) (t := 3) (alloc_second w _ _) Hg1.out (by simp [Value.ownBlock]) j u hu | exact news_far (cs := #[.int .i64 v]) (t := 3) (alloc_first w _ _) Hg1.out (by simp [Value.ownBlock]) j u hu)⟩⟩ (by simp [Value.oneCell']) (by unfold maxLen; omega) (by omega) (by first | exact hsA | (simp; omega)) ?_
                 intro v2 w2 hown2 hg2 hat2
                 have HbB : Hid (Below w.heap.size w w2) := Below.grown (by have hbA := HbA.out; exact gBelo) hg2 (by first | (simp; done) | (simp; omega) | omega) (own_base Hown1.out)
                 have hsB : w.heap.size ≤ w2.heap.size := HbB.out.size
                 have Hown2 : Hid (w2.ownsRow w.heap.size 3 1 v2 (k + 1) ((l1 ++ [v]).map (.int .i64))) := Lib.hid (show w2.ownsRow w.heap.size 3 1 v2 (k + 1) ((l1 ++ [v]).map (.int .i64)) from (by rw [List.map_append]; exact hown2))
                 clear hown2 hg2 hat2)
              | (refine step_append_any _ rfl (.tmp 33) (.tmp 36) 22 rfl w.heap.size 3 i0 (.int .i64 0) 1 8 Tryz.underlying22 hi hz0 hz1 hz2 rfl (by omega) (.slice (some ⟨w.heap.size, 0, none⟩) 0 0) 0 [] rfl (by first | exact own_zero w _ _ _ (Nat.le_refl _) | exact ownsRow_below (own_zero w _ _ _ (Nat.le_refl _)) gBel) w.heap.size (some ⟨b, off, none⟩) k _ (l1.map (.int .i64)) rfl (HA1.out.below gBel) (ints_oneCell .i64 _) (by unfold maxLen; omega) (by omega) (by first | (simp; done) | (simp; omega)) ?_
                 intro v1 w1 hown1 hg1 hat1
                 simp only [Nat.zero_add, List.nil_append] at hown1
                 have HbA : Hid (Below w.heap.size w w1) := Below.grown (by exact gBel) hg1 (by first | (simp; done) | (simp; omega) | omega) (fun q hq => by injection hq with hq; exact Nat.le_of_eq hq)
                 have hsA : w.heap.size ≤ w1.heap.size := HbA.out.size
                 have Hg1 := Lib.hid hg1
                 have Hown1 := Lib.hid hown1
                 clear hown1 hg1 hat1)
              | (refine step_append_any _ rfl (.tmp 33) (.tmp 36) 22 rfl w.heap.size 3 i0 (.int .i64 0) 1 8 Tryz.underlying22 hi hz0 hz1 hz2 rfl (by omega) (.slice (some ⟨w.heap.size + 1, 0, none⟩) 0 0) 0 [] rfl (by exact own_zero1 w _ _ _ _ (Nat.le_refl _)) w.heap.size (some ⟨b, off, none⟩) k _ (l1.map (.int .i64)) rfl (HA1.out.below gBel) (ints_oneCell .i64 _) (by unfold maxLen; omega) (by omega) (by first | (simp; done) | (simp; omega)) ?_
                 intro v1 w1 hown1 hg1 hat1
                 simp only [Nat.zero_add, List.nil_append] at hown1
                 have HbA : Hid (Below w.heap.size w w1) := Below.grown (by exact gBel) hg1 (by first | (simp; done) | (simp; omega) | omega) (fun q hq => by injection hq with hq; subst hq; exact Nat.le_succ _)
                 have hsA : w.heap.size ≤ w1.heap.size := HbA.out.size
                 have Hg1 := Lib.hid hg1
                 have Hown1 := Lib.hid hown1
                 clear hown1 hg1 hat1)
              | fail)
          all_goals
            go_wp2
            go_ret
            exact ⟨A3, _, c3, rfl, by rw [Hput.out]; exact HS.out.cast (by simp; omega), HbC.out⟩
    · have Hput : Hid (putL l v = l.take k ++ v :: l.drop k) := Lib.hid (putL_split l v k (by omega) Hlt.out (fun y hy => by rw [List.getElem?_eq_none (by omega)] at hy; cases hy))
      have hkn' : ¬ (k : Int) < (n : Int) := by omega
      go_upto_region 6 with fail
      by_cases hck : c = k
      · have hk1 : k = c := hck.symm
        subst hk1
        have hk2 : k = n := (by omega)
        subst hk2
        have HA1 : Hid (Reads w w.heap.size 1 (some ⟨b, off, none⟩) k ((l.take k).map (.int .i64))) := Lib.hid (reads_take HR.out hk)
        have HA2 : Hid (Reads w w.heap.size 1 (some ⟨b, off, none⟩) 0 ((l.drop k).map (.int .i64))) := Lib.hid (by rw [List.drop_eq_nil_of_le (by omega)]; exact reads_take (k := 0) HR.out (Nat.zero_le _))
        have hk0 : (0 : Int) ≤ (k : Int) := by omega
        have htk : (l.take k).length = k := by simp; omega
        have hdk : (l.drop k).length = 0 := by simp; omega
        generalize l.take k = l1 at *
        generalize l.drop k = l2 at *
        go_region_held3 (fun w' => True)
          (first | trivial)
          (first
            | (refine step_append_any _ rfl (.tmp 40) (.tmp 43) 22 rfl w.heap.size 3 i0 (.int .i64 0) 1 8 Tryz.underlying22 hi hz0 hz1 hz2 rfl (by omega) v2 (k + 1) ((l1 ++ [v]).map (.int .i64)) rfl (by exact Hown2.out) w.heap.size (some ⟨b, off, none⟩) 0 0 (l2.map (.int .i64)) rfl (HA2.out.below (by exact HbB.out)) (ints_oneCell .i64 _) (by unfold maxLen; omega) (by omega) (by exact hsB) ?_
               intro v3 w3 hown3 hg3 hat3
               have HbC : Hid (Below w.heap.size w w3) := Below.grown HbB.out hg3 hsB (own_base Hown2.out)
               have Hown3 : Hid (w3.ownsRow w.heap.size 3 1 v3 (l1 ++ v :: l2).length ((l1 ++ v :: l2).map (.int .i64))) := Lib.hid (show w3.ownsRow w.heap.size 3 1 v3 (l1 ++ v :: l2).length ((l1 ++ v :: l2).map (.int .i64)) from (by
                 have e1 : (l1 ++ v :: l2).length = k + 1 + 0 := by simp; omega
                 have e2 : (l1 ++ v :: l2).map (Value.int .i64) = (l1 ++ [v]).map (Value.int .i64) ++ l2.map (Value.int .i64) := by simp
                 rw [e1, e2]; exact hown3))
               obtain ⟨A3, c3, rfl, hS⟩ := SlI.of_own Hown3.out
               have HS := Lib.hid hS
               clear hown3 hg3 hat3 Hown3 hS)
            | (refine step_append_any _ rfl (.tmp 37) (.tmp 39) 22 rfl w.heap.size 3 i0 (.int .i64 0) 1 8 Tryz.underlying22 hi hz0 hz1 hz2 rfl (by omega) v1 k (l1.map (.int .i64)) rfl (by first | exact Hown1.out | exact ownsRow_below Hown1.out gBel) _ _ 1 1 [.int .i64 v] rfl ⟨rfl, fun _ => ⟨_, rfl, Nat.lt_succ_self _, fun j u hu => (by first | exact news_any _ _ _ j u hu | exact news_far (cs := #[.int .i64 v]) (t := 3) (alloc_second w _ _) Hg1.out (by simp [Value.ownBlock]) j u hu | exact news_far (cs := #[.int .i64 v]) (t := 3) (alloc_first w _ _) Hg1.out (by simp [Value.ownBlock]) j u hu)⟩⟩ (by simp [Value.oneCell']) (by unfold maxLen; omega) (by omega) (by first | exact hsA | (simp; omega)) ?_
               intro v2 w2 hown2 hg2 hat2
               have HbB : Hid (Below w.heap.size w w2) := Below.grown (by have hbA := HbA.out; exact gBelo) hg2 (by first | (simp; done) | (simp; omega) | omega) (own_base Hown1.out)
               have hsB : w.heap.size ≤ w2.heap.size := HbB.out.size
               have Hown2 : Hid (w2.ownsRow w.heap.size 3 1 v2 (k + 1) ((l1 ++ [v]).map (.int .i64))) := Lib.hid (show w2.ownsRow w.heap.size 3 1 v2 (k + 1) ((l1 ++ [v]).map (.int .i64)) from (by rw [List.map_append]; exact hown2))
               clear hown2 hg2 hat2)
            | (refine step_append_any _ rfl (.tmp 33) (.tmp 36) 22 rfl w.heap.size 3 i0 (.int .i64 0) 1 8 Tryz.underlying22 hi hz0 hz1 hz2 rfl (by omega) (.slice (some ⟨w.heap.size, 0, none⟩) 0 0) 0 [] rfl (by first | exact own_zero w _ _ _ (Nat.le_refl _) | exact ownsRow_below (own_zero w _ _ _ (Nat.le_refl _)) gBel) w.heap.size (some ⟨b, off, none⟩) k _ (l1.map (.int .i64)) rfl (HA1.out.below gBel) (ints_oneCell .i64 _) (by unfold maxLen; omega) (by omega) (by first | (simp; done) | (simp; omega)) ?_
               intro v1 w1 hown1 hg1 hat1
               simp only [Nat.zero_add, List.nil_append] at hown1
               have HbA : Hid (Below w.heap.size w w1) := Below.grown (by exact gBel) hg1 (by first | (simp; done) | (simp; omega) | omega) (fun q hq => by injection hq with hq; exact Nat.le_of_eq hq)
               have hsA : w.heap.size ≤ w1.heap.size := HbA.out.size
               have Hg1 := Lib.hid hg1
               have Hown1 := Lib.hid hown1
               clear hown1 hg1 hat1)
            | (refine step_append_any _ rfl (.tmp 33) (.tmp 36) 22 rfl w.heap.size 3 i0 (.int .i64 0) 1 8 Tryz.underlying22 hi hz0 hz1 hz2 rfl (by omega) (.slice (some ⟨w.heap.size + 1, 0, none⟩) 0 0) 0 [] rfl (by exact own_zero1 w _ _ _ _ (Nat.le_refl _)) w.heap.size (some ⟨b, off, none⟩) k _ (l1.map (.int .i64)) rfl (HA1.out.below gBel) (ints_oneCell .i64 _) (by unfold maxLen; omega) (by omega) (by first | (simp; done) | (simp; omega)) ?_
               intro v1 w1 hown1 hg1 hat1
               simp only [Nat.zero_add, List.nil_append] at hown1
               have HbA : Hid (Below w.heap.size w w1) := Below.grown (by exact gBel) hg1 (by first | (simp; done) | (simp; omega) | omega) (fun q hq => by injection hq with hq; subst hq; exact Nat.le_succ _)
               have hsA : w.heap.size ≤ w1.heap.size := HbA.out.size
               have Hg1 := Lib.hid hg1
               have Hown1 := Lib.hid hown1
               clear hown1 hg1 hat1)
            | fail)
        all_goals
          go_wp2
          go_ret
          exact ⟨A3, _, c3, rfl, by rw [Hput.out]; exact HS.out.cast (by simp; omega), HbC.out⟩
      · have hck2 : ¬ (c : Int) = (k : Int) := (by omega)
        have HA1 : Hid (Reads w w.heap.size 1 (some ⟨b, off, none⟩) k ((l.take k).map (.int .i64))) := Lib.hid (reads_take HR.out hk)
        have HA2 : Hid (Reads w w.heap.size 1 (some ⟨b, off + k, none⟩) (n - k) ((l.drop k).map (.int .i64))) := Lib.hid (by have h9 := reads_drop HR.out hk hc; rw [if_neg hck] at h9; exact h9)
        have hkc : (k : Int) ≤ (c : Int) := by omega
        have hkn2 : (k : Int) ≤ (n : Int) := by omega
        have hk0 : (0 : Int) ≤ (k : Int) := by omega
        have htk : (l.take k).length = k := by simp; omega
        have hdk : (l.drop k).length = n - k := by simp; omega
        generalize l.take k = l1 at *
        generalize l.drop k = l2 at *
        go_region_held3 (fun w' => True)
          (first | trivial)
          (first
            | (refine step_append_any _ rfl (.tmp 40) (.tmp 43) 22 rfl w.heap.size 3 i0 (.int .i64 0) 1 8 Tryz.underlying22 hi hz0 hz1 hz2 rfl (by omega) v2 (k + 1) ((l1 ++ [v]).map (.int .i64)) rfl (by exact Hown2.out) w.heap.size (some ⟨b, off + k, none⟩) (n - k) _ (l2.map (.int .i64)) rfl (HA2.out.below (by exact HbB.out)) (ints_oneCell .i64 _) (by unfold maxLen; omega) (by omega) (by exact hsB) ?_
               intro v3 w3 hown3 hg3 hat3
               have HbC : Hid (Below w.heap.size w w3) := Below.grown HbB.out hg3 hsB (own_base Hown2.out)
               have Hown3 : Hid (w3.ownsRow w.heap.size 3 1 v3 (l1 ++ v :: l2).length ((l1 ++ v :: l2).map (.int .i64))) := Lib.hid (show w3.ownsRow w.heap.size 3 1 v3 (l1 ++ v :: l2).length ((l1 ++ v :: l2).map (.int .i64)) from (by
                 have e1 : (l1 ++ v :: l2).length = k + 1 + (n - k) := by simp; omega
                 have e2 : (l1 ++ v :: l2).map (Value.int .i64) = (l1 ++ [v]).map (Value.int .i64) ++ l2.map (Value.int .i64) := by simp
                 rw [e1, e2]; exact hown3))
               obtain ⟨A3, c3, rfl, hS⟩ := SlI.of_own Hown3.out
               have HS := Lib.hid hS
               clear hown3 hg3 hat3 Hown3 hS)
            | (refine step_append_any _ rfl (.tmp 37) (.tmp 39) 22 rfl w.heap.size 3 i0 (.int .i64 0) 1 8 Tryz.underlying22 hi hz0 hz1 hz2 rfl (by omega) v1 k (l1.map (.int .i64)) rfl (by first | exact Hown1.out | exact ownsRow_below Hown1.out gBel) _ _ 1 1 [.int .i64 v] rfl ⟨rfl, fun _ => ⟨_, rfl, Nat.lt_succ_self _, fun j u hu => (by first | exact news_any _ _ _ j u hu | exact news_far (cs := #[.int .i64 v]) (t := 3) (alloc_second w _ _) Hg1.out (by simp [Value.ownBlock]) j u hu | exact news_far (cs := #[.int .i64 v]) (t := 3) (alloc_first w _ _) Hg1.out (by simp [Value.ownBlock]) j u hu)⟩⟩ (by simp [Value.oneCell']) (by unfold maxLen; omega) (by omega) (by first | exact hsA | (simp; omega)) ?_
               intro v2 w2 hown2 hg2 hat2
               have HbB : Hid (Below w.heap.size w w2) := Below.grown (by have hbA := HbA.out; exact gBelo) hg2 (by first | (simp; done) | (simp; omega) | omega) (own_base Hown1.out)
               have hsB : w.heap.size ≤ w2.heap.size := HbB.out.size
               have Hown2 : Hid (w2.ownsRow w.heap.size 3 1 v2 (k + 1) ((l1 ++ [v]).map (.int .i64))) := Lib.hid (show w2.ownsRow w.heap.size 3 1 v2 (k + 1) ((l1 ++ [v]).map (.int .i64)) from (by rw [List.map_append]; exact hown2))
               clear hown2 hg2 hat2)
            | (refine step_append_any _ rfl (.tmp 33) (.tmp 36) 22 rfl w.heap.size 3 i0 (.int .i64 0) 1 8 Tryz.underlying22 hi hz0 hz1 hz2 rfl (by omega) (.slice (some ⟨w.heap.size, 0, none⟩) 0 0) 0 [] rfl (by first | exact own_zero w _ _ _ (Nat.le_refl _) | exact ownsRow_below (own_zero w _ _ _ (Nat.le_refl _)) gBel) w.heap.size (some ⟨b, off, none⟩) k _ (l1.map (.int .i64)) rfl (HA1.out.below gBel) (ints_oneCell .i64 _) (by unfold maxLen; omega) (by omega) (by first | (simp; done) | (simp; omega)) ?_
               intro v1 w1 hown1 hg1 hat1
               simp only [Nat.zero_add, List.nil_append] at hown1
               have HbA : Hid (Below w.heap.size w w1) := Below.grown (by exact gBel) hg1 (by first | (simp; done) | (simp; omega) | omega) (fun q hq => by injection hq with hq; exact Nat.le_of_eq hq)
               have hsA : w.heap.size ≤ w1.heap.size := HbA.out.size
               have Hg1 := Lib.hid hg1
               have Hown1 := Lib.hid hown1
               clear hown1 hg1 hat1)
            | (refine step_append_any _ rfl (.tmp 33) (.tmp 36) 22 rfl w.heap.size 3 i0 (.int .i64 0) 1 8 Tryz.underlying22 hi hz0 hz1 hz2 rfl (by omega) (.slice (some ⟨w.heap.size + 1, 0, none⟩) 0 0) 0 [] rfl (by exact own_zero1 w _ _ _ _ (Nat.le_refl _)) w.heap.size (some ⟨b, off, none⟩) k _ (l1.map (.int .i64)) rfl (HA1.out.below gBel) (ints_oneCell .i64 _) (by unfold maxLen; omega) (by omega) (by first | (simp; done) | (simp; omega)) ?_
               intro v1 w1 hown1 hg1 hat1
               simp only [Nat.zero_add, List.nil_append] at hown1
               have HbA : Hid (Below w.heap.size w w1) := Below.grown (by exact gBel) hg1 (by first | (simp; done) | (simp; omega) | omega) (fun q hq => by injection hq with hq; subst hq; exact Nat.le_succ _)
               have hsA : w.heap.size ≤ w1.heap.size := HbA.out.size
               have Hg1 := Lib.hid hg1
               have Hown1 := Lib.hid hown1
               clear hown1 hg1 hat1)
            | fail)
        all_goals
          go_wp2
          go_ret
          exact ⟨A3, _, c3, rfl, by rw [Hput.out]; exact HS.out.cast (by simp; omega), HbC.out⟩
theorem put_any (A : Option Addr) (n c : Nat) (l : List Int) (v : Int) (w : World) (h : SlI w A n c l) (hb : n ≤ 1000000) (h0 : n = 0 → A = none ∧ c = 0) :
    Calls Tryz.prog 23 #[.slice A n c, .int .i64 v] w (IntsPost w (putL l v)) := by
  rcases Nat.eq_zero_or_pos n with hn | hn
  · obtain ⟨rfl, rfl⟩ := h0 hn
    subst hn
    obtain rfl : l = [] := List.length_eq_zero_iff.1 h.len
    exact put_nil 0 v w
  · obtain ⟨b, off, rfl, _⟩ := h.lies.resolve_left (by omega)
    exact put_some b off n c l v w h hb hn
theorem wp_region_below {P : Program} {id : Nat} {Q : Exit → Act → World → Prop} {a : Act} {W : World} {l : List Oper} (B : Nat) (hB : B ≤ W.heap.size) (hm : P.follows .mixedOrders = true) (hl : Region.lexB .any l.toArray = true)
    (h : ∀ (I : Type) [Nonempty I] (F : I → World), (∀ i b o, b < B → (F i).cell? ⟨b, o, none⟩ = W.cell? ⟨b, o, none⟩) → (∀ i, Below B W (F i)) → (∀ w', Below B W w' → ∃ i, w' = F i) →
      wpQuiet P l.toArray (fun w' => ∃ i, w' = F i) (fun a' => ∀ w', (∃ i, w' = F i) → Q .normal a' w') l a) : (Code.region id l.toArray true).wp P Q a W := by
  have ne : Nonempty { w' : World // Below B W w' } := ⟨⟨W, Below.refl B W⟩⟩
  have h0 := h { w' : World // Below B W w' } (fun x => x.val) (fun i b o hb => i.property.cell (p := ⟨b, o, none⟩) hb) (fun i => i.property) (fun w' hw => ⟨⟨w', hw⟩, rfl⟩)
  exact wp_region_quiet (C := fun w' => ∃ i : { w' : World // Below B W w' }, w' = i.val) hm hl ⟨⟨{ W with drawn := W.drawn + 1 }, (Below.drew (Below.refl B W))⟩, rfl⟩ (by simpa using h0)
theorem class_call {P : Program} {f : FuncId} {args : Array Value} {B : Nat} {W : World} {I : Type} {F : I → World} {i : I} {v : Value} (hb : ∀ i, Below B W (F i)) (hs : ∀ w', Below B W w' → ∃ i, w' = F i)
    (hB : B ≤ W.heap.size) (h : Calls P f args (F i) fun e w' => e = .returned v ∧ Below (F i).heap.size (F i) w') : Calls P f args (F i) fun e w'' => e = .returned v ∧ ∃ j, w'' = F j :=
  h.mono fun _ _ ⟨he, hw⟩ => ⟨he, hs _ ((hb i).trans (hw.mono (Nat.le_trans hB (hb i).size)))⟩
theorem class_same {P : Program} {f : FuncId} {args : Array Value} {I : Type} {F : I → World} {i : I} {v : Value}
    (h : Calls P f args (F i) fun e w' => e = .returned v ∧ F i = w') : Calls P f args (F i) fun e w'' => e = .returned v ∧ ∃ j, w'' = F j :=
  h.mono fun _ _ ⟨he, hw⟩ => ⟨he, i, hw.symm⟩
end Go.Proofs.YtfmkmhhghmdakaaGreatDoor
