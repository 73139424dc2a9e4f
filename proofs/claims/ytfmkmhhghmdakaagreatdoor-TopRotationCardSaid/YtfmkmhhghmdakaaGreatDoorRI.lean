import Derived.Test.YtfmkmhhghmdakaaGreatDoorSh07
import Derived.Test.YtfmkmhhghmdakaaGreatDoorRB
import Derived.Test.YtfmkmhhghmdakaaGreatDoorRC
import Derived.Test.YtfmkmhhghmdakaaGreatDoorRF
import Derived.Test.YtfmkmhhghmdakaaGreatDoorRH
namespace Go.Proofs.YtfmkmhhghmdakaaGreatDoor
set_option maxHeartbeats 64000000
set_option maxRecDepth 100000
open Go.RowKit
set_option linter.unusedVariables false
set_option linter.unusedSimpArgs false
structure Rc where
  yr : Int
  cr : Int
  rg : List R4
abbrev RcL := List (Rc × LV)
def rcC (x : Rc × LV) : List Value := [.int .i64 x.1.yr, .int .i64 x.1.cr, .slice x.2.a x.1.rg.length x.2.c]
def rcCells (l : RcL) : List Value := l.flatMap rcC
theorem rcCells_snoc (l : RcL) (x : Rc × LV) : rcCells (l ++ [x]) = rcCells l ++ [.int .i64 x.1.yr, .int .i64 x.1.cr, .slice x.2.a x.1.rg.length x.2.c] := by simp [rcCells, rcC]
theorem rcCells_len (l : RcL) : (rcCells l).length = l.length * 3 := by
  induction l with
  | nil => rfl
  | cons o r ih => simp [rcCells, rcC] at *; omega
theorem rcCells_at (l : RcL) (i : Nat) (h : i < l.length) : (rcCells l)[i * 3]? = some (.int .i64 l[i].1.yr) ∧ (rcCells l)[i * 3 + 1]? = some (.int .i64 l[i].1.cr) ∧ (rcCells l)[i * 3 + 2]? = some (.slice l[i].2.a l[i].1.rg.length l[i].2.c) := by
  induction l generalizing i with
  | nil => simp at h
  | cons o r ih =>
    have hc : rcCells (o :: r) = rcC o ++ rcCells r := by simp [rcCells]
    have hl : (rcC o).length = 3 := rfl
    rw [hc]
    rcases i with _ | i
    · simp [rcC]
    · have := ih i (by simpa using h)
      refine ⟨?_, ?_, ?_⟩ <;> (rw [List.getElem?_append_right (by rw [hl]; omega), hl])
      · rw [show (i + 1) * 3 - 3 = i * 3 from by omega]; exact this.1
      · rw [show (i + 1) * 3 + 1 - 3 = i * 3 + 1 from by omega]; exact this.2.1
      · rw [show (i + 1) * 3 + 2 - 3 = i * 3 + 2 from by omega]; exact this.2.2
structure SlRc (w : World) (A : Option Addr) (n c : Nat) (l : RcL) : Prop where
  len : l.length = n
  cap : n ≤ c
  top : c ≤ maxLen
  lies : Lies w A n (rcCells l)
  fits : ∀ x ∈ l, SlR w x.2.a x.1.rg.length x.2.c x.1.rg
theorem SlRc.below {w w' : World} {A : Option Addr} {n c : Nat} {l : RcL} (h : SlRc w A n c l) (hb : Below w.heap.size w w') : SlRc w' A n c l := ⟨h.len, h.cap, h.top, h.lies.below hb, fun x hx => (h.fits x hx).below hb⟩
theorem SlRc.at {w : World} {A : Option Addr} {n c : Nat} {l : RcL} (h : SlRc w A n c l) (i : Nat) (hi : i < l.length) :
    ∃ b off, A = some ⟨b, off, none⟩ ∧ b < w.heap.size ∧ w.cell? ⟨b, off + i * 3, none⟩ = some (.int .i64 l[i].1.yr) ∧ w.cell? ⟨b, off + i * 3 + 1, none⟩ = some (.int .i64 l[i].1.cr) ∧ w.cell? ⟨b, off + i * 3 + 2, none⟩ = some (.slice l[i].2.a l[i].1.rg.length l[i].2.c) ∧ SlR w l[i].2.a l[i].1.rg.length l[i].2.c l[i].1.rg := by
  obtain ⟨b, off, e, hb, hc⟩ := h.lies.resolve_left (by have := h.len; omega)
  obtain ⟨h0, h1, h2⟩ := rcCells_at l i hi
  exact ⟨b, off, e, hb, hc _ _ h0, hc _ _ h1, hc _ _ h2, h.fits _ (List.getElem_mem hi)⟩
def rcs (l : RcL) : List Rc := l.map (·.1)
theorem rcs_len (l : RcL) : (rcs l).length = l.length := by simp [rcs]
theorem Tryz.infoRc : (Tryz.prog.info? 172).map (fun i => (i.zero, i.size, i.bytes)) = some (some (.agg #[.int .i64 0, .int .i64 0, .slice none 0 0]), 3, 40) := by kernel_rfl
structure RcOwn (w : World) (base : Nat) (v : Value) (l : RcL) : Prop where
  o : w.ownsRow base 172 3 v l.length (rcCells l)
  fs : ∀ x ∈ l, w.ownsRow base 68 4 (.slice x.2.a x.1.rg.length x.2.c) x.1.rg.length (rCells x.1.rg)
  ap : ∀ x ∈ l, ∀ g, v.ownBlock = some g → (Value.slice x.2.a x.1.rg.length x.2.c).ownBlock ≠ some g
section
variable {w w' : World} {base : Nat} {v : Value} {l : RcL}
theorem RcOwn.nil (w : World) (base : Nat) : RcOwn w base (.slice none 0 0) [] := ⟨World.ownsRow_nil _ _ _ _, fun _ h => by simp at h, fun _ h => by simp at h⟩
theorem RcOwn.keep (h : RcOwn w base v l) (hk : ∀ b, b < w.heap.size → base ≤ b → w'.heap[b]? = w.heap[b]?) : RcOwn w' base v l := ⟨own_keepY h.o hk, fun x hx => own_keepY (h.fs x hx) hk, h.ap⟩
theorem RcOwn.below (h : RcOwn w base v l) (hb : Below w.heap.size w w') : RcOwn w' base v l := h.keep fun b hlt _ => hb.block b hlt
theorem RcOwn.only {g : Nat} (h : RcOwn w base v l) (hg : w.grownBy w' (some g)) (hlt : g < base) : RcOwn w' base v l := h.keep fun b hb hB => hg.block b hb (fun e => by injection e; omega)
theorem RcOwn.rebase {base' : Nat} (h : RcOwn w base v l) (hb : base' ≤ base) : RcOwn w base' v l := ⟨own_rebase h.o hb, fun x hx => own_rebase (h.fs x hx) hb, h.ap⟩
theorem RcOwn.sl {A : Option Addr} {c : Nat} (h : RcOwn w base (.slice A l.length c) l) : SlRc w A l.length c l := by
  obtain ⟨A', c', e, h1, h2, h3⟩ := own_slice h.o
  injection e with e1 e2 e3
  subst e1 e3
  refine ⟨rfl, h2, h3, h1, fun x hx => ?_⟩
  obtain ⟨A2, c2, e, h4⟩ := SlR.of_own (h.fs x hx)
  injection e with e1 e2 e3
  rw [e1, e3]
  exact h4
theorem RcOwn.push {wa w5 : World} (h : RcOwn w base v l) (x : Rc × LV) (hx : w.ownsRow base 68 4 (.slice x.2.a x.1.rg.length x.2.c) x.1.rg.length (rCells x.1.rg)) (hxa : ∀ g, v.ownBlock = some g → (Value.slice x.2.a x.1.rg.length x.2.c).ownBlock ≠ some g) {v5 : Value}
    (ha : Below w.heap.size w wa) (hg : wa.grownBy w5 v.ownBlock) (hown : w5.ownsRow base 172 3 v5 (l.length + 1) (rcCells l ++ [.int .i64 x.1.yr, .int .i64 x.1.cr, .slice x.2.a x.1.rg.length x.2.c])) (hat : v5.ownBlock = v.ownBlock ∨ v5.ownBlock = some wa.heap.size) : RcOwn w5 base v5 (l ++ [x]) := by
  have hall : ∀ y ∈ l ++ [x], w.ownsRow base 68 4 (.slice y.2.a y.1.rg.length y.2.c) y.1.rg.length (rCells y.1.rg) ∧ ∀ g, v.ownBlock = some g → (Value.slice y.2.a y.1.rg.length y.2.c).ownBlock ≠ some g := by
    intro y hy
    rcases List.mem_append.1 hy with h1 | h1
    · exact ⟨h.fs y h1, h.ap y h1⟩
    · rw [List.mem_singleton] at h1
      subst h1
      exact ⟨hx, hxa⟩
  refine ⟨by rw [List.length_append, rcCells_snoc]; exact hown, fun y hy => own_grownY (ownsRow_below (hall y hy).1 ha) hg (fun g hg2 e => (hall y hy).2 g e hg2), fun y hy g hg2 e => ?_⟩
  rcases hat with h0 | h0
  · exact (hall y hy).2 g (by rw [← h0]; exact hg2) e
  · rw [h0] at hg2
    injection hg2 with hg2
    have := own_ltY (hall y hy).1 g e
    have := ha.size
    omega
end
end Go.Proofs.YtfmkmhhghmdakaaGreatDoor
namespace Go.Proofs.YtfmkmhhghmdakaaGreatDoor
open Go.RowKit Go.Shelf
set_option linter.unusedVariables false
set_option linter.unusedSimpArgs false
set_option maxHeartbeats 64000000
set_option maxRecDepth 100000
def lettersB (s : ByteArray) : Bool := decide (1 ≤ s.size) && decide (s.size ≤ 12) && s.data.toList.all fun b => decide (97 ≤ b.toNat) && decide (b.toNat ≤ 122)
theorem letter_at {s : ByteArray} (hs : lettersB s = true) (k : Nat) (h : k < s.size) : 97 ≤ s[k].toNat ∧ s[k].toNat ≤ 122 := by
  unfold lettersB at hs
  rw [Bool.and_eq_true] at hs
  have hm : s[k] ∈ s.data.toList := by
    have e : s[k] = s.data[k]'h := rfl
    rw [e]
    exact Array.mem_toList_iff.2 (Array.getElem_mem _)
  have := List.all_eq_true.1 hs.2 _ hm
  simpa using this
theorem name_any (s : ByteArray) (w : World) (hs : lettersB s = true) : Calls Tryz.prog 214 #[.string s] w fun e w' => e = .returned (.bool true) ∧ w = w' := by
  obtain ⟨n, hn⟩ : ∃ n, s.size = n := ⟨_, rfl⟩
  have Hn := Lib.hid hn
  have hn12 : 1 ≤ n ∧ n ≤ 12 := by
    unfold lettersB at hs
    simp only [Bool.and_eq_true, decide_eq_true_eq] at hs
    omega
  go_enter Tryz.func214, Tryz.ntmps214
  go_wp2_with fail
  go_loopw [3, 4, 5, 8] (fun _ _ _ iv wr => ∃ k : Nat, k ≤ n ∧ iv = .int .i64 (k : Int) ∧ wr = w) (fun _ _ _ iv _ => n - (intOf iv).toNat)
  case atStart => exact ⟨0, Nat.zero_le _, rfl, rfl⟩
  case round =>
    obtain ⟨k, hk, rfl, rfl⟩ := hrel
    by_cases hkn : k < n
    · have hkn' : (k : Int) < (n : Int) := by omega
      have hks : k < s.size := by omega
      obtain ⟨h1, h2⟩ := letter_at hs k hks
      have a1 : (97 : Int) ≤ (s[k].toNat : Int) := by omega
      have a2 : (s[k].toNat : Int) ≤ 122 := by omega
      have a3 : (48 : Int) ≤ (s[k].toNat : Int) := by omega
      have a4 : ¬ (s[k].toNat : Int) ≤ 57 := by omega
      go_wp2
      go_roundw
      case rel => exact ⟨k + 1, by omega, by go_num, trivial⟩
      case measure => simp [intOf]; omega
    · have hkn' : ¬ (k : Int) < (n : Int) := by omega
      have b1 : (1 : Int) ≤ (n : Int) := by omega
      have b2 : (n : Int) ≤ 12 := by omega
      go_wp2
      go_ret
      exact ⟨rfl, rfl⟩
structure Cp where
  nm : ByteArray
  fam : Int
  mks : Int
def kCells (l : List Cp) : List Value := l.flatMap fun x => [.string x.nm, .int .i64 x.fam, .int .i64 x.mks]
theorem kCells_at (l : List Cp) (i : Nat) (h : i < l.length) : (kCells l)[i * 3]? = some (.string l[i].nm) ∧ (kCells l)[i * 3 + 1]? = some (.int .i64 l[i].fam) ∧ (kCells l)[i * 3 + 2]? = some (.int .i64 l[i].mks) := by
  induction l generalizing i with
  | nil => simp at h
  | cons o r ih =>
    have hc : kCells (o :: r) = [.string o.nm, .int .i64 o.fam, .int .i64 o.mks] ++ kCells r := by simp [kCells]
    rw [hc]
    rcases i with _ | i
    · simp
    · have := ih i (by simpa using h)
      refine ⟨?_, ?_, ?_⟩ <;> rw [List.getElem?_append_right (by simp; omega)]
      · rw [show (i + 1) * 3 - ([Value.string o.nm, .int .i64 o.fam, .int .i64 o.mks] : List Value).length = i * 3 from by simp; omega]; exact this.1
      · rw [show (i + 1) * 3 + 1 - ([Value.string o.nm, .int .i64 o.fam, .int .i64 o.mks] : List Value).length = i * 3 + 1 from by simp; omega]; exact this.2.1
      · rw [show (i + 1) * 3 + 2 - ([Value.string o.nm, .int .i64 o.fam, .int .i64 o.mks] : List Value).length = i * 3 + 2 from by simp; omega]; exact this.2.2
structure SlC (w : World) (A : Option Addr) (n c : Nat) (l : List Cp) : Prop where
  len : l.length = n
  cap : n ≤ c
  top : c ≤ maxLen
  lies : Lies w A n (kCells l)
theorem SlC.below {w w' : World} {A : Option Addr} {n c : Nat} {l : List Cp} (h : SlC w A n c l) (hb : Below w.heap.size w w') : SlC w' A n c l := ⟨h.len, h.cap, h.top, h.lies.below hb⟩
theorem SlC.at {w : World} {A : Option Addr} {n c : Nat} {l : List Cp} (h : SlC w A n c l) (i : Nat) (hi : i < l.length) :
    ∃ b off, A = some ⟨b, off, none⟩ ∧ b < w.heap.size ∧ w.cell? ⟨b, off + i * 3, none⟩ = some (.string l[i].nm) ∧ w.cell? ⟨b, off + i * 3 + 1, none⟩ = some (.int .i64 l[i].fam) ∧ w.cell? ⟨b, off + i * 3 + 2, none⟩ = some (.int .i64 l[i].mks) := by
  obtain ⟨b, off, e, hb, hc⟩ := h.lies.resolve_left (by have := h.len; omega)
  obtain ⟨h0, h1, h2⟩ := kCells_at l i hi
  exact ⟨b, off, e, hb, hc _ _ h0, hc _ _ h1, hc _ _ h2⟩
def leqS (a b : ByteArray) : Bool := Go.Op.bytesLess a.toList b.toList || a.toList == b.toList
def cropsB (l : List Cp) : Prop := l.length ≤ 40 ∧ (∀ x ∈ l, lettersB x.nm = true ∧ (0 ≤ x.fam ∧ x.fam ≤ 40) ∧ 0 ≤ x.mks ∧ x.mks ≤ 31) ∧ ∀ i (h : i + 1 < l.length), leqS l[i + 1].nm l[i].nm = false
theorem cropCheck_any (A : Option Addr) (n c : Nat) (l : List Cp) (w : World) (hA : SlC w A n c l) (hok : cropsB l) :
    Calls Tryz.prog 124 #[.slice A n c] w fun e w' => e = .returned (.int .i64 0) ∧ Below w.heap.size w w' := by
  have HA := Lib.hid hA
  have Hn := Lib.hid hA.len
  have Hok := Lib.hid hok
  have hn40 : n ≤ 40 := by have := hok.1; have := hA.len; omega
  clear hA hok
  have hbig : ¬ (40 : Int) < (n : Int) := by omega
  go_enter Tryz.func124, Tryz.ntmps124
  go_wp2_with fail
  go_loopw [3, 10] (fun _ iv wr => ∃ k : Nat, k ≤ n ∧ iv = .int .i64 (k : Int) ∧ Below w.heap.size w wr) (fun _ iv _ => n - (intOf iv).toNat)
  case atStart => exact ⟨0, Nat.zero_le _, rfl, Below.refl _ _⟩
  case round =>
    obtain ⟨k, hk, rfl, hbw⟩ := hrel
    have Hbw := Lib.hid hbw
    have hsw := hbw.size
    clear hbw
    by_cases hkn : k < n
    · have hkn' : (k : Int) < (n : Int) := by omega
      have hkl : k < l.length := by have := Hn.out; omega
      obtain ⟨b, off, rfl, hb, c0, c1, c2⟩ := (HA.out.below Hbw.out).at k hkl
      obtain ⟨hnm, hfam, hmk⟩ := Hok.out.2.1 l[k] (List.getElem_mem hkl)
      have Hord : Hid (∀ j (hj : j < l.length), k = j + 1 → leqS l[k].nm l[j].nm = false) := Lib.hid (fun j hj e => by subst e; exact Hok.out.2.2 j hkl)
      generalize l[k] = y at *
      obtain ⟨nm, fam, mk⟩ := y
      dsimp only at *
      have Hnm := Lib.hid (fun W => name_any nm W hnm)
      have f1 : ¬ fam < 0 := by omega
      have f2 : ¬ 40 < fam := by omega
      have f3 : ¬ mk < 0 := by omega
      have f4 : ¬ 31 < mk := by omega
      have hrow := heap_alloc_new wr (.cells #[.string nm, .int .i64 fam, .int .i64 mk] 91)
      have Hba : Hid (Below wr.heap.size wr (wr.alloc (.cells #[.string nm, .int .i64 fam, .int .i64 mk] 91))) := Lib.hid gBel
      have hla : wr.heap.size < (wr.alloc (.cells #[.string nm, .int .i64 fam, .int .i64 mk] 91)).heap.size := by simp
      go_upto_block 2 with fail
      obtain ⟨T, hT⟩ : ∃ T, wr.heap.size = T := ⟨_, rfl⟩
      rw [hT] at hrow hla ⊢
      generalize wr.alloc (.cells #[.string nm, .int .i64 fam, .int .i64 mk] 91) = wa at *
      have Hbwa : Hid (Below w.heap.size w wa) := Lib.hid (Hbw.out.trans (Hba.out.mono hsw))
      have a0 := cell_of_row wa T 0 _ _ _ hrow
      have a1 := cell_of_row wa T 1 _ _ _ hrow
      have a2 := cell_of_row wa T 2 _ _ _ hrow
      clear c0 c1 c2 hrow hT
      by_cases hk0 : 0 < k
      · have hk0' : (0 : Int) < (k : Int) := by omega
        have hk0d : decide ((0 : Int) < (k : Int)) = true := decide_eq_true hk0'
        obtain ⟨j, hj⟩ : ∃ j, k = j + 1 := ⟨k - 1, by omega⟩
        have hjl : j < l.length := by omega
        obtain ⟨b', off', e', hb', d0, -, -⟩ := (HA.out.below Hbwa.out).at j hjl
        injection e' with e'
        injection e' with e1 e2
        subst e1 e2
        have hlq := Hord.out j hjl hj
        generalize l[j].nm = pn at *
        have hwk : IntKind.i64.wrap ((k : Int) - 1) = (j : Int) := by rw [show (k : Int) - 1 = (j : Int) by omega]; exact IntWalk.i64_in _ (by omega)
        have hjn : (j : Int) < (n : Int) := by omega
        have Hj := Lib.hid hj
        clear hj
        unfold leqS at hlq
        go_wp2_with (first | (go_at_call 214; refine (Hnm.out _).mono ?_; rintro e w' ⟨rfl, rfl⟩) | fail)
        go_quiet (fail)
        go_wp2
        go_roundw
        case rel => exact ⟨k + 1, by omega, by go_num, below_drewN Hbwa.out _⟩
        case measure => simp [intOf]; omega
      · obtain rfl : k = 0 := by omega
        have hk0d : decide ((0 : Int) < ((0 : Nat) : Int)) = false := rfl
        go_wp2_with (first | (go_at_call 214; refine (Hnm.out _).mono ?_; rintro e w' ⟨rfl, rfl⟩) | fail)
        go_quiet (fail)
        go_wp2
        go_roundw
        case rel => exact ⟨1, by omega, by go_num, below_drewN Hbwa.out _⟩
        case measure => simp [intOf]; omega
    · have hkn' : ¬ (k : Int) < (n : Int) := by omega
      go_wp2
      go_ret
      exact ⟨rfl, Hbw.out⟩
abbrev sameV (t : Int) : Value := .agg #[.int .i64 6, .int .i64 t, .int .i64 0, .slice none 0 0]
theorem limitsTm_any (w : World) : Calls Tryz.prog 325 #[.int .i64 6] w fun e w' => e = .returned (.tuple #[.int .i64 2, .int .i64 10, .bool true]) ∧ w' = w := by
  go_enter Tryz.func325, Tryz.ntmps325
  go_wp2
  refine bodyPost_ret (v := .tuple #[.int .i64 2, .int .i64 10, .bool true]) (by simp [results, Tryz.results325, go_sem, *]) rfl ?_
  exact ⟨rfl, rfl⟩
theorem kidsTm_any (w : World) : Calls Tryz.prog 326 #[.int .i64 6] w fun e w' => e = .returned (.tuple #[.int .i64 0, .int .i64 0]) ∧ w' = w := by
  go_enter Tryz.func326, Tryz.ntmps326
  go_wp2
  refine bodyPost_ret (v := .tuple #[.int .i64 0, .int .i64 0]) (by simp [results, Tryz.results326, go_sem, *]) rfl ?_
  exact ⟨rfl, rfl⟩
theorem indexTm_nil (f : Nat) (lb : Array Value) (w : World) :
    Calls Tryz.prog 357 #[.slice none 0 0, .func (.func f) #[] lb] w fun e w' => e = .returned (.int .i64 (-1)) ∧ w' = w := by
  go_enter Tryz.func357, Tryz.ntmps357
  go_wp2
  go_loop [8] (fun i => i = .int .i64 0) (fun _ => 0)
  case atStart => rfl
  case round =>
    subst hrel
    go_wp2
    go_ret
    exact ⟨rfl, rfl⟩
theorem containsTm_nil (f : Nat) (lb : Array Value) (w : World) :
    Calls Tryz.prog 328 #[.slice none 0 0, .func (.func f) #[] lb] w fun e w' => e = .returned (.bool false) ∧ w' = w := by
  go_enter Tryz.func328, Tryz.ntmps328
  go_wp2_with (first
    | (go_at_call 357; refine (indexTm_nil f lb _).mono ?_; rintro e w1 ⟨rfl, rfl⟩)
    | fail)
  go_ret
  exact ⟨rfl, rfl⟩
theorem countTm_any (t : Int) (w : World) : Calls Tryz.prog 271 #[sameV t, .int .i64 40] w fun e w' => e = .returned (.int .i64 1) ∧ Below w.heap.size w w' := by
  go_enter Tryz.func271, Tryz.ntmps271
  go_upto_region 1 with fail
  obtain ⟨w1, hw1⟩ : ∃ w1 : World, w1 = w.alloc (.cells #[.int .i64 6, .int .i64 t, .int .i64 0, .slice none 0 0] 84) := ⟨_, rfl⟩
  rw [← hw1]
  have hr1 : w1.heap[w.heap.size]? = some (.cells #[.int .i64 6, .int .i64 t, .int .i64 0, .slice none 0 0] 84 (0, 0)) := by rw [hw1]; exact heap_alloc_new w _
  have Hb1 : Hid (Below w.heap.size w w1) := Lib.hid (by rw [hw1]; exact gBel)
  have d3 := cell_of_row _ _ 3 _ _ _ hr1
  clear hw1 hr1
  go_wp2
  go_loopw [5, 7, 11] (fun nv _ iv wr => nv = .int .i64 1 ∧ iv = .int .i64 0 ∧ wr = w1) (fun _ _ _ _ => 0)
  case atStart => exact ⟨rfl, rfl, rfl⟩
  case round =>
    obtain ⟨rfl, rfl, rfl⟩ := hrel
    go_wp2
    go_ret
    exact ⟨rfl, Hb1.out⟩
theorem rightTm_any (t : Int) (ht : 2 ≤ t ∧ t ≤ 4) (w : World) : Calls Tryz.prog 272 #[sameV t, .int .i64 8] w fun e w' => e = .returned (.bool true) ∧ Below w.heap.size w w' := by
  have ht1 : ¬ t < 2 := by omega
  have ht2 : ¬ 10 < t := by omega
  go_enter Tryz.func272, Tryz.ntmps272
  go_upto_region 1 with fail
  obtain ⟨w1, hw1⟩ : ∃ w1 : World, w1 = (w.alloc (.cells #[.int .i64 6, .int .i64 t, .int .i64 0, .slice none 0 0] 84)).alloc (.cells #[.int .i64 8] 3) := ⟨_, rfl⟩
  rw [← hw1]
  have hr1 : w1.heap[w.heap.size]? = some (.cells #[.int .i64 6, .int .i64 t, .int .i64 0, .slice none 0 0] 84 (0, 0)) := by rw [hw1]; exact (Below.heap_alloc _ _ _ (by simp)).trans (heap_alloc_new w _)
  have hq1 : w1.heap[w.heap.size + 1]? = some (.cells #[.int .i64 8] 3 (0, 0)) := by rw [hw1]; exact heap_alloc2_new w _ _
  have Hb1 : Hid (Below w.heap.size w w1) := Lib.hid (by rw [hw1]; exact gBel)
  have d0 := cell_of_row _ _ 0 _ _ _ hr1
  have d1 := cell_of_row _ _ 1 _ _ _ hr1
  have d2 := cell_of_row _ _ 2 _ _ _ hr1
  have d3 := cell_of_row _ _ 3 _ _ _ hr1
  have q0 := cell_of_row _ _ 0 _ _ _ hq1
  clear hw1 hr1 hq1
  go_wp2_with (first
    | (go_at_call 325; refine (limitsTm_any _).mono ?_; rintro e w' ⟨rfl, rfl⟩)
    | (go_at_call 326; refine (kidsTm_any _).mono ?_; rintro e w' ⟨rfl, rfl⟩)
    | (go_at_call 328; refine (containsTm_nil _ _ _).mono ?_; rintro e w' ⟨rfl, rfl⟩)
    | fail)
  go_ret
  exact ⟨rfl, Hb1.out⟩
theorem checkTm_any (t : Int) (ht : 2 ≤ t ∧ t ≤ 4) (w : World) : Calls Tryz.prog 202 #[sameV t] w fun e w' => e = .returned (.int .i64 0) ∧ Below w.heap.size w w' := by
  go_enter Tryz.func202, Tryz.ntmps202
  go_upto_region 1 with fail
  obtain ⟨w1, hw1⟩ : ∃ w1 : World, w1 = w.alloc (.cells #[.int .i64 6, .int .i64 t, .int .i64 0, .slice none 0 0] 84) := ⟨_, rfl⟩
  rw [← hw1]
  have Hr1 : Hid (w1.heap[w.heap.size]? = some (.cells #[.int .i64 6, .int .i64 t, .int .i64 0, .slice none 0 0] 84 (0, 0))) := Lib.hid (by rw [hw1]; exact heap_alloc_new w _)
  have Hb1 : Hid (Below w.heap.size w w1) := Lib.hid (by rw [hw1]; exact gBel)
  have hs1 : w.heap.size < w1.heap.size := by rw [hw1]; simp
  have d0 := cell_of_row _ _ 0 _ _ _ Hr1.out
  have d1 := cell_of_row _ _ 1 _ _ _ Hr1.out
  have d2 := cell_of_row _ _ 2 _ _ _ Hr1.out
  have d3 := cell_of_row _ _ 3 _ _ _ Hr1.out
  clear hw1
  go_wp2_with (first
    | (go_at_call 271
       refine (countTm_any t _).mono ?_
       rintro e w2 ⟨rfl, hb2⟩
       have hr2 := (hb2.block w.heap.size hs1).trans Hr1.out
       have e0 := cell_of_row _ _ 0 _ _ _ hr2
       have e1 := cell_of_row _ _ 1 _ _ _ hr2
       have e2 := cell_of_row _ _ 2 _ _ _ hr2
       have e3 := cell_of_row _ _ 3 _ _ _ hr2
       have Hb2 := Lib.hid (Hb1.out.trans (hb2.mono (by omega)))
       clear hb2 hr2 d0 d1 d2 d3)
    | (go_at_call 272
       refine (rightTm_any t ht _).mono ?_
       rintro e w3 ⟨rfl, hb3⟩
       have Hb3 := Lib.hid (Hb2.out.trans (hb3.mono Hb2.out.size))
       clear hb3)
    | fail)
  go_ret
  exact ⟨rfl, Hb3.out⟩
end Go.Proofs.YtfmkmhhghmdakaaGreatDoor
namespace Go.Proofs.YtfmkmhhghmdakaaGreatDoor
open Go.RowKit
set_option linter.unusedVariables false
set_option linter.unusedSimpArgs false
set_option maxHeartbeats 64000000
set_option maxRecDepth 100000
structure RcOk (x : Rc) : Prop where
  yr : 0 ≤ x.yr ∧ x.yr ≤ 100
  cr : 0 ≤ x.cr ∧ x.cr < 40
  rg : validP x.rg = true
  ne : 0 < x.rg.length
def rcLt (a b : Rc) : Prop := a.yr < b.yr ∨ (a.yr = b.yr ∧ a.cr < b.cr)
structure HyOk (l : List Rc) : Prop where
  ok : ∀ x ∈ l, RcOk x
  up : l.Pairwise rcLt
  dis : l.Pairwise fun a b => a.yr = b.yr → meetsP a.rg b.rg = false
  len : l.length ≤ 200
theorem rcs_get (l : RcL) (i : Nat) (h : i < l.length) : (rcs l)[i]'(by rw [rcs_len]; exact h) = l[i].1 := by simp [rcs]
theorem HyOk.step {l : RcL} (h : HyOk (rcs l)) (i j : Nat) (hij : i < j) (hj : j < l.length) : rcLt (l[i]'(by omega)).1 l[j].1 := by
  have := List.pairwise_iff_getElem.1 h.up i j (by rw [rcs_len]; omega) (by rw [rcs_len]; omega) hij
  rw [rcs_get l i (by omega), rcs_get l j hj] at this
  exact this
theorem HyOk.apart {l : RcL} (h : HyOk (rcs l)) (i j : Nat) (hij : i < j) (hj : j < l.length) (he : (l[i]'(by omega)).1.yr = l[j].1.yr) : meetsP (l[i]'(by omega)).1.rg l[j].1.rg = false := by
  have := List.pairwise_iff_getElem.1 h.dis i j (by rw [rcs_len]; omega) (by rw [rcs_len]; omega) hij
  rw [rcs_get l i (by omega), rcs_get l j hj] at this
  exact this he
structure Fc where
  set : Int
  rg : List R4
def oneA (y c : Int) (a : List R4) (x : Rc) : List Rc :=
  if x.yr = y ∧ x.cr = c then [] else if x.yr = y then (if (chooseP notB x.rg a).length = 0 then [] else [⟨x.yr, x.cr, chooseP notB x.rg a⟩]) else (if x.rg.length = 0 then [] else [x])
theorem oneA_of {y c : Int} {a : List R4} {x z : Rc} (h : z ∈ oneA y c a x) : z.yr = x.yr ∧ z.cr = x.cr ∧ ¬ (x.yr = y ∧ x.cr = c) ∧ 0 < z.rg.length ∧ (z.rg = x.rg ∧ x.yr ≠ y ∨ z.rg = chooseP notB x.rg a ∧ x.yr = y) := by
  unfold oneA at h
  split at h
  · cases h
  · rename_i h1
    split at h
    · rename_i h2
      split at h
      · cases h
      · rename_i h3
        rw [List.mem_singleton] at h
        subst h
        exact ⟨rfl, rfl, h1, Nat.pos_of_ne_zero h3, .inr ⟨rfl, h2⟩⟩
    · rename_i h2
      split at h
      · cases h
      · rename_i h3
        rw [List.mem_singleton] at h
        subst h
        exact ⟨rfl, rfl, h1, Nat.pos_of_ne_zero h3, .inl ⟨rfl, h2⟩⟩
theorem oneA_len (y c : Int) (a : List R4) (x : Rc) : (oneA y c a x).length ≤ 1 := by
  unfold oneA
  split
  · simp
  · split <;> split <;> simp
theorem keepA_len (y c : Int) (a : List R4) (l : List Rc) : (l.flatMap (oneA y c a)).length ≤ l.length := by
  induction l with
  | nil => simp
  | cons x t ih =>
    have := oneA_len y c a x
    rw [List.flatMap_cons, List.length_append, List.length_cons]; omega
theorem pair_flat {α β : Type} {R : α → α → Prop} {S : β → β → Prop} {f : α → List β} (hf : ∀ a, (f a).length ≤ 1) : ∀ {l : List α}, l.Pairwise R → (∀ a ∈ l, ∀ b ∈ l, R a b → ∀ x ∈ f a, ∀ y ∈ f b, S x y) → (l.flatMap f).Pairwise S
  | [], _, _ => by simp
  | a :: t, h, hs => by
    rw [List.flatMap_cons, List.pairwise_append]
    obtain ⟨h1, h2⟩ := List.pairwise_cons.1 h
    refine ⟨?_, pair_flat hf h2 (fun x hx y hy => hs x (List.mem_cons_of_mem _ hx) y (List.mem_cons_of_mem _ hy)), fun x hx y hy => ?_⟩
    · have := hf a
      match f a, this with
      | [], _ => exact List.Pairwise.nil
      | [z], _ => exact List.pairwise_singleton _ _
      | _ :: _ :: _, h => simp at h
    · obtain ⟨b, hb, hy⟩ := List.mem_flatMap.1 hy
      exact hs a (by simp) b (List.mem_cons_of_mem _ hb) (h1 b hb) x hx y hy
def InB (B : List Int) (l : List R4) : Prop := ∀ u v, inL l u v = true → ∃ p ∈ B, 10 * p ≤ u ∧ u < 10 * p + 9 ∧ 0 ≤ v ∧ v < 9
def boxX (B : List Int) : List Int := B.flatMap fun p => [10 * p, 10 * p + 1, 10 * p + 2, 10 * p + 3, 10 * p + 4, 10 * p + 5, 10 * p + 6, 10 * p + 7, 10 * p + 8, 10 * p + 9]
theorem boxX_len : ∀ B : List Int, (boxX B).length = 10 * B.length
  | [] => rfl
  | p :: t => by
    have h := boxX_len t
    unfold boxX at *
    rw [List.flatMap_cons, List.length_append, h, List.length_cons]
    simp only [List.length_cons, List.length_nil]
    omega
theorem boxX_mem {B : List Int} {p x : Int} (hp : p ∈ B) (h : 10 * p ≤ x ∧ x ≤ 10 * p + 9) : x ∈ boxX B := by
  refine List.mem_flatMap.2 ⟨p, hp, ?_⟩
  simp only [List.mem_cons, List.not_mem_nil, or_false]
  omega
theorem InB.cut {B : List Int} {l : List R4} (h : InB B l) (y : Int) : Cut (boxX B) (fun u => inL l u y) := by
  intro x hx
  cases h1 : inL l x y with
  | true =>
    obtain ⟨p, hp, h2⟩ := h x y h1
    exact boxX_mem hp (by omega)
  | false =>
    cases h2 : inL l (x - 1) y with
    | true =>
      obtain ⟨p, hp, h3⟩ := h (x - 1) y h2
      exact boxX_mem hp (by omega)
    | false => exact absurd (by dsimp only; rw [h1, h2]) hx
structure RgB (B : List Int) (l : List R4) : Prop where
  ins : InS 30 l
  canon : canonP l = l
  inb : InB B l
theorem RgB.len {B : List Int} {l : List R4} (h : RgB B l) : l.length ≤ 45 * B.length := by
  have h1 := canon_len (canonP_canon l h.ins.pos) (X := boxX B) (fun y => h.inb.cut y) 9 (fun x y hxy => by
    obtain ⟨p, _, h2⟩ := h.inb x y hxy
    exact ⟨h2.2.2.1, h2.2.2.2⟩)
  rw [h.canon, boxX_len] at h1
  omega
theorem RgB.reg {B : List Int} {l : List R4} (h : RgB B l) (hB : B.length ≤ 2) : Reg 30 90 l := ⟨h.ins, h.canon, by have := h.len; omega⟩
theorem RgB.valid {B : List Int} {l : List R4} (h : RgB B l) (hB : B.length ≤ 2) : validP l = true := (h.reg hB).valid (by omega) (by omega)
theorem choose_rgb (how : Bool → Bool → Bool) (h0 : how false false = false) {a b : List R4} (ha : InS 30 a) (hb : InS 30 b) {B : List Int} (h : ∀ u v, how (inL a u v) (inL b u v) = true → ∃ p ∈ B, 10 * p ≤ u ∧ u < 10 * p + 9 ∧ 0 ≤ v ∧ v < 9) : RgB B (chooseP how a b) := by
  have h1 := choose_reg how h0 30 ha hb
  exact ⟨h1.ins, h1.canon, fun u v huv => h u v (by rw [← choose_mem how h0 ha.pos hb.pos]; exact huv)⟩
theorem canon_rgb {B : List Int} {l : List R4} (h : InS 30 l) (hb : InB B l) : RgB B (canonP l) := ⟨canonP_in h, canonP_idem h, fun u v huv => hb u v (by rw [← (canonP_canon l h.pos).mem]; exact huv)⟩
theorem RgB.orB {B : List Int} {a b : List R4} (ha : RgB B a) (hb : RgB B b) : RgB B (chooseP orB a b) := choose_rgb Go.Proofs.YtfmkmhhghmdakaaGreatDoor.orB rfl ha.ins hb.ins fun u v h => by
  unfold Go.Proofs.YtfmkmhhghmdakaaGreatDoor.orB at h
  rw [Bool.or_eq_true] at h
  rcases h with h | h
  · exact ha.inb u v h
  · exact hb.inb u v h
theorem RgB.notB {B : List Int} {a b : List R4} (ha : RgB B a) (hb : InS 30 b) : RgB B (chooseP notB a b) := choose_rgb Go.Proofs.YtfmkmhhghmdakaaGreatDoor.notB rfl ha.ins hb fun u v h => by
  unfold Go.Proofs.YtfmkmhhghmdakaaGreatDoor.notB at h
  rw [Bool.and_eq_true] at h
  exact ha.inb u v h.1
theorem RgB.andB {B : List Int} {a b : List R4} (ha : RgB B a) (hb : InS 30 b) : RgB B (chooseP andB a b) := choose_rgb Go.Proofs.YtfmkmhhghmdakaaGreatDoor.andB rfl ha.ins hb fun u v h => by
  unfold Go.Proofs.YtfmkmhhghmdakaaGreatDoor.andB at h
  rw [Bool.and_eq_true] at h
  exact ha.inb u v h.1
theorem meets_ins {s : Int} {a b : List R4} (ha : InS s a) (hb : InS s b) (va : validP a = true) (vb : validP b = true) : meetsP a b = false ↔ ∀ x y, ¬ (inL a x y = true ∧ inL b x y = true) := by
  unfold meetsP
  rw [va, vb, Bool.true_and, Bool.true_and]
  have h := over_some ha hb
  constructor
  · intro h1 x y h2
    have := h.2 ⟨x, y, by rw [Bool.and_eq_true]; exact h2⟩
    rw [h1] at this; cases this
  · intro h1
    rw [Bool.eq_false_iff]
    intro h2
    obtain ⟨x, y, h3⟩ := h.1 h2
    rw [Bool.and_eq_true] at h3
    exact h1 x y h3
structure HyW (nc : Int) (l : List Rc) : Prop where
  hy : HyOk l
  ins : ∀ x ∈ l, InS 30 x.rg
  cr : ∀ x ∈ l, x.cr < nc
  yr : ∀ y : Int, ∃ B : List Int, B.length ≤ 2 ∧ ∀ x ∈ l, x.yr = y → InB B x.rg
theorem HyW.nil (nc : Int) : HyW nc [] := ⟨⟨fun x h => (by cases h), List.Pairwise.nil, List.Pairwise.nil, by simp⟩, fun x h => (by cases h), fun x h => (by cases h), fun y => ⟨[], by simp, fun x h => (by cases h)⟩⟩
theorem valid_canon {l : List R4} (h : validP l = true) : canonP l = l := by
  simp only [validP, Bool.and_eq_true, decide_eq_true_eq] at h
  exact h.2
theorem HyW.rgb {nc : Int} {l : List Rc} (h : HyW nc l) {x : Rc} (hx : x ∈ l) : ∃ B : List Int, B.length ≤ 2 ∧ RgB B x.rg := by
  obtain ⟨B, h1, h2⟩ := h.yr x.yr
  exact ⟨B, h1, h.ins x hx, valid_canon (h.hy.ok x hx).rg, h2 x hx rfl⟩
theorem HyW.len90 {nc : Int} {l : List Rc} (h : HyW nc l) {x : Rc} (hx : x ∈ l) : x.rg.length ≤ 90 := by
  obtain ⟨B, h1, h2⟩ := h.rgb hx
  have := h2.len; omega
theorem HyW.apart {nc : Int} {l : List Rc} (h : HyW nc l) {x z : Rc} (hx : x ∈ l) (hz : z ∈ l) (hy : x.yr = z.yr) {px py : Int} (h1 : inL x.rg px py = true) (h2 : inL z.rg px py = true) : x = z := by
  obtain ⟨i, hi, rfl⟩ := List.mem_iff_getElem.1 hx
  obtain ⟨j, hj, rfl⟩ := List.mem_iff_getElem.1 hz
  have key : ∀ a b (ha : a < l.length) (hb : b < l.length), a < b → l[a].yr = l[b].yr → inL l[a].rg px py = true → inL l[b].rg px py = true → False := fun a b ha hb hab hy h1 h2 => by
    have := List.pairwise_iff_getElem.1 h.hy.dis a b ha hb hab hy
    exact (meets_ins (h.ins _ (List.getElem_mem ha)) (h.ins _ (List.getElem_mem hb)) (h.hy.ok _ (List.getElem_mem ha)).rg (h.hy.ok _ (List.getElem_mem hb)).rg).1 this px py ⟨h1, h2⟩
  rcases Nat.lt_trichotomy i j with h3 | h3 | h3
  · exact (key i j hi hj h3 hy h1 h2).elim
  · subst h3; rfl
  · exact (key j i hj hi h3 hy.symm h2 h1).elim
def mineK (y c : Int) (a : List R4) (m : List R4) (x : Rc) : List R4 := if x.yr = y ∧ x.cr = c then chooseP orB x.rg a else m
theorem mineK_rgb {B : List Int} {y c : Int} {a : List R4} (ha : RgB B a) : ∀ {l : List Rc} {m : List R4}, (∀ x ∈ l, InS 30 x.rg ∧ validP x.rg = true ∧ (x.yr = y → InB B x.rg)) → RgB B m → RgB B (l.foldl (mineK y c a) m) ∧ ∀ p q, inL (l.foldl (mineK y c a) m) p q = true → inL m p q = true ∨ inL a p q = true ∨ ∃ x ∈ l, x.yr = y ∧ x.cr = c ∧ inL x.rg p q = true
  | [], m, _, hm => ⟨hm, fun p q h => .inl h⟩
  | x :: t, m, hl, hm => by
    obtain ⟨x1, x2, x3⟩ := hl x (by simp)
    rw [List.foldl_cons]
    by_cases h : x.yr = y ∧ x.cr = c
    · have e : mineK y c a m x = chooseP orB x.rg a := if_pos h
      rw [e]
      have hx : RgB B x.rg := ⟨x1, valid_canon x2, x3 h.1⟩
      obtain ⟨h1, h2⟩ := mineK_rgb (y := y) (c := c) ha (l := t) (fun z hz => hl z (List.mem_cons_of_mem _ hz)) (hx.orB ha)
      refine ⟨h1, fun p q hpq => ?_⟩
      rcases h2 p q hpq with h3 | h3 | ⟨z, hz, h4⟩
      · rw [choose_mem Go.Proofs.YtfmkmhhghmdakaaGreatDoor.orB rfl hx.ins.pos ha.ins.pos] at h3
        unfold Go.Proofs.YtfmkmhhghmdakaaGreatDoor.orB at h3
        rw [Bool.or_eq_true] at h3
        rcases h3 with h3 | h3
        · exact .inr (.inr ⟨x, by simp, h.1, h.2, h3⟩)
        · exact .inr (.inl h3)
      · exact .inr (.inl h3)
      · exact .inr (.inr ⟨z, List.mem_cons_of_mem _ hz, h4⟩)
    · have e : mineK y c a m x = m := if_neg h
      rw [e]
      obtain ⟨h1, h2⟩ := mineK_rgb (y := y) (c := c) ha (l := t) (fun z hz => hl z (List.mem_cons_of_mem _ hz)) hm
      refine ⟨h1, fun p q hpq => ?_⟩
      rcases h2 p q hpq with h3 | h3 | ⟨z, hz, h4⟩
      · exact .inl h3
      · exact .inr (.inl h3)
      · exact .inr (.inr ⟨z, List.mem_cons_of_mem _ hz, h4⟩)
theorem oneA_rgb {nc : Int} {l : List Rc} (h : HyW nc l) {y c : Int} {a : List R4} (ha : InS 30 a) {x z : Rc} (hx : x ∈ l) (hz : z ∈ oneA y c a x) : (∀ B, InB B x.rg → RgB B z.rg) ∧ ∀ p q, inL z.rg p q = true → inL x.rg p q = true ∧ (x.yr = y → inL a p q = false) := by
  obtain ⟨_, _, _, _, h5⟩ := oneA_of hz
  have hv := valid_canon (h.hy.ok x hx).rg
  rcases h5 with ⟨e, hy⟩ | ⟨e, hy⟩
  · rw [e]; exact ⟨fun B hB => ⟨h.ins x hx, hv, hB⟩, fun p q hpq => ⟨hpq, fun h => absurd h hy⟩⟩
  · rw [e]
    refine ⟨fun B hB => RgB.notB ⟨h.ins x hx, hv, hB⟩ ha, fun p q hpq => ?_⟩
    rw [choose_mem Go.Proofs.YtfmkmhhghmdakaaGreatDoor.notB rfl (h.ins x hx).pos ha.pos] at hpq
    unfold Go.Proofs.YtfmkmhhghmdakaaGreatDoor.notB at hpq
    rw [Bool.and_eq_true] at hpq
    exact ⟨hpq.1, fun _ => by simpa using hpq.2⟩
theorem rcLt_ne {l : List Rc} (h : l.Pairwise rcLt) {x z : Rc} (hx : x ∈ l) (hz : z ∈ l) (h1 : x.yr = z.yr) (h2 : x.cr = z.cr) : x = z := by
  obtain ⟨i, hi, rfl⟩ := List.mem_iff_getElem.1 hx
  obtain ⟨j, hj, rfl⟩ := List.mem_iff_getElem.1 hz
  rcases Nat.lt_trichotomy i j with h3 | h3 | h3
  · have := List.pairwise_iff_getElem.1 h i j hi hj h3
    unfold rcLt at this; omega
  · subst h3; rfl
  · have := List.pairwise_iff_getElem.1 h j i hj hi h3
    unfold rcLt at this; omega
theorem addW_ok {nc : Int} {l : List Rc} (h : HyW nc l) (hl : l.length < 200) {y c : Int} (hy : 0 ≤ y ∧ y ≤ 100) (hc : 0 ≤ c ∧ c < nc) (hn : nc ≤ 40) {a : List R4} {B : List Int} (hB : B.length ≤ 2) (ha : RgB B a) (hya : ∀ x ∈ l, x.yr = y → InB B x.rg) {N : List Rc}
    (hp : N.Perm (l.flatMap (oneA y c a) ++ if (l.foldl (mineK y c a) a).length = 0 then [] else [⟨y, c, l.foldl (mineK y c a) a⟩])) (hs : N.Pairwise rcLt) : HyW nc N ∧ N.length ≤ l.length + 1 ∧ (∀ x ∈ N, x.yr = y → InB B x.rg) ∧ (∀ x ∈ N, x.yr = y ∨ ∃ z ∈ l, x.yr = z.yr) ∧ ∀ x ∈ N, x.yr = y → ∀ p q, inL x.rg p q = true → inL a p q = true ∨ ∃ z ∈ l, z.yr = y ∧ inL z.rg p q = true := by
  obtain ⟨out, hout⟩ : ∃ out, out = l.flatMap (oneA y c a) := ⟨_, rfl⟩
  obtain ⟨mine, hmine⟩ : ∃ m, m = l.foldl (mineK y c a) a := ⟨_, rfl⟩
  obtain ⟨hmr, hmi⟩ := mineK_rgb (y := y) (c := c) ha (l := l) (m := a) (fun x hx => ⟨h.ins x hx, (h.hy.ok x hx).rg, hya x hx⟩) ha
  rw [← hmine] at hmr hmi hp
  rw [← hout] at hp
  have hol : out.length ≤ l.length := by rw [hout]; exact keepA_len _ _ _ _
  have hof : ∀ z ∈ out, ∃ x ∈ l, z ∈ oneA y c a x := fun z hz => by rw [hout] at hz; exact List.mem_flatMap.1 hz
  have hox : ∀ z ∈ out, RcOk z ∧ InS 30 z.rg ∧ z.cr < nc ∧ ¬ (z.yr = y ∧ z.cr = c) := fun z hz => by
    obtain ⟨x, hx, hzx⟩ := hof z hz
    obtain ⟨e1, e2, h3, h4, _⟩ := oneA_of hzx
    obtain ⟨B', hB', hxb⟩ := h.rgb hx
    have h5 := (oneA_rgb h ha.ins hx hzx).1 B' hxb.inb
    have h6 := h.hy.ok x hx
    exact ⟨⟨by rw [e1]; exact h6.yr, by rw [e2]; exact h6.cr, h5.valid hB', h4⟩, h5.ins, by rw [e2]; exact h.cr x hx, by rw [e1, e2]; exact h3⟩
  have hmem : ∀ z ∈ N, z ∈ out ∨ (z = ⟨y, c, mine⟩ ∧ 0 < mine.length) := fun z hz => by
    have h1 := hp.mem_iff.1 hz
    rcases List.mem_append.1 h1 with h2 | h2
    · exact .inl h2
    · split at h2
      · cases h2
      · rename_i h3
        exact .inr ⟨List.mem_singleton.1 h2, Nat.pos_of_ne_zero h3⟩
  have hok : ∀ z ∈ N, RcOk z ∧ InS 30 z.rg ∧ z.cr < nc := fun z hz => by
    rcases hmem z hz with h1 | ⟨rfl, h1⟩
    · have := hox z h1; exact ⟨this.1, this.2.1, this.2.2.1⟩
    · exact ⟨⟨hy, by dsimp only; omega, hmr.valid hB, h1⟩, hmr.ins, hc.2⟩
  have hnl : N.length ≤ l.length + 1 := by
    have := hp.length_eq
    rw [List.length_append] at this
    split at this <;> simp at this <;> omega
  have hsq : ∀ z ∈ N, z.yr = y → InB B z.rg := fun z hz hzy => by
    rcases hmem z hz with h1 | ⟨rfl, _⟩
    · obtain ⟨x, hx, hzx⟩ := hof z h1
      obtain ⟨e1, _⟩ := oneA_of hzx
      exact ((oneA_rgb h ha.ins hx hzx).1 B (hya x hx (by omega))).inb
    · exact hmr.inb
  have hdis : ∀ z ∈ N, ∀ t ∈ N, z ≠ t → z.yr = t.yr → ∀ u v, ¬ (inL z.rg u v = true ∧ inL t.rg u v = true) := by
    have key : ∀ z ∈ out, z.yr = y → ∀ u v, ¬ (inL z.rg u v = true ∧ inL mine u v = true) := fun z hz hzy u v huv => by
      obtain ⟨x, hx, hzx⟩ := hof z hz
      obtain ⟨e1, e2, h3, _, _⟩ := oneA_of hzx
      obtain ⟨h5, h6⟩ := (oneA_rgb h ha.ins hx hzx).2 u v huv.1
      have h8 := h6 (by omega)
      rcases hmi u v huv.2 with h7 | h7 | ⟨x', hx', hy', hc', h7⟩
      · rw [h8] at h7; cases h7
      · rw [h8] at h7; cases h7
      · have := h.apart hx hx' (by omega) h5 h7
        subst this
        exact h3 ⟨hy', hc'⟩
    intro z hz t ht hne hyr u v huv
    rcases hmem z hz with h1 | ⟨rfl, _⟩
    · rcases hmem t ht with h2 | ⟨rfl, _⟩
      · obtain ⟨x, hx, hzx⟩ := hof z h1
        obtain ⟨x', hx', htx⟩ := hof t h2
        obtain ⟨e1, e2, _⟩ := oneA_of hzx
        obtain ⟨e3, e4, _⟩ := oneA_of htx
        have := h.apart hx hx' (by omega) ((oneA_rgb h ha.ins hx hzx).2 u v huv.1).1 ((oneA_rgb h ha.ins hx' htx).2 u v huv.2).1
        subst this
        exact hne (rcLt_ne hs hz ht hyr (by omega))
      · exact key z h1 hyr u v huv
    · rcases hmem t ht with h2 | ⟨rfl, _⟩
      · exact key t h2 hyr.symm u v ⟨huv.2, huv.1⟩
      · exact hne rfl
  refine ⟨⟨⟨fun z hz => (hok z hz).1, hs, ?_, by omega⟩, fun z hz => (hok z hz).2.1, fun z hz => (hok z hz).2.2, fun y' => ?_⟩, hnl, hsq, fun z hz => ?_, fun z hz hzy p q hpq => ?_⟩
  · rw [List.pairwise_iff_getElem]
    intro i j hi hj hij hyr
    refine (meets_ins (hok _ (List.getElem_mem hi)).2.1 (hok _ (List.getElem_mem hj)).2.1 (hok _ (List.getElem_mem hi)).1.rg (hok _ (List.getElem_mem hj)).1.rg).2 (hdis _ (List.getElem_mem hi) _ (List.getElem_mem hj) (fun e => ?_) hyr)
    have := List.pairwise_iff_getElem.1 hs i j hi hj hij
    rw [e] at this
    unfold rcLt at this; omega
  · by_cases e : y' = y
    · exact ⟨B, hB, fun z hz hzy => hsq z hz (by omega)⟩
    · obtain ⟨B', h1, h2⟩ := h.yr y'
      refine ⟨B', h1, fun z hz hzy => ?_⟩
      rcases hmem z hz with h3 | ⟨rfl, _⟩
      · obtain ⟨x, hx, hzx⟩ := hof z h3
        obtain ⟨e1, _⟩ := oneA_of hzx
        exact ((oneA_rgb h ha.ins hx hzx).1 B' (h2 x hx (by omega))).inb
      · exact absurd hzy.symm e
  · rcases hmem z hz with h3 | ⟨rfl, _⟩
    · obtain ⟨x, hx, hzx⟩ := hof z h3
      obtain ⟨e1, _⟩ := oneA_of hzx
      exact .inr ⟨x, hx, e1⟩
    · exact .inl rfl
  · rcases hmem z hz with h3 | ⟨rfl, _⟩
    · obtain ⟨x, hx, hzx⟩ := hof z h3
      obtain ⟨e1, _⟩ := oneA_of hzx
      exact .inr ⟨x, hx, by omega, ((oneA_rgb h ha.ins hx hzx).2 p q hpq).1⟩
    · rcases hmi p q hpq with h4 | h4 | ⟨x, hx, h5, _, h6⟩
      · exact .inl h4
      · exact .inl h4
      · exact .inr ⟨x, hx, h5, h6⟩
def oneQ (y : Int) (a : List R4) (x : Rc) : List R4 := if x.yr = y then chooseP notB x.rg a else x.rg
def oneW (y c : Int) (a : List R4) (x : Rc) : List Rc := if x.yr = y ∧ x.cr = c then [] else [⟨x.yr, x.cr, oneQ y a x⟩]
theorem oneQ_eq {nc : Int} {l : List Rc} (h : HyW nc l) {y : Int} {a : List R4} (ha : InS 30 a) (hda : ∀ x ∈ l, x.yr = y → ∀ p q, ¬ (inL x.rg p q = true ∧ inL a p q = true)) {x : Rc} (hx : x ∈ l) : oneQ y a x = x.rg := by
  unfold oneQ
  by_cases e : x.yr = y
  · rw [if_pos e]
    refine choose_is rfl (h.ins x hx).pos (valid_canon (h.hy.ok x hx).rg) (h.ins x hx).pos ha.pos fun u v => ?_
    unfold Go.Proofs.YtfmkmhhghmdakaaGreatDoor.notB
    cases h1 : inL x.rg u v with
    | false => rfl
    | true =>
      cases h2 : inL a u v with
      | false => rfl
      | true => exact (hda x hx e u v ⟨h1, h2⟩).elim
  · rw [if_neg e]
theorem oneW_eq {nc : Int} {l : List Rc} (h : HyW nc l) {y c : Int} {a : List R4} (ha : InS 30 a) (hda : ∀ x ∈ l, x.yr = y → ∀ p q, ¬ (inL x.rg p q = true ∧ inL a p q = true)) : l.flatMap (oneW y c a) = l.flatMap (oneA y c a) := by
  have e : ∀ x ∈ l, oneW y c a x = oneA y c a x := fun x hx => by
    have h1 := oneQ_eq h ha hda hx
    have h2 := (h.hy.ok x hx).ne
    unfold oneW oneA
    by_cases hk : x.yr = y ∧ x.cr = c
    · rw [if_pos hk, if_pos hk]
    · rw [if_neg hk, if_neg hk]
      by_cases hy : x.yr = y
      · rw [if_pos hy]
        unfold oneQ at h1 ⊢
        rw [if_pos hy] at h1 ⊢
        rw [if_neg (by rw [h1]; omega)]
      · rw [if_neg hy, if_neg (by omega)]
        unfold oneQ
        rw [if_neg hy]
  clear hda ha h
  induction l with
  | nil => rfl
  | cons x t ih => rw [List.flatMap_cons, List.flatMap_cons, e x (by simp), ih fun z hz => e z (List.mem_cons_of_mem _ hz)]
theorem oneW_len (y c : Int) (a : List R4) : ∀ l : List Rc, (l.flatMap (oneW y c a)).length ≤ l.length
  | [] => Nat.le_refl _
  | x :: t => by
    have := oneW_len y c a t
    have h1 : (oneW y c a x).length ≤ 1 := by unfold oneW; split <;> simp
    rw [List.flatMap_cons, List.length_append, List.length_cons]
    omega
def rectsP (l : List Rc) (y : Int) (f : Int → Bool) : List R4 := l.flatMap fun x => if x.yr = y ∧ f x.cr = true then x.rg else []
theorem rects_of {l : List Rc} {y : Int} {f : Int → Bool} {q : R4} (h : q ∈ rectsP l y f) : ∃ x ∈ l, x.yr = y ∧ f x.cr = true ∧ q ∈ x.rg := by
  obtain ⟨x, hx, hq⟩ := List.mem_flatMap.1 h
  split at hq
  · rename_i h1; exact ⟨x, hx, h1.1, h1.2, hq⟩
  · cases hq
theorem rects_mem (l : List Rc) (y : Int) (f : Int → Bool) (px py : Int) : inL (rectsP l y f) px py = true ↔ ∃ x ∈ l, x.yr = y ∧ f x.cr = true ∧ inL x.rg px py = true := by
  unfold inL
  simp only [List.any_eq_true]
  constructor
  · rintro ⟨q, hq, h⟩
    obtain ⟨x, hx, h1, h2, hq⟩ := rects_of hq
    exact ⟨x, hx, h1, h2, q, hq, h⟩
  · rintro ⟨x, hx, h1, h2, q, hq, h⟩
    exact ⟨q, List.mem_flatMap.2 ⟨x, hx, by rw [if_pos ⟨h1, h2⟩]; exact hq⟩, h⟩
theorem rectsW_in {nc : Int} {l : List Rc} (h : HyW nc l) (y : Int) (f : Int → Bool) : InS 30 (rectsP l y f) := fun q hq => by
  obtain ⟨x, hx, _, _, hq⟩ := rects_of hq
  exact h.ins x hx q hq
theorem rectsW_inb {nc : Int} {l : List Rc} (h : HyW nc l) (y : Int) : ∃ B : List Int, B.length ≤ 2 ∧ ∀ f, InB B (rectsP l y f) := by
  obtain ⟨B, h1, h2⟩ := h.yr y
  refine ⟨B, h1, fun f u v huv => ?_⟩
  obtain ⟨x, hx, a1, _, a3⟩ := (rects_mem l y f u v).1 huv
  exact h2 x hx a1 u v a3
theorem rectsW_len {nc : Int} {l : List Rc} (h : HyW nc l) (hn : nc ≤ 8) (y : Int) (f : Int → Bool) : (rectsP l y f).length ≤ 720 := by
  have h1 : ∀ m : List Rc, (∀ x ∈ m, x.rg.length ≤ 90) → (rectsP m y f).length ≤ 90 * (m.filter fun x => decide (x.yr = y)).length := by
    intro m hm
    induction m with
    | nil => simp [rectsP]
    | cons x t ih =>
      have h2 := ih fun z hz => hm z (List.mem_cons_of_mem _ hz)
      have h3 := hm x (by simp)
      have e : rectsP (x :: t) y f = (if x.yr = y ∧ f x.cr = true then x.rg else []) ++ rectsP t y f := by simp [rectsP]
      rw [e, List.length_append, List.filter_cons]
      by_cases h4 : x.yr = y
      · rw [if_pos (decide_eq_true h4), List.length_cons]
        split <;> (try simp only [List.length_nil]) <;> omega
      · rw [if_neg (fun h => h4 h.1), if_neg (by simpa using h4), List.length_nil]
        omega
  have h2 : ((l.filter fun x => decide (x.yr = y)).map (·.cr)).Pairwise (· < ·) := by
    rw [List.pairwise_map]
    have h3 : (l.filter fun x => decide (x.yr = y)).Pairwise rcLt := h.hy.up.sublist List.filter_sublist
    refine List.Pairwise.imp_of_mem ?_ h3
    intro a b ha hb hlt
    have h4 : a.yr = y := by simpa using (List.mem_filter.1 ha).2
    have h5 : b.yr = y := by simpa using (List.mem_filter.1 hb).2
    rcases hlt with h6 | h6 <;> omega
  have h3 := lt_len _ 0 7 h2 (fun k hk => by
    obtain ⟨x, hx, rfl⟩ := List.mem_map.1 hk
    have h6 := (List.mem_filter.1 hx).1
    have h4 := (h.hy.ok x h6).cr
    have h5 := h.cr x h6
    omega) (by omega)
  rw [List.length_map] at h3
  have := h1 l fun x hx => h.len90 hx
  omega
theorem cuts_side30 {l : List R4} (h : InS 30 l) : (cutsP l).length ≤ 31 := by
  have h1 : (cutsP l).Pairwise (· < ·) := (asc_all _).1
  have := lt_len _ 0 30 h1 (fun z hz => by
    have h1 := ((asc_all _).2.1 z).1 hz
    obtain ⟨q, hq, hz⟩ := List.mem_flatMap.1 h1
    have := h q hq
    simp only [List.mem_cons, List.not_mem_nil, or_false] at hz
    rcases hz with rfl | rfl <;> omega) (by omega)
  omega
def keptP (l : List Rc) (y0 : Int) (f : Int → Bool) : Nat → List R4
  | 0 => rectsP l y0 f
  | n + 1 => chooseP andB (keptP l y0 f n) (rectsP l (y0 + ((n + 1 : Nat) : Int)) f)
theorem kept_in {nc : Int} {l : List Rc} (h : HyW nc l) (y0 : Int) (f : Int → Bool) : ∀ n, InS 30 (keptP l y0 f n)
  | 0 => rectsW_in h y0 f
  | n + 1 => choose_in andB rfl (kept_in h y0 f n) (rectsW_in h _ f)
theorem kept_mem {nc : Int} {l : List Rc} (h : HyW nc l) (y0 : Int) (f : Int → Bool) (u v : Int) : ∀ n, inL (keptP l y0 f n) u v = true ↔ ∀ k : Nat, k ≤ n → inL (rectsP l (y0 + (k : Int)) f) u v = true
  | 0 => by
    constructor
    · intro h1 k hk
      obtain rfl : k = 0 := by omega
      simpa [keptP] using h1
    · intro h1
      simpa [keptP] using h1 0 (Nat.le_refl _)
  | n + 1 => by
    rw [keptP, choose_mem andB rfl (kept_in h y0 f n).pos (rectsW_in h _ f).pos]
    unfold andB
    rw [Bool.and_eq_true, kept_mem h y0 f u v n]
    constructor
    · rintro ⟨h1, h2⟩ k hk
      rcases Nat.lt_or_ge n k with h3 | h3
      · obtain rfl : k = n + 1 := by omega
        exact h2
      · exact h1 k h3
    · intro h1
      exact ⟨fun k hk => h1 k (by omega), h1 (n + 1) (Nat.le_refl _)⟩
theorem kept_len {nc : Int} {l : List Rc} (h : HyW nc l) (hn : nc ≤ 8) (y0 : Int) (f : Int → Bool) : ∀ n, (keptP l y0 f n).length ≤ 720
  | 0 => rectsW_len h hn y0 f
  | n + 1 => by
    obtain ⟨B, h1, h2⟩ := rectsW_inb h (y0 + ((n + 1 : Nat) : Int))
    have h3 : RgB B (keptP l y0 f (n + 1)) := choose_rgb andB rfl (kept_in h y0 f n) (rectsW_in h _ f) fun u v huv => by
      unfold andB at huv
      rw [Bool.and_eq_true] at huv
      exact h2 f u v huv.2
    have := h3.len; omega
def sameAll (fam : Int → Int) (l : List Rc) (y0 : Int) (n : Nat) (m : Nat) : List R4 := (List.range m).flatMap fun f : Nat => keptP l y0 (fun c => decide (fam c = (f : Int))) n
theorem sameAll_succ (fam : Int → Int) (l : List Rc) (y0 : Int) (n m : Nat) : sameAll fam l y0 n (m + 1) = sameAll fam l y0 n m ++ keptP l y0 (fun c => decide (fam c = (m : Int))) n := by
  unfold sameAll
  rw [List.range_succ, List.flatMap_append, List.flatMap_cons, List.flatMap_nil, List.append_nil]
theorem sameAll_in {nc : Int} {l : List Rc} (h : HyW nc l) (fam : Int → Int) (y0 : Int) (n m : Nat) : InS 30 (sameAll fam l y0 n m) := fun q hq => by
  obtain ⟨f, _, hq⟩ := List.mem_flatMap.1 hq
  exact kept_in h y0 _ n q hq
theorem sameAll_len {nc : Int} {l : List Rc} (h : HyW nc l) (hn : nc ≤ 8) (fam : Int → Int) (y0 : Int) (n : Nat) : ∀ m, (sameAll fam l y0 n m).length ≤ 720 * m
  | 0 => by simp [sameAll]
  | m + 1 => by
    rw [sameAll_succ, List.length_append]
    have := sameAll_len h hn fam y0 n m
    have := kept_len h hn y0 (fun c => decide (fam c = (m : Int))) n
    omega
theorem sameAll_mem {nc : Int} {l : List Rc} (h : HyW nc l) (fam : Int → Int) (y0 : Int) (n m : Nat) (u v : Int) : inL (sameAll fam l y0 n m) u v = true ↔ ∃ f : Nat, f < m ∧ ∀ k : Nat, k ≤ n → inL (rectsP l (y0 + (k : Int)) fun c => decide (fam c = (f : Int))) u v = true := by
  have e : inL (sameAll fam l y0 n m) u v = true ↔ ∃ f : Nat, f < m ∧ inL (keptP l y0 (fun c => decide (fam c = (f : Int))) n) u v = true := by
    unfold inL sameAll
    simp only [List.any_eq_true, List.mem_flatMap, List.mem_range]
    constructor
    · rintro ⟨q, ⟨f, hf, hq⟩, hh⟩
      exact ⟨f, hf, q, hq, hh⟩
    · rintro ⟨f, hf, q, hq, hh⟩
      exact ⟨q, ⟨f, hf, hq⟩, hh⟩
  rw [e]
  constructor
  · rintro ⟨f, hf, h1⟩
    exact ⟨f, hf, (kept_mem h y0 _ u v n).1 h1⟩
  · rintro ⟨f, hf, h1⟩
    exact ⟨f, hf, (kept_mem h y0 _ u v n).2 h1⟩
theorem sameAll_inb {nc : Int} {l : List Rc} (h : HyW nc l) (fam : Int → Int) (y0 : Int) (n m : Nat) : ∃ B : List Int, B.length ≤ 2 ∧ InB B (sameAll fam l y0 n m) := by
  obtain ⟨B, h1, h2⟩ := rectsW_inb h y0
  refine ⟨B, h1, fun u v huv => ?_⟩
  obtain ⟨f, _, h3⟩ := (sameAll_mem h fam y0 n m u v).1 huv
  have h4 := h3 0 (by omega)
  rw [show y0 + ((0 : Nat) : Int) = y0 by omega] at h4
  exact h2 _ u v h4
def sameYes (P : List R4) (l : List Rc) (y : Int) (f : Int → Bool) : Nat → List R4
  | 0 => P
  | k + 1 => chooseP andB (sameYes P l y f k) (chooseP andB P (rectsP l (y - ((k + 1 : Nat) : Int)) f))
def sameNo (P : List R4) (l : List Rc) (y : Int) (f : Int → Bool) : Nat → List R4
  | 0 => []
  | k + 1 => chooseP orB (sameNo P l y f k) (chooseP andB P (rectsP l (y - ((k + 1 : Nat) : Int)) fun c => !f c))
theorem yes_rgb {nc : Int} {l : List Rc} (h : HyW nc l) {B : List Int} {P : List R4} (hP : RgB B P) (y : Int) (f : Int → Bool) : ∀ k, RgB B (sameYes P l y f k)
  | 0 => hP
  | k + 1 => (yes_rgb h hP y f k).andB (hP.andB (rectsW_in h _ f)).ins
theorem no_rgb {nc : Int} {l : List Rc} (h : HyW nc l) {B : List Int} {P : List R4} (hP : RgB B P) (y : Int) (f : Int → Bool) : ∀ k, RgB B (sameNo P l y f k)
  | 0 => ⟨fun q hq => (by cases hq), List.length_eq_zero_iff.1 (by have := canonP_len []; simpa [sameNo] using this), fun u v huv => (by simp [inL, sameNo] at huv)⟩
  | k + 1 => (no_rgb h hP y f k).orB (hP.andB (rectsW_in h _ _))
theorem yes_mem {nc : Int} {l : List Rc} (h : HyW nc l) {B : List Int} {P : List R4} (hP : RgB B P) (y : Int) (f : Int → Bool) (u v : Int) : ∀ k, inL (sameYes P l y f k) u v = true ↔ inL P u v = true ∧ ∀ j : Nat, 1 ≤ j → j ≤ k → inL (rectsP l (y - (j : Int)) f) u v = true
  | 0 => ⟨fun h1 => ⟨h1, fun j h2 h3 => (by omega)⟩, fun h1 => h1.1⟩
  | k + 1 => by
    rw [sameYes, choose_mem andB rfl (yes_rgb h hP y f k).ins.pos (hP.andB (rectsW_in h _ f)).ins.pos]
    unfold andB
    rw [Bool.and_eq_true, yes_mem h hP y f u v k]
    have e : inL (chooseP (fun x y => x && y) P (rectsP l (y - ((k + 1 : Nat) : Int)) f)) u v = (inL P u v && inL (rectsP l (y - ((k + 1 : Nat) : Int)) f) u v) := choose_mem _ rfl hP.ins.pos (rectsW_in h _ f).pos u v
    rw [e, Bool.and_eq_true]
    constructor
    · rintro ⟨⟨h1, h2⟩, _, h3⟩
      refine ⟨h1, fun j hj1 hj2 => ?_⟩
      rcases Nat.lt_or_ge k j with h4 | h4
      · obtain rfl : j = k + 1 := by omega
        exact h3
      · exact h2 j hj1 h4
    · rintro ⟨h1, h2⟩
      exact ⟨⟨h1, fun j hj1 hj2 => h2 j hj1 (by omega)⟩, h1, h2 (k + 1) (by omega) (Nat.le_refl _)⟩
theorem span_iff {l : List Rc} (f : Int → Bool) (N : Nat) (hN : 1 ≤ N) (u v : Int) : (∀ k : Nat, k ≤ N - 1 → inL (rectsP l (4 - (N : Int) + (k : Int)) f) u v = true) ↔ ∀ j : Nat, 1 ≤ j → j ≤ N → inL (rectsP l (4 - (j : Int)) f) u v = true := by
  constructor
  · intro h j h1 h2
    have := h (N - j) (by omega)
    rw [show 4 - (N : Int) + ((N - j : Nat) : Int) = 4 - (j : Int) by omega] at this
    exact this
  · intro h k hk
    have := h (N - k) (by omega) (by omega)
    rw [show 4 - ((N - k : Nat) : Int) = 4 - (N : Int) + (k : Int) by omega] at this
    exact this
theorem same_here {nc : Int} {l : List Rc} (h : HyW nc l) (fam : Int → Int) {B : List Int} {P : List R4} (hP : RgB B P) (N : Nat) (hN : 1 ≤ N) (f : Int) (hf : 0 ≤ f ∧ f ≤ 40) :
    chooseP andB (chooseP andB (canonP (sameAll fam l (4 - (N : Int)) (N - 1) 41)) (canonP (rectsP l 3 fun c => decide (fam c = f)))) P = sameYes P l 4 (fun c => decide (fam c = f)) N := by
  have i1 := sameAll_in h fam (4 - (N : Int)) (N - 1) 41
  have i2 := rectsW_in h 3 fun c => decide (fam c = f)
  have hy := yes_rgb h hP 4 (fun c => decide (fam c = f)) N
  refine choose_is rfl hy.ins.pos hy.canon (choose_in andB rfl (canonP_in i1) (canonP_in i2)).pos hP.ins.pos fun u v => ?_
  refine bool_eq ?_
  rw [choose_mem andB rfl (canonP_in i1).pos (canonP_in i2).pos, (canonP_canon _ i1.pos).mem, (canonP_canon _ i2.pos).mem, yes_mem h hP]
  unfold andB
  rw [Bool.and_eq_true, Bool.and_eq_true, sameAll_mem h, ← span_iff _ N hN]
  constructor
  · rintro ⟨⟨⟨f', hf', h1⟩, h2⟩, h3⟩
    refine ⟨h3, ?_⟩
    have h4 := h1 (N - 1) (Nat.le_refl _)
    rw [show 4 - (N : Int) + ((N - 1 : Nat) : Int) = 3 by omega] at h4
    obtain ⟨x, hx, a1, a2, a3⟩ := (rects_mem _ _ _ _ _).1 h2
    obtain ⟨z, hz, b1, b2, b3⟩ := (rects_mem _ _ _ _ _).1 h4
    have := h.apart hx hz (by omega) a3 b3
    subst this
    have e1 : fam x.cr = f := by simpa using a2
    have e2 : fam x.cr = (f' : Int) := by simpa using b2
    rw [← e1, e2]
    exact h1
  · rintro ⟨h3, h1⟩
    refine ⟨⟨⟨f.toNat, by omega, ?_⟩, ?_⟩, h3⟩
    · rw [show ((f.toNat : Nat) : Int) = f by omega]
      exact h1
    · have h4 := h1 (N - 1) (Nat.le_refl _)
      rw [show 4 - (N : Int) + ((N - 1 : Nat) : Int) = 3 by omega] at h4
      exact h4
def repP (fam : Int → Int) (L : List Ln) (l : List Rc) (y0 : Int) (n : Nat) : List R4 := L.flatMap fun z => chooseP andB z.rg (keptP l y0 (fun c => decide (fam c = fam z.cr)) n)
theorem rep_mem (fam : Int → Int) (L : List Ln) (l : List Rc) (y0 : Int) (n : Nat) (u v : Int) : inL (repP fam L l y0 n) u v = true ↔ ∃ z ∈ L, inL (chooseP andB z.rg (keptP l y0 (fun c => decide (fam c = fam z.cr)) n)) u v = true := by
  unfold repP inL
  simp only [List.any_eq_true, List.mem_flatMap]
  constructor
  · rintro ⟨q, ⟨z, hz, hq⟩, hh⟩
    exact ⟨z, hz, q, hq, hh⟩
  · rintro ⟨z, hz, q, hq, hh⟩
    exact ⟨q, ⟨z, hz, hq⟩, hh⟩
theorem rep_in {nc : Int} {l : List Rc} (h : HyW nc l) (fam : Int → Int) {L : List Ln} (hL : ∀ z ∈ L, InS 30 z.rg) (y0 : Int) (n : Nat) : InS 30 (repP fam L l y0 n) := fun q hq => by
  obtain ⟨z, hz, hq⟩ := List.mem_flatMap.1 hq
  exact choose_in andB rfl (hL z hz) (kept_in h y0 _ n) q hq
theorem same_part {nc : Int} {l : List Rc} (h : HyW nc l) (fam : Int → Int) {B : List Int} {L : List Ln} {x : Ln} (hx : x ∈ L) (hP : RgB B x.rg) (hL : ∀ z ∈ L, InS 30 z.rg) (hd : ∀ z ∈ L, ∀ u v, inL z.rg u v = true → inL x.rg u v = true → z = x) (N : Nat) (hN : 1 ≤ N) :
    chooseP andB (canonP (repP fam L l (4 - (N : Int)) (N - 1))) x.rg = sameYes x.rg l 4 (fun c => decide (fam c = fam x.cr)) N := by
  have i1 := rep_in h fam hL (4 - (N : Int)) (N - 1)
  have hy := yes_rgb h hP 4 (fun c => decide (fam c = fam x.cr)) N
  refine choose_is rfl hy.ins.pos hy.canon (canonP_in i1).pos hP.ins.pos fun u v => ?_
  refine bool_eq ?_
  rw [(canonP_canon _ i1.pos).mem, yes_mem h hP]
  have e : ∀ z ∈ L, inL (chooseP andB z.rg (keptP l (4 - (N : Int)) (fun c => decide (fam c = fam z.cr)) (N - 1))) u v = (inL z.rg u v && inL (keptP l (4 - (N : Int)) (fun c => decide (fam c = fam z.cr)) (N - 1)) u v) := fun z hz => choose_mem andB rfl (hL z hz).pos (kept_in h _ _ _).pos u v
  unfold andB
  rw [Bool.and_eq_true, rep_mem, ← span_iff _ N hN, ← kept_mem h]
  constructor
  · rintro ⟨⟨z, hz, h1⟩, h2⟩
    rw [e z hz, Bool.and_eq_true] at h1
    have := hd z hz u v h1.1 h2
    subst this
    exact ⟨h2, h1.2⟩
  · rintro ⟨h1, h2⟩
    exact ⟨⟨x, hx, by rw [e x hx, h1, h2]; rfl⟩, h1⟩
end Go.Proofs.YtfmkmhhghmdakaaGreatDoor
namespace Go.Proofs.YtfmkmhhghmdakaaGreatDoor
open Go.RowKit Go.Shelf
set_option linter.unusedVariables false
set_option linter.unusedSimpArgs false
set_option maxHeartbeats 64000000
set_option maxRecDepth 100000
theorem own_lt {w : World} {base : Nat} {e : TypeId} {size n : Nat} {v : Value} {xs : List Value} (h : w.ownsRow base e size v n xs) : ∀ g, v.ownBlock = some g → g < w.heap.size := by
  intro g hg
  rcases h.2 with ⟨rfl, _⟩ | ⟨g', cap, cur, rfl, _, hh, _⟩
  · simp [Value.ownBlock] at hg
  · have e : g' = g := by simpa [Value.ownBlock] using hg
    subst e
    rcases Nat.lt_or_ge g' w.heap.size with h | h
    · exact h
    · rw [Array.getElem?_eq_none h] at hh; cases hh
theorem own_grown {w w' : World} {base : Nat} {e : TypeId} {size n : Nat} {v : Value} {xs : List Value} {row : Option Nat} (h : w.ownsRow base e size v n xs) (hg : w.grownBy w' row) (hr : ∀ g, v.ownBlock = some g → row ≠ some g) : w'.ownsRow base e size v n xs := by
  obtain ⟨h1, h2⟩ := h
  refine ⟨h1, ?_⟩
  rcases h2 with h2 | ⟨g', cap, cur, rfl, hb, hh, r⟩
  · exact .inl h2
  · have hlt : g' < w.heap.size := by
      rcases Nat.lt_or_ge g' w.heap.size with h | h
      · exact h
      · rw [Array.getElem?_eq_none h] at hh; cases hh
    exact .inr ⟨g', cap, cur, rfl, hb, (hg.block g' hlt (fun e => hr g' (by simp [Value.ownBlock]) e.symm)).trans hh, r⟩
abbrev GS (w : World) := { x : List R4 × LV // SlR w x.2.a x.1.length x.2.c x.1 }
instance (w : World) : Inhabited (GS w) := ⟨⟨([], ⟨none, 0⟩), SlR.nil w⟩⟩
theorem canonical_big (A : Option Addr) (n c : Nat) (l : List R4) (w : World) (hA : SlR w A n c l) (hn1 : n ≤ 50000) (hc1 : (cutsP l).length ≤ 100) (hl : ∀ q ∈ l, q.l < q.r) :
    Calls Tryz.prog 134 #[.slice A n c] w fun e w' => ∃ v, e = .returned v ∧ w'.ownsRow w.heap.size 68 4 v (canonP l).length (rCells (canonP l)) ∧ Below w.heap.size w w' := by
  have hn := hA.len
  have HA := Lib.hid hA
  have Hl := Lib.hid hl
  have Hcl := Lib.hid hc1
  clear hc1
  have Hflat : Hid (cutsP [l].flatten = cutsP l) := Lib.hid (by simp)
  have Hcan : Hid (buildP (rowP l) (cutsP l) = canonP l) := Lib.hid rfl
  have Hrl := Lib.hid (fun y => rowP_len l y)
  have eg : ∀ args w, (callFunc 218 args).run Tryz.prog w = .ok (.enter 218 args) w := enters_of Tryz.func218 (by kernel_rfl) rfl
  have Eg := Lib.hid eg
  clear hA hl eg
  go_enter Tryz.func134, Tryz.ntmps134
  go_wp2_with (first
    | (go_at_call 137
       refine (cuts_any (some ⟨w.heap.size + 1, 0, none⟩) 1 1 [l] _ rfl (by omega) (fun i hi => ⟨w.heap.size + 1, 0, A, n, c, rfl, by simp, by obtain rfl : i = 0 := (by simpa using hi); exact cell_of_row _ (w.heap.size + 1) 0 _ _ _ (heap_alloc2_new w _ _), by obtain rfl : i = 0 := (by simpa using hi); exact HA.out.below gBel⟩) (by simp; omega)).mono ?_
       rintro e w1 ⟨v1, rfl, hown1, hb1⟩
       rw [Hflat.out] at hown1
       obtain ⟨C, cc, rfl, hC⟩ := SlI.of_own hown1
       have HC := Lib.hid hC
       have Hb1 : Hid (Below w.heap.size w w1) := Lib.hid (show Below w.heap.size w w1 from (by have hbq := hb1; exact gBelo))
       have hs1 : w.heap.size < w1.heap.size := (by have := hb1.size; simp at this; omega)
       have cg1 : w1.cell? ⟨w.heap.size, 0, none⟩ = some (.slice A n c) := (hb1.cell (p := ⟨w.heap.size, 0, none⟩) (by simp; omega)).trans (cell_of_row _ w.heap.size 0 _ _ _ ((Below.heap_alloc _ _ _ (by simp)).trans (heap_alloc_new w _)))
       clear hown1 hb1 hC)
    | (go_at_call 136
       refine (build_any 218 #[.pointer (some ⟨w.heap.size, 0, none⟩)] (rowP l) n C (cutsP l).length cc (cutsP l) w1 HC.out (by have := Hcl.out; omega) (fun y => by have := Hrl.out y; omega) (by omega) (by have h1 := Nat.mul_le_mul_right n Hcl.out; omega) Eg.out (fun W y hW => canonRow_any w.heap.size A n c l y W ((hW.cell (p := ⟨w.heap.size, 0, none⟩) hs1).trans cg1) (HA.out.below (Hb1.out.trans (hW.mono (Nat.le_of_lt hs1)))) (by omega) Hl.out)).mono ?_
       rintro e w2 ⟨v2, rfl, hown2, hb2⟩
       rw [Hcan.out] at hown2
       have Hown2 := Lib.hid hown2
       have Hb2 := Lib.hid hb2
       clear hown2 hb2)
    | fail)
  go_ret
  exact ⟨v2, rfl, own_rebase Hown2.out (Nat.le_of_lt hs1), Hb1.out.trans (Hb2.out.mono (Nat.le_of_lt hs1))⟩
def limP (l : List R4) : List R4 × Int := if 120 < l.length then ([], 1) else (l, 0)
theorem joined_big (A : Option Addr) (n c : Nat) (l : List R4) (w : World) (hA : SlR w A n c l) (hn1 : n ≤ 50000) (hc1 : (cutsP l).length ≤ 100) (hl : ∀ q ∈ l, q.l < q.r) :
    Calls Tryz.prog 76 #[.slice A n c] w (RegPost w (limP (canonP l))) := by
  have HC := Lib.hid (fun W (hW : Below w.heap.size w W) => canonical_big A n c l W (hA.below hW) hn1 hc1 hl)
  generalize canonP l = k at *
  clear hA hl hc1
  by_cases hk : 120 < k.length
  · have e0 : limP k = ([], 1) := by unfold limP; rw [if_pos hk]
    rw [e0]
    clear e0
    go_enter Tryz.func76, Tryz.ntmps76
    go_wp2_with (first
      | (go_at_call 134; refine (HC.out _ gBel).mono ?_; rintro e w2 ⟨v2, rfl, hown2, hb2⟩; have hr2 : w2.heap[w.heap.size]? = some (.cells #[.slice none 0 0] 33 (0, 0)) := (hb2.block _ (by simp)).trans (heap_alloc_new w _); have Hr2 := Lib.hid hr2; have hs2 : w.heap.size < w2.heap.size := (by have := hb2.size; simp at this; omega); obtain ⟨C, cc, rfl, -⟩ := SlR.of_own hown2; have Hb2 : Hid (Below w.heap.size w w2) := Lib.hid (show Below w.heap.size w w2 from (by have hbq := hb2; exact gBelo)); clear hown2 hb2 hr2)
      | (go_at_call 56; refine (limited_big C k.length cc _ hk).mono ?_; rintro e w3 ⟨rfl, hb3⟩; have hr3 : w3.heap[w.heap.size]? = some (.cells #[.slice none 0 0] 33 (0, 0)) := (hb3.block _ hs2).trans Hr2.out; have cr3 := cell_of_row w3 w.heap.size 0 _ _ _ hr3; have fr3 := frozen_of_row w3 w.heap.size 0 _ _ hr3; have csame : (w3.setCell ⟨w.heap.size, 0, none⟩ (.slice none 0 0)).cell? ⟨w.heap.size, 0, none⟩ = some (.slice none 0 0) := (by rw [cell_of_row _ w.heap.size 0 _ _ _ (heap_setCell_same w3 w.heap.size 0 _ _ _ hr3)]; simp); have Hb3 := Lib.hid hb3; clear hb3 hr3)
      | fail)
    refine bodyPost_ret (v := .tuple #[.agg #[.slice none 0 0], .int .i64 1]) (by simp [results, Tryz.results76, go_sem, *]) rfl ?_
    exact ⟨_, rfl, World.ownsRow_nil _ _ _ _, (Hb2.out.trans (Hb3.out.mono (Nat.le_of_lt hs2))).setCell (Nat.le_refl _) _⟩
  · have e0 : limP k = (k, 0) := by unfold limP; rw [if_neg hk]
    rw [e0]
    clear e0
    have hk' : k.length ≤ 120 := by omega
    go_enter Tryz.func76, Tryz.ntmps76
    go_wp2_with (first
      | (go_at_call 134; refine (HC.out _ gBel).mono ?_; rintro e w2 ⟨v2, rfl, hown2, hb2⟩; have hr2 : w2.heap[w.heap.size]? = some (.cells #[.slice none 0 0] 33 (0, 0)) := (hb2.block _ (by simp)).trans (heap_alloc_new w _); have Hr2 := Lib.hid hr2; have hs2 : w.heap.size < w2.heap.size := (by have := hb2.size; simp at this; omega); obtain ⟨C, cc, rfl, -⟩ := SlR.of_own hown2; have Hown2 := Lib.hid hown2; have Hb2 : Hid (Below w.heap.size w w2) := Lib.hid (show Below w.heap.size w w2 from (by have hbq := hb2; exact gBelo)); clear hown2 hb2 hr2)
      | (go_at_call 56; refine (limited_ok C k.length cc _ hk').mono ?_; rintro e w3 ⟨rfl, hb3⟩; have hr3 : w3.heap[w.heap.size]? = some (.cells #[.slice none 0 0] 33 (0, 0)) := (hb3.block _ hs2).trans Hr2.out; have cr3 := cell_of_row w3 w.heap.size 0 _ _ _ hr3; have fr3 := frozen_of_row w3 w.heap.size 0 _ _ hr3; have csame : (w3.setCell ⟨w.heap.size, 0, none⟩ (.slice C k.length cc)).cell? ⟨w.heap.size, 0, none⟩ = some (.slice C k.length cc) := (by rw [cell_of_row _ w.heap.size 0 _ _ _ (heap_setCell_same w3 w.heap.size 0 _ _ _ hr3)]; simp); have Hown3 := Lib.hid (ownsRow_below Hown2.out hb3); have Hb3 := Lib.hid hb3; clear hb3 hr3)
      | fail)
    refine bodyPost_ret (v := .tuple #[.agg #[.slice C k.length cc], .int .i64 0]) (by simp [results, Tryz.results76, go_sem, *]) rfl ?_
    have hlow := own_base Hown3.out
    refine ⟨_, rfl, ?_, (Hb2.out.trans (Hb3.out.mono (Nat.le_of_lt hs2))).setCell (Nat.le_refl _) _⟩
    exact own_other (own_rebase Hown3.out (by simp)) (only_setCell (g := w.heap.size) (World.grownBy.refl _ _) (.inl rfl) _) (fun k hk e => by injection e with e; have := hlow k hk; simp at this; omega)
end Go.Proofs.YtfmkmhhghmdakaaGreatDoor
