/- Contracts: Name (words), isNaN, Less, BinarySearch of whole numbers; Check (crop), where all is right; check, line, Check (claim), where all is right, or the parcel is not there. -/
import Derived.Test.YtglanlpjoaholaaGreatY6
import Derived.Test.YtglanlpjoaholaaGreatY3
import Derived.Test.YtglanlpjoaholaaGreatU7
namespace Go.Proofs.YtglanlpjoaholaaGreat
open Go.RowKit Go.Shelf
set_option linter.unusedVariables false
set_option linter.unusedSimpArgs false

set_option maxHeartbeats 400000 in
theorem isNaN2_any (x : Int) (w : World) : Calls Tryz.prog 104 #[.int .i64 x] w fun e w' => e = .returned (.bool false) ∧ w = w' := by
  go_enter Tryz.func104, Tryz.ntmps104
  go_wp2
  go_ret
  exact ⟨rfl, rfl⟩
set_option maxHeartbeats 400000 in
theorem isNaN3_any (x : Int) (w : World) : Calls Tryz.prog 114 #[.int .i64 x] w fun e w' => e = .returned (.bool false) ∧ w = w' := by
  go_enter Tryz.func114, Tryz.ntmps114
  go_wp2
  go_ret
  exact ⟨rfl, rfl⟩
set_option maxHeartbeats 400000 in
theorem less_any (x y : Int) (w : World) : Calls Tryz.prog 103 #[.int .i64 x, .int .i64 y] w fun e w' => e = .returned (.bool (decide (x < y))) ∧ w = w' := by
  go_enter Tryz.func103, Tryz.ntmps103
  go_wp2_with (first | (go_at_call 114; refine (isNaN3_any _ _).mono ?_; rintro e w' ⟨rfl, rfl⟩) | fail)
  go_ret
  exact ⟨rfl, rfl⟩
/-- A name of letters. -/
def lettersB (s : ByteArray) : Bool := decide (1 ≤ s.size) && decide (s.size ≤ 12) && s.data.toList.all fun b => decide (97 ≤ b.toNat) && decide (b.toNat ≤ 122)
theorem letter_at {s : ByteArray} (hs : lettersB s = true) (k : Nat) (h : k < s.size) : 97 ≤ s[k].toNat ∧ s[k].toNat ≤ 122 := by
  unfold lettersB at hs
  rw [Bool.and_eq_true] at hs
  have hm : s[k] ∈ s.data.toList := by
    have e : s[k] = s.data[k]'h := rfl
    rw [e]
    exact Array.mem_toList_iff.2 (Array.getElem_mem _)
  have := List.all_eq_true.1 hs.2 _ hm
  simpa using this
set_option maxHeartbeats 2000000 in
theorem name_any (s : ByteArray) (w : World) (hs : lettersB s = true) : Calls Tryz.prog 115 #[.string s] w fun e w' => e = .returned (.bool true) ∧ w = w' := by
  obtain ⟨n, hn⟩ : ∃ n, s.size = n := ⟨_, rfl⟩
  have Hn := Lib.hid hn
  have hn12 : 1 ≤ n ∧ n ≤ 12 := by
    unfold lettersB at hs
    simp only [Bool.and_eq_true, decide_eq_true_eq] at hs
    omega
  go_enter Tryz.func115, Tryz.ntmps115
  go_wp2_with fail
  go_loopw [3, 4, 5, 8] (fun _ _ _ iv wr => ∃ k : Nat, k ≤ n ∧ iv = .int .i64 (k : Int) ∧ wr = w) (fun _ _ _ iv _ => n - (intOf iv).toNat)
  case atStart => exact ⟨0, Nat.zero_le _, rfl, rfl⟩
  case round =>
    obtain ⟨k, hk, rfl, rfl⟩ := hrel
    by_cases hkn : k < n
    · have hkn' : (k : Int) < (n : Int) := by omega
      have hks : k < s.size := by omega
      obtain ⟨h1, h2⟩ := letter_at hs k hks
      have a1 : (97 : Int) ≤ (s[k].toNat : Int) := by omega
      have a2 : (s[k].toNat : Int) ≤ 122 := by omega
      have a3 : (48 : Int) ≤ (s[k].toNat : Int) := by omega
      have a4 : ¬ (s[k].toNat : Int) ≤ 57 := by omega
      go_wp2
      go_roundw
      case rel => exact ⟨k + 1, by omega, by go_num, trivial⟩
      case measure => simp [intOf]; omega
    · have hkn' : ¬ (k : Int) < (n : Int) := by omega
      have b1 : (1 : Int) ≤ (n : Int) := by omega
      have b2 : (n : Int) ≤ 12 := by omega
      go_wp2
      go_ret
      exact ⟨rfl, rfl⟩

/-- What a search finds. -/
def Found (l : List Int) (x : Int) (i : Nat) (b : Bool) : Prop := i ≤ l.length ∧ (b = true → l[i]? = some x) ∧ (b = false → x ∉ l)
def SearchPost (l : List Int) (x : Int) (e : Ending) : Prop := ∃ (i : Nat) (b : Bool), e = .returned (.tuple #[.int .i64 (i : Int), .bool b]) ∧ Found l x i b
set_option maxHeartbeats 2000000 in
set_option maxRecDepth 100000 in
theorem search_any (A : Option Addr) (n c : Nat) (l : List Int) (x : Int) (w : World) (hA : SlI w A n c l) (hn1 : n ≤ 1000) (hp : l.Pairwise (· < ·)) :
    Calls Tryz.prog 77 #[.slice A n c, .int .i64 x] w fun e w' => SearchPost l x e ∧ w = w' := by
  have HA := Lib.hid hA
  have Hn := Lib.hid hA.len
  have Hp := Lib.hid (List.pairwise_iff_getElem.1 hp)
  clear hA hp
  go_enter Tryz.func77, Tryz.ntmps77
  go_wp2_with fail
  go_loopw [7, 8, 9] (fun iv jv _ wr => ∃ i j : Nat, iv = .int .i64 (i : Int) ∧ jv = .int .i64 (j : Int) ∧ i ≤ j ∧ j ≤ n ∧ Hid (∀ m (h : m < l.length), m < i → l[m] < x) ∧ Hid (∀ m (h : m < l.length), j ≤ m → x ≤ l[m]) ∧ w = wr) (fun iv jv _ _ => (intOf jv).toNat - (intOf iv).toNat)
  case atStart => exact ⟨0, n, rfl, rfl, by omega, by omega, Lib.hid (fun m h h1 => by omega), Lib.hid (fun m h h1 => by have := Hn.out; omega), rfl⟩
  case round =>
    obtain ⟨i, j, rfl, rfl, hij, hjn, HI, HJ, rfl⟩ := hrel
    by_cases hlt : i < j
    · have hlt' : (i : Int) < (j : Int) := by omega
      obtain ⟨h, hh⟩ : ∃ h : Nat, (i + j) / 2 = h := ⟨_, rfl⟩
      have hhb : i ≤ h ∧ h < j := by omega
      have hhl : h < l.length := by have := Hn.out; omega
      have hw1 : IntKind.i64.wrap ((i : Int) + (j : Int)) = (i : Int) + (j : Int) := IntWalk.i64_in _ (by omega)
      have hdv : ((i : Int) + (j : Int)) / 2 = (h : Int) := by omega
      obtain ⟨b, off, rfl, hb, c0⟩ := HA.out.at h hhl
      have Hmono : Hid (∀ m (hm : m < l.length), (m < h → l[m] < l[h]) ∧ (h < m → l[h] < l[m])) := Lib.hid (fun m hm => ⟨fun hmh => Hp.out m h hm hhl hmh, fun hmh => Hp.out h m hhl hm hmh⟩)
      by_cases hy : l[h] < x
      · have hyd : decide (l[h] < x) = true := decide_eq_true hy
        have HI2 : Hid (∀ m (hm : m < l.length), m < h + 1 → l[m] < x) := Lib.hid (fun m hm hlt => by
          rcases Nat.lt_or_ge m h with h1 | h1
          · have := (Hmono.out m hm).1 h1; omega
          · obtain rfl : m = h := by omega
            exact hy)
        go_wp2_with (first | (go_at_call 103; refine (less_any _ _ _).mono ?_; rintro e w' ⟨rfl, rfl⟩) | fail)
        go_roundw
        case rel => exact ⟨h + 1, j, by go_num, rfl, by omega, by omega, HI2, HJ, trivial⟩
        case measure => simp [intOf]; omega
      · have hyd : decide (l[h] < x) = false := decide_eq_false hy
        have HJ2 : Hid (∀ m (hm : m < l.length), h ≤ m → x ≤ l[m]) := Lib.hid (fun m hm hlt => by
          rcases Nat.lt_or_ge h m with h1 | h1
          · have := (Hmono.out m hm).2 h1; omega
          · obtain rfl : m = h := by omega
            omega)
        go_wp2_with (first | (go_at_call 103; refine (less_any _ _ _).mono ?_; rintro e w' ⟨rfl, rfl⟩) | fail)
        go_roundw
        case rel => exact ⟨i, h, rfl, rfl, by omega, by omega, HI, HJ2, trivial⟩
        case measure => simp [intOf]; omega
    · have hlt' : ¬ (i : Int) < (j : Int) := by omega
      obtain rfl : i = j := by omega
      by_cases hin : i < n
      · have hin' : (i : Int) < (n : Int) := by omega
        have hil : i < l.length := by have := Hn.out; omega
        obtain ⟨b, off, rfl, hb, c0⟩ := HA.out.at i hil
        have HJi := HJ.out i hil (Nat.le_refl _)
        have Hno : Hid (¬ l[i] = x → x ∉ l) := Lib.hid (fun hne hx => by
          obtain ⟨m, hm, he⟩ := List.getElem_of_mem hx
          rcases Nat.lt_trichotomy m i with h1 | h1 | h1
          · have := HI.out m hm h1; omega
          · subst h1; exact hne he
          · have := Hp.out i m hil hm h1; omega)
        have Hat : Hid (l[i]? = some l[i]) := Lib.hid (List.getElem?_eq_getElem hil)
        generalize l[i] = y at *
        by_cases hyx : y = x
        · subst hyx
          go_wp2_with (first | (go_at_call 104; refine (isNaN2_any _ _).mono ?_; rintro e w' ⟨rfl, rfl⟩) | fail)
          refine bodyPost_ret (v := .tuple #[.int .i64 (i : Int), .bool true]) (by simp [results, Tryz.results77, go_sem, *]) rfl ?_
          exact ⟨⟨i, true, rfl, by omega, fun _ => Hat.out, fun h => (by cases h)⟩, rfl⟩
        · go_wp2_with (first | (go_at_call 104; refine (isNaN2_any _ _).mono ?_; rintro e w' ⟨rfl, rfl⟩) | fail)
          refine bodyPost_ret (v := .tuple #[.int .i64 (i : Int), .bool false]) (by simp [results, Tryz.results77, go_sem, *]) rfl ?_
          exact ⟨⟨i, false, rfl, by omega, fun h => (by cases h), fun _ => Hno.out hyx⟩, rfl⟩
      · have hin' : ¬ (i : Int) < (n : Int) := by omega
        have Hno : Hid (x ∉ l) := Lib.hid (fun hx => by
          obtain ⟨m, hm, he⟩ := List.getElem_of_mem hx
          have := HI.out m hm (by have := Hn.out; omega)
          omega)
        go_wp2
        refine bodyPost_ret (v := .tuple #[.int .i64 (i : Int), .bool false]) (by simp [results, Tryz.results77, go_sem, *]) rfl ?_
        exact ⟨⟨i, false, rfl, by have := Hn.out; omega, fun h => (by cases h), fun _ => Hno.out⟩, rfl⟩

/-- A crop. -/
structure Cp where
  nm : ByteArray
  fam : Int
  mks : Int
def kCells (l : List Cp) : List Value := l.flatMap fun x => [.string x.nm, .int .i64 x.fam, .int .i64 x.mks]
theorem kCells_len (l : List Cp) : (kCells l).length = l.length * 3 := by
  induction l with
  | nil => rfl
  | cons o r ih => simp [kCells] at *; omega
theorem kCells_at (l : List Cp) (i : Nat) (h : i < l.length) : (kCells l)[i * 3]? = some (.string l[i].nm) ∧ (kCells l)[i * 3 + 1]? = some (.int .i64 l[i].fam) ∧ (kCells l)[i * 3 + 2]? = some (.int .i64 l[i].mks) := by
  induction l generalizing i with
  | nil => simp at h
  | cons o r ih =>
    have hc : kCells (o :: r) = [.string o.nm, .int .i64 o.fam, .int .i64 o.mks] ++ kCells r := by simp [kCells]
    rw [hc]
    rcases i with _ | i
    · simp
    · have := ih i (by simpa using h)
      refine ⟨?_, ?_, ?_⟩ <;> rw [List.getElem?_append_right (by simp; omega)]
      · rw [show (i + 1) * 3 - ([Value.string o.nm, .int .i64 o.fam, .int .i64 o.mks] : List Value).length = i * 3 from by simp; omega]; exact this.1
      · rw [show (i + 1) * 3 + 1 - ([Value.string o.nm, .int .i64 o.fam, .int .i64 o.mks] : List Value).length = i * 3 + 1 from by simp; omega]; exact this.2.1
      · rw [show (i + 1) * 3 + 2 - ([Value.string o.nm, .int .i64 o.fam, .int .i64 o.mks] : List Value).length = i * 3 + 2 from by simp; omega]; exact this.2.2
/-- A slice of crops. -/
structure SlC (w : World) (A : Option Addr) (n c : Nat) (l : List Cp) : Prop where
  len : l.length = n
  cap : n ≤ c
  top : c ≤ maxLen
  lies : Lies w A n (kCells l)
theorem SlC.below {w w' : World} {A : Option Addr} {n c : Nat} {l : List Cp} (h : SlC w A n c l) (hb : Below w.heap.size w w') : SlC w' A n c l := ⟨h.len, h.cap, h.top, h.lies.below hb⟩
theorem SlC.at {w : World} {A : Option Addr} {n c : Nat} {l : List Cp} (h : SlC w A n c l) (i : Nat) (hi : i < l.length) :
    ∃ b off, A = some ⟨b, off, none⟩ ∧ b < w.heap.size ∧ w.cell? ⟨b, off + i * 3, none⟩ = some (.string l[i].nm) ∧ w.cell? ⟨b, off + i * 3 + 1, none⟩ = some (.int .i64 l[i].fam) ∧ w.cell? ⟨b, off + i * 3 + 2, none⟩ = some (.int .i64 l[i].mks) := by
  obtain ⟨b, off, e, hb, hc⟩ := h.lies.resolve_left (by have := h.len; omega)
  obtain ⟨h0, h1, h2⟩ := kCells_at l i hi
  exact ⟨b, off, e, hb, hc _ _ h0, hc _ _ h1, hc _ _ h2⟩
/-- Whether a text comes not behind another one. -/
def leqS (a b : ByteArray) : Bool := Go.Op.bytesLess a.toList b.toList || a.toList == b.toList
/-- A catalogue that is right. -/
def cropsB (l : List Cp) : Prop := l.length ≤ 40 ∧ (∀ x ∈ l, lettersB x.nm = true ∧ (0 ≤ x.fam ∧ x.fam ≤ 40) ∧ 0 ≤ x.mks ∧ x.mks ≤ 31) ∧ ∀ i (h : i + 1 < l.length), leqS l[i + 1].nm l[i].nm = false

set_option maxHeartbeats 4000000 in
set_option maxRecDepth 100000 in
theorem cropCheck_any (A : Option Addr) (n c : Nat) (l : List Cp) (w : World) (hA : SlC w A n c l) (hok : cropsB l) :
    Calls Tryz.prog 102 #[.slice A n c] w fun e w' => e = .returned (.int .i64 0) ∧ Below w.heap.size w w' := by
  have HA := Lib.hid hA
  have Hn := Lib.hid hA.len
  have Hok := Lib.hid hok
  have hn40 : n ≤ 40 := by have := hok.1; have := hA.len; omega
  clear hA hok
  have hbig : ¬ (40 : Int) < (n : Int) := by omega
  go_enter Tryz.func102, Tryz.ntmps102
  go_wp2_with fail
  go_loopw [3, 10] (fun _ iv wr => ∃ k : Nat, k ≤ n ∧ iv = .int .i64 (k : Int) ∧ Below w.heap.size w wr) (fun _ iv _ => n - (intOf iv).toNat)
  case atStart => exact ⟨0, Nat.zero_le _, rfl, Below.refl _ _⟩
  case round =>
    obtain ⟨k, hk, rfl, hbw⟩ := hrel
    have Hbw := Lib.hid hbw
    have hsw := hbw.size
    clear hbw
    by_cases hkn : k < n
    · have hkn' : (k : Int) < (n : Int) := by omega
      have hkl : k < l.length := by have := Hn.out; omega
      obtain ⟨b, off, rfl, hb, c0, c1, c2⟩ := (HA.out.below Hbw.out).at k hkl
      obtain ⟨hnm, hfam, hmk⟩ := Hok.out.2.1 l[k] (List.getElem_mem hkl)
      have Hord : Hid (∀ j (hj : j < l.length), k = j + 1 → leqS l[k].nm l[j].nm = false) := Lib.hid (fun j hj e => by subst e; exact Hok.out.2.2 j hkl)
      generalize l[k] = y at *
      obtain ⟨nm, fam, mk⟩ := y
      dsimp only at *
      have Hnm := Lib.hid (fun W => name_any nm W hnm)
      have f1 : ¬ fam < 0 := by omega
      have f2 : ¬ 40 < fam := by omega
      have f3 : ¬ mk < 0 := by omega
      have f4 : ¬ 31 < mk := by omega
      have hrow := heap_alloc_new wr (.cells #[.string nm, .int .i64 fam, .int .i64 mk] 57)
      have Hba : Hid (Below wr.heap.size wr (wr.alloc (.cells #[.string nm, .int .i64 fam, .int .i64 mk] 57))) := Lib.hid (by repeat' (first | with_reducible exact Below.refl _ _ | with_reducible refine below_drewN ?_ _ | with_reducible refine Below.drew ?_ | with_reducible refine Below.alloc ?_ ?_ _ | with_reducible refine Below.setCell ?_ ?_ _ | with_reducible refine Below.trans ?_ (Below.mono (by with_reducible assumption) ?_) | (simp; done) | (simp; omega) | omega))
      have hla : wr.heap.size < (wr.alloc (.cells #[.string nm, .int .i64 fam, .int .i64 mk] 57)).heap.size := by simp
      go_upto_block 2 with fail
      obtain ⟨T, hT⟩ : ∃ T, wr.heap.size = T := ⟨_, rfl⟩
      rw [hT] at hrow hla ⊢
      generalize wr.alloc (.cells #[.string nm, .int .i64 fam, .int .i64 mk] 57) = wa at *
      have Hbwa : Hid (Below w.heap.size w wa) := Lib.hid (Hbw.out.trans (Hba.out.mono hsw))
      have a0 := cell_of_row wa T 0 _ _ _ hrow
      have a1 := cell_of_row wa T 1 _ _ _ hrow
      have a2 := cell_of_row wa T 2 _ _ _ hrow
      clear c0 c1 c2 hrow hT
      by_cases hk0 : 0 < k
      · have hk0' : (0 : Int) < (k : Int) := by omega
        have hk0d : decide ((0 : Int) < (k : Int)) = true := decide_eq_true hk0'
        obtain ⟨j, hj⟩ : ∃ j, k = j + 1 := ⟨k - 1, by omega⟩
        have hjl : j < l.length := by omega
        obtain ⟨b', off', e', hb', d0, -, -⟩ := (HA.out.below Hbwa.out).at j hjl
        injection e' with e'
        injection e' with e1 e2
        subst e1 e2
        have hlq := Hord.out j hjl hj
        generalize l[j].nm = pn at *
        have hwk : IntKind.i64.wrap ((k : Int) - 1) = (j : Int) := by rw [show (k : Int) - 1 = (j : Int) by omega]; exact IntWalk.i64_in _ (by omega)
        have hjn : (j : Int) < (n : Int) := by omega
        have Hj := Lib.hid hj
        clear hj
        unfold leqS at hlq
        go_wp2_with (first | (go_at_call 115; refine (Hnm.out _).mono ?_; rintro e w' ⟨rfl, rfl⟩) | fail)
        go_quiet (fail)
        go_wp2
        go_roundw
        case rel => exact ⟨k + 1, by omega, by go_num, below_drewN Hbwa.out _⟩
        case measure => simp [intOf]; omega
      · obtain rfl : k = 0 := by omega
        have hk0d : decide ((0 : Int) < ((0 : Nat) : Int)) = false := rfl
        go_wp2_with (first | (go_at_call 115; refine (Hnm.out _).mono ?_; rintro e w' ⟨rfl, rfl⟩) | fail)
        go_quiet (fail)
        go_wp2
        go_roundw
        case rel => exact ⟨1, by omega, by go_num, below_drewN Hbwa.out _⟩
        case measure => simp [intOf]; omega
    · have hkn' : ¬ (k : Int) < (n : Int) := by omega
      go_wp2
      go_ret
      exact ⟨rfl, Hbw.out⟩

set_option maxHeartbeats 400000 in
theorem validG2 (w : World) : PredBelow Tryz.prog 101 #[] (fun x : GS w => .agg #[rgC x.1]) (fun x => !validP x.1.1) w := by
  intro W x hb
  obtain ⟨⟨l, v⟩, hx⟩ := x
  refine Calls.mono (show Calls Tryz.prog 101 #[.agg #[.slice v.a l.length v.c]] W fun e w' => e = .returned (.bool (!validP l)) ∧ Below W.heap.size W w' from ?_) ?_
  · have HV := Lib.hid (fun W' (hW : Below W.heap.size W W') => valid_any v.a l.length v.c l W' ((hx.below hb).below hW))
    generalize validP l = x at *
    clear hx
    go_enter Tryz.func101, Tryz.ntmps101
    go_wp2_with (first | (go_at_call 68; refine (HV.out _ (by repeat' (first | with_reducible exact Below.refl _ _ | with_reducible refine below_drewN ?_ _ | with_reducible refine Below.drew ?_ | with_reducible refine Below.alloc ?_ ?_ _ | with_reducible refine Below.setCell ?_ ?_ _ | with_reducible refine Below.trans ?_ (Below.mono (by with_reducible assumption) ?_) | (simp; done) | (simp; omega) | omega))).mono ?_; rintro e w1 ⟨rfl, hb1⟩) | fail)
    go_ret
    exact ⟨rfl, (by repeat' (first | with_reducible exact Below.refl _ _ | with_reducible assumption | with_reducible refine below_drewN ?_ _ | with_reducible refine Below.drew ?_ | with_reducible refine Below.alloc ?_ ?_ _ | with_reducible refine Below.setCell ?_ ?_ _ | with_reducible refine Below.trans ?_ (Below.mono (by with_reducible assumption) ?_) | with_reducible refine below_only ?_ (by with_reducible assumption) ?_ ?_ | (simp; done) | (simp; omega) | omega))⟩
  · rintro e w' ⟨rfl, h⟩
    exact ⟨rfl, hb.trans (h.mono hb.size)⟩

set_option maxHeartbeats 4000000 in
set_option maxRecDepth 100000 in
theorem pcheck_any (NA : Option Addr) (n kc : Nat) (N : List Int) (RA : Option Addr) (rc : Nat) (R : RL) (CA : Option Addr) (m cc : Nat) (C : List Cp) (mask : Int) (w : World) (hN : SlI w NA n kc N) (hR : SlG w RA n rc R) (hC : SlC w CA m cc C) (hn : n ≤ 60) (hp : N.Pairwise (· < ·)) (hv : ∀ x ∈ R, validP x.1 = true) (hc : cropsB C) :
    Calls Tryz.prog 76 #[.agg #[.slice NA n kc, .slice RA n rc, .slice CA m cc, .int .i64 mask]] w fun e w' => e = .returned (.int .i64 0) ∧ Below w.heap.size w w' := by
  have HN := Lib.hid hN
  have Hn := Lib.hid hN.len
  have Hp := Lib.hid (List.pairwise_iff_getElem.1 hp)
  have Egv : Hid (∀ args w, (callFunc 101 args).run Tryz.prog w = .ok (.enter 101 args) w) := Lib.hid (enters_of Tryz.func101 (by kernel_rfl) rfl)
  have hany : R.any (fun x => !validP x.1) = false := by
    rw [List.any_eq_false]
    intro x hx
    rw [hv x hx]
    simp
  have HCo : Hid (∀ W, Below w.heap.size w W → Calls Tryz.prog 66 #[.slice RA n rc, .func (.func 101) #[] #[]] W fun e w' => e = .returned (.bool false) ∧ Below W.heap.size W w') := Lib.hid (fun W hW => by
    have := containsG_any (fun x => !validP x.1) 101 #[] Egv.out RA n rc R W (hR.below hW) (validG2 W)
    rwa [hany] at this)
  have HCk := Lib.hid (fun W (hW : Below w.heap.size w W) => cropCheck_any CA m cc C W (hC.below hW) hc)
  clear hN hR hC hp hv hc hany
  have hn60 : ¬ (60 : Int) < (n : Int) := by omega
  go_enter Tryz.func76, Tryz.ntmps76
  go_upto_region 1 with fail
  obtain ⟨wa, hwa⟩ : ∃ wa : World, wa = w.alloc (.cells #[.slice NA n kc, .slice RA n rc, .slice CA m cc, .int .i64 mask] 77) := ⟨_, rfl⟩
  rw [← hwa]
  have HB : Hid (wa.heap[w.heap.size]? = some (.cells #[.slice NA n kc, .slice RA n rc, .slice CA m cc, .int .i64 mask] 77 (0, 0))) := Lib.hid (by rw [hwa]; exact heap_alloc_new w _)
  have Hba : Hid (Below w.heap.size w wa) := Lib.hid (by rw [hwa]; exact (by repeat' (first | with_reducible exact Below.refl _ _ | with_reducible refine below_drewN ?_ _ | with_reducible refine Below.drew ?_ | with_reducible refine Below.alloc ?_ ?_ _ | with_reducible refine Below.setCell ?_ ?_ _ | with_reducible refine Below.trans ?_ (Below.mono (by with_reducible assumption) ?_) | (simp; done) | (simp; omega) | omega)))
  have hla : w.heap.size < wa.heap.size := by rw [hwa]; simp
  clear hwa
  have a0 := cell_of_row wa w.heap.size 0 _ _ _ HB.out
  have a1 := cell_of_row wa w.heap.size 1 _ _ _ HB.out
  go_upto_region 3 with fail
  clear a0 a1
  go_wp2_with fail
  go_loopw [3] (fun iv wr => ∃ k : Nat, 1 ≤ k ∧ (k ≤ n ∨ k = 1) ∧ iv = .int .i64 (k : Int) ∧ Below wa.heap.size wa wr) (fun iv _ => n - (intOf iv).toNat)
  case atStart => exact ⟨1, Nat.le_refl _, .inr rfl, rfl, Below.refl _ _⟩
  case round =>
    obtain ⟨k, hk1, hk, rfl, hbw⟩ := hrel
    have Hbw := Lib.hid hbw
    have hsw := hbw.size
    have hrow := (hbw.block _ hla).trans HB.out
    have a0 := cell_of_row wr w.heap.size 0 _ _ _ hrow
    have a1 := cell_of_row wr w.heap.size 1 _ _ _ hrow
    have a2 := cell_of_row wr w.heap.size 2 _ _ _ hrow
    clear hbw hrow
    by_cases hkn : k < n
    · have hkn' : (k : Int) < (n : Int) := by omega
      have hkl : k < N.length := by have := Hn.out; omega
      obtain ⟨j, hj⟩ : ∃ j, k = j + 1 := ⟨k - 1, by omega⟩
      have hjl : j < N.length := by omega
      obtain ⟨b, off, rfl, hb, c0⟩ := (HN.out.below (Hba.out.trans (Hbw.out.mono (Nat.le_of_lt hla)))).at k hkl
      obtain ⟨b', off', e', -, c1⟩ := (HN.out.below (Hba.out.trans (Hbw.out.mono (Nat.le_of_lt hla)))).at j hjl
      injection e' with e'
      injection e' with e1 e2
      subst e1 e2
      have hlt : ¬ N[k] ≤ N[j] := by have := Hp.out j k hjl hkl (by omega); omega
      generalize N[k] = y at *
      generalize N[j] = z at *
      have hwk : IntKind.i64.wrap ((k : Int) - 1) = (j : Int) := by rw [show (k : Int) - 1 = (j : Int) by omega]; exact IntWalk.i64_in _ (by omega)
      have hjn : (j : Int) < (n : Int) := by omega
      have Hj := Lib.hid hj
      have hbw0 : b < wr.heap.size := hb
      clear hj
      go_wp2_with fail
      go_quiet (fail)
      go_wp2
      go_roundw
      case rel => exact ⟨k + 1, by omega, by omega, by go_num, below_drewN Hbw.out _⟩
      case measure => simp [intOf]; omega
    · have hkn' : ¬ (k : Int) < (n : Int) := by omega
      have hs0 : w.heap.size ≤ wa.heap.size := Nat.le_of_lt hla
      have Hb1 := Lib.hid (Hba.out.trans (Hbw.out.mono hs0))
      go_wp2_with (first
        | (go_at_call 66
           refine (HCo.out _ Hb1.out).mono ?_
           rintro e w2 ⟨rfl, hb2⟩
           have hlr : w.heap.size < wr.heap.size := by omega
           have a22 := (hb2.cell (p := ⟨w.heap.size, 2, none⟩) hlr).trans a2
           have Hb2 := Lib.hid (Hb1.out.trans (hb2.mono (by omega)))
           have hs2 := Hb2.out.size
           clear hb2)
        | (go_at_call 102
           refine (HCk.out _ Hb2.out).mono ?_
           rintro e w3 ⟨rfl, hb3⟩)
        | fail)
      go_ret
      exact ⟨rfl, Hb2.out.trans (hb3.mono hs2)⟩

/-- Parcels, schemes and a catalogue that are right, where they lie. -/
structure PcV (w : World) (NA : Option Addr) (n kc : Nat) (N : List Int) (RA : Option Addr) (rc : Nat) (R : RL) (CA : Option Addr) (m cc : Nat) (C : List Cp) : Prop where
  hN : SlI w NA n kc N
  hR : SlG w RA n rc R
  hC : SlC w CA m cc C
  hn : n ≤ 60
  hp : N.Pairwise (· < ·)
  hv : ∀ x ∈ R, validP x.1 = true
  hc : cropsB C
theorem PcV.below {w w' : World} {NA RA CA : Option Addr} {n kc rc m cc : Nat} {N : List Int} {R : RL} {C : List Cp} (h : PcV w NA n kc N RA rc R CA m cc C) (hb : Below w.heap.size w w') : PcV w' NA n kc N RA rc R CA m cc C := ⟨h.hN.below hb, h.hR.below hb, h.hC.below hb, h.hn, h.hp, h.hv, h.hc⟩
/-- What a line has to be, beside its parcel. -/
structure LnFine (N : List Int) (R : RL) (m : Nat) (mask : Int) (x : Ln) : Prop where
  inN : x.pc ∈ N
  ne : x.rg ≠ []
  val : validP x.rg = true
  wi : ∀ i (h : i < R.length), N[i]? = some x.pc → withinP x.rg R[i].1 = true
  cr : 0 ≤ x.cr ∧ x.cr < (m : Int)
  s0 : ¬ x.sch = 0
  sm : bits BinOp.andNot IntKind.i64 x.sch mask = 0

set_option maxHeartbeats 8000000 in
set_option maxRecDepth 100000 in
theorem pline_any (NA : Option Addr) (n kc : Nat) (N : List Int) (RA : Option Addr) (rc : Nat) (R : RL) (CA : Option Addr) (m cc : Nat) (C : List Cp) (mask : Int) (x : Ln) (v : LV) (w : World) (hP : PcV w NA n kc N RA rc R CA m cc C) (hx : SlR w v.a x.rg.length v.c x.rg) (res : Int) (hres : (res = 0 ∧ LnFine N R m mask x) ∨ (res = 10 ∧ x.pc ∉ N)) :
    Calls Tryz.prog 48 #[.agg #[.slice NA n kc, .slice RA n rc, .slice CA m cc, .int .i64 mask], .agg #[.int .i64 x.pc, .slice v.a x.rg.length v.c, .int .i64 x.cr, .int .i64 x.sch]] w fun e w' => e = .returned (.int .i64 res) ∧ Below w.heap.size w w' := by
  have HP := Lib.hid hP
  have HX := Lib.hid hx
  have Hres := Lib.hid hres
  have HCk := Lib.hid (fun W (hW : Below w.heap.size w W) => pcheck_any NA n kc N RA rc R CA m cc C mask W (hP.hN.below hW) (hP.hR.below hW) (hP.hC.below hW) hP.hn hP.hp hP.hv hP.hc)
  have hn60 := hP.hn
  have HSe := Lib.hid (fun W (hW : Below w.heap.size w W) => search_any NA n kc N x.pc W (hP.hN.below hW) (by omega) hP.hp)
  have HVa := Lib.hid (fun W (hW : Below w.heap.size w W) => valid_any v.a x.rg.length v.c x.rg W (hx.below hW))
  obtain ⟨pc, rg, cr, sch⟩ := x
  dsimp only at *
  clear hP hx hres
  go_enter Tryz.func48, Tryz.ntmps48
  go_upto_region 1 with fail
  obtain ⟨wa, hwa⟩ : ∃ wa : World, wa = (w.alloc (.cells #[.slice NA n kc, .slice RA n rc, .slice CA m cc, .int .i64 mask] 77)).alloc (.cells #[.int .i64 pc, .slice v.a rg.length v.c, .int .i64 cr, .int .i64 sch] 38) := ⟨_, rfl⟩
  rw [← hwa]
  have HG : Hid (wa.heap[w.heap.size]? = some (.cells #[.slice NA n kc, .slice RA n rc, .slice CA m cc, .int .i64 mask] 77 (0, 0))) := Lib.hid (by rw [hwa]; exact (Below.heap_alloc _ _ _ (by simp)).trans (heap_alloc_new w _))
  have HE : Hid (wa.heap[w.heap.size + 1]? = some (.cells #[.int .i64 pc, .slice v.a rg.length v.c, .int .i64 cr, .int .i64 sch] 38 (0, 0))) := Lib.hid (by rw [hwa]; have hzz := heap_alloc_new (w.alloc (.cells #[.slice NA n kc, .slice RA n rc, .slice CA m cc, .int .i64 mask] 77)) (.cells #[.int .i64 pc, .slice v.a rg.length v.c, .int .i64 cr, .int .i64 sch] 38); rw [World.size_alloc] at hzz; exact hzz)
  have Hba : Hid (Below w.heap.size w wa) := Lib.hid (by rw [hwa]; exact (by repeat' (first | with_reducible exact Below.refl _ _ | with_reducible refine below_drewN ?_ _ | with_reducible refine Below.drew ?_ | with_reducible refine Below.alloc ?_ ?_ _ | with_reducible refine Below.setCell ?_ ?_ _ | with_reducible refine Below.trans ?_ (Below.mono (by with_reducible assumption) ?_) | (simp; done) | (simp; omega) | omega)))
  have hlE : w.heap.size + 1 < wa.heap.size := by rw [hwa]; simp
  clear hwa
  obtain ⟨E, hE⟩ : ∃ E, w.heap.size + 1 = E := ⟨_, rfl⟩
  rw [hE] at HE hlE ⊢
  have hGE : w.heap.size < E := by omega
  clear hE
  have a0 := cell_of_row wa w.heap.size 0 _ _ _ HG.out
  have a1 := cell_of_row wa w.heap.size 1 _ _ _ HG.out
  have a2 := cell_of_row wa w.heap.size 2 _ _ _ HG.out
  have a3 := cell_of_row wa w.heap.size 3 _ _ _ HG.out
  go_wp2_with fail
  refine (HCk.out _ Hba.out).mono ?_
  rintro e w1 ⟨rfl, hb1⟩
  have hG1 := (hb1.block _ (by omega)).trans HG.out
  have hE1 := (hb1.block _ hlE).trans HE.out
  have Hb1 := Lib.hid (Hba.out.trans (hb1.mono (by omega)))
  have hs1 := hb1.size
  have HG1 := Lib.hid hG1
  have HE1 := Lib.hid hE1
  clear a0 a1 a2 a3 hb1 hG1 hE1 HG HE
  have a0 := cell_of_row w1 w.heap.size 0 _ _ _ HG1.out
  have a1 := cell_of_row w1 w.heap.size 1 _ _ _ HG1.out
  have a2 := cell_of_row w1 w.heap.size 2 _ _ _ HG1.out
  have a3 := cell_of_row w1 w.heap.size 3 _ _ _ HG1.out
  have e0 := cell_of_row w1 E 0 _ _ _ HE1.out
  have e1 := cell_of_row w1 E 1 _ _ _ HE1.out
  have e2 := cell_of_row w1 E 2 _ _ _ HE1.out
  have e3 := cell_of_row w1 E 3 _ _ _ HE1.out
  have hlE1 : E < w1.heap.size := by omega
  go_wp2_with fail
  refine (HSe.out _ Hb1.out).mono ?_
  rintro e w' ⟨⟨i, b, rfl, hfd⟩, rfl⟩
  have Hfd := Lib.hid hfd
  clear hfd
  cases b with
  | false =>
    have He : Hid (res = 10) := Lib.hid (by
      rcases Hres.out with h | h
      · exact absurd h.2.inN (Hfd.out.2.2 rfl)
      · exact h.1)
    go_wp2
    go_ret
    exact ⟨by rw [He.out]; rfl, Hb1.out⟩
  | true =>
    have hat := Hfd.out.2.1 rfl
    have hmem : pc ∈ N := List.mem_of_getElem? hat
    have hfine : res = 0 ∧ LnFine N R m mask ⟨pc, rg, cr, sch⟩ := by
      rcases Hres.out with h | h
      · exact h
      · exact absurd hmem h.2
    have hiR : i < R.length := by
      have h1 := (List.getElem?_eq_some_iff.1 hat).1
      have h2 := HP.out.hN.len
      have h3 := HP.out.hR.len
      omega
    have hin : (i : Int) < (n : Int) := by have := HP.out.hR.len; omega
    have hin2 : i < n := by omega
    have He : Hid (res = 0) := Lib.hid hfine.1
    obtain ⟨-, hne, hval, hwi, ⟨hcr0, hcrm⟩, hs0, hsm⟩ := hfine.2
    dsimp only at hne hval hwi hcr0 hcrm hs0 hsm
    have hwi := hwi i hiR hat
    have hrl : ¬ rg.length = 0 := fun h => hne (List.length_eq_zero_iff.1 h)
    have hrl' : ¬ (rg.length : Int) = 0 := by omega
    have hcr0' : ¬ cr < 0 := by omega
    have hcrm' : ¬ (m : Int) ≤ cr := by omega
    obtain ⟨br, off, rfl, hbr, cR, hSR⟩ := (HP.out.hR.below Hb1.out).at i hiR
    have HSR := Lib.hid hSR
    have HW := Lib.hid (fun W (hW : Below w1.heap.size w1 W) => within_any v.a R[i].2.a rg.length v.c R[i].1.length R[i].2.c rg R[i].1 W ((HX.out.below Hb1.out).below hW) (HSR.out.below hW))
    rw [hwi] at HW
    have HVb := Lib.hid (fun W (hW : Below w1.heap.size w1 W) => HVa.out W (Hb1.out.trans (hW.mono (by omega))))
    rw [hval] at HVb
    obtain ⟨rp, hrp⟩ : ∃ rp, R[i] = rp := ⟨_, rfl⟩
    rw [hrp] at cR HW
    clear hrp hSR HSR hwi hval hne hmem hat hfine HVa
    go_upto_region 9 with (first
      | (go_at_call 68
         refine (HVb.out _ (Below.refl _ _)).mono ?_
         rintro e w2 ⟨rfl, hb2⟩
         have HG2 := Lib.hid ((hb2.block _ (by omega)).trans HG1.out)
         have HE2 := Lib.hid ((hb2.block _ hlE1).trans HE1.out)
         have cR2 := (hb2.cell (p := ⟨br, off + i, none⟩) hbr).trans cR
         have Hb2 := Lib.hid hb2
         have hs2 := hb2.size
         clear hb2)
      | fail)
    clear a0 a1 a2 a3 e0 e1 e2 e3 cR
    have a1 : w2.drew.cell? ⟨w.heap.size, 1, none⟩ = _ := cell_of_row w2 w.heap.size 1 _ _ _ HG2.out
    have e1 : w2.drew.cell? ⟨E, 1, none⟩ = _ := cell_of_row w2 E 1 _ _ _ HE2.out
    have cR3 : w2.drew.cell? ⟨br, off + i, none⟩ = some (.slice rp.2.a rp.1.length rp.2.c) := cR2
    clear cR2
    go_region_held3 (fun w' => w'.cell? ⟨w.heap.size, 1, none⟩ = some (.slice (some ⟨br, off, none⟩) n rc) ∧ w'.cell? ⟨E, 1, none⟩ = some (.slice v.a rg.length v.c) ∧ w'.cell? ⟨br, off + i, none⟩ = some (.slice rp.2.a rp.1.length rp.2.c)) (first | with_reducible exact ⟨a1, e1, cR3⟩ | go_keep | ((repeat' apply And.intro) <;> go_keep))
      (first
        | (go_at_call 78
           refine (HW.out _ (Below.drew Hb2.out)).mono ?_
           rintro e w3 ⟨rfl, hb3⟩
           have hb3' : Below w2.heap.size w2 w3 := (have hbq := hb3; (by repeat' (first | with_reducible exact Below.refl _ _ | with_reducible assumption | with_reducible refine below_drewN ?_ _ | with_reducible refine Below.drew ?_ | with_reducible refine Below.alloc ?_ ?_ _ | with_reducible refine Below.setCell ?_ ?_ _ | with_reducible refine Below.trans ?_ (Below.mono (by with_reducible assumption) ?_) | with_reducible refine below_only ?_ (by with_reducible assumption) ?_ ?_ | (simp; done) | (simp; omega) | omega)))
           have HG3 := Lib.hid ((hb3'.block _ (by omega)).trans HG2.out)
           have HE3 := Lib.hid ((hb3'.block _ (by omega)).trans HE2.out)
           have a13 := cell_of_row w3 w.heap.size 1 _ _ _ HG3.out
           have e13 := cell_of_row w3 E 1 _ _ _ HE3.out
           have cR4 := (hb3'.cell (p := ⟨br, off + i, none⟩) (by show br < w2.heap.size; omega)).trans cR3
           have Hb3 := Lib.hid (Hb2.out.trans (hb3'.mono hs2))
           clear hb3 hb3')
        | fail)
    clear a1 e1 cR3 a13 e13 cR4
    have a2 := cell_of_row w3 w.heap.size 2 _ _ _ HG3.out
    have a3 := cell_of_row w3 w.heap.size 3 _ _ _ HG3.out
    have e2 := cell_of_row w3 E 2 _ _ _ HE3.out
    have e3 := cell_of_row w3 E 3 _ _ _ HE3.out
    go_wp2
    go_ret
    exact ⟨by rw [He.out]; rfl, Hb1.out.trans (Hb3.out.mono (by omega))⟩

set_option maxHeartbeats 2000000 in
set_option maxRecDepth 100000 in
theorem checkC_any (NA : Option Addr) (n kc : Nat) (N : List Int) (RA : Option Addr) (rc : Nat) (R : RL) (CA : Option Addr) (m cc : Nat) (C : List Cp) (mask : Int) (x : Ln) (v : LV) (w : World) (hP : PcV w NA n kc N RA rc R CA m cc C) (hx : SlR w v.a x.rg.length v.c x.rg) (res : Int) (hres : (res = 0 ∧ LnFine N R m mask x) ∨ (res = 10 ∧ x.pc ∉ N)) :
    Calls Tryz.prog 29 #[.agg #[.int .i64 x.pc, .slice v.a x.rg.length v.c, .int .i64 x.cr, .int .i64 x.sch], .slice NA n kc, .slice RA n rc, .slice CA m cc, .int .i64 mask] w fun e w' => e = .returned (.int .i64 res) ∧ Below w.heap.size w w' := by
  have HL := Lib.hid (fun W (hW : Below w.heap.size w W) => pline_any NA n kc N RA rc R CA m cc C mask x v W (hP.below hW) (hx.below hW) res hres)
  obtain ⟨pc, rg, cr, sch⟩ := x
  dsimp only at *
  clear hP hx hres
  go_enter Tryz.func29, Tryz.ntmps29
  go_wp2_with fail
  refine (HL.out _ (by repeat' (first | with_reducible exact Below.refl _ _ | with_reducible refine below_drewN ?_ _ | with_reducible refine Below.drew ?_ | with_reducible refine Below.alloc ?_ ?_ _ | with_reducible refine Below.setCell ?_ ?_ _ | with_reducible refine Below.trans ?_ (Below.mono (by with_reducible assumption) ?_) | (simp; done) | (simp; omega) | omega))).mono ?_
  rintro e w1 ⟨rfl, hb1⟩
  go_wp2
  go_ret
  exact ⟨rfl, (by repeat' (first | with_reducible exact Below.refl _ _ | with_reducible assumption | with_reducible refine below_drewN ?_ _ | with_reducible refine Below.drew ?_ | with_reducible refine Below.alloc ?_ ?_ _ | with_reducible refine Below.setCell ?_ ?_ _ | with_reducible refine Below.trans ?_ (Below.mono (by with_reducible assumption) ?_) | with_reducible refine below_only ?_ (by with_reducible assumption) ?_ ?_ | (simp; done) | (simp; omega) | omega))⟩
end Go.Proofs.YtglanlpjoaholaaGreat
