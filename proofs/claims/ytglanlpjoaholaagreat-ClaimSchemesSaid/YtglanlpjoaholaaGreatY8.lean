/- Contracts: Name (words), isNaN, Less, BinarySearch of whole numbers; Check (crop), where all is right. -/
import Derived.Test.YtglanlpjoaholaaGreatY6
namespace Go.Proofs.YtglanlpjoaholaaGreat
open Go.RowKit Go.Shelf
set_option linter.unusedVariables false
set_option linter.unusedSimpArgs false

set_option maxHeartbeats 400000 in
theorem isNaN2_any (x : Int) (w : World) : Calls Tryz.prog 104 #[.int .i64 x] w fun e w' => e = .returned (.bool false) ∧ w = w' := by
  go_enter Tryz.func104, Tryz.ntmps104
  go_wp2
  go_ret
  exact ⟨rfl, rfl⟩
set_option maxHeartbeats 400000 in
theorem isNaN3_any (x : Int) (w : World) : Calls Tryz.prog 114 #[.int .i64 x] w fun e w' => e = .returned (.bool false) ∧ w = w' := by
  go_enter Tryz.func114, Tryz.ntmps114
  go_wp2
  go_ret
  exact ⟨rfl, rfl⟩
set_option maxHeartbeats 400000 in
theorem less_any (x y : Int) (w : World) : Calls Tryz.prog 103 #[.int .i64 x, .int .i64 y] w fun e w' => e = .returned (.bool (decide (x < y))) ∧ w = w' := by
  go_enter Tryz.func103, Tryz.ntmps103
  go_wp2_with (first | (go_at_call 114; refine (isNaN3_any _ _).mono ?_; rintro e w' ⟨rfl, rfl⟩) | fail)
  go_ret
  exact ⟨rfl, rfl⟩
/-- A name of letters. -/
def lettersB (s : ByteArray) : Bool := decide (1 ≤ s.size) && decide (s.size ≤ 12) && s.data.toList.all fun b => decide (97 ≤ b.toNat) && decide (b.toNat ≤ 122)
theorem letter_at {s : ByteArray} (hs : lettersB s = true) (k : Nat) (h : k < s.size) : 97 ≤ s[k].toNat ∧ s[k].toNat ≤ 122 := by
  unfold lettersB at hs
  rw [Bool.and_eq_true] at hs
  have hm : s[k] ∈ s.data.toList := by
    have e : s[k] = s.data[k]'h := rfl
    rw [e]
    exact Array.mem_toList_iff.2 (Array.getElem_mem _)
  have := List.all_eq_true.1 hs.2 _ hm
  simpa using this
set_option maxHeartbeats 2000000 in
theorem name_any (s : ByteArray) (w : World) (hs : lettersB s = true) : Calls Tryz.prog 115 #[.string s] w fun e w' => e = .returned (.bool true) ∧ w = w' := by
  obtain ⟨n, hn⟩ : ∃ n, s.size = n := ⟨_, rfl⟩
  have Hn := Lib.hid hn
  have hn12 : 1 ≤ n ∧ n ≤ 12 := by
    unfold lettersB at hs
    simp only [Bool.and_eq_true, decide_eq_true_eq] at hs
    omega
  go_enter Tryz.func115, Tryz.ntmps115
  go_wp2_with fail
  go_loopw [3, 4, 5, 8] (fun _ _ _ iv wr => ∃ k : Nat, k ≤ n ∧ iv = .int .i64 (k : Int) ∧ wr = w) (fun _ _ _ iv _ => n - (intOf iv).toNat)
  case atStart => exact ⟨0, Nat.zero_le _, rfl, rfl⟩
  case round =>
    obtain ⟨k, hk, rfl, rfl⟩ := hrel
    by_cases hkn : k < n
    · have hkn' : (k : Int) < (n : Int) := by omega
      have hks : k < s.size := by omega
      obtain ⟨h1, h2⟩ := letter_at hs k hks
      have a1 : (97 : Int) ≤ (s[k].toNat : Int) := by omega
      have a2 : (s[k].toNat : Int) ≤ 122 := by omega
      have a3 : (48 : Int) ≤ (s[k].toNat : Int) := by omega
      have a4 : ¬ (s[k].toNat : Int) ≤ 57 := by omega
      go_wp2
      go_roundw
      case rel => exact ⟨k + 1, by omega, by go_num, trivial⟩
      case measure => simp [intOf]; omega
    · have hkn' : ¬ (k : Int) < (n : Int) := by omega
      have b1 : (1 : Int) ≤ (n : Int) := by omega
      have b2 : (n : Int) ≤ 12 := by omega
      go_wp2
      go_ret
      exact ⟨rfl, rfl⟩

/-- What a search finds. -/
def Found (l : List Int) (x : Int) (i : Nat) (b : Bool) : Prop := i ≤ l.length ∧ (b = true → l[i]? = some x) ∧ (b = false → x ∉ l)
def SearchPost (l : List Int) (x : Int) (e : Ending) : Prop := ∃ (i : Nat) (b : Bool), e = .returned (.tuple #[.int .i64 (i : Int), .bool b]) ∧ Found l x i b
set_option maxHeartbeats 2000000 in
set_option maxRecDepth 100000 in
theorem search_any (A : Option Addr) (n c : Nat) (l : List Int) (x : Int) (w : World) (hA : SlI w A n c l) (hn1 : n ≤ 1000) (hp : l.Pairwise (· < ·)) :
    Calls Tryz.prog 77 #[.slice A n c, .int .i64 x] w fun e w' => SearchPost l x e ∧ w = w' := by
  have HA := Lib.hid hA
  have Hn := Lib.hid hA.len
  have Hp := Lib.hid (List.pairwise_iff_getElem.1 hp)
  clear hA hp
  go_enter Tryz.func77, Tryz.ntmps77
  go_wp2_with fail
  go_loopw [7, 8, 9] (fun iv jv _ wr => ∃ i j : Nat, iv = .int .i64 (i : Int) ∧ jv = .int .i64 (j : Int) ∧ i ≤ j ∧ j ≤ n ∧ Hid (∀ m (h : m < l.length), m < i → l[m] < x) ∧ Hid (∀ m (h : m < l.length), j ≤ m → x ≤ l[m]) ∧ w = wr) (fun iv jv _ _ => (intOf jv).toNat - (intOf iv).toNat)
  case atStart => exact ⟨0, n, rfl, rfl, by omega, by omega, Lib.hid (fun m h h1 => by omega), Lib.hid (fun m h h1 => by have := Hn.out; omega), rfl⟩
  case round =>
    obtain ⟨i, j, rfl, rfl, hij, hjn, HI, HJ, rfl⟩ := hrel
    by_cases hlt : i < j
    · have hlt' : (i : Int) < (j : Int) := by omega
      obtain ⟨h, hh⟩ : ∃ h : Nat, (i + j) / 2 = h := ⟨_, rfl⟩
      have hhb : i ≤ h ∧ h < j := by omega
      have hhl : h < l.length := by have := Hn.out; omega
      have hw1 : IntKind.i64.wrap ((i : Int) + (j : Int)) = (i : Int) + (j : Int) := IntWalk.i64_in _ (by omega)
      have hdv : ((i : Int) + (j : Int)) / 2 = (h : Int) := by omega
      obtain ⟨b, off, rfl, hb, c0⟩ := HA.out.at h hhl
      have Hmono : Hid (∀ m (hm : m < l.length), (m < h → l[m] < l[h]) ∧ (h < m → l[h] < l[m])) := Lib.hid (fun m hm => ⟨fun hmh => Hp.out m h hm hhl hmh, fun hmh => Hp.out h m hhl hm hmh⟩)
      by_cases hy : l[h] < x
      · have hyd : decide (l[h] < x) = true := decide_eq_true hy
        have HI2 : Hid (∀ m (hm : m < l.length), m < h + 1 → l[m] < x) := Lib.hid (fun m hm hlt => by
          rcases Nat.lt_or_ge m h with h1 | h1
          · have := (Hmono.out m hm).1 h1; omega
          · obtain rfl : m = h := by omega
            exact hy)
        go_wp2_with (first | (go_at_call 103; refine (less_any _ _ _).mono ?_; rintro e w' ⟨rfl, rfl⟩) | fail)
        go_roundw
        case rel => exact ⟨h + 1, j, by go_num, rfl, by omega, by omega, HI2, HJ, trivial⟩
        case measure => simp [intOf]; omega
      · have hyd : decide (l[h] < x) = false := decide_eq_false hy
        have HJ2 : Hid (∀ m (hm : m < l.length), h ≤ m → x ≤ l[m]) := Lib.hid (fun m hm hlt => by
          rcases Nat.lt_or_ge h m with h1 | h1
          · have := (Hmono.out m hm).2 h1; omega
          · obtain rfl : m = h := by omega
            omega)
        go_wp2_with (first | (go_at_call 103; refine (less_any _ _ _).mono ?_; rintro e w' ⟨rfl, rfl⟩) | fail)
        go_roundw
        case rel => exact ⟨i, h, rfl, rfl, by omega, by omega, HI, HJ2, trivial⟩
        case measure => simp [intOf]; omega
    · have hlt' : ¬ (i : Int) < (j : Int) := by omega
      obtain rfl : i = j := by omega
      by_cases hin : i < n
      · have hin' : (i : Int) < (n : Int) := by omega
        have hil : i < l.length := by have := Hn.out; omega
        obtain ⟨b, off, rfl, hb, c0⟩ := HA.out.at i hil
        have HJi := HJ.out i hil (Nat.le_refl _)
        have Hno : Hid (¬ l[i] = x → x ∉ l) := Lib.hid (fun hne hx => by
          obtain ⟨m, hm, he⟩ := List.getElem_of_mem hx
          rcases Nat.lt_trichotomy m i with h1 | h1 | h1
          · have := HI.out m hm h1; omega
          · subst h1; exact hne he
          · have := Hp.out i m hil hm h1; omega)
        have Hat : Hid (l[i]? = some l[i]) := Lib.hid (List.getElem?_eq_getElem hil)
        generalize l[i] = y at *
        by_cases hyx : y = x
        · subst hyx
          go_wp2_with (first | (go_at_call 104; refine (isNaN2_any _ _).mono ?_; rintro e w' ⟨rfl, rfl⟩) | fail)
          refine bodyPost_ret (v := .tuple #[.int .i64 (i : Int), .bool true]) (by simp [results, Tryz.results77, go_sem, *]) rfl ?_
          exact ⟨⟨i, true, rfl, by omega, fun _ => Hat.out, fun h => (by cases h)⟩, rfl⟩
        · go_wp2_with (first | (go_at_call 104; refine (isNaN2_any _ _).mono ?_; rintro e w' ⟨rfl, rfl⟩) | fail)
          refine bodyPost_ret (v := .tuple #[.int .i64 (i : Int), .bool false]) (by simp [results, Tryz.results77, go_sem, *]) rfl ?_
          exact ⟨⟨i, false, rfl, by omega, fun h => (by cases h), fun _ => Hno.out hyx⟩, rfl⟩
      · have hin' : ¬ (i : Int) < (n : Int) := by omega
        have Hno : Hid (x ∉ l) := Lib.hid (fun hx => by
          obtain ⟨m, hm, he⟩ := List.getElem_of_mem hx
          have := HI.out m hm (by have := Hn.out; omega)
          omega)
        go_wp2
        refine bodyPost_ret (v := .tuple #[.int .i64 (i : Int), .bool false]) (by simp [results, Tryz.results77, go_sem, *]) rfl ?_
        exact ⟨⟨i, false, rfl, by have := Hn.out; omega, fun h => (by cases h), fun _ => Hno.out⟩, rfl⟩
end Go.Proofs.YtglanlpjoaholaaGreat
