/- Contracts: Index, Contains of whole numbers (the library's slices); Sample (draw). -/
import Derived.Test.YtjmbdfoegnfpnaaDT
namespace Go.Proofs.Ytjmbdfoegnfpnaa
open Go.RowKit
set_option linter.unusedVariables false
set_option linter.unusedSimpArgs false

theorem mem_take_succ {l : List Int} {k : Nat} (h : k < l.length) (x : Int) : x ∈ l.take (k + 1) ↔ x ∈ l.take k ∨ x = l[k] := by
  rw [List.take_succ_eq_append_getElem h, List.mem_append, List.mem_singleton]

set_option maxHeartbeats 1000000 in
theorem index_any (A : Option Addr) (n c : Nat) (l : List Int) (x : Int) (w : World) (hA : Sl w A c (l.map (.int .i64))) (hn : l.length = n) :
    Calls Try.prog 64 #[.slice A n c, .int .i64 x] w fun e w' => (∃ r : Int, e = .returned (.int .i64 r) ∧ (0 ≤ r ↔ x ∈ l)) ∧ w' = w := by
  have hn1 := Nat.le_trans hA.cap hA.top
  rw [List.length_map] at hn1
  unfold maxLen at hn1
  have HA := Lib.hid hA
  have Hn := Lib.hid hn
  clear hA
  go_enter Try.func64, Try.ntmps64
  go_upto_region 2 with fail
  go_loop [5, 8] (fun _ i => ∃ k : Nat, k ≤ n ∧ i = .int .i64 (k : Int) ∧ Hid (x ∉ l.take k)) (fun _ i => n - (intOf i).toNat)
  case atStart => exact ⟨0, Nat.zero_le _, rfl, Lib.hid (by simp)⟩
  case round =>
    obtain ⟨k, hk, rfl, Hno⟩ := hrel
    by_cases hkn : k < n
    · have hkl : k < l.length := by omega
      obtain ⟨b, off, rfl, hb, c0⟩ := HA.out.at k hkl
      have Hmem := Lib.hid (mem_take_succ hkl x)
      have Hin : Hid (x = l[k] → x ∈ l) := Lib.hid (fun h => by rw [h]; exact List.getElem_mem hkl)
      generalize l[k] = y at *
      have hkn' : (k : Int) < (n : Int) := by omega
      clear hn
      by_cases hxy : x = y
      · have Hx := Lib.hid (Hin.out hxy)
        subst hxy
        clear Hin Hmem
        go_wp2
        go_ret
        exact ⟨⟨_, rfl, by constructor <;> intro _ <;> first | exact Hx.out | omega⟩, rfl⟩
      · have Hno2 : Hid (x ∉ l.take (k + 1)) := Lib.hid (by rw [Hmem.out]; intro h; rcases h with h | h; exact Hno.out h; exact hxy h)
        clear Hin Hmem
        go_wp2
        go_round
        case rel => exact ⟨k + 1, by omega, by go_num, Hno2⟩
        case measure => simp [intOf]; omega
    · have hkn' : ¬ (k : Int) < (n : Int) := by omega
      have Hno2 : Hid (x ∉ l) := Lib.hid (by have := Hno.out; rwa [List.take_of_length_le (by omega)] at this)
      clear hn
      go_wp2
      go_ret
      exact ⟨⟨_, rfl, by constructor; intro h; omega; intro h; exact absurd h Hno2.out⟩, rfl⟩
theorem contains_any (A : Option Addr) (n c : Nat) (l : List Int) (x : Int) (w : World) (hA : Sl w A c (l.map (.int .i64))) (hn : l.length = n) :
    Calls Try.prog 52 #[.slice A n c, .int .i64 x] w fun e w' => e = .returned (.bool (decide (x ∈ l))) ∧ w' = w := by
  have HI := Lib.hid (index_any A n c l x w hA hn)
  clear hA hn
  go_enter Try.func52, Try.ntmps52
  go_wp2_with fail
  refine HI.out.mono ?_
  rintro e w1 ⟨⟨r, rfl, hr⟩, rfl⟩
  have Hr := Lib.hid hr
  clear hr HI
  go_wp2
  all_goals
    go_ret
    exact ⟨ret_bool (by have := Hr.out; simp; first | exact this | omega), rfl⟩

/-- The units in the order of their tickets. -/
def tickS (s : Int) (l : List Int) : List Int := l.mergeSort fun a b => !beforeT s b a
/-- Whether a unit stands wrong. -/
def badU (l : List Int) (i : Nat) : Bool := decide (l.getD i 0 < 0) || decide (l.getD i 0 ∈ l.take i)
def sampleP (s : Int) (l : List Int) (k : Int) : List Int × Int :=
  if 60 < l.length then ([], 1) else if (List.range l.length).any (badU l) then ([], 65) else if k < 0 ∨ (l.length : Int) < k then ([], 2) else (srt ((tickS s l).take k.toNat), 0)
theorem tickS_eq (s : Int) (l ss : List Int) (hp : ss.Perm l) (hs : ss.Pairwise (fun a b => beforeT s b a = false)) : ss = tickS s l := by
  have h1 : (tickS s l).Pairwise (fun a b => (!beforeT s b a) = true) := List.pairwise_mergeSort (fun a b c h1 h2 => by
    rw [Bool.not_eq_true', beforeT_not] at *; omega) (fun a b => by
    cases h : beforeT s b a
    · simp
    · simp only [Bool.not_true, Bool.false_or, Bool.not_eq_true']
      rw [beforeT_not]; rw [beforeT_iff] at h; omega) l
  refine List.Perm.eq_of_pairwise (le := fun a b => beforeT s b a = false) ?_ hs (h1.imp (by intro a b h; simpa using h)) (hp.trans (List.mergeSort_perm l _).symm)
  intro a b _ _ h1 h2
  rw [beforeT_not] at h1 h2
  omega
def SamplePost (w : World) (x : List Int × Int) (e : Ending) (w' : World) : Prop :=
  ∃ v, e = .returned (.tuple #[v, .int .i64 x.2]) ∧ w'.ownsRow w.heap.size 3 1 v x.1.length (x.1.map (.int .i64)) ∧ Below w.heap.size w w'
end Go.Proofs.Ytjmbdfoegnfpnaa
