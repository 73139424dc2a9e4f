/- Contracts: Clone of numbers and truth values (the library's slices). -/
import Derived.Test.YtjmbdfoegnfpnaaD2
namespace Go.Proofs.Ytjmbdfoegnfpnaa
open Go.RowKit
set_option linter.unusedVariables false
set_option linter.unusedSimpArgs false

theorem own_zero0 {w : World} {base : Nat} {t : TypeId} : w.ownsRow base t 1 (.slice none 0 0) 0 [] := World.ownsRow_nil _ _ _ _
/-- What a call leaves that returns a slice of its own. -/
def OwnPost (w : World) (t : TypeId) (xs : List Value) (e : Ending) (w' : World) : Prop :=
  ∃ v, e = .returned v ∧ w'.ownsRow w.heap.size t 1 v xs.length xs ∧ Below w.heap.size w w'

theorem Try.infoU : (Try.prog.info? 48).map (fun i => (i.zero, i.size, i.bytes)) = some (some (.int .u64 0), 1, 8) := by kernel_rfl
theorem U_one (xs : List Int) : ∀ u ∈ xs.map (Value.int .u64), u.oneCell' = true := by
  intro u hu
  obtain ⟨x, _, rfl⟩ := List.mem_map.1 hu
  rfl
theorem Try.infoBo : (Try.prog.info? 4).map (fun i => (i.zero, i.size, i.bytes)) = some (some (.bool false), 1, 1) := by kernel_rfl
theorem Bo_one (xs : List Bool) : ∀ u ∈ xs.map Value.bool, u.oneCell' = true := by
  intro u hu
  obtain ⟨x, _, rfl⟩ := List.mem_map.1 hu
  rfl
theorem Try.infoIn : (Try.prog.info? 3).map (fun i => (i.zero, i.size, i.bytes)) = some (some (.int .i64 0), 1, 8) := by kernel_rfl
theorem In_one (xs : List Int) : ∀ u ∈ xs.map (Value.int .i64), u.oneCell' = true := by
  intro u hu
  obtain ⟨x, _, rfl⟩ := List.mem_map.1 hu
  rfl
set_option maxHeartbeats 400000 in
theorem cloneIn_any (A : Option Addr) (c : Nat) (xs : List Int) (w : World) (hA : Sl w A c (xs.map (Value.int .i64))) (hn : xs.length ≤ 1000000) :
    Calls Try.prog 53 #[.slice A xs.length c] w (OwnPost w 3 (xs.map (Value.int .i64))) := by
  obtain ⟨i0, hi, hz0, hz1, hz2⟩ := info_parts Try.infoIn
  obtain ⟨n, hx⟩ : ∃ n, xs.length = n := ⟨_, rfl⟩
  rw [hx] at hn ⊢
  have hL := hA.lies
  rw [List.length_map, hx] at hL
  clear hA
  have Hx := Lib.hid hx
  have HA := Lib.hid (hL.reads (size := 1) (by simp [hx]))
  rcases A with _ | ad
  · have hn0 : n = 0 := hL.resolve_right (by rintro ⟨_, _, h, _⟩; cases h)
    subst hn0
    obtain rfl : xs = [] := List.length_eq_zero_iff.1 hx
    clear hx hL Hx HA
    have hnil := fun W : World => Lib.run_eql_slice_nil (P := Try.prog) W 22 3 none 0 c 0 0 Try.underlying22
    go_enter Try.func53, Try.ntmps53
    go_wp2
    go_ret
    exact ⟨_, rfl, World.ownsRow_nil _ _ _ _, Below.refl _ _⟩
  · clear hx hL
    have hnil := fun W : World => Lib.run_eql_slice_nil (P := Try.prog) W 22 3 (some ad) n c 0 0 Try.underlying22
    go_enter Try.func53, Try.ntmps53
    go_wp2_with (at_builtin
                 refine wpList_append_any _ rfl (.tmp 5) (.tmp 6) _ rfl w.heap.size 3 i0 _ 1 8 Try.underlying22 hi hz0 hz1 hz2 rfl (by omega) (.slice (some ⟨w.heap.size, 0, none⟩) 0 0) 0 [] rfl
                   (own_zero w _ _ _ (Nat.le_refl _)) w.heap.size (some ad) n c (xs.map (Value.int .i64)) rfl (HA.out.alloc (Nat.le_refl _) _) (In_one xs) (by simp only [maxLen]; omega) (by omega) (by simp) ?_
                 intro v1 w1 hown1 hg1 hat1)
    go_ret
    refine ⟨v1, rfl, ?_, ?_⟩
    · rw [List.length_map, Hx.out]
      simpa using hown1
    · exact ((Below.refl _ _).alloc (Nat.le_refl _) _).grown hg1 (by simp) (by intro k hk; simp [Value.ownBlock] at hk; omega)
end Go.Proofs.Ytjmbdfoegnfpnaa
