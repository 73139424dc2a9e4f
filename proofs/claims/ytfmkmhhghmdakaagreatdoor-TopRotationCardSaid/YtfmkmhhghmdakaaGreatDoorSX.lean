import Derived.Test.YtfmkmhhghmdakaaGreatDoorRA
namespace Go.Proofs.YtfmkmhhghmdakaaGreatDoor
open Go.RowKit
set_option linter.unusedVariables false
set_option linter.unusedSimpArgs false
set_option maxHeartbeats 64000000
set_option maxRecDepth 100000
def modV (k n : Int) : Int := if n < 1 then 0 else k % n
theorem modV_bd (k n : Int) (h : 1 ≤ n) : 0 ≤ modV k n ∧ modV k n < n := by
  unfold modV
  rw [if_neg (by omega)]
  exact ⟨Int.emod_nonneg _ (by omega), Int.emod_lt_of_pos _ (by omega)⟩
theorem emod_tmod (a b : Int) (hb : 1 ≤ b) : a % b = if a.tmod b < 0 then a.tmod b + b else a.tmod b := by
  have h1 := Int.tmod_add_mul_tdiv a b
  have h2 := tdiv_floor a b hb
  have h3 := Int.emod_add_mul_ediv a b
  by_cases h : a.tmod b < 0
  · rw [if_pos h] at h2 ⊢
    rw [h2, Int.mul_sub] at h3
    omega
  · rw [if_neg h] at h2 ⊢
    rw [h2] at h3
    omega
theorem mod_any (k n : Int) (w : World) (hk : -9223372036854775808 ≤ k ∧ k ≤ 9223372036854775807) (hn : n ≤ 9223372036854775807) :
    Calls Tryz.prog 127 #[.int .i64 k, .int .i64 n] w fun e w' => e = .returned (.int .i64 (modV k n)) ∧ w = w' := by
  unfold modV
  by_cases h1 : n < 1
  · rw [if_pos h1]
    go_enter Tryz.func127, Tryz.ntmps127
    go_wp2
    go_ret
    exact ⟨rfl, rfl⟩
  · rw [if_neg h1]
    have hm := Lib.hid (emod_tmod k n (by omega))
    have hb1 := Int.tmod_lt_of_pos k (show 0 < n by omega)
    have hb2 := Int.lt_tmod_of_pos k (show 0 < n by omega)
    generalize k % n = q at *
    by_cases h2 : k.tmod n < 0
    all_goals
      go_enter Tryz.func127, Tryz.ntmps127
      go_wp2
      go_ret
      exact ⟨ret_int (by rw [hm.out]; first | rw [if_pos h2] | rw [if_neg (by omega)]), rfl⟩
def TapeAt (w : World) (g : Nat) (r : List Int) : Prop :=
  ∃ (A : Option Addr) (n c k : Nat) (zs : List Int), w.heap[g]? = some (.cells #[.slice A n c, .int .i64 (k : Int)] 93 (0, 0)) ∧ zs.length = n ∧ n ≤ 400 ∧ k ≤ n ∧ zs.drop k = r ∧ (∀ z ∈ zs, (Lit.int .i64 z).wf = true) ∧
    (n = 0 ∨ ∃ b off, A = some ⟨b, off, none⟩ ∧ b < g ∧ ∀ j u, (zs.map (Value.int .i64))[j]? = some u → w.cell? ⟨b, off + j, none⟩ = some u)
def nx (r : List Int) (m : Int) : Int := match r with
  | [] => 0
  | z :: _ => modV z m
theorem nx_bd (r : List Int) (m : Int) (h : 1 ≤ m) : 0 ≤ nx r m ∧ nx r m < m := by
  cases r with
  | nil => simp [nx]; omega
  | cons z _ => exact modV_bd z m h
theorem TapeAt.lt {w : World} {g : Nat} {r : List Int} (h : TapeAt w g r) : g < w.heap.size := by
  obtain ⟨A, n, c, k, zs, hb, _⟩ := h
  rcases Nat.lt_or_ge g w.heap.size with h | h
  · exact h
  · rw [Array.getElem?_eq_none h] at hb; cases hb
theorem TapeAt.keep {w w' : World} {g : Nat} {r : List Int} (h : TapeAt w g r) (hk : ∀ b, b ≤ g → w'.heap[b]? = w.heap[b]?) : TapeAt w' g r := by
  obtain ⟨A, n, c, k, zs, hb, h1, h2, h3, h4, hw, h5⟩ := h
  refine ⟨A, n, c, k, zs, (hk g (Nat.le_refl _)).trans hb, h1, h2, h3, h4, hw, ?_⟩
  rcases h5 with h5 | ⟨b, off, e, hlt, hc⟩
  · exact .inl h5
  · exact .inr ⟨b, off, e, hlt, fun j u hu => (World.cell?_of_block (hk b (by omega))).trans (hc j u hu)⟩
theorem TapeAt.below {w w' : World} {g B : Nat} {r : List Int} (h : TapeAt w g r) (hb : Below B w w') (hB : g < B) : TapeAt w' g r := h.keep fun b hlt => hb.block b (by omega)
theorem TapeAt.alloc {w : World} {g : Nat} {r : List Int} (h : TapeAt w g r) (o : Obj) : TapeAt (w.alloc o) g r := h.below ((Below.refl _ _).alloc (Nat.le_refl _) o) h.lt
theorem TapeAt.drewN {w : World} {g : Nat} {r : List Int} (h : TapeAt w g r) (k : Nat) : TapeAt (w.drewN k) g r := h
theorem TapeAt.setCell {w : World} {g : Nat} {r : List Int} (h : TapeAt w g r) {p : Addr} (hp : g < p.block) (u : Value) : TapeAt (w.setCell p u) g r :=
  h.keep fun b hb => Below.heap_setCell w p u b (by omega)
theorem TapeAt.grown {w w' : World} {g : Nat} {r : List Int} {row : Option Nat} (h : TapeAt w g r) (hg : w.grownBy w' row) (hr : ∀ k, row = some k → g < k) : TapeAt w' g r :=
  h.keep fun b hb => hg.block b (Nat.lt_of_le_of_lt hb h.lt) (fun e => by have := hr b e.symm; omega)
def NextPost (w : World) (g : Nat) (r : List Int) (x : Int) (e : Ending) (w' : World) : Prop :=
  e = .returned (.int .i64 x) ∧ TapeAt w' g r.tail ∧ w.grownBy w' (some g)
theorem next_any (g : Nat) (r : List Int) (m : Int) (w : World) (ht : TapeAt w g r) (hm : m ≤ 9223372036854775807) :
    Calls Tryz.prog 44 #[.pointer (some ⟨g, 0, none⟩), .int .i64 m] w (NextPost w g r (nx r m)) := by
  have hlt := ht.lt
  have ht0 := Lib.hid ht
  obtain ⟨A, n, c, k, zs, hb, h1, h2, h3, h4, hw, h5⟩ := ht
  have c0 : w.cell? ⟨g, 0, none⟩ = some (.slice A n c) := by rw [cell_of_row w g 0 _ _ _ hb]; rfl
  have c1 : w.cell? ⟨g, 1, none⟩ = some (.int .i64 ((k : Nat) : Int)) := by rw [cell_of_row w g 1 _ _ _ hb]; rfl
  have f1 : w.frozen? ⟨g, 1, none⟩ = false := frozen_of_row w g 1 _ _ hb
  by_cases hk : k < n
  · obtain ⟨b, off, rfl, hbg, hcell⟩ := h5.resolve_left (by omega)
    have hkl : k < zs.length := by omega
    have hd : zs.drop k = zs[k] :: zs.drop (k + 1) := List.drop_eq_getElem_cons hkl
    have hz := bounds_i64 (hw zs[k] (List.getElem_mem hkl))
    have cz := hcell k (.int .i64 zs[k]) (by simp [hkl])
    have Hr : Hid (nx r m = modV zs[k] m) := by rw [← h4, hd]; rfl
    have Ht : Hid (r.tail = zs.drop (k + 1)) := by rw [← h4, hd]; rfl
    have Hm := Lib.hid (mod_any zs[k] m)
    generalize zs[k] = z at *
    have hk1 : (k : Int) < (n : Int) := by omega
    have cz' : (w.setCell ⟨g, 1, none⟩ (.int .i64 ((k : Int) + 1))).cell? ⟨b, off + k, none⟩ = some (.int .i64 z) := by
      rw [World.cell?_setCell_other _ _ _ _ (by intro e; injection e; omega)]; exact cz
    have post : Hid (∀ w' i j, w' = ((w.drewN i).setCell ⟨g, 1, none⟩ (.int .i64 ((k : Int) + 1))).drewN j → NextPost w g r (nx r m) (.returned (.int .i64 (modV z m))) w') := by
      rintro w' i j rfl
      refine ⟨by rw [Hr.out], ?_, only_drewN (only_setCell (only_drewN (World.grownBy.refl w _) i) (.inl rfl) _) j⟩
      rw [Ht.out]
      refine TapeAt.drewN ?_ j
      refine ⟨_, n, c, k + 1, zs, ?_, h1, h2, hk, rfl, hw, .inr ⟨b, off, rfl, hbg, fun j u hu => ?_⟩⟩
      · rw [heap_setCell_same (w.drewN i) g 1 _ _ _ hb]
        simp
      · rw [World.cell?_setCell_other _ _ _ _ (by intro e; injection e; omega)]
        exact hcell j u hu
    clear h4 hd hcell h5 hb ht0 hw
    go_enter Tryz.func44, Tryz.ntmps44
    go_wp2
    go_quiet (fail)
    go_wp2
    have e1 : IntKind.i64.wrap ((k : Int) + 1 - 1) = (k : Int) := by rw [IntWalk.i64_in _ (by omega)]; omega
    go_quiet ((go_at_call 127; exact quiet_left (Hm.out _ hz hm)))
    go_wp2
    go_ret
    exact post.out _ _ _ rfl
  · have hr : r = [] := by rw [← h4]; exact List.drop_eq_nil_of_le (by omega)
    subst hr
    go_enter Tryz.func44, Tryz.ntmps44
    go_wp2
    go_quiet (fail)
    go_wp2
    go_ret
    exact ⟨rfl, ht0.out.drewN _, only_drewN (World.grownBy.refl w _) _⟩
def NewPost (w : World) (r : List Int) (e : Ending) (w' : World) : Prop :=
  ∃ g, e = .returned (.pointer (some ⟨g, 0, none⟩)) ∧ w.heap.size ≤ g ∧ TapeAt w' g r ∧ Below w.heap.size w w'
theorem new_any (A : Option Addr) (n c : Nat) (zs : List Int) (w : World) (hn : zs.length = n) (hc : n ≤ c) (hm : c ≤ maxLen) (hw : ∀ z ∈ zs, (Lit.int .i64 z).wf = true) (hA : Lies w A n (zs.map (.int .i64))) :
    Calls Tryz.prog 7 #[.slice A n c] w (NewPost w (zs.take 400)) := by
  have Hn := Lib.hid hn
  have HA := Lib.hid hA
  have Hw := Lib.hid hw
  clear hn hA hw
  unfold maxLen at hm
  have key : Hid (∀ m : Nat, m ≤ n → m ≤ 400 → zs.take m = zs.take 400 → NewPost w (zs.take 400) (.returned (.pointer (some ⟨w.heap.size, 0, none⟩))) (w.alloc (.cells #[.slice A m c, .int .i64 0] 93))) := by
    intro m h1 h2 h3
    refine ⟨_, rfl, Nat.le_refl _, ⟨A, m, c, 0, zs.take m, heap_alloc_new w _, ?_, h2, Nat.zero_le _, by rw [h3]; rfl, fun z hz => Hw.out z (List.mem_of_mem_take hz), ?_⟩, gBel⟩
    · rw [List.length_take, Hn.out]; omega
    · rcases HA.out with h0 | ⟨b, off, rfl, hb, hcell⟩
      · exact .inl (by omega)
      · refine .inr ⟨b, off, rfl, hb, fun j u hu => ?_⟩
        rw [World.cell?_alloc_lt w _ _ hb]
        rw [List.map_take, List.getElem?_take] at hu
        split at hu
        · exact hcell j u hu
        · cases hu
  by_cases h : 400 < n
  · go_enter Tryz.func7, Tryz.ntmps7
    go_wp2
    go_ret
    exact key.out 400 (by omega) (by omega) rfl
  · go_enter Tryz.func7, Tryz.ntmps7
    go_wp2
    go_ret
    exact key.out n (by omega) (by omega) (by rw [List.take_of_length_le (by have := Hn.out; omega), List.take_of_length_le (by have := Hn.out; omega)])
theorem range_any (g : Nat) (r : List Int) (lo hi : Int) (w : World) (ht : TapeAt w g r) (h1 : -1000000000000 ≤ lo) (h2 : lo ≤ hi) (h3 : hi ≤ 1000000000000) :
    Calls Tryz.prog 43 #[.pointer (some ⟨g, 0, none⟩), .int .i64 lo, .int .i64 hi] w (NextPost w g r (lo + nx r (hi - lo + 1))) := by
  have hx := nx_bd r (hi - lo + 1) (by omega)
  have Hn := Lib.hid (next_any g r (hi - lo + 1) w ht (by omega))
  generalize nx r (hi - lo + 1) = x at *
  go_enter Tryz.func43, Tryz.ntmps43
  go_wp2_with (go_at_call 44; refine Hn.out.mono ?_; rintro e w1 ⟨rfl, ht1, hg1⟩)
  go_ret
  exact ⟨rfl, ht1, hg1⟩
end Go.Proofs.YtfmkmhhghmdakaaGreatDoor
