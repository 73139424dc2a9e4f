import Derived.Test.YtfmkmhhghmdakaaGreatDoorSX
import Derived.Test.YtfmkmhhghmdakaaGreatDoorRH
namespace Go.Proofs.YtfmkmhhghmdakaaGreatDoor
open Go.RowKit Go.Shelf
set_option linter.unusedVariables false
set_option linter.unusedSimpArgs false
set_option maxHeartbeats 64000000
set_option maxRecDepth 100000
theorem rowCellL {W : World} {X i : Nat} {cs : Array Value} {t : TypeId} {v : Value} (h : W.heap[X]? = some (.cells cs t (0, 0))) (hv : cs.toList[i]? = some v) : W.cell? ⟨X, i, none⟩ = some v := by
  have := World.news_of_block h i v hv
  rwa [add_none, Nat.zero_add] at this
theorem Tryz.infoCrop : (Tryz.prog.info? 91).map (fun i => (i.zero, i.size, i.bytes)) = some (some (.agg #[.string ⟨#[]⟩, .int .i64 0, .int .i64 0]), 3, 32) := by kernel_rfl
def cropNs : List Value := [.string ⟨#[98, 97, 114, 108, 101, 121]⟩, .string ⟨#[99, 108, 111, 118, 101, 114]⟩, .string ⟨#[103, 114, 97, 115, 115]⟩, .string ⟨#[109, 97, 105, 122, 101]⟩, .string ⟨#[111, 97, 116, 115]⟩, .string ⟨#[114, 121, 101]⟩, .string ⟨#[118, 101, 116, 99, 104]⟩, .string ⟨#[119, 104, 101, 97, 116]⟩]
def cropN (i : Nat) : Value := cropNs.getD i (.string ⟨#[]⟩)
def cpC (i : Nat) (x : Int × Int) : List Value := [cropN i, .int .i64 x.1, .int .i64 x.2]
def cpFrom : Nat → List (Int × Int) → List Value
  | _, [] => []
  | i, x :: t => cpC i x ++ cpFrom (i + 1) t
def cpCells (l : List (Int × Int)) : List Value := cpFrom 0 l
theorem cpFrom_snoc (x : Int × Int) : ∀ (l : List (Int × Int)) (i : Nat), cpFrom i (l ++ [x]) = cpFrom i l ++ cpC (i + l.length) x
  | [], i => by simp [cpFrom]
  | y :: l, i => by
    simp only [List.cons_append, cpFrom]
    rw [cpFrom_snoc x l (i + 1), List.append_assoc, List.length_cons, show i + 1 + l.length = i + (l.length + 1) by omega]
theorem cpCells_snoc (l : List (Int × Int)) (x : Int × Int) : cpCells (l ++ [x]) = cpCells l ++ [cropN l.length, .int .i64 x.1, .int .i64 x.2] := by
  unfold cpCells
  rw [cpFrom_snoc, Nat.zero_add]
  rfl
theorem cropN_str (i : Nat) : ∃ n, cropN i = .string n := by
  unfold cropN
  rcases Nat.lt_or_ge i 8 with h | h
  · rcases (show i = 0 ∨ i = 1 ∨ i = 2 ∨ i = 3 ∨ i = 4 ∨ i = 5 ∨ i = 6 ∨ i = 7 by omega) with rfl | rfl | rfl | rfl | rfl | rfl | rfl | rfl <;> exact ⟨_, rfl⟩
  · rw [List.getD_eq_getElem?_getD, List.getElem?_eq_none (by simpa [cropNs] using h)]
    exact ⟨_, rfl⟩
def marksL : List Value := [.int .i64 0, .int .i64 0, .int .i64 0, .int .i64 2, .int .i64 20, .int .i64 8, .int .i64 1, .int .i64 31]
theorem marksL_at (k : Nat) (h : k < 8) : ∃ m : Int, marksL[k]? = some (.int .i64 m) ∧ 0 ≤ m ∧ m ≤ 31 := by
  rcases (show k = 0 ∨ k = 1 ∨ k = 2 ∨ k = 3 ∨ k = 4 ∨ k = 5 ∨ k = 6 ∨ k = 7 by omega) with rfl | rfl | rfl | rfl | rfl | rfl | rfl | rfl
  · exact ⟨0, rfl, by omega, by omega⟩
  · exact ⟨0, rfl, by omega, by omega⟩
  · exact ⟨0, rfl, by omega, by omega⟩
  · exact ⟨2, rfl, by omega, by omega⟩
  · exact ⟨20, rfl, by omega, by omega⟩
  · exact ⟨8, rfl, by omega, by omega⟩
  · exact ⟨1, rfl, by omega, by omega⟩
  · exact ⟨31, rfl, by omega, by omega⟩
def CropsPost (w : World) (g : Nat) (e : Ending) (w' : World) : Prop :=
  ∃ (l : List (Int × Int)) (A : Option Addr) (c : Nat) (r : List Int), e = .returned (.slice A l.length c) ∧ w'.ownsRow w.heap.size 91 3 (.slice A l.length c) l.length (cpCells l) ∧ TapeAt w' g r ∧ w.grownBy w' (some g) ∧ (3 ≤ l.length ∧ l.length ≤ 8) ∧ ∀ x ∈ l, (0 ≤ x.1 ∧ x.1 ≤ 2) ∧ 0 ≤ x.2 ∧ x.2 ≤ 31
theorem crops_any (g : Nat) (r : List Int) (w : World) (ht : TapeAt w g r) : Calls Tryz.prog 9 #[.pointer (some ⟨g, 0, none⟩)] w (CropsPost w g) := by
  obtain ⟨i0, hi, hz0, hz1, hz2⟩ := info_parts Tryz.infoCrop
  have hlt := ht.lt
  have Ht := Lib.hid ht
  clear ht
  go_enter Tryz.func9, Tryz.ntmps9
  go_upto_region 2 with fail
  obtain ⟨wn, hwn⟩ : ∃ wn : World, wn = w.alloc (.cells #[.string ⟨#[98, 97, 114, 108, 101, 121]⟩, .string ⟨#[99, 108, 111, 118, 101, 114]⟩, .string ⟨#[103, 114, 97, 115, 115]⟩, .string ⟨#[109, 97, 105, 122, 101]⟩, .string ⟨#[111, 97, 116, 115]⟩, .string ⟨#[114, 121, 101]⟩, .string ⟨#[118, 101, 116, 99, 104]⟩, .string ⟨#[119, 104, 101, 97, 116]⟩] 9) := ⟨_, rfl⟩
  rw [← hwn]
  have HN : Hid (wn.heap[w.heap.size]? = some (.cells cropNs.toArray 9 (0, 0))) := Lib.hid (by rw [hwn]; exact heap_alloc_new w _)
  have Htn : Hid (TapeAt wn g r) := Lib.hid (by rw [hwn]; exact Ht.out.alloc _)
  have Hgn : Hid (w.grownBy wn (some g)) := Lib.hid (by rw [hwn]; exact only_alloc (World.grownBy.refl _ _) _)
  have hsn : w.heap.size < wn.heap.size := by rw [hwn]; simp
  clear hwn Ht
  go_wp2_with (first
    | (go_at_call 43
       refine (range_any g r 3 8 _ Htn.out (by omega) (by omega) (by omega)).mono ?_
       rintro e w1 ⟨rfl, ht1, hg1⟩
       have hkb := nx_bd r (8 - 3 + 1) (by omega)
       generalize nx r (8 - 3 + 1) = k0 at *
       obtain ⟨m, hm⟩ : ∃ m : Nat, 3 + k0 = (m : Int) := ⟨(3 + k0).toNat, by omega⟩
       have hm1 : 3 ≤ m ∧ m ≤ 8 := by omega
       rw [hm]
       have Ht1 := Lib.hid ht1
       have Hg1 := Lib.hid (only_trans Hgn.out hg1)
       have HN1 := Lib.hid ((hg1.block _ hsn (fun e => by injection e; omega)).trans HN.out)
       have hs1 : wn.heap.size ≤ w1.heap.size := hg1.size
       clear ht1 hg1 hkb hm)
    | fail)
  go_loopw [4, 6, 13] (fun lv _ iv wr => ∃ (l : List (Int × Int)) (r1 : List Int), l.length ≤ m ∧ iv = .int .i64 (l.length : Int) ∧ wr.ownsRow w1.heap.size 91 3 lv l.length (cpCells l) ∧ TapeAt wr g r1 ∧ w1.grownBy wr (some g) ∧ ∀ x ∈ l, (0 ≤ x.1 ∧ x.1 ≤ 2) ∧ 0 ≤ x.2 ∧ x.2 ≤ 31) (fun _ _ iv _ => m - (intOf iv).toNat)
  case atStart => exact ⟨[], _, Nat.zero_le _, rfl, World.ownsRow_nil _ _ _ _, Ht1.out, World.grownBy.refl _ _, fun x hx => by cases hx⟩
  case round =>
    obtain ⟨l, r1, hlm, rfl, hown, htr, hgr, hbd⟩ := hrel
    have Hown := Lib.hid hown
    have Htr := Lib.hid htr
    have Hgr := Lib.hid hgr
    have Hbd := Lib.hid hbd
    have hsr := hgr.size
    have hgw := htr.lt
    clear hown htr hgr hbd
    obtain ⟨k, hk⟩ : ∃ k, l.length = k := ⟨_, rfl⟩
    have Hk := Lib.hid hk
    rw [hk] at hlm Hown ⊢
    clear hk
    by_cases hkm : k < m
    · have hkm' : (k : Int) < (m : Int) := by omega
      have hk8 : k < 8 := by omega
      have c0 : wr.cell? ⟨w.heap.size, k, none⟩ = some (cropN k) := rowCellL ((Hgr.out.block _ (by omega) (fun e => by injection e; omega)).trans HN1.out) (by
        rcases (show k = 0 ∨ k = 1 ∨ k = 2 ∨ k = 3 ∨ k = 4 ∨ k = 5 ∨ k = 6 ∨ k = 7 by omega) with rfl | rfl | rfl | rfl | rfl | rfl | rfl | rfl <;> rfl)
      obtain ⟨nm, hnm⟩ := cropN_str k
      rw [hnm] at c0
      have Hnm := Lib.hid hnm
      clear hnm
      go_wp2_with (first
        | (go_at_call 44
           have hguard := H5.out
           refine (next_any g r1.tail 8 _ (Ht5.out.alloc _) (by omega)).mono ?_
           rintro e w6 ⟨rfl, ht6, hg6⟩
           have hk6 := nx_bd r1.tail 8 (by omega)
           generalize nx r1.tail 8 = k6 at *
           obtain ⟨j, rfl⟩ : ∃ j : Nat, k6 = (j : Int) := ⟨k6.toNat, by omega⟩
           have hj8 : j < 8 := by omega
           obtain ⟨mk, hmk, hmb⟩ := marksL_at j hj8
           have hr5 := heap_alloc_new w5 (.cells marksL.toArray 3)
           have c6 : w6.cell? ⟨w5.heap.size, j, none⟩ = some (.int .i64 mk) := rowCellL ((hg6.block w5.heap.size (by simp) (fun e => by injection e; omega)).trans hr5) hmk
           have Ht6 := Lib.hid ht6
           have Hg6 := Lib.hid (only_trans (only_alloc Hg5.out _) hg6)
           have Hown6 := Lib.hid (ownsRow_only (Hown5.out.alloc _) hg6 (by omega))
           have hs6 : w1.heap.size ≤ w6.heap.size := Hg6.out.size
           have hl56 : w5.heap.size < w6.heap.size := (by have := hg6.size; simp at this; omega)
           clear ht6 hg6 hr5 hguard hmk hk6)
        | (go_at_call 44
           refine (next_any g r1 3 _ Htr.out (by omega)).mono ?_
           rintro e w5 ⟨rfl, ht5, hg5⟩
           have hk5 := nx_bd r1 3 (by omega)
           generalize nx r1 3 = k5 at *
           have Ht5 := Lib.hid ht5
           have Hg5 := Lib.hid (only_trans Hgr.out hg5)
           have Hown5 := Lib.hid (ownsRow_only Hown.out hg5 (by omega))
           have H5 : Hid True := Lib.hid trivial
           have hg5w : g < w5.heap.size := ht5.lt
           have hs5 : w1.heap.size ≤ w5.heap.size := Hg5.out.size
           clear ht5 hg5)
        | (at_builtin
           refine wpList_append_any _ rfl (.tmp 17) (.tmp 27) _ rfl w1.heap.size 91 i0 _ 3 32 Tryz.underlying29 hi hz0 hz1 hz2 rfl (by omega) _ k (cpCells l) rfl
             (Hown6.out.alloc _) _ _ 1 1 [.string nm, .int .i64 k5, .int .i64 mk] rfl ⟨rfl, fun _ => ⟨_, rfl, Nat.lt_succ_self _, fun j u hu => (by exact news_any _ _ _ j u hu)⟩⟩ (by simp [Value.oneCell']) (by simp only [maxLen]; omega) (by omega) (by simp; omega) ?_
           intro v7 w7 hown7 hg7 hat7)
        | fail)
      go_roundw
      case rel =>
        refine ⟨l ++ [(k5, mk)], r1.tail.tail, by rw [List.length_append, Hk.out]; simp; omega, by rw [List.length_append, Hk.out]; go_num, ?_, ?_, ?_, ?_⟩
        · rw [List.length_append, cpCells_snoc, Hk.out, Hnm.out]; exact hown7
        · exact (Ht6.out.alloc _).grown hg7 (fun q hq => by have := own_base Hown6.out q hq; omega)
        · exact only_grown (only_alloc Hg6.out _) hg7 (fun q hq => own_base Hown6.out q hq)
        · intro x hx
          rcases List.mem_append.1 hx with hx | hx
          · exact Hbd.out x hx
          · rw [List.mem_singleton] at hx
            subst hx
            exact ⟨⟨hk5.1, by show k5 ≤ 2; omega⟩, hmb⟩
      case measure => simp [intOf]; omega
    · have hkm' : ¬ (k : Int) < (m : Int) := by omega
      obtain ⟨A, c, rfl, _, _, _⟩ := own_slice Hown.out
      go_wp2
      go_ret
      exact ⟨l, A, c, r1, by rw [Hk.out]; rfl, by rw [Hk.out]; exact own_rebase Hown.out (by omega), Htr.out, only_trans Hg1.out Hgr.out, by rw [Hk.out]; omega, Hbd.out⟩
end Go.Proofs.YtfmkmhhghmdakaaGreatDoor
