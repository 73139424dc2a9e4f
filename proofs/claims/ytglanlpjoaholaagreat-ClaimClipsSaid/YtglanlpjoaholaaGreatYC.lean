/- Contract: the law's sanity check (claim). -/
import Derived.Test.YtglanlpjoaholaaGreatYB
import Derived.Test.YtglanlpjoaholaaGreatY4
import Derived.Test.YtglanlpjoaholaaGreatV4
namespace Go.Proofs.YtglanlpjoaholaaGreat
open Go.RowKit Go.Shelf
set_option linter.unusedVariables false
set_option linter.unusedSimpArgs false

theorem SlI.lit (w : World) (t : TypeId) (cs : Array Value) (l : List Int) (n B : Nat) (hB : B = w.heap.size) (hn : l.length = n) (hn1 : n ≤ 1000) (hc : l.map (.int .i64) = cs.toList) : SlI (w.alloc (.cells cs t)) (some ⟨B, 0, none⟩) n n l :=
  ⟨hn, Nat.le_refl _, by unfold maxLen; omega, Lies.new w t cs n _ hc B hB⟩
theorem SlC.lit (w : World) (t : TypeId) (cs : Array Value) (l : List Cp) (n B : Nat) (hB : B = w.heap.size) (hn : l.length = n) (hn1 : n ≤ 1000) (hc : kCells l = cs.toList) : SlC (w.alloc (.cells cs t)) (some ⟨B, 0, none⟩) n n l :=
  ⟨hn, Nat.le_refl _, by unfold maxLen; omega, Lies.new w t cs n _ hc B hB⟩
theorem SlG.lit (w : World) (t : TypeId) (cs : Array Value) (l : RL) (n B : Nat) (hB : B = w.heap.size) (hn : l.length = n) (hn1 : n ≤ 1000) (hc : rgCells l = cs.toList) (hf : ∀ x ∈ l, SlR w x.2.a x.1.length x.2.c x.1) : SlG (w.alloc (.cells cs t)) (some ⟨B, 0, none⟩) n n l :=
  ⟨hn, Nat.le_refl _, by unfold maxLen; omega, Lies.new w t cs n _ hc B hB, fun x hx => (hf x hx).alloc _⟩
theorem SlL.lit (w : World) (t : TypeId) (cs : Array Value) (l : LL) (n B : Nat) (hB : B = w.heap.size) (hn : l.length = n) (hn1 : n ≤ 1000) (hc : lnCells l = cs.toList) (hf : ∀ x ∈ l, SlR w x.2.a x.1.rg.length x.2.c x.1.rg) : SlL (w.alloc (.cells cs t)) (some ⟨B, 0, none⟩) n n l :=
  ⟨hn, Nat.le_refl _, by unfold maxLen; omega, Lies.new w t cs n _ hc B hB, fun x hx => (hf x hx).alloc _⟩

def aA : List R4 := [⟨0, 0, 5, 1⟩]
def aL : List R4 := [⟨0, 0, 3, 1⟩]
theorem aA_valid : validP aA = true := by
  unfold validP
  rw [canonP_comb _ (by decide)]
  decide
theorem aL_valid : validP aL = true := by
  unfold validP
  rw [canonP_comb _ (by decide)]
  decide
theorem a_rest : restCP [⟨1, aL, 0, 1⟩] 1 aA = ([⟨3, 0, 5, 1⟩], 0) := by
  have h1 : validL [⟨1, aL, 0, 1⟩] = true := by simp [validL, aL_valid]
  have h2 : rectsP (onP 1) [⟨1, aL, 0, 1⟩] = aL := by simp [rectsP, onP]
  unfold restCP
  rw [h1, aA_valid, h2, choose_comb notB rfl _ _ (by decide) (by decide)]
  decide
theorem a_area : areaP [⟨3, 0, 5, 1⟩] = 2 := by
  have h : validP [(⟨3, 0, 5, 1⟩ : R4)] = true := by
    unfold validP
    rw [canonP_comb _ (by decide)]
    decide
  unfold areaP
  rw [h]
  decide
theorem a_within : withinP aL aA = true := by
  unfold withinP
  rw [aA_valid, aL_valid, choose_comb notB rfl _ _ (by decide) (by decide)]
  decide
def rye : ByteArray := ⟨#[114, 121, 101]⟩
theorem rye_ok : cropsB [⟨rye, 0, 0⟩] := by
  refine ⟨by decide, fun x hx => ?_, fun i h => by simp at h⟩
  rw [List.mem_singleton] at hx
  subst hx
  exact ⟨by decide, by decide, by decide, by decide⟩
theorem a_fine (v : LV) : LnFine [1] [(aA, v)] 1 1 ⟨1, aL, 0, 1⟩ := by
  refine ⟨by simp, by simp [aL], aL_valid, fun i h _ => ?_, by decide, by decide, by decide⟩
  have : i = 0 := by simp at h; omega
  subst this
  exact a_within

set_option maxHeartbeats 8000000 in
set_option maxRecDepth 100000 in
theorem awake13_any (w : World) : Calls Tryz.prog 16 #[] w fun e w' => e = .returned (.bool true) ∧ Below w.heap.size w w' := by
  go_enter Tryz.func16, Tryz.ntmps16
  go_upto_region 3 with fail
  obtain ⟨wa, hwa⟩ : ∃ wa : World, wa = (((w.alloc (.cells #[.int .i64 0, .int .i64 0, .int .i64 5, .int .i64 1] 64)).alloc (.cells #[.slice (some ⟨w.heap.size, 0, none⟩) 1 1] 33)).alloc (.cells #[.int .i64 0, .int .i64 0, .int .i64 3, .int .i64 1] 64)).alloc (.cells #[.int .i64 1, .slice (some ⟨w.heap.size + 1 + 1, 0, none⟩) 1 1, .int .i64 0, .int .i64 1] 38) := ⟨_, rfl⟩
  rw [← hwa]
  have Ha1 := SlR.lit w 64 #[.int .i64 0, .int .i64 0, .int .i64 5, .int .i64 1] aA 1 _ rfl rfl (by omega) rfl
  have Ha2 := SlR.lit ((w.alloc (.cells #[.int .i64 0, .int .i64 0, .int .i64 5, .int .i64 1] 64)).alloc (.cells #[.slice (some ⟨w.heap.size, 0, none⟩) 1 1] 33)) 64 #[.int .i64 0, .int .i64 0, .int .i64 3, .int .i64 1] aL 1 (w.heap.size + 1 + 1) (by simp) rfl (by omega) rfl
  have Ha : Hid (SlR wa (some ⟨w.heap.size, 0, none⟩) 1 1 aA) := Lib.hid (by rw [hwa]; exact ((Ha1.alloc _).alloc _).alloc _)
  have Hl : Hid (SlR wa (some ⟨w.heap.size + 1 + 1, 0, none⟩) 1 1 aL) := Lib.hid (by rw [hwa]; exact Ha2.alloc _)
  have Hx1 : Hid (wa.heap[w.heap.size + 1]? = some (.cells #[.slice (some ⟨w.heap.size, 0, none⟩) 1 1] 33 (0, 0))) := Lib.hid (by rw [hwa]; have h := heap_alloc_new (w.alloc (.cells #[.int .i64 0, .int .i64 0, .int .i64 5, .int .i64 1] 64)) (.cells #[.slice (some ⟨w.heap.size, 0, none⟩) 1 1] 33); rw [World.size_alloc] at h; exact (Below.heap_alloc _ _ _ (by simp)).trans ((Below.heap_alloc _ _ _ (by simp)).trans h))
  have Hx3 : Hid (wa.heap[w.heap.size + 1 + 1 + 1]? = some (.cells #[.int .i64 1, .slice (some ⟨w.heap.size + 1 + 1, 0, none⟩) 1 1, .int .i64 0, .int .i64 1] 38 (0, 0))) := Lib.hid (by rw [hwa]; have h := heap_alloc_new (((w.alloc (.cells #[.int .i64 0, .int .i64 0, .int .i64 5, .int .i64 1] 64)).alloc (.cells #[.slice (some ⟨w.heap.size, 0, none⟩) 1 1] 33)).alloc (.cells #[.int .i64 0, .int .i64 0, .int .i64 3, .int .i64 1] 64)) (.cells #[.int .i64 1, .slice (some ⟨w.heap.size + 1 + 1, 0, none⟩) 1 1, .int .i64 0, .int .i64 1] 38); rw [World.size_alloc, World.size_alloc, World.size_alloc] at h; exact h)
  have Hba : Hid (Below w.heap.size w wa) := Lib.hid (by rw [hwa]; exact (by repeat' (first | with_reducible exact Below.refl _ _ | with_reducible refine below_drewN ?_ _ | with_reducible refine Below.drew ?_ | with_reducible refine Below.alloc ?_ ?_ _ | with_reducible refine Below.setCell ?_ ?_ _ | with_reducible refine Below.trans ?_ (Below.mono (by with_reducible assumption) ?_) | (simp; done) | (simp; omega) | omega)))
  have hsz : w.heap.size + 1 + 1 + 1 < wa.heap.size := by rw [hwa]; simp
  have Hba0 := Lib.hid Hba.out
  have hw0 : w.heap.size ≤ wa.heap.size := Hba.out.size
  clear hwa Ha1 Ha2
  obtain ⟨P3, h3⟩ : ∃ P, w.heap.size + 1 + 1 + 1 = P := ⟨_, rfl⟩
  rw [h3] at Hx3 hsz ⊢
  obtain ⟨P2, h2⟩ : ∃ P, w.heap.size + 1 + 1 = P := ⟨_, rfl⟩
  rw [h2] at Hx3 Hl h3 ⊢
  obtain ⟨P1, h1⟩ : ∃ P, w.heap.size + 1 = P := ⟨_, rfl⟩
  rw [h1] at Hx1 h2 ⊢
  obtain ⟨P0, h0⟩ : ∃ P, w.heap.size = P := ⟨_, rfl⟩
  rw [h0] at Hx1 Ha h1 Hba ⊢
  have hP : P0 < wa.heap.size ∧ P1 < wa.heap.size ∧ P2 < wa.heap.size ∧ P0 ≤ P1 ∧ P1 ≤ P3 := by omega
  have hP1 := hP.2.1
  have hP01 := hP.2.2.2.1
  clear h0 h1 h2 h3 hP
  have x0 := cell_of_row wa P1 0 _ _ _ Hx1.out
  have y0 := cell_of_row wa P3 0 _ _ _ Hx3.out
  have y1 := cell_of_row wa P3 1 _ _ _ Hx3.out
  have y2 := cell_of_row wa P3 2 _ _ _ Hx3.out
  have y3 := cell_of_row wa P3 3 _ _ _ Hx3.out
  go_wp2_with fail
  refine (restC_any (some ⟨wa.heap.size, 0, none⟩) 1 1 [(⟨1, aL, 0, 1⟩, ⟨some ⟨P2, 0, none⟩, 1⟩)] 1 (some ⟨P0, 0, none⟩) 1 1 aA _ (SlL.lit wa _ _ _ _ _ rfl rfl (by omega) rfl (fun x hx => by rw [List.mem_singleton] at hx; subst hx; exact Hl.out)) (Ha.out.alloc _) (by show (rectsP (onP 1) [(⟨1, aL, 0, 1⟩ : Ln)]).length ≤ 750; decide)).mono ?_
  rintro e w5 ⟨v5, rfl, hown5, hb5⟩
  rw [show restCP (lns [(⟨1, aL, 0, 1⟩, ⟨some ⟨P2, 0, none⟩, 1⟩)]) 1 aA = ([⟨3, 0, 5, 1⟩], 0) from a_rest] at hown5 ⊢
  obtain ⟨D, dc, rfl, hD⟩ := SlR.of_own hown5
  have Hb5 : Hid (Below wa.heap.size wa w5) := Lib.hid (show Below wa.heap.size wa w5 from (by have hbq := hb5; exact (by repeat' (first | with_reducible exact Below.refl _ _ | with_reducible assumption | with_reducible refine below_drewN ?_ _ | with_reducible refine Below.drew ?_ | with_reducible refine Below.alloc ?_ ?_ _ | with_reducible refine Below.setCell ?_ ?_ _ | with_reducible refine Below.trans ?_ (Below.mono (by with_reducible assumption) ?_) | with_reducible refine below_only ?_ (by with_reducible assumption) ?_ ?_ | (simp; done) | (simp; omega) | omega))))
  have HD := Lib.hid hD
  have hs5 := Hb5.out.size
  clear hown5 hb5 hD x0 y0 y1 y2 y3
  go_upto_region 4 with fail
  obtain ⟨w6, hw6⟩ : ∃ w6 : World, w6 = w5.alloc (.cells #[.slice D 1 dc] 33) := ⟨_, rfl⟩
  try simp only [List.length_singleton]
  rw [← hw6]
  have Hz : Hid (w6.heap[w5.heap.size]? = some (.cells #[.slice D 1 dc] 33 (0, 0))) := Lib.hid (by rw [hw6]; exact heap_alloc_new w5 _)
  have Hb6 : Hid (Below wa.heap.size wa w6) := Lib.hid (by rw [hw6]; exact Hb5.out.alloc hs5 _)
  have HD6 : Hid (SlR w6 D 1 dc [⟨3, 0, 5, 1⟩]) := Lib.hid (by rw [hw6]; exact HD.out.alloc _)
  have hlz : w5.heap.size < w6.heap.size := by rw [hw6]; simp
  obtain ⟨Z, hZ⟩ : ∃ Z, w5.heap.size = Z := ⟨_, rfl⟩
  rw [hZ] at Hz hlz ⊢
  clear hw6 hZ HD
  have H6a := Lib.hid (Ha.out.below Hb6.out)
  have H6l := Lib.hid (Hl.out.below Hb6.out)
  have hs6 := Hb6.out.size
  have x0 := cell_of_row w6 P1 0 _ _ _ ((Hb6.out.block _ hP1).trans Hx1.out)
  have y0 := cell_of_row w6 P3 0 _ _ _ ((Hb6.out.block _ hsz).trans Hx3.out)
  have y1 := cell_of_row w6 P3 1 _ _ _ ((Hb6.out.block _ hsz).trans Hx3.out)
  have y2 := cell_of_row w6 P3 2 _ _ _ ((Hb6.out.block _ hsz).trans Hx3.out)
  have y3 := cell_of_row w6 P3 3 _ _ _ ((Hb6.out.block _ hsz).trans Hx3.out)
  have hP16 : P1 < w6.heap.size := by omega
  go_wp2_with fail
  refine (checkC_any (some ⟨w6.heap.size, 0, none⟩) 1 1 [1] (some ⟨w6.heap.size + 1, 0, none⟩) 1 [(aA, ⟨some ⟨P0, 0, none⟩, 1⟩)] (some ⟨w6.heap.size + 1 + 1, 0, none⟩) 1 1 [⟨rye, 0, 0⟩] 1 ⟨1, aL, 0, 1⟩ ⟨some ⟨P2, 0, none⟩, 1⟩ _ ?_ ?_ 0 (.inl ⟨rfl, a_fine _⟩)).mono ?_
  · refine ⟨(SlI.lit w6 3 #[.int .i64 1] [1] 1 _ rfl rfl (by omega) rfl).below (by repeat' (first | with_reducible exact Below.refl _ _ | with_reducible refine below_drewN ?_ _ | with_reducible refine Below.drew ?_ | with_reducible refine Below.alloc ?_ ?_ _ | with_reducible refine Below.setCell ?_ ?_ _ | with_reducible refine Below.trans ?_ (Below.mono (by with_reducible assumption) ?_) | (simp; done) | (simp; omega) | omega)), (SlG.lit (w6.alloc (.cells #[.int .i64 1] 3)) 33 #[.slice (some ⟨P0, 0, none⟩) 1 1] [(aA, ⟨some ⟨P0, 0, none⟩, 1⟩)] 1 (w6.heap.size + 1) (by simp) rfl (by omega) rfl (fun x hx => by rw [List.mem_singleton] at hx; subst hx; exact (H6a.out.alloc _))).below (by repeat' (first | with_reducible exact Below.refl _ _ | with_reducible refine below_drewN ?_ _ | with_reducible refine Below.drew ?_ | with_reducible refine Below.alloc ?_ ?_ _ | with_reducible refine Below.setCell ?_ ?_ _ | with_reducible refine Below.trans ?_ (Below.mono (by with_reducible assumption) ?_) | (simp; done) | (simp; omega) | omega)), SlC.lit ((w6.alloc (.cells #[.int .i64 1] 3)).alloc (.cells #[.slice (some ⟨P0, 0, none⟩) 1 1] 33)) 57 #[.string rye, .int .i64 0, .int .i64 0] [⟨rye, 0, 0⟩] 1 (w6.heap.size + 1 + 1) (by simp) rfl (by omega) rfl, by omega, List.pairwise_singleton _ _, fun x hx => by rw [List.mem_singleton] at hx; subst hx; exact aA_valid, rye_ok⟩
  · exact (((H6l.out.alloc _).alloc _).alloc _)
  rintro e w7 ⟨rfl, hb7⟩
  have Hb7 : Hid (Below w6.heap.size w6 w7) := Lib.hid (show Below w6.heap.size w6 w7 from (by have hbq := hb7; exact (by repeat' (first | with_reducible exact Below.refl _ _ | with_reducible assumption | with_reducible refine below_drewN ?_ _ | with_reducible refine Below.drew ?_ | with_reducible refine Below.alloc ?_ ?_ _ | with_reducible refine Below.setCell ?_ ?_ _ | with_reducible refine Below.trans ?_ (Below.mono (by with_reducible assumption) ?_) | with_reducible refine below_only ?_ (by with_reducible assumption) ?_ ?_ | (simp; done) | (simp; omega) | omega))))
  have Hb67 := Lib.hid (Hb6.out.trans (Hb7.out.mono hs6))
  have H7a := Lib.hid (Ha.out.below Hb67.out)
  have H7l := Lib.hid (Hl.out.below Hb67.out)
  have hs7 := Hb67.out.size
  have hs67 := Hb7.out.size
  clear hb7 x0 y0 y1 y2 y3 hP16
  have x0 := cell_of_row w7 P1 0 _ _ _ ((Hb67.out.block _ hP1).trans Hx1.out)
  have y0 := cell_of_row w7 P3 0 _ _ _ ((Hb67.out.block _ hsz).trans Hx3.out)
  have y1 := cell_of_row w7 P3 1 _ _ _ ((Hb67.out.block _ hsz).trans Hx3.out)
  have y2 := cell_of_row w7 P3 2 _ _ _ ((Hb67.out.block _ hsz).trans Hx3.out)
  have y3 := cell_of_row w7 P3 3 _ _ _ ((Hb67.out.block _ hsz).trans Hx3.out)
  have hP17 : P1 < w7.heap.size := by omega
  go_wp2_with fail
  refine (checkC_any (some ⟨w7.heap.size, 0, none⟩) 1 1 [2] (some ⟨w7.heap.size + 1, 0, none⟩) 1 [(aA, ⟨some ⟨P0, 0, none⟩, 1⟩)] (some ⟨w7.heap.size + 1 + 1, 0, none⟩) 1 1 [⟨rye, 0, 0⟩] 1 ⟨1, aL, 0, 1⟩ ⟨some ⟨P2, 0, none⟩, 1⟩ _ ?_ ?_ 10 (.inr ⟨rfl, by decide⟩)).mono ?_
  · refine ⟨(SlI.lit w7 3 #[.int .i64 2] [2] 1 _ rfl rfl (by omega) rfl).below (by repeat' (first | with_reducible exact Below.refl _ _ | with_reducible refine below_drewN ?_ _ | with_reducible refine Below.drew ?_ | with_reducible refine Below.alloc ?_ ?_ _ | with_reducible refine Below.setCell ?_ ?_ _ | with_reducible refine Below.trans ?_ (Below.mono (by with_reducible assumption) ?_) | (simp; done) | (simp; omega) | omega)), (SlG.lit (w7.alloc (.cells #[.int .i64 2] 3)) 33 #[.slice (some ⟨P0, 0, none⟩) 1 1] [(aA, ⟨some ⟨P0, 0, none⟩, 1⟩)] 1 (w7.heap.size + 1) (by simp) rfl (by omega) rfl (fun x hx => by rw [List.mem_singleton] at hx; subst hx; exact (H7a.out.alloc _))).below (by repeat' (first | with_reducible exact Below.refl _ _ | with_reducible refine below_drewN ?_ _ | with_reducible refine Below.drew ?_ | with_reducible refine Below.alloc ?_ ?_ _ | with_reducible refine Below.setCell ?_ ?_ _ | with_reducible refine Below.trans ?_ (Below.mono (by with_reducible assumption) ?_) | (simp; done) | (simp; omega) | omega)), SlC.lit ((w7.alloc (.cells #[.int .i64 2] 3)).alloc (.cells #[.slice (some ⟨P0, 0, none⟩) 1 1] 33)) 57 #[.string rye, .int .i64 0, .int .i64 0] [⟨rye, 0, 0⟩] 1 (w7.heap.size + 1 + 1) (by simp) rfl (by omega) rfl, by omega, List.pairwise_singleton _ _, fun x hx => by rw [List.mem_singleton] at hx; subst hx; exact aA_valid, rye_ok⟩
  · exact (((H7l.out.alloc _).alloc _).alloc _)
  rintro e w8 ⟨rfl, hb8⟩
  have Hb8 : Hid (Below w7.heap.size w7 w8) := Lib.hid (show Below w7.heap.size w7 w8 from (by have hbq := hb8; exact (by repeat' (first | with_reducible exact Below.refl _ _ | with_reducible assumption | with_reducible refine below_drewN ?_ _ | with_reducible refine Below.drew ?_ | with_reducible refine Below.alloc ?_ ?_ _ | with_reducible refine Below.setCell ?_ ?_ _ | with_reducible refine Below.trans ?_ (Below.mono (by with_reducible assumption) ?_) | with_reducible refine below_only ?_ (by with_reducible assumption) ?_ ?_ | (simp; done) | (simp; omega) | omega))))
  have Hb68 := Lib.hid (Hb7.out.trans (Hb8.out.mono hs67))
  have z0 := cell_of_row w8 Z 0 _ _ _ ((Hb68.out.block _ hlz).trans Hz.out)
  have HD8 := Lib.hid (HD6.out.below Hb68.out)
  have hs8 := Hb68.out.size
  clear hb8 x0 y0 y1 y2 y3
  have HAr := Lib.hid (areaR_any D 1 dc [⟨3, 0, 5, 1⟩] w8 HD8.out)
  rw [a_area] at HAr
  go_wp2_with (first | (go_at_call 13; refine HAr.out.mono ?_; rintro e w9 ⟨rfl, hb9⟩) | fail)
  go_ret
  exact ⟨rfl, Hba0.out.trans ((Hb6.out.trans ((Hb68.out.trans (hb9.mono hs8)).mono hs6)).mono hw0)⟩
end Go.Proofs.YtglanlpjoaholaaGreat
