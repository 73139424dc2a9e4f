/- Contracts: regions, Cover, Disjoint (overlay). -/
/- Contract: Disjoint (overlay). -/
/- Plain: what covers faces; single bits and disjoint regions. -/
import Derived.Test.YtabcadpfhachoaaGreatOC
import Derived.Test.YtabcadpfhachoaaGreatU3
import Derived.Test.YtabcadpfhachoaaGreatU7
import Derived.Test.YtabcadpfhachoaaGreatQ
import Derived.Test.YtabcadpfhachoaaGreatOJ
namespace Go.Proofs.YtabcadpfhachoaaGreat
open Go.RowKit Go.Shelf
set_option linter.unusedVariables false
set_option linter.unusedSimpArgs false

def regsP (l : List (List R4)) : Int := if 60 < l.length then 1 else if l.all validP then 0 else 7
theorem regs_ok {l : List (List R4)} (h : regsP l = 0) : l.length ≤ 60 ∧ l.all validP = true := by
  unfold regsP at h
  split at h
  · cases h
  · split at h
    · rename_i h2
      exact ⟨by omega, h2⟩
    · cases h

set_option maxHeartbeats 400000 in
theorem regionsFn (w : World) : PredBelow Tryz.prog 64 #[] (fun x : GS w => .agg #[rgC x.1]) (fun x => !validP x.1.1) w := by
  intro W x hb
  obtain ⟨⟨l, v⟩, hx⟩ := x
  refine Calls.mono (show Calls Tryz.prog 64 #[.agg #[.slice v.a l.length v.c]] W fun e w' => e = .returned (.bool (!validP l)) ∧ Below W.heap.size W w' from ?_) ?_
  · have HV := Lib.hid (fun W' (hW : Below W.heap.size W W') => valid_any v.a l.length v.c l W' ((hx.below hb).below hW))
    generalize validP l = x at *
    clear hx
    go_enter Tryz.func64, Tryz.ntmps64
    go_wp2_with (first | (go_at_call 27; refine (HV.out _ (by repeat' (first | with_reducible exact Below.refl _ _ | with_reducible refine below_drewN ?_ _ | with_reducible refine Below.drew ?_ | with_reducible refine Below.alloc ?_ ?_ _ | with_reducible refine Below.setCell ?_ ?_ _ | with_reducible refine Below.trans ?_ (Below.mono (by with_reducible assumption) ?_) | (simp; done) | (simp; omega) | omega))).mono ?_; rintro e w1 ⟨rfl, hb1⟩) | fail)
    go_ret
    exact ⟨rfl, (by repeat' (first | with_reducible exact Below.refl _ _ | with_reducible assumption | with_reducible refine below_drewN ?_ _ | with_reducible refine Below.drew ?_ | with_reducible refine Below.alloc ?_ ?_ _ | with_reducible refine Below.setCell ?_ ?_ _ | with_reducible refine Below.trans ?_ (Below.mono (by with_reducible assumption) ?_) | with_reducible refine below_only ?_ (by with_reducible assumption) ?_ ?_ | (simp; done) | (simp; omega) | omega))⟩
  · rintro e w' ⟨rfl, h⟩
    exact ⟨rfl, hb.trans (h.mono hb.size)⟩

set_option maxHeartbeats 1000000 in
theorem regs_any (A : Option Addr) (n c : Nat) (l : RL) (w : World) (hA : SlG w A n c l) : Calls Tryz.prog 32 #[.slice A n c] w fun e w' => e = .returned (.int .i64 (regsP (rgs l))) ∧ Below w.heap.size w w' := by
  have hlen : (rgs l).length = n := by rw [rgs_len]; exact hA.len
  have eg : ∀ args w, (callFunc 64 args).run Tryz.prog w = .ok (.enter 64 args) w := enters_of Tryz.func64 (by kernel_rfl) rfl
  have Hcf := Lib.hid (containsG_any (fun x => !validP x.1) 64 #[] eg A n c l w hA (regionsFn w))
  have hall : (l.any fun x => !validP x.1) = !(rgs l).all validP := by
    rw [any_not_all]
    simp [rgs, List.all_map]
    rfl
  rw [hall] at Hcf
  have Hres : Hid (regsP (rgs l) = if 60 < n then 1 else if (rgs l).all validP then 0 else 7) := Lib.hid (by unfold regsP; rw [hlen])
  generalize regsP (rgs l) = res at *
  generalize (rgs l).all validP = va at *
  clear hA hlen hall eg
  go_enter Tryz.func32, Tryz.ntmps32
  by_cases h60 : 60 < n
  · have h60' : (60 : Int) < (n : Int) := by omega
    go_wp2
    go_ret
    exact ⟨by rw [Hres.out, if_pos h60]; rfl, Below.refl _ _⟩
  · have h60' : ¬ (60 : Int) < (n : Int) := by omega
    cases va
    · go_wp2_with (first | (go_at_call 25; refine Hcf.out.mono ?_; rintro e w1 ⟨rfl, hb1⟩) | fail)
      go_ret
      exact ⟨by rw [Hres.out, if_neg h60]; rfl, hb1⟩
    · go_wp2_with (first | (go_at_call 25; refine Hcf.out.mono ?_; rintro e w1 ⟨rfl, hb1⟩) | fail)
      go_ret
      exact ⟨by rw [Hres.out, if_neg h60]; rfl, hb1⟩

def coverP (a : List R4) (l : List (List R4)) : Bool × Int := if regsP l = 0 then (if validP a then (decide ((chooseP notB a l.flatten).length = 0), 0) else (false, 7)) else (false, regsP l)
theorem coverFn (w : World) : BoolFn 34 #[] notB w := by
  intro W x y hW
  go_enter Tryz.func34, Tryz.ntmps34
  cases x <;> cases y <;> (go_wp2; go_ret; exact ⟨rfl, Below.refl _ _⟩)

set_option maxHeartbeats 4000000 in
set_option maxRecDepth 100000 in
theorem cover_any (A B : Option Addr) (n c m d : Nat) (a : List R4) (l : RL) (w : World) (hB : SlR w B m d a) (hA : SlG w A n c l) (hN : (rgs l).flatten.length ≤ 750) :
    Calls Tryz.prog 9 #[.agg #[.slice B m d], .slice A n c] w fun e w' => e = .returned (.tuple #[.bool (coverP a (rgs l)).1, .int .i64 (coverP a (rgs l)).2]) ∧ Below w.heap.size w w' := by
  obtain ⟨i0, hi, hz0, hz1, hz2⟩ := info_parts Tryz.infoRect
  have eg : ∀ args w, (callFunc 34 args).run Tryz.prog w = .ok (.enter 34 args) w := enters_of Tryz.func34 (by kernel_rfl) rfl
  have Eg := Lib.hid eg
  have HA := Lib.hid hA
  have HB := Lib.hid hB
  have HN := Lib.hid hN
  have Hlen : Hid ((rgs l).length = n) := Lib.hid (by rw [rgs_len]; exact hA.len)
  have Hrg := Lib.hid (fun W (hW : Below w.heap.size w W) => regs_any A n c l W (hA.below hW))
  have HV := Lib.hid (fun W (hW : Below w.heap.size w W) => valid_any B m d a W (hB.below hW))
  have Hres : Hid (coverP a (rgs l) = if regsP (rgs l) = 0 then (if validP a then (decide ((chooseP notB a (rgs l).flatten).length = 0), 0) else (false, 7)) else (false, regsP (rgs l))) := Lib.hid rfl
  have Hgood := Lib.hid (fun h => (regs_ok (l := rgs l) h).2)
  have H60 := Lib.hid (fun h => (regs_ok (l := rgs l) h).1)
  rw [Hlen.out] at H60
  have Hva := Lib.hid (fun h => valid_parts (l := a) h)
  generalize coverP a (rgs l) = res at *
  generalize regsP (rgs l) = er at *
  generalize validP a = va at *
  clear hA hB eg hN
  go_enter Tryz.func9, Tryz.ntmps9
  by_cases her : er = 0
  · subst her
    have Hgood0 := Lib.hid (Hgood.out rfl)
    have hn60 := H60.out rfl
    cases va
    · go_wp2_with (first
        | (go_at_call 32
           refine (Hrg.out _ (by repeat' (first | with_reducible exact Below.refl _ _ | with_reducible refine below_drewN ?_ _ | with_reducible refine Below.drew ?_ | with_reducible refine Below.alloc ?_ ?_ _ | with_reducible refine Below.setCell ?_ ?_ _ | with_reducible refine Below.trans ?_ (Below.mono (by with_reducible assumption) ?_) | (simp; done) | (simp; omega) | omega))).mono ?_
           rintro e w1 ⟨rfl, hb1⟩
           have hx1 : w1.heap[w.heap.size]? = some (.cells #[.slice B m d] 34 (0, 0)) := (hb1.block _ (by simp)).trans (heap_alloc_new w _)
           have x1 := cell_of_row _ _ 0 _ _ _ hx1
           have Hb1 : Hid (Below w.heap.size w w1) := Lib.hid (show Below w.heap.size w w1 from (by have hbq := hb1; exact (by repeat' (first | with_reducible exact Below.refl _ _ | with_reducible assumption | with_reducible refine below_drewN ?_ _ | with_reducible refine Below.drew ?_ | with_reducible refine Below.alloc ?_ ?_ _ | with_reducible refine Below.setCell ?_ ?_ _ | with_reducible refine Below.trans ?_ (Below.mono (by with_reducible assumption) ?_) | with_reducible refine below_only ?_ (by with_reducible assumption) ?_ ?_ | (simp; done) | (simp; omega) | omega))))
           clear hb1 hx1)
        | (go_at_call 27
           refine (HV.out _ Hb1.out).mono ?_
           rintro e w2 ⟨rfl, hb2⟩)
        | fail)
      go_ret2
      exact ⟨by rw [Hres.out]; rfl, Hb1.out.trans (hb2.mono Hb1.out.size)⟩
    · go_upto_region 8 with (first
        | (go_at_call 32
           refine (Hrg.out _ (by repeat' (first | with_reducible exact Below.refl _ _ | with_reducible refine below_drewN ?_ _ | with_reducible refine Below.drew ?_ | with_reducible refine Below.alloc ?_ ?_ _ | with_reducible refine Below.setCell ?_ ?_ _ | with_reducible refine Below.trans ?_ (Below.mono (by with_reducible assumption) ?_) | (simp; done) | (simp; omega) | omega))).mono ?_
           rintro e w1 ⟨rfl, hb1⟩
           have hx1 : w1.heap[w.heap.size]? = some (.cells #[.slice B m d] 34 (0, 0)) := (hb1.block _ (by simp)).trans (heap_alloc_new w _)
           have x1 := cell_of_row _ _ 0 _ _ _ hx1
           have Hx1 := Lib.hid hx1
           have hs1 : w.heap.size < w1.heap.size := by have := hb1.size; simp at this; omega
           have Hb1 : Hid (Below w.heap.size w w1) := Lib.hid (show Below w.heap.size w w1 from (by have hbq := hb1; exact (by repeat' (first | with_reducible exact Below.refl _ _ | with_reducible assumption | with_reducible refine below_drewN ?_ _ | with_reducible refine Below.drew ?_ | with_reducible refine Below.alloc ?_ ?_ _ | with_reducible refine Below.setCell ?_ ?_ _ | with_reducible refine Below.trans ?_ (Below.mono (by with_reducible assumption) ?_) | with_reducible refine below_only ?_ (by with_reducible assumption) ?_ ?_ | (simp; done) | (simp; omega) | omega))))
           clear hb1 hx1)
        | (go_at_call 27
           refine (HV.out _ Hb1.out).mono ?_
           rintro e w2 ⟨rfl, hb2⟩
           have Hb2 : Hid (Below w.heap.size w w2) := Lib.hid (Hb1.out.trans (hb2.mono Hb1.out.size))
           have Hx2 : Hid (w2.heap[w.heap.size]? = some (.cells #[.slice B m d] 34 (0, 0))) := Lib.hid ((hb2.block _ hs1).trans Hx1.out)
           have hs2 : w.heap.size < w2.heap.size := Nat.lt_of_lt_of_le hs1 hb2.size
           clear hb2)
        | fail)
      clear x1
      go_loopw [7, 20] (fun v iv wr => ∃ k : Nat, iv = .int .i64 (k : Int) ∧ k ≤ n ∧ wr.ownsRow w2.heap.size 42 4 v ((rgs l).take k).flatten.length (rCells ((rgs l).take k).flatten) ∧ Below w2.heap.size w2 wr) (fun _ iv _ => n - (intOf iv).toNat)
      case atStart => exact ⟨0, rfl, by omega, World.ownsRow_nil _ _ _ _, Below.refl _ _⟩
      case round =>
        obtain ⟨k, rfl, hkn, hown, hbr⟩ := hrel
        have Hbr := Lib.hid hbr
        have hsr := hbr.size
        have Hown := Lib.hid hown
        obtain ⟨VA, vc, hv, hS⟩ := SlR.of_own hown
        subst hv
        have HS := Lib.hid hS
        clear hbr hown hS
        by_cases hk : k < n
        · have hk' : (k : Int) < (n : Int) := by omega
          have hkl : k < l.length := by have := HA.out.len; omega
          obtain ⟨b, off, rfl, hb, c0, hsl⟩ := ((HA.out.below Hb2.out).below Hbr.out).at k hkl
          have Hnx : Hid (((rgs l).take (k + 1)).flatten = ((rgs l).take k).flatten ++ l[k].1) := Lib.hid (by
            rw [List.take_succ_eq_append_getElem (by rw [rgs_len]; exact hkl), List.flatten_append]
            simp [rgs])
          have Hle : Hid (((rgs l).take (k + 1)).flatten.length ≤ 750) := Lib.hid (by
            have h1 : ((rgs l).take (k + 1)).flatten.length ≤ (rgs l).flatten.length := by
              conv => rhs; rw [← List.take_append_drop (k + 1) (rgs l)]
              rw [List.flatten_append, List.length_append]
              omega
            have := HN.out
            omega)
          obtain ⟨U, hU⟩ : ∃ U, ((rgs l).take k).flatten = U := ⟨_, rfl⟩
          obtain ⟨U', hU'⟩ : ∃ U, ((rgs l).take (k + 1)).flatten = U := ⟨_, rfl⟩
          obtain ⟨x, hx⟩ : ∃ x, l[k].1 = x := ⟨_, rfl⟩
          obtain ⟨D, hD⟩ : ∃ D, l[k].2.a = D := ⟨_, rfl⟩
          obtain ⟨e, he⟩ : ∃ e, l[k].2.c = e := ⟨_, rfl⟩
          rw [hU] at HS Hown Hnx ⊢
          rw [hU'] at Hnx Hle
          rw [hx] at Hnx
          rw [hx, hD, he] at c0 hsl
          have Hrd := Lib.hid (hsl.lies.reads (size := 4) (by rw [rCells_len]))
          have HU' := Lib.hid hU'
          obtain ⟨un, hun⟩ : ∃ un, U.length = un := ⟨_, rfl⟩
          obtain ⟨q, hq⟩ : ∃ q, x.length = q := ⟨_, rfl⟩
          have hle1 : un + q ≤ 750 := by have := Hle.out; rw [Hnx.out, List.length_append] at this; omega
          rw [hun] at HS Hown ⊢
          rw [hq] at c0 Hrd
          have Hun := Lib.hid hun
          have Hq := Lib.hid hq
          clear hU hU' hx hD he hun hq hsl
          go_wp2_with (first
            | (at_builtin
               refine wpList_append_any _ rfl (.tmp 24) (.tmp 26) _ rfl w2.heap.size 42 i0 _ 4 32 Tryz.underlying32 hi hz0 hz1 hz2 rfl (by omega) _ un (rCells U) rfl (World.ownsRow.alloc Hown.out _) wr.heap.size _ q _ (rCells x) rfl (Hrd.out.below ((Below.refl _ _).alloc (Nat.le_refl _) _)) (rCells_one x) (by simp only [maxLen]; omega) (by omega) (by simp; omega) ?_
               intro v6 w6 hown6 hg6 hat6
               have hob := own_base Hown.out
               obtain ⟨VB, vd, rfl, _, _, _⟩ := own_slice hown6
               have Hown6 := Lib.hid hown6
               have Hb6 : Hid (Below w2.heap.size w2 w6) := Lib.hid ((Hbr.out.alloc hsr _).grown hg6 (by simp; omega) (fun b e => hob b e))
               clear hown6 hg6 hat6 hob)
            | fail)
          go_roundw
          case rel => exact ⟨k + 1, by go_num, by omega, by
            rw [HU'.out, Hnx.out, List.length_append, Hun.out, Hq.out, show rCells (U ++ x) = rCells U ++ rCells x by simp [rCells]]
            exact Hown6.out, Hb6.out⟩
          case measure => simp [intOf]; omega
        · obtain rfl : k = n := by omega
          have htk : (rgs l).take k = rgs l := List.take_of_length_le (by rw [Hlen.out]; exact Nat.le_refl _)
          rw [htk] at HS Hown ⊢
          clear htk
          have Hva0 := Lib.hid (Hva.out trivial)
          have hm120 : m ≤ 120 := by have h1 := Hva0.out.1; have h2 := HB.out.len; omega
          have Hpos : Hid (∀ q ∈ (rgs l).flatten, q.l < q.r) := Lib.hid (fun q hq => by
            obtain ⟨a, ha, hq⟩ := List.mem_flatten.1 hq
            exact ok_pos (valid_parts (List.all_eq_true.1 Hgood0.out a ha)).2.1 q hq)
          have Hch := Lib.hid (choose_any B VA m d (rgs l).flatten.length vc 34 #[] notB a (rgs l).flatten wr ((HB.out.below Hb2.out).below Hbr.out) HS.out (by omega) HN.out (ok_pos Hva0.out.2.1) Hpos.out Eg.out (coverFn wr))
          have x1 := cell_of_row _ _ 0 _ _ _ ((Hbr.out.block _ hs2).trans Hx2.out)
          have Hr : Hid (res = (decide ((chooseP notB a (rgs l).flatten).length = 0), 0)) := Lib.hid (by rw [Hres.out, if_pos trivial, if_pos trivial])
          generalize chooseP notB a (rgs l).flatten = R at *
          generalize (rgs l).flatten.length = un at *
          go_wp2_with (first
            | (go_at_call 33
               refine Hch.out.mono ?_
               rintro e w3 ⟨v3, rfl, hown3, hb3⟩
               obtain ⟨E, ec, rfl, _⟩ := SlR.of_own hown3
               have Hb3 := Lib.hid hb3
               clear hown3 hb3)
            | fail)
          go_ret2
          refine ⟨?_, (Hb2.out.trans (Hbr.out.mono (by omega))).trans (Hb3.out.mono (by omega))⟩
          rw [Hr.out]
          by_cases h0 : R.length = 0
          · simp [h0]
          · have : ((R.length : Int) == 0) = false := by simpa using h0
            simp [h0]
  · go_wp2_with (first
      | (go_at_call 32
         refine (Hrg.out _ (by repeat' (first | with_reducible exact Below.refl _ _ | with_reducible refine below_drewN ?_ _ | with_reducible refine Below.drew ?_ | with_reducible refine Below.alloc ?_ ?_ _ | with_reducible refine Below.setCell ?_ ?_ _ | with_reducible refine Below.trans ?_ (Below.mono (by with_reducible assumption) ?_) | (simp; done) | (simp; omega) | omega))).mono ?_
         rintro e w1 ⟨rfl, hb1⟩
         have Hb1 : Hid (Below w.heap.size w w1) := Lib.hid (show Below w.heap.size w w1 from (by have hbq := hb1; exact (by repeat' (first | with_reducible exact Below.refl _ _ | with_reducible assumption | with_reducible refine below_drewN ?_ _ | with_reducible refine Below.drew ?_ | with_reducible refine Below.alloc ?_ ?_ _ | with_reducible refine Below.setCell ?_ ?_ _ | with_reducible refine Below.trans ?_ (Below.mono (by with_reducible assumption) ?_) | with_reducible refine below_only ?_ (by with_reducible assumption) ?_ ?_ | (simp; done) | (simp; omega) | omega))))
         clear hb1)
      | fail)
    go_ret2
    exact ⟨by rw [Hres.out, if_neg her]; rfl, Hb1.out⟩
end Go.Proofs.YtabcadpfhachoaaGreat

namespace Go.Proofs.YtabcadpfhachoaaGreat
open Go.RowKit Go.Shelf
set_option linter.unusedVariables false
set_option linter.unusedSimpArgs false

/-- What Disjoint tells. -/
def DisjIs (l : List (List R4)) (i k : Int) (b : Bool) (e : Int) : Prop :=
  e = regsP l ∧ ((regsP l ≠ 0 ∧ i = 0 ∧ k = 0 ∧ b = false) ∨ (regsP l = 0 ∧ i = 0 ∧ k = 0 ∧ b = false ∧ ∀ (x y : Nat), x < y → y < l.length → meetsP (l.getD x []) (l.getD y []) = false) ∨
    (regsP l = 0 ∧ ∃ x y : Nat, i = (x : Int) ∧ k = (y : Int) ∧ b = true ∧ x < y ∧ y < l.length ∧ meetsP (l.getD x []) (l.getD y []) = true ∧ (∀ x' y' : Nat, x' < x → x' < y' → y' < l.length → meetsP (l.getD x' []) (l.getD y' []) = false) ∧ ∀ y' : Nat, x < y' → y' < y → meetsP (l.getD x []) (l.getD y' []) = false))

def DisjPost (w : World) (l : List (List R4)) (e : Ending) (w' : World) : Prop := ∃ (i k : Int) (b : Bool) (er : Int), e = .returned (.tuple #[.int .i64 i, .int .i64 k, .bool b, .int .i64 er]) ∧ DisjIs l i k b er ∧ Below w.heap.size w w'
set_option maxHeartbeats 800000 in
set_option maxRecDepth 100000 in
theorem disjoint_any (A : Option Addr) (n c : Nat) (l : RL) (w : World) (hA : SlG w A n c l) :
    Calls Tryz.prog 10 #[.slice A n c] w (DisjPost w (rgs l)) := by
  have HA := Lib.hid hA
  have Hlen : Hid ((rgs l).length = n) := Lib.hid (by rw [rgs_len]; exact hA.len)
  have Hrg := Lib.hid (regs_any A n c l w hA)
  have Hdi : Hid (∀ i k b e, DisjIs (rgs l) i k b e ↔ (e = regsP (rgs l) ∧ ((regsP (rgs l) ≠ 0 ∧ i = 0 ∧ k = 0 ∧ b = false) ∨ (regsP (rgs l) = 0 ∧ i = 0 ∧ k = 0 ∧ b = false ∧ ∀ (x y : Nat), x < y → y < n → meetsP ((rgs l).getD x []) ((rgs l).getD y []) = false) ∨
    (regsP (rgs l) = 0 ∧ ∃ x y : Nat, i = (x : Int) ∧ k = (y : Int) ∧ b = true ∧ x < y ∧ y < n ∧ meetsP ((rgs l).getD x []) ((rgs l).getD y []) = true ∧ (∀ x' y' : Nat, x' < x → x' < y' → y' < n → meetsP ((rgs l).getD x' []) ((rgs l).getD y' []) = false) ∧ ∀ y' : Nat, x < y' → y' < y → meetsP ((rgs l).getD x []) ((rgs l).getD y' []) = false)))) := Lib.hid (fun i k b e => by unfold DisjIs; rw [Hlen.out])
  have H60 := Lib.hid (fun h => (regs_ok (l := rgs l) h).1)
  rw [Hlen.out] at H60
  generalize regsP (rgs l) = er at *
  clear hA
  go_enter Tryz.func10, Tryz.ntmps10
  by_cases her : er = 0
  · subst her
    have hn60 := H60.out rfl
    go_upto_region 5 with (first
      | (go_at_call 32
         refine Hrg.out.mono ?_
         rintro e w1 ⟨rfl, hb1⟩
         have Hb1 := Lib.hid hb1
         have hs1 := hb1.size
         clear hb1)
      | fail)
    clear Hrg H60
    go_loopw [17] (fun iv wr => ∃ x : Nat, iv = .int .i64 (x : Int) ∧ x ≤ n ∧ Hid (∀ x' y' : Nat, x' < x → x' < y' → y' < n → meetsP ((rgs l).getD x' []) ((rgs l).getD y' []) = false) ∧ Below w.heap.size w wr) (fun iv _ => n - (intOf iv).toNat)
    case atStart => exact ⟨0, rfl, by omega, Lib.hid (fun _ _ h => by omega), Hb1.out⟩
    case round =>
      obtain ⟨x, rfl, hxn, Hno, hbx⟩ := hrel
      have Hbx := Lib.hid hbx
      have hsx := hbx.size
      clear hbx
      obtain ⟨wo, rfl⟩ : ∃ wo : World, wo = wr := ⟨_, rfl⟩
      by_cases hxl : x < n
      · have hxl' : (x : Int) < (n : Int) := by omega
        have hxL : x < l.length := by have := HA.out.len; omega
        obtain ⟨b, off, rfl, hb, c0, hsl⟩ := (HA.out.below Hbx.out).at x hxL
        have hgx : (rgs l).getD x [] = l[x].1 := by simp [rgs, List.getD, List.getElem?_eq_getElem hxL]
        have Hgx := Lib.hid hgx
        obtain ⟨a, ha⟩ : ∃ a, l[x].1 = a := ⟨_, rfl⟩
        obtain ⟨D, hD⟩ : ∃ D, l[x].2.a = D := ⟨_, rfl⟩
        obtain ⟨d, hd⟩ : ∃ d, l[x].2.c = d := ⟨_, rfl⟩
        rw [ha, hD, hd] at c0 hsl
        rw [ha] at Hgx
        obtain ⟨q, hq⟩ : ∃ q, a.length = q := ⟨_, rfl⟩
        rw [hq] at c0 hsl
        have Hsl := Lib.hid hsl
        clear hgx ha hD hd hq hsl
        have ex : IntKind.i64.wrap ((x : Int) + 1) = (x : Int) + 1 := IntWalk.i64_in _ (by omega)
        have ex' : wrap64 ((x : Int) + 1) = (x : Int) + 1 := IntWalk.wrap64_in _ (by omega)
        go_upto_region 8 with fail
        have Hrow : Hid ((wo.alloc (.cells #[.slice D q d] 34)).heap[wo.heap.size]? = some (.cells #[.slice D q d] 34 (0, 0))) := Lib.hid (heap_alloc_new wo _)
        have Hb8 : Hid (Below w.heap.size w (wo.alloc (.cells #[.slice D q d] 34))) := Lib.hid (Hbx.out.alloc hsx _)
        have Hs8 : Hid (SlR (wo.alloc (.cells #[.slice D q d] 34)) D q d a) := Lib.hid (Hsl.out.alloc _)
        have hs8 : wo.heap.size < (wo.alloc (.cells #[.slice D q d] 34)).heap.size := by simp
        obtain ⟨P0, hP0⟩ : ∃ P, wo.heap.size = P := ⟨_, rfl⟩
        rw [hP0] at Hrow hs8 ⊢
        generalize wo.alloc (.cells #[.slice D q d] 34) = w8 at *
        have hsw8 := Hb8.out.size
        clear hP0
        go_loopw [9] (fun kv wr => ∃ y : Nat, kv = .int .i64 (y : Int) ∧ x < y ∧ y ≤ n ∧ Hid (∀ y' : Nat, x < y' → y' < y → meetsP ((rgs l).getD x []) ((rgs l).getD y' []) = false) ∧ Below w8.heap.size w8 wr) (fun kv _ => n - (intOf kv).toNat)
        case atStart => exact ⟨x + 1, by go_num, by omega, by omega, Lib.hid (fun _ h1 h2 => by omega), Below.refl _ _⟩
        case round =>
          obtain ⟨y, rfl, hxy, hyn, Hny, hby⟩ := hrel
          have Hby := Lib.hid hby
          have hsy := hby.size
          clear hby
          by_cases hyl : y < n
          · have hyl' : (y : Int) < (n : Int) := by omega
            have hyL : y < l.length := by have := HA.out.len; omega
            obtain ⟨b2, off2, e2, hb2, d0, hsl2⟩ := ((HA.out.below Hb8.out).below Hby.out).at y hyL
            injection e2 with e2
            injection e2 with e2 e3 _
            subst e2 e3
            have hgy : (rgs l).getD y [] = l[y].1 := by simp [rgs, List.getD, List.getElem?_eq_getElem hyL]
            have Hgy := Lib.hid hgy
            obtain ⟨a2, ha2⟩ : ∃ a, l[y].1 = a := ⟨_, rfl⟩
            obtain ⟨D2, hD2⟩ : ∃ D, l[y].2.a = D := ⟨_, rfl⟩
            obtain ⟨f2, hf2⟩ : ∃ d, l[y].2.c = d := ⟨_, rfl⟩
            rw [ha2, hD2, hf2] at d0 hsl2
            rw [ha2] at Hgy
            obtain ⟨q2, hq2⟩ : ∃ q, a2.length = q := ⟨_, rfl⟩
            rw [hq2] at d0 hsl2
            have Hm := Lib.hid (fun W (hW : Below wr.heap.size wr W) => meets_any D D2 q d q2 f2 a a2 W ((Hs8.out.below Hby.out).below hW) (hsl2.below hW))
            have Hmv : Hid (meetsP ((rgs l).getD x []) ((rgs l).getD y []) = meetsP a a2) := Lib.hid (by rw [Hgx.out, Hgy.out])
            clear hgy ha2 hD2 hf2 hq2 hsl2
            have x0 := cell_of_row _ _ 0 _ _ _ ((Hby.out.block _ hs8).trans Hrow.out)
            have hP0r : P0 < wr.heap.size := by omega
            have hy0 : 0 ≤ (y : Int) := by omega
            generalize meetsP a a2 = mt at *
            go_upto_region 10 with fail
            refine wp_region_below wr.heap.size (Nat.le_refl _) (by kernel_rfl) (by kernel_rfl) ?_
            intro I _ F hFc hFb hFs
            have g0 := fun i => (hFc i P0 0 hP0r).trans x0
            have g1 := fun i => (hFc i b (off + y) hb2).trans d0
            repeat (go_big_quiet_step ((first
              | (go_at_call 35; exact class_call hFb hFs (Nat.le_refl _) (Hm.out _ (hFb _))))))
            refine wpQuiet_nil ?_
            rintro _ ⟨iq, rfl⟩
            generalize hw4 : F iq = w4
            have hb4 : Below wr.heap.size wr w4 := by rw [← hw4]; exact hFb iq
            have Hb4 := Lib.hid hb4
            clear hw4 hFc hFb hFs g0 g1 hb4 x0 d0
            clear ex ex'
            cases mt
            · clear Hm
              go_wp2
              go_roundw
              case rel => exact ⟨y + 1, by go_num, by omega, by omega, Lib.hid (fun y' h1 h2 => by
                rcases Nat.lt_or_ge y' y with h | h
                · exact Hny.out y' h1 h
                · obtain rfl : y' = y := by omega
                  exact Hmv.out), Hby.out.trans (Hb4.out.mono hsy)⟩
              case measure => simp [intOf]; omega
            · go_wp2
              refine bodyPost_ret (v := .tuple #[.int .i64 (x : Int), .int .i64 (y : Int), .bool true, .int .i64 0]) (by simp [results, Tryz.results10, go_sem, *]) rfl ?_
              exact ⟨_, _, _, _, rfl, (Hdi.out _ _ _ _).2 ⟨rfl, .inr (.inr ⟨by first | rfl | trivial, x, y, rfl, rfl, rfl, hxy, hyl, Hmv.out, Hno.out, Hny.out⟩)⟩, (Hb8.out.trans (Hby.out.mono hsw8)).trans (Hb4.out.mono (by omega))⟩
          · obtain rfl : y = n := by omega
            go_wp2
            go_roundw
            case rel => exact ⟨x + 1, by go_num, by omega, Lib.hid (fun x' y' h1 h2 h3 => by
              rcases Nat.lt_or_ge x' x with h | h
              · exact Hno.out x' y' h h2 h3
              · obtain rfl : x' = x := by omega
                exact Hny.out y' h2 h3), Hb8.out.trans (Hby.out.mono hsw8)⟩
            case measure => simp [intOf]; omega
      · obtain rfl : x = n := by omega
        go_wp2
        refine bodyPost_ret (v := .tuple #[.int .i64 0, .int .i64 0, .bool false, .int .i64 0]) (by simp [results, Tryz.results10, go_sem, *]) rfl ?_
        exact ⟨_, _, _, _, rfl, (Hdi.out _ _ _ _).2 ⟨rfl, .inr (.inl ⟨by first | rfl | trivial, rfl, rfl, rfl, fun a b h1 h2 => Hno.out a b (by omega) h1 h2⟩)⟩, Hbx.out⟩
  · go_wp2_with (first
      | (go_at_call 32
         refine Hrg.out.mono ?_
         rintro e w1 ⟨rfl, hb1⟩
         have Hb1 := Lib.hid hb1
         clear hb1)
      | fail)
    refine bodyPost_ret (v := .tuple #[.int .i64 0, .int .i64 0, .bool false, .int .i64 er]) (by simp [results, Tryz.results10, go_sem, *]) rfl ?_
    exact ⟨_, _, _, _, rfl, (Hdi.out _ _ _ _).2 ⟨rfl, .inl ⟨her, rfl, rfl, rfl⟩⟩, Hb1.out⟩
end Go.Proofs.YtabcadpfhachoaaGreat

namespace Go.Proofs.YtabcadpfhachoaaGreat
open Go.RowKit
set_option linter.unusedVariables false
set_option linter.unusedSimpArgs false

theorem regs_zero {s k : Nat} {m : List (List R4)} (hs : s ≤ 10) (hk : k ≤ 120) (hm : m.length ≤ 60) (hr : ∀ a ∈ m, Reg s k a) : regsP m = 0 := by
  unfold regsP
  rw [if_neg (by omega), if_pos (List.all_eq_true.2 fun a ha => (hr a ha).valid (by omega) hk)]
theorem cover_face {s k : Nat} {m : List (List R4)} {F : List Fc} (hs : s ≤ 10) (hk : k ≤ 120) (hm : m.length ≤ 7) (hr : ∀ a ∈ m, Reg s k a) (hF : FacesOk s m F) : ∀ f ∈ F, coverP f.rg m = (true, 0) := by
  intro f hf
  have hss : s * s ≤ 120 := by have : s * s ≤ 10 * 10 := Nat.mul_le_mul hs hs; omega
  have hreg := hF.reg f hf
  have hnil : chooseP notB f.rg m.flatten = [] := (choose_nil rfl hreg.ins (flat_ins hr)).2 fun x y => by
    cases h : inL f.rg x y
    · rfl
    · have h1 := hF.at' f hf x y
      rw [h] at h1
      have h2 := of_decide_eq_true h1.symm
      have h3 := (hF.pos f hf).1
      have h4 : inL m.flatten x y = true := (inL_flatten m x y).2 ((setAt_pos m x y).1 (by omega))
      rw [h4]
      rfl
  unfold coverP
  rw [if_pos (regs_zero hs hk (by omega) hr), if_pos (hreg.valid (by omega) hss), hnil]
  rfl
theorem far_valid : validP [(⟨50, 0, 51, 1⟩ : R4)] = true := by
  unfold validP
  rw [canonP_comb _ (by decide)]
  decide
theorem nil_valid : validP [] = true := by
  unfold validP
  rw [canonP_comb _ (by decide)]
  decide
theorem cover_far {s k : Nat} {m : List (List R4)} (hs : s ≤ 10) (hk : k ≤ 120) (hm : m.length ≤ 60) (hr : ∀ a ∈ m, Reg s k a) : coverP [⟨50, 0, 51, 1⟩] m = (false, 0) := by
  have hin := flat_ins hr
  have hin51 : InS 51 m.flatten := fun q hq => by have := hin q hq; omega
  have hfar : InS 51 [(⟨50, 0, 51, 1⟩ : R4)] := fun q hq => by rw [List.mem_singleton] at hq; subst hq; decide
  have hne : chooseP notB [⟨50, 0, 51, 1⟩] m.flatten ≠ [] := fun h => by
    have h1 := (choose_nil rfl hfar hin51).1 h 50 0
    have h2 : inL m.flatten 50 0 = false := by
      cases e : inL m.flatten 50 0
      · rfl
      · have := hin.in 50 0 e; omega
    rw [h2] at h1
    simp [notB, inL, R4.has] at h1
  unfold coverP
  rw [if_pos (regs_zero hs hk hm hr), if_pos far_valid]
  congr 1
  simp [List.length_eq_zero_iff, hne]
theorem cover_nil {s k : Nat} {m : List (List R4)} (hs : s ≤ 10) (hk : k ≤ 120) (hm : m.length ≤ 60) (hr : ∀ a ∈ m, Reg s k a) : coverP [] m = (true, 0) := by
  have hnil : chooseP notB [] m.flatten = [] := (choose_nil rfl (fun q hq => by cases hq) (flat_ins hr)).2 fun x y => rfl
  unfold coverP
  rw [if_pos (regs_zero hs hk hm hr), if_pos nil_valid, hnil]
  rfl
def oneF (f : Fc) : Bool := decide (bits BinOp.and IntKind.i64 f.set (f.set - 1) = 0)
theorem one_bitsB : ((List.range 16).all fun z => decide (z = 0) || (decide (z &&& (z - 1) = 0) == ((List.range 4).all fun i => (List.range 4).all fun k => !(decide (i < k) && (z.testBit i && z.testBit k))))) = true := by decide
theorem one_bits (z : Nat) (hz : z < 16) (hp : 0 < z) : (z &&& (z - 1) = 0) ↔ ∀ i, i < 4 → ∀ k, k < 4 → i < k → ¬ (z.testBit i = true ∧ z.testBit k = true) := by
  have h := List.all_eq_true.1 one_bitsB z (List.mem_range.2 hz)
  rw [decide_eq_false (show ¬ z = 0 by omega), Bool.false_or, beq_iff_eq] at h
  rw [← decide_eq_true_iff (p := z &&& (z - 1) = 0), h, List.all_eq_true]
  constructor
  · rintro h i hi k hk hik ⟨h1, h2⟩
    have := List.all_eq_true.1 (h i (List.mem_range.2 hi)) k (List.mem_range.2 hk)
    rw [h1, h2, decide_eq_true hik] at this
    cases this
  · intro h i hi
    refine List.all_eq_true.2 fun k hk => ?_
    have := h i (List.mem_range.1 hi) k (List.mem_range.1 hk)
    by_cases hik : i < k
    · have := this hik
      rw [decide_eq_true hik]
      cases e1 : z.testBit i <;> cases e2 : z.testBit k <;> simp [e1, e2] at this ⊢
    · simp [hik]
theorem oneF_iff {f : Fc} (h : 0 < f.set ∧ f.set < 16) : oneF f = true ↔ ∀ i, i < 4 → ∀ k, k < 4 → i < k → ¬ (f.set.toNat.testBit i = true ∧ f.set.toNat.testBit k = true) := by
  obtain ⟨z, hz⟩ := Int.eq_ofNat_of_zero_le (show 0 ≤ f.set by omega)
  unfold oneF
  rw [hz, Int.toNat_natCast, decide_eq_true_iff, ← one_bits z (by omega) (by omega), show (z : Int) - 1 = ((z - 1 : Nat) : Int) by omega, and_i64n z (z - 1) (by omega) (by omega)]
  omega
theorem meets_iff {s k : Nat} {a b : List R4} (hs : s ≤ 10) (hk : k ≤ 120) (ha : Reg s k a) (hb : Reg s k b) : meetsP a b = true ↔ ∃ x y, inL a x y = true ∧ inL b x y = true := by
  unfold meetsP
  rw [ha.valid (by omega) hk, hb.valid (by omega) hk, Bool.true_and, Bool.true_and, over_some ha.ins hb.ins]
  simp only [Bool.and_eq_true]
/-- Regions are disjoint exactly if all faces have one bit. -/
theorem disj_single {s k : Nat} {m : List (List R4)} {F : List Fc} (hs : s ≤ 10) (hk : k ≤ 120) (hm : m.length ≤ 4) (hr : ∀ a ∈ m, Reg s k a) (hF : FacesOk s m F) {i j : Int} {b : Bool} {e : Int} (hd : DisjIs m i j b e) : e = 0 ∧ b = !F.all oneF := by
  have h0 := regs_zero hs hk (by omega) hr
  have hset : ∀ f ∈ F, 0 < f.set ∧ f.set < 16 := fun f hf => by
    have h1 := hF.pos f hf
    have h2 : (2 : Int) ^ m.length ≤ 16 := by
      have h : 2 ^ m.length ≤ 2 ^ 4 := Nat.pow_le_pow_right (by omega) hm
      have := Int.ofNat_le.2 h
      simpa using this
    omega
  have hg : ∀ x, x < m.length → m.getD x [] = m[x]! ∧ Reg s k (m.getD x []) := fun x hx => by
    have : m.getD x [] = m[x] := by simp [List.getD, List.getElem?_eq_getElem hx]
    rw [this]
    exact ⟨by simp [hx], hr _ (List.getElem_mem hx)⟩
  have hbit : ∀ x y i, i < m.length → ((setAt m x y).testBit i = inL (m.getD i []) x y) := fun x y i hi => by
    rw [bit_in x y i hi]
    simp [List.getD, List.getElem?_eq_getElem hi]
  obtain ⟨he, hd⟩ := hd
  refine ⟨by rw [he, h0], ?_⟩
  rcases hd with ⟨h, _⟩ | ⟨_, _, _, hb, hno⟩ | ⟨_, x, y, _, _, hb, hxy, hyl, hmt, _⟩
  · exact absurd h0 h
  · rw [hb]
    have : F.all oneF = true := List.all_eq_true.2 fun f hf => by
      rw [oneF_iff (hset f hf)]
      rintro a ha c hc hac ⟨h1, h2⟩
      obtain ⟨px, py, hp⟩ := hF.ne f hf
      rw [← hp, Int.toNat_natCast] at h1 h2
      have hlt : ∀ i, (setAt m px py).testBit i = true → i < m.length := fun i hi => by
        rcases Nat.lt_or_ge i m.length with h | h
        · exact h
        · have := Nat.testBit_lt_two_pow (Nat.lt_of_lt_of_le (setAt_lt m px py) (Nat.pow_le_pow_right (by omega) h))
          rw [this] at hi
          cases hi
      have hal := hlt a h1
      have hcl := hlt c h2
      have := hno a c hac hcl
      rw [(meets_iff hs hk (hg a hal).2 (hg c hcl).2).2 ⟨px, py, by rw [← hbit px py a hal]; exact h1, by rw [← hbit px py c hcl]; exact h2⟩] at this
      cases this
    rw [this]
    rfl
  · rw [hb]
    have hxl : x < m.length := by omega
    obtain ⟨px, py, h1, h2⟩ := (meets_iff hs hk (hg x hxl).2 (hg y hyl).2).1 hmt
    rw [← hbit px py x hxl] at h1
    rw [← hbit px py y hyl] at h2
    have hz : setAt m px py ≠ 0 := fun e => by rw [e] at h1; simp at h1
    obtain ⟨f, hf, e⟩ := hF.all px py hz
    have : F.all oneF = false := by
      rw [Bool.eq_false_iff]
      intro h
      have := (oneF_iff (hset f hf)).1 (List.all_eq_true.1 h f hf) x (by omega) y (by omega) hxy
      rw [e, Int.toNat_natCast] at this
      exact this ⟨h1, h2⟩
    rw [this]
    rfl
end Go.Proofs.YtabcadpfhachoaaGreat
