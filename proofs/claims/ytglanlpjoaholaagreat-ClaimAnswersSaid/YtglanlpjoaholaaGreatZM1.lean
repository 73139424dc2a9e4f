/- Contracts: Check (crop), of catalogues of which a family may be wrong; check, line, Check, All (claim), for any numbers, regions and lines. -/
/- Plain: chains of Combine over lines; how many rectangles these have, where the lines' squares change at few places. -/
/- Contracts of the reference: Name (2), one, Check (12), given, line, Check, All, some, valid (13). -/
/- Contracts: Clip (claim), Same (ref13) of equal lines. Plain: lines that are clipped. -/
/- Contracts of the reference (13): some, valid, Rest, Claimed, Clip. -/
/- Contract: spoilt (the law of layer 13). -/
/- What the tape of layer 13's laws has made, where it lies; numbers, regions, crops of which one thing is another. Opening of lines. -/
import Derived.Test.YtglanlpjoaholaaGreatZM2
import Derived.Test.YtglanlpjoaholaaGreatY4
import Derived.Test.YtglanlpjoaholaaGreatV3
import Derived.Test.YtglanlpjoaholaaGreatVb
import Derived.Test.YtglanlpjoaholaaGreatVs
import Derived.Test.YtglanlpjoaholaaGreatQ
import Derived.Test.YtglanlpjoaholaaGreatF3
namespace Go.Proofs.YtglanlpjoaholaaGreat
open Go.RowKit Go.Shelf
set_option linter.unusedVariables false
set_option linter.unusedSimpArgs false

/-- A catalogue that is right but for families. -/
def cropsF (l : List Cp) : Prop := l.length ≤ 40 ∧ (∀ x ∈ l, lettersB x.nm = true ∧ 0 ≤ x.mks ∧ x.mks ≤ 31) ∧ ∀ i (h : i + 1 < l.length), leqS l[i + 1].nm l[i].nm = false
def famB (x : Cp) : Bool := decide (0 ≤ x.fam) && decide (x.fam ≤ 40)
def cropE (l : List Cp) : Int := if l.all famB then 0 else 2
theorem cropE_bad {l : List Cp} {i : Nat} (h : i < l.length) (hx : famB l[i] = false) : cropE l = 2 := by
  unfold cropE
  rw [if_neg]
  intro ha
  have := List.all_eq_true.1 ha _ (List.getElem_mem h)
  rw [hx] at this
  cases this
theorem cropE_ok {l : List Cp} (h : ∀ i (h : i < l.length), famB l[i] = true) : cropE l = 0 := by
  unfold cropE
  rw [if_pos (List.all_eq_true.2 fun x hx => by obtain ⟨i, hi, rfl⟩ := List.getElem_of_mem hx; exact h i hi)]

set_option maxHeartbeats 4000000 in
set_option maxRecDepth 100000 in
theorem cropCheckF_any (A : Option Addr) (n c : Nat) (l : List Cp) (w : World) (hA : SlC w A n c l) (hok : cropsF l) :
    Calls Tryz.prog 102 #[.slice A n c] w fun e w' => e = .returned (.int .i64 (cropE l)) ∧ Below w.heap.size w w' := by
  have HA := Lib.hid hA
  have Hn := Lib.hid hA.len
  have Hok := Lib.hid hok
  have hn40 : n ≤ 40 := by have := hok.1; have := hA.len; omega
  have Hbad : Hid (∀ i (h : i < l.length), famB l[i] = false → cropE l = 2) := Lib.hid fun i h hx => cropE_bad h hx
  have Hgood : Hid ((∀ i (h : i < l.length), famB l[i] = true) → cropE l = 0) := Lib.hid cropE_ok
  generalize cropE l = res at *
  clear hA hok
  have hbig : ¬ (40 : Int) < (n : Int) := by omega
  go_enter Tryz.func102, Tryz.ntmps102
  go_wp2_with fail
  go_loopw [3, 10] (fun _ iv wr => ∃ k : Nat, k ≤ n ∧ iv = .int .i64 (k : Int) ∧ Hid (∀ i (h : i < l.length), i < k → famB l[i] = true) ∧ Below w.heap.size w wr) (fun _ iv _ => n - (intOf iv).toNat)
  case atStart => exact ⟨0, Nat.zero_le _, rfl, Lib.hid (fun i h h1 => by omega), Below.refl _ _⟩
  case round =>
    obtain ⟨k, hk, rfl, Hfs, hbw⟩ := hrel
    have Hbw := Lib.hid hbw
    have hsw := hbw.size
    clear hbw
    by_cases hkn : k < n
    · have hkn' : (k : Int) < (n : Int) := by omega
      have hkl : k < l.length := by have := Hn.out; omega
      obtain ⟨b, off, rfl, hb, c0, c1, c2⟩ := (HA.out.below Hbw.out).at k hkl
      obtain ⟨hnm, hmk⟩ := Hok.out.2.1 l[k] (List.getElem_mem hkl)
      have Hord : Hid (∀ j (hj : j < l.length), k = j + 1 → leqS l[k].nm l[j].nm = false) := Lib.hid (fun j hj e => by subst e; exact Hok.out.2.2 j hkl)
      have Hfk : Hid (famB l[k] = false → res = 2) := Lib.hid (Hbad.out k hkl)
      have Hnx : Hid (famB l[k] = true → ∀ i (h : i < l.length), i < k + 1 → famB l[i] = true) := Lib.hid (fun hf i h hi => by
        rcases Nat.lt_or_ge i k with h1 | h1
        · exact Hfs.out i h h1
        · obtain rfl : i = k := by omega
          exact hf)
      generalize l[k] = y at *
      obtain ⟨nm, fam, mk⟩ := y
      dsimp only at *
      have Hnm := Lib.hid (fun W => name_any nm W hnm)
      have f3 : ¬ mk < 0 := by omega
      have f4 : ¬ 31 < mk := by omega
      have hrow := heap_alloc_new wr (.cells #[.string nm, .int .i64 fam, .int .i64 mk] 57)
      have Hba : Hid (Below wr.heap.size wr (wr.alloc (.cells #[.string nm, .int .i64 fam, .int .i64 mk] 57))) := Lib.hid (by repeat' (first | with_reducible exact Below.refl _ _ | with_reducible refine below_drewN ?_ _ | with_reducible refine Below.drew ?_ | with_reducible refine Below.alloc ?_ ?_ _ | with_reducible refine Below.setCell ?_ ?_ _ | with_reducible refine Below.trans ?_ (Below.mono (by with_reducible assumption) ?_) | (simp; done) | (simp; omega) | omega))
      have hla : wr.heap.size < (wr.alloc (.cells #[.string nm, .int .i64 fam, .int .i64 mk] 57)).heap.size := by simp
      go_upto_block 2 with fail
      obtain ⟨T, hT⟩ : ∃ T, wr.heap.size = T := ⟨_, rfl⟩
      rw [hT] at hrow hla ⊢
      generalize wr.alloc (.cells #[.string nm, .int .i64 fam, .int .i64 mk] 57) = wa at *
      have Hbwa : Hid (Below w.heap.size w wa) := Lib.hid (Hbw.out.trans (Hba.out.mono hsw))
      have a0 := cell_of_row wa T 0 _ _ _ hrow
      have a1 := cell_of_row wa T 1 _ _ _ hrow
      have a2 := cell_of_row wa T 2 _ _ _ hrow
      clear c0 c1 c2 hrow hT
      by_cases f1 : fam < 0
      · have He : Hid (res = 2) := Lib.hid (Hfk.out (by unfold famB; simp; omega))
        clear Hfk Hnx
        go_wp2_with (first | (go_at_call 115; refine (Hnm.out _).mono ?_; rintro e w' ⟨rfl, rfl⟩) | fail)
        go_ret
        exact ⟨by rw [He.out]; rfl, Hbwa.out⟩
      by_cases f2 : 40 < fam
      · have He : Hid (res = 2) := Lib.hid (Hfk.out (by unfold famB; simp; omega))
        clear Hfk Hnx
        go_wp2_with (first | (go_at_call 115; refine (Hnm.out _).mono ?_; rintro e w' ⟨rfl, rfl⟩) | fail)
        go_ret
        exact ⟨by rw [He.out]; rfl, Hbwa.out⟩
      have Hnx2 := Lib.hid (Hnx.out (by unfold famB; simp; omega))
      clear Hfk Hnx
      by_cases hk0 : 0 < k
      · have hk0' : (0 : Int) < (k : Int) := by omega
        have hk0d : decide ((0 : Int) < (k : Int)) = true := decide_eq_true hk0'
        obtain ⟨j, hj⟩ : ∃ j, k = j + 1 := ⟨k - 1, by omega⟩
        have hjl : j < l.length := by omega
        obtain ⟨b', off', e', hb', d0, -, -⟩ := (HA.out.below Hbwa.out).at j hjl
        injection e' with e'
        injection e' with e1 e2
        subst e1 e2
        have hlq := Hord.out j hjl hj
        generalize l[j].nm = pn at *
        have hwk : IntKind.i64.wrap ((k : Int) - 1) = (j : Int) := by rw [show (k : Int) - 1 = (j : Int) by omega]; exact IntWalk.i64_in _ (by omega)
        have hjn : (j : Int) < (n : Int) := by omega
        have Hj := Lib.hid hj
        clear hj
        unfold leqS at hlq
        go_wp2_with (first | (go_at_call 115; refine (Hnm.out _).mono ?_; rintro e w' ⟨rfl, rfl⟩) | fail)
        go_quiet (fail)
        go_wp2
        go_roundw
        case rel => exact ⟨k + 1, by omega, by go_num, Hnx2, below_drewN Hbwa.out _⟩
        case measure => simp [intOf]; omega
      · obtain rfl : k = 0 := by omega
        have hk0d : decide ((0 : Int) < ((0 : Nat) : Int)) = false := rfl
        go_wp2_with (first | (go_at_call 115; refine (Hnm.out _).mono ?_; rintro e w' ⟨rfl, rfl⟩) | fail)
        go_quiet (fail)
        go_wp2
        go_roundw
        case rel => exact ⟨1, by omega, by go_num, Hnx2, below_drewN Hbwa.out _⟩
        case measure => simp [intOf]; omega
    · have hkn' : ¬ (k : Int) < (n : Int) := by omega
      have He : Hid (res = 0) := Lib.hid (Hgood.out fun i h => Hfs.out i h (by have := Hn.out; omega))
      go_wp2
      go_ret
      exact ⟨by rw [He.out]; rfl, Hbw.out⟩

theorem asc_of_next {l : List Int} (h : ∀ j (hj : j + 1 < l.length), l[j] < l[j + 1]) : l.Pairwise (· < ·) := by
  rw [List.pairwise_iff_getElem]
  intro i j hi hj hij
  obtain ⟨d, rfl⟩ : ∃ d, j = i + 1 + d := ⟨j - i - 1, by omega⟩
  clear hij
  induction d with
  | zero => exact h i hj
  | succ d ih =>
    have h1 := ih (by omega)
    have h2 := h (i + 1 + d) (by omega)
    exact Int.lt_trans h1 h2
/-- The first error of parcels and a catalogue. -/
def givenP (N : List Int) (R : List (List R4)) (C : List Cp) : Int := if N.length = R.length ∧ N.length ≤ 60 then (if N.Pairwise (· < ·) then (if R.all validP then cropE C else 7) else 3) else 3
/-- The error of a line, in its parcel's squares. -/
def linP (r : List R4) (m : Nat) (mask : Int) (x : Ln) : Int :=
  if x.rg.length = 0 ∨ validP x.rg = false then 7 else if withinP x.rg r = false then 12 else if x.cr < 0 ∨ (m : Int) ≤ x.cr then 13 else if x.sch = 0 ∨ ¬ bits BinOp.andNot IntKind.i64 x.sch mask = 0 then 17 else 0
def lineP (N : List Int) (R : List (List R4)) (m : Nat) (mask : Int) (x : Ln) : Int := if x.pc ∈ N then linP (R.getD (N.idxOf x.pc) []) m mask x else 10
def checkP (N : List Int) (R : List (List R4)) (C : List Cp) (mask : Int) (x : Ln) : Int := if givenP N R C = 0 then lineP N R C.length mask x else givenP N R C
theorem idx_asc {N : List Int} (hp : N.Pairwise (· < ·)) {i : Nat} {p : Int} (h : N[i]? = some p) : N.idxOf p = i := by
  have hm : p ∈ N := List.mem_of_getElem? h
  obtain ⟨hi, he⟩ := List.getElem?_eq_some_iff.1 h
  have hl := List.idxOf_lt_length_of_mem hm
  have hg : N[N.idxOf p] = p := List.getElem_idxOf hl
  have hq := List.pairwise_iff_getElem.1 hp
  rcases Nat.lt_trichotomy (N.idxOf p) i with h1 | h1 | h1
  · have := hq _ _ hl hi h1; omega
  · exact h1
  · have := hq _ _ hi hl h1; omega
theorem given_asc {N : List Int} {R : List (List R4)} {C : List Cp} (h : givenP N R C = 0) : N.length = R.length ∧ N.length ≤ 60 ∧ N.Pairwise (· < ·) := by
  unfold givenP at h
  by_cases h1 : N.length = R.length ∧ N.length ≤ 60
  · rw [if_pos h1] at h
    by_cases h2 : N.Pairwise (· < ·)
    · exact ⟨h1.1, h1.2, h2⟩
    · rw [if_neg h2] at h; omega
  · rw [if_neg h1] at h; omega
theorem rgs_all (R : RL) : R.any (fun x => !validP x.1) = !((rgs R).all validP) := by
  unfold rgs
  rw [List.all_map, List.any_eq_not_all_not]
  congr 1
  congr 1
  funext x
  simp

set_option maxHeartbeats 4000000 in
set_option maxRecDepth 100000 in
theorem pcheckG_any (NA : Option Addr) (n kc : Nat) (N : List Int) (RA : Option Addr) (n2 rc : Nat) (R : RL) (CA : Option Addr) (m cc : Nat) (C : List Cp) (mask : Int) (w : World) (hN : SlI w NA n kc N) (hR : SlG w RA n2 rc R) (hC : SlC w CA m cc C) (hc : cropsF C) :
    Calls Tryz.prog 76 #[.agg #[.slice NA n kc, .slice RA n2 rc, .slice CA m cc, .int .i64 mask]] w fun e w' => e = .returned (.int .i64 (givenP N (rgs R) C)) ∧ Below w.heap.size w w' := by
  have HN := Lib.hid hN
  have Hn := Lib.hid hN.len
  have Hn2 : Hid ((rgs R).length = n2) := Lib.hid (by rw [rgs_len]; exact hR.len)
  have Egv : Hid (∀ args w, (callFunc 101 args).run Tryz.prog w = .ok (.enter 101 args) w) := Lib.hid (enters_of Tryz.func101 (by kernel_rfl) rfl)
  have HCo : Hid (∀ W, Below w.heap.size w W → Calls Tryz.prog 66 #[.slice RA n2 rc, .func (.func 101) #[] #[]] W fun e w' => e = .returned (.bool (!((rgs R).all validP))) ∧ Below W.heap.size W w') := Lib.hid (fun W hW => by
    have := containsG_any (fun x => !validP x.1) 101 #[] Egv.out RA n2 rc R W (hR.below hW) (validG2 W)
    rwa [rgs_all] at this)
  have HCk := Lib.hid (fun W (hW : Below w.heap.size w W) => cropCheckF_any CA m cc C W (hC.below hW) hc)
  have Hres : Hid (givenP N (rgs R) C = if N.length = (rgs R).length ∧ N.length ≤ 60 then (if N.Pairwise (· < ·) then (if (rgs R).all validP then cropE C else 7) else 3) else 3) := Lib.hid rfl
  rw [Hn.out, Hn2.out] at Hres
  generalize givenP N (rgs R) C = res at *
  generalize (rgs R).all validP = va at *
  generalize cropE C = ce at *
  clear hN hR hC hc
  go_enter Tryz.func76, Tryz.ntmps76
  go_upto_region 1 with fail
  obtain ⟨wa, hwa⟩ : ∃ wa : World, wa = w.alloc (.cells #[.slice NA n kc, .slice RA n2 rc, .slice CA m cc, .int .i64 mask] 77) := ⟨_, rfl⟩
  rw [← hwa]
  have HB : Hid (wa.heap[w.heap.size]? = some (.cells #[.slice NA n kc, .slice RA n2 rc, .slice CA m cc, .int .i64 mask] 77 (0, 0))) := Lib.hid (by rw [hwa]; exact heap_alloc_new w _)
  have Hba : Hid (Below w.heap.size w wa) := Lib.hid (by rw [hwa]; exact (by repeat' (first | with_reducible exact Below.refl _ _ | with_reducible refine below_drewN ?_ _ | with_reducible refine Below.drew ?_ | with_reducible refine Below.alloc ?_ ?_ _ | with_reducible refine Below.setCell ?_ ?_ _ | with_reducible refine Below.trans ?_ (Below.mono (by with_reducible assumption) ?_) | (simp; done) | (simp; omega) | omega)))
  have hla : w.heap.size < wa.heap.size := by rw [hwa]; simp
  clear hwa
  have a0 := cell_of_row wa w.heap.size 0 _ _ _ HB.out
  have a1 := cell_of_row wa w.heap.size 1 _ _ _ HB.out
  by_cases hne : n = n2
  case neg =>
    have hne' : ¬ (n : Int) = (n2 : Int) := by omega
    have hned : decide (n = n2) = false := decide_eq_false hne
    have He : Hid (res = 3) := Lib.hid (by rw [Hres.out, if_neg (fun h => hne h.1)])
    clear Hres
    go_wp2
    go_ret
    exact ⟨by rw [He.out]; rfl, Hba.out⟩
  subst hne
  by_cases hbig : 60 < n
  · have hbig' : (60 : Int) < (n : Int) := by omega
    have He : Hid (res = 3) := Lib.hid (by rw [Hres.out, if_neg (by omega)])
    clear Hres
    go_wp2
    go_ret
    exact ⟨by rw [He.out]; rfl, Hba.out⟩
  have hn60 : ¬ (60 : Int) < (n : Int) := by omega
  rw [if_pos ⟨rfl, by omega⟩] at Hres
  go_upto_region 3 with fail
  clear a0 a1
  go_wp2_with fail
  go_loopw [3] (fun iv wr => ∃ k : Nat, 1 ≤ k ∧ (k ≤ n ∨ k = 1) ∧ iv = .int .i64 (k : Int) ∧ Hid (∀ j (h : j + 1 < N.length), j + 1 < k → N[j] < N[j + 1]) ∧ Below wa.heap.size wa wr) (fun iv _ => n - (intOf iv).toNat)
  case atStart => exact ⟨1, Nat.le_refl _, .inr rfl, rfl, Lib.hid (fun j h h1 => by omega), Below.refl _ _⟩
  case round =>
    obtain ⟨k, hk1, hk, rfl, Hlo, hbw⟩ := hrel
    have Hbw := Lib.hid hbw
    have hsw := hbw.size
    have hrow := (hbw.block _ hla).trans HB.out
    have a0 := cell_of_row wr w.heap.size 0 _ _ _ hrow
    have a1 := cell_of_row wr w.heap.size 1 _ _ _ hrow
    have a2 := cell_of_row wr w.heap.size 2 _ _ _ hrow
    clear hbw hrow
    by_cases hkn : k < n
    · have hkn' : (k : Int) < (n : Int) := by omega
      have hkl : k < N.length := by have := Hn.out; omega
      obtain ⟨j, hj⟩ : ∃ j, k = j + 1 := ⟨k - 1, by omega⟩
      have hjl : j < N.length := by omega
      obtain ⟨b, off, rfl, hb, c0⟩ := (HN.out.below (Hba.out.trans (Hbw.out.mono (Nat.le_of_lt hla)))).at k hkl
      obtain ⟨b', off', e', -, c1⟩ := (HN.out.below (Hba.out.trans (Hbw.out.mono (Nat.le_of_lt hla)))).at j hjl
      injection e' with e'
      injection e' with e1 e2
      subst e1 e2
      have Hsn : Hid (N[j] < N[k] → ∀ i (h : i + 1 < N.length), i + 1 < k + 1 → N[i] < N[i + 1]) := Lib.hid (fun hl i h hi => by
        rcases Nat.lt_or_ge (i + 1) k with h1 | h1
        · exact Hlo.out i h h1
        · obtain rfl : i = j := by omega
          subst hj
          exact hl)
      have Hno : Hid (N[k] ≤ N[j] → ¬ N.Pairwise (· < ·)) := Lib.hid (fun hl hp => by
        have := List.pairwise_iff_getElem.1 hp j k hjl hkl (by omega)
        omega)
      generalize N[k] = y at *
      generalize N[j] = z at *
      have hwk : IntKind.i64.wrap ((k : Int) - 1) = (j : Int) := by rw [show (k : Int) - 1 = (j : Int) by omega]; exact IntWalk.i64_in _ (by omega)
      have hjn : (j : Int) < (n : Int) := by omega
      have Hj := Lib.hid hj
      have hbw0 : b < wr.heap.size := hb
      clear hj
      by_cases hle : y ≤ z
      · have He : Hid (res = 3) := Lib.hid (by rw [Hres.out, if_neg (Hno.out hle)])
        clear Hsn Hno
        go_wp2_with fail
        go_quiet (fail)
        go_wp2
        go_ret
        exact ⟨by rw [He.out]; rfl, below_drewN (Hba.out.trans (Hbw.out.mono (Nat.le_of_lt hla))) _⟩
      · have Hlo2 := Lib.hid (Hsn.out (by omega))
        clear Hsn Hno
        go_wp2_with fail
        go_quiet (fail)
        go_wp2
        go_roundw
        case rel => exact ⟨k + 1, by omega, by omega, by go_num, Hlo2, below_drewN Hbw.out _⟩
        case measure => simp [intOf]; omega
    · have hkn' : ¬ (k : Int) < (n : Int) := by omega
      have hs0 : w.heap.size ≤ wa.heap.size := Nat.le_of_lt hla
      have Hb1 := Lib.hid (Hba.out.trans (Hbw.out.mono hs0))
      have Hres2 : Hid (res = if va then ce else 7) := Lib.hid (by rw [Hres.out, if_pos (asc_of_next fun j h => Hlo.out j h (by have := Hn.out; omega))])
      clear Hres
      cases va with
      | false =>
        have He : Hid (res = 7) := Lib.hid (by rw [Hres2.out]; rfl)
        clear Hres2
        go_wp2_with (first
          | (go_at_call 66
             refine (HCo.out _ Hb1.out).mono ?_
             rintro e w2 ⟨rfl, hb2⟩
             have Hb2 := Lib.hid (Hb1.out.trans (hb2.mono (by omega)))
             clear hb2)
          | fail)
        go_ret
        exact ⟨by rw [He.out]; rfl, Hb2.out⟩
      | true =>
        have He : Hid (res = ce) := Lib.hid (by rw [Hres2.out]; rfl)
        clear Hres2
        go_wp2_with (first
          | (go_at_call 66
             refine (HCo.out _ Hb1.out).mono ?_
             rintro e w2 ⟨rfl, hb2⟩
             have hlr : w.heap.size < wr.heap.size := by omega
             have a22 := (hb2.cell (p := ⟨w.heap.size, 2, none⟩) hlr).trans a2
             have Hb2 := Lib.hid (Hb1.out.trans (hb2.mono (by omega)))
             have hs2 := Hb2.out.size
             clear hb2)
          | (go_at_call 102
             refine (HCk.out _ Hb2.out).mono ?_
             rintro e w3 ⟨rfl, hb3⟩)
          | fail)
        go_ret
        exact ⟨by rw [He.out]; rfl, Hb2.out.trans (hb3.mono hs2)⟩

/-- Parcels, schemes and a catalogue, where they lie. -/
structure PcW (w : World) (NA : Option Addr) (n kc : Nat) (N : List Int) (RA : Option Addr) (n2 rc : Nat) (R : RL) (CA : Option Addr) (m cc : Nat) (C : List Cp) : Prop where
  hN : SlI w NA n kc N
  hR : SlG w RA n2 rc R
  hC : SlC w CA m cc C
  hc : cropsF C
theorem PcW.below {w w' : World} {NA RA CA : Option Addr} {n n2 kc rc m cc : Nat} {N : List Int} {R : RL} {C : List Cp} (h : PcW w NA n kc N RA n2 rc R CA m cc C) (hb : Below w.heap.size w w') : PcW w' NA n kc N RA n2 rc R CA m cc C := ⟨h.hN.below hb, h.hR.below hb, h.hC.below hb, h.hc⟩

set_option maxHeartbeats 8000000 in
set_option maxRecDepth 100000 in
theorem plineG_any (NA : Option Addr) (n kc : Nat) (N : List Int) (RA : Option Addr) (n2 rc : Nat) (R : RL) (CA : Option Addr) (m cc : Nat) (C : List Cp) (mask : Int) (x : Ln) (v : LV) (w : World) (hP : PcW w NA n kc N RA n2 rc R CA m cc C) (hx : SlR w v.a x.rg.length v.c x.rg) :
    Calls Tryz.prog 48 #[.agg #[.slice NA n kc, .slice RA n2 rc, .slice CA m cc, .int .i64 mask], .agg #[.int .i64 x.pc, .slice v.a x.rg.length v.c, .int .i64 x.cr, .int .i64 x.sch]] w fun e w' => e = .returned (.int .i64 (checkP N (rgs R) C mask x)) ∧ Below w.heap.size w w' := by
  have HP := Lib.hid hP
  have HX := Lib.hid hx
  have HCk := Lib.hid (fun W (hW : Below w.heap.size w W) => pcheckG_any NA n kc N RA n2 rc R CA m cc C mask W (hP.hN.below hW) (hP.hR.below hW) (hP.hC.below hW) hP.hc)
  have HVa := Lib.hid (fun W (hW : Below w.heap.size w W) => valid_any v.a x.rg.length v.c x.rg W (hx.below hW))
  have Hres : Hid (checkP N (rgs R) C mask x = if givenP N (rgs R) C = 0 then lineP N (rgs R) C.length mask x else givenP N (rgs R) C) := Lib.hid rfl
  have Has : Hid (givenP N (rgs R) C = 0 → N.length = (rgs R).length ∧ N.length ≤ 60 ∧ N.Pairwise (· < ·)) := Lib.hid given_asc
  rw [hP.hC.len] at Hres
  generalize checkP N (rgs R) C mask x = res at *
  generalize givenP N (rgs R) C = gv at *
  obtain ⟨pc, rg, cr, sch⟩ := x
  dsimp only at *
  clear hP hx
  go_enter Tryz.func48, Tryz.ntmps48
  go_upto_region 1 with fail
  obtain ⟨wa, hwa⟩ : ∃ wa : World, wa = (w.alloc (.cells #[.slice NA n kc, .slice RA n2 rc, .slice CA m cc, .int .i64 mask] 77)).alloc (.cells #[.int .i64 pc, .slice v.a rg.length v.c, .int .i64 cr, .int .i64 sch] 38) := ⟨_, rfl⟩
  rw [← hwa]
  have HG : Hid (wa.heap[w.heap.size]? = some (.cells #[.slice NA n kc, .slice RA n2 rc, .slice CA m cc, .int .i64 mask] 77 (0, 0))) := Lib.hid (by rw [hwa]; exact (Below.heap_alloc _ _ _ (by simp)).trans (heap_alloc_new w _))
  have HE : Hid (wa.heap[w.heap.size + 1]? = some (.cells #[.int .i64 pc, .slice v.a rg.length v.c, .int .i64 cr, .int .i64 sch] 38 (0, 0))) := Lib.hid (by rw [hwa]; have hzz := heap_alloc_new (w.alloc (.cells #[.slice NA n kc, .slice RA n2 rc, .slice CA m cc, .int .i64 mask] 77)) (.cells #[.int .i64 pc, .slice v.a rg.length v.c, .int .i64 cr, .int .i64 sch] 38); rw [World.size_alloc] at hzz; exact hzz)
  have Hba : Hid (Below w.heap.size w wa) := Lib.hid (by rw [hwa]; exact (by repeat' (first | with_reducible exact Below.refl _ _ | with_reducible refine below_drewN ?_ _ | with_reducible refine Below.drew ?_ | with_reducible refine Below.alloc ?_ ?_ _ | with_reducible refine Below.setCell ?_ ?_ _ | with_reducible refine Below.trans ?_ (Below.mono (by with_reducible assumption) ?_) | (simp; done) | (simp; omega) | omega)))
  have hlE : w.heap.size + 1 < wa.heap.size := by rw [hwa]; simp
  clear hwa
  obtain ⟨E, hE⟩ : ∃ E, w.heap.size + 1 = E := ⟨_, rfl⟩
  rw [hE] at HE hlE ⊢
  have hGE : w.heap.size < E := by omega
  clear hE
  have a0 := cell_of_row wa w.heap.size 0 _ _ _ HG.out
  have a1 := cell_of_row wa w.heap.size 1 _ _ _ HG.out
  have a2 := cell_of_row wa w.heap.size 2 _ _ _ HG.out
  have a3 := cell_of_row wa w.heap.size 3 _ _ _ HG.out
  by_cases hg0 : gv = 0
  case neg =>
    have He : Hid (res = gv) := Lib.hid (by rw [Hres.out, if_neg hg0])
    clear Hres
    go_wp2_with (first | (go_at_call 76; refine (HCk.out _ Hba.out).mono ?_; rintro e w1 ⟨rfl, hb1⟩; have Hb1 := Lib.hid (Hba.out.trans (hb1.mono (by omega))); clear hb1) | fail)
    go_ret
    exact ⟨by rw [He.out]; rfl, Hb1.out⟩
  subst hg0
  rw [if_pos rfl] at Hres
  have hlen := (Has.out rfl).1
  have hn60 : n ≤ 60 := by have h1 := (Has.out rfl).2.1; have h2 := HP.out.hN.len; omega
  have Hp := Lib.hid (Has.out rfl).2.2
  have HSe := Lib.hid (fun W (hW : Below w.heap.size w W) => search_any NA n kc N pc W (HP.out.hN.below hW) (by omega) Hp.out)
  have Hlen := Lib.hid hlen
  clear hlen Has
  go_wp2_with fail
  refine (HCk.out _ Hba.out).mono ?_
  rintro e w1 ⟨rfl, hb1⟩
  have hG1 := (hb1.block _ (by omega)).trans HG.out
  have hE1 := (hb1.block _ hlE).trans HE.out
  have Hb1 := Lib.hid (Hba.out.trans (hb1.mono (by omega)))
  have hs1 := hb1.size
  have HG1 := Lib.hid hG1
  have HE1 := Lib.hid hE1
  clear a0 a1 a2 a3 hb1 hG1 hE1 HG HE
  have a0 := cell_of_row w1 w.heap.size 0 _ _ _ HG1.out
  have a1 := cell_of_row w1 w.heap.size 1 _ _ _ HG1.out
  have a2 := cell_of_row w1 w.heap.size 2 _ _ _ HG1.out
  have a3 := cell_of_row w1 w.heap.size 3 _ _ _ HG1.out
  have e0 := cell_of_row w1 E 0 _ _ _ HE1.out
  have e1 := cell_of_row w1 E 1 _ _ _ HE1.out
  have e2 := cell_of_row w1 E 2 _ _ _ HE1.out
  have e3 := cell_of_row w1 E 3 _ _ _ HE1.out
  have hlE1 : E < w1.heap.size := by omega
  go_wp2_with fail
  refine (HSe.out _ Hb1.out).mono ?_
  rintro e w' ⟨⟨i, b, rfl, hfd⟩, rfl⟩
  have Hfd := Lib.hid hfd
  clear hfd
  cases b with
  | false =>
    have He : Hid (res = 10) := Lib.hid (by rw [Hres.out]; unfold lineP; rw [if_neg (Hfd.out.2.2 rfl)])
    clear Hres
    go_wp2
    go_ret
    exact ⟨by rw [He.out]; rfl, Hb1.out⟩
  | true =>
    have hat := Hfd.out.2.1 rfl
    have hmem : pc ∈ N := List.mem_of_getElem? hat
    have hiR : i < R.length := by
      have h1 := (List.getElem?_eq_some_iff.1 hat).1
      have h2 := Hlen.out
      rw [rgs_len] at h2
      omega
    have hin : (i : Int) < (n2 : Int) := by have := HP.out.hR.len; omega
    have hin2 : i < n2 := by omega
    have Hres2 : Hid (res = linP R[i].1 m mask ⟨pc, rg, cr, sch⟩) := Lib.hid (by
      rw [Hres.out]
      unfold lineP
      rw [if_pos hmem, idx_asc Hp.out hat]
      congr 1
      rw [List.getD_eq_getElem?_getD, List.getElem?_eq_getElem (by rw [rgs_len]; exact hiR)]
      simp [rgs])
    clear Hres
    unfold linP at Hres2
    dsimp only at Hres2
    by_cases hrl : rg.length = 0
    · have hrl' : (rg.length : Int) = 0 := by omega
      have He : Hid (res = 7) := Lib.hid (by rw [Hres2.out, if_pos (.inl hrl)])
      clear Hres2
      go_wp2
      go_ret
      exact ⟨by rw [He.out]; rfl, Hb1.out⟩
    have hrl' : ¬ (rg.length : Int) = 0 := by omega
    obtain ⟨br, off, rfl, hbr, cR, hSR⟩ := (HP.out.hR.below Hb1.out).at i hiR
    have HSR := Lib.hid hSR
    have HW := Lib.hid (fun W (hW : Below w1.heap.size w1 W) => within_any v.a R[i].2.a rg.length v.c R[i].1.length R[i].2.c rg R[i].1 W ((HX.out.below Hb1.out).below hW) (HSR.out.below hW))
    have HVb := Lib.hid (fun W (hW : Below w1.heap.size w1 W) => HVa.out W (Hb1.out.trans (hW.mono (by omega))))
    obtain ⟨rp, hrp⟩ : ∃ rp, R[i] = rp := ⟨_, rfl⟩
    rw [hrp] at cR HW Hres2
    clear hrp hSR HSR hmem hat HVa
    generalize withinP rg rp.1 = wi at *
    cases hva : validP rg with
    | false =>
      have He : Hid (res = 7) := Lib.hid (by rw [Hres2.out, if_pos (.inr hva)])
      rw [hva] at HVb
      clear Hres2 hva
      go_wp2_with (first
        | (go_at_call 68
           refine (HVb.out _ (Below.refl _ _)).mono ?_
           rintro e w2 ⟨rfl, hb2⟩
           have Hb2 := Lib.hid (Hb1.out.trans (hb2.mono (by omega)))
           clear hb2)
        | fail)
      go_ret
      exact ⟨by rw [He.out]; rfl, Hb2.out⟩
    | true =>
      rw [hva] at HVb
      rw [if_neg (by rw [hva]; simp [hrl])] at Hres2
      clear hva
      go_upto_region 9 with (first
        | (go_at_call 68
           refine (HVb.out _ (Below.refl _ _)).mono ?_
           rintro e w2 ⟨rfl, hb2⟩
           have HG2 := Lib.hid ((hb2.block _ (by omega)).trans HG1.out)
           have HE2 := Lib.hid ((hb2.block _ hlE1).trans HE1.out)
           have cR2 := (hb2.cell (p := ⟨br, off + i, none⟩) hbr).trans cR
           have Hb2 := Lib.hid hb2
           have hs2 := hb2.size
           clear hb2)
        | fail)
      clear a0 a1 a2 a3 e0 e1 e2 e3 cR
      have a1 : w2.drew.cell? ⟨w.heap.size, 1, none⟩ = _ := cell_of_row w2 w.heap.size 1 _ _ _ HG2.out
      have e1 : w2.drew.cell? ⟨E, 1, none⟩ = _ := cell_of_row w2 E 1 _ _ _ HE2.out
      have cR3 : w2.drew.cell? ⟨br, off + i, none⟩ = some (.slice rp.2.a rp.1.length rp.2.c) := cR2
      clear cR2
      go_region_held3 (fun w' => w'.cell? ⟨w.heap.size, 1, none⟩ = some (.slice (some ⟨br, off, none⟩) n2 rc) ∧ w'.cell? ⟨E, 1, none⟩ = some (.slice v.a rg.length v.c) ∧ w'.cell? ⟨br, off + i, none⟩ = some (.slice rp.2.a rp.1.length rp.2.c)) (first | with_reducible exact ⟨a1, e1, cR3⟩ | go_keep | ((repeat' apply And.intro) <;> go_keep))
        (first
          | (go_at_call 78
             refine (HW.out _ (Below.drew Hb2.out)).mono ?_
             rintro e w3 ⟨rfl, hb3⟩
             have hb3' : Below w2.heap.size w2 w3 := (have hbq := hb3; (by repeat' (first | with_reducible exact Below.refl _ _ | with_reducible assumption | with_reducible refine below_drewN ?_ _ | with_reducible refine Below.drew ?_ | with_reducible refine Below.alloc ?_ ?_ _ | with_reducible refine Below.setCell ?_ ?_ _ | with_reducible refine Below.trans ?_ (Below.mono (by with_reducible assumption) ?_) | with_reducible refine below_only ?_ (by with_reducible assumption) ?_ ?_ | (simp; done) | (simp; omega) | omega)))
             have HG3 := Lib.hid ((hb3'.block _ (by omega)).trans HG2.out)
             have HE3 := Lib.hid ((hb3'.block _ (by omega)).trans HE2.out)
             have a13 := cell_of_row w3 w.heap.size 1 _ _ _ HG3.out
             have e13 := cell_of_row w3 E 1 _ _ _ HE3.out
             have cR4 := (hb3'.cell (p := ⟨br, off + i, none⟩) (by show br < w2.heap.size; omega)).trans cR3
             have Hb3 := Lib.hid (Hb2.out.trans (hb3'.mono hs2))
             clear hb3 hb3')
          | fail)
      clear a1 e1 cR3 a13 e13 cR4
      have a2 := cell_of_row w3 w.heap.size 2 _ _ _ HG3.out
      have a3 := cell_of_row w3 w.heap.size 3 _ _ _ HG3.out
      have e2 := cell_of_row w3 E 2 _ _ _ HE3.out
      have e3 := cell_of_row w3 E 3 _ _ _ HE3.out
      have Hbe : Hid (Below w.heap.size w w3) := Lib.hid (Hb1.out.trans (Hb3.out.mono (by omega)))
      cases wi with
      | false =>
        have He : Hid (res = 12) := Lib.hid (by rw [Hres2.out, if_pos rfl])
        clear Hres2
        go_wp2
        go_ret
        exact ⟨by rw [He.out]; rfl, Hbe.out⟩
      | true =>
        rw [if_neg (by simp)] at Hres2
        by_cases hcr0 : cr < 0
        · have He : Hid (res = 13) := Lib.hid (by rw [Hres2.out, if_pos (.inl hcr0)])
          clear Hres2
          go_wp2
          go_ret
          exact ⟨by rw [He.out]; rfl, Hbe.out⟩
        by_cases hcrm : (m : Int) ≤ cr
        · have He : Hid (res = 13) := Lib.hid (by rw [Hres2.out, if_pos (.inr hcrm)])
          clear Hres2
          go_wp2
          go_ret
          exact ⟨by rw [He.out]; rfl, Hbe.out⟩
        rw [if_neg (by omega)] at Hres2
        by_cases hs0 : sch = 0
        · have He : Hid (res = 17) := Lib.hid (by rw [Hres2.out, if_pos (.inl hs0)])
          clear Hres2
          subst hs0
          go_wp2
          go_ret
          exact ⟨by rw [He.out]; rfl, Hbe.out⟩
        by_cases hsm : bits BinOp.andNot IntKind.i64 sch mask = 0
        · have He : Hid (res = 0) := Lib.hid (by rw [Hres2.out, if_neg (by simp [hs0, hsm])])
          clear Hres2
          go_wp2
          go_ret
          exact ⟨by rw [He.out]; rfl, Hbe.out⟩
        · have He : Hid (res = 17) := Lib.hid (by rw [Hres2.out, if_pos (.inr hsm)])
          clear Hres2
          go_wp2
          go_ret
          exact ⟨by rw [He.out]; rfl, Hbe.out⟩

set_option maxHeartbeats 2000000 in
set_option maxRecDepth 100000 in
theorem checkG_any (NA : Option Addr) (n kc : Nat) (N : List Int) (RA : Option Addr) (n2 rc : Nat) (R : RL) (CA : Option Addr) (m cc : Nat) (C : List Cp) (mask : Int) (x : Ln) (v : LV) (w : World) (hP : PcW w NA n kc N RA n2 rc R CA m cc C) (hx : SlR w v.a x.rg.length v.c x.rg) :
    Calls Tryz.prog 29 #[.agg #[.int .i64 x.pc, .slice v.a x.rg.length v.c, .int .i64 x.cr, .int .i64 x.sch], .slice NA n kc, .slice RA n2 rc, .slice CA m cc, .int .i64 mask] w fun e w' => e = .returned (.int .i64 (checkP N (rgs R) C mask x)) ∧ Below w.heap.size w w' := by
  have HL := Lib.hid (fun W (hW : Below w.heap.size w W) => plineG_any NA n kc N RA n2 rc R CA m cc C mask x v W (hP.below hW) (hx.below hW))
  generalize checkP N (rgs R) C mask x = res at *
  obtain ⟨pc, rg, cr, sch⟩ := x
  dsimp only at *
  clear hP hx
  go_enter Tryz.func29, Tryz.ntmps29
  go_wp2_with fail
  refine (HL.out _ (by repeat' (first | with_reducible exact Below.refl _ _ | with_reducible refine below_drewN ?_ _ | with_reducible refine Below.drew ?_ | with_reducible refine Below.alloc ?_ ?_ _ | with_reducible refine Below.setCell ?_ ?_ _ | with_reducible refine Below.trans ?_ (Below.mono (by with_reducible assumption) ?_) | (simp; done) | (simp; omega) | omega))).mono ?_
  rintro e w1 ⟨rfl, hb1⟩
  go_wp2
  go_ret
  exact ⟨rfl, (by repeat' (first | with_reducible exact Below.refl _ _ | with_reducible assumption | with_reducible refine below_drewN ?_ _ | with_reducible refine Below.drew ?_ | with_reducible refine Below.alloc ?_ ?_ _ | with_reducible refine Below.setCell ?_ ?_ _ | with_reducible refine Below.trans ?_ (Below.mono (by with_reducible assumption) ?_) | with_reducible refine below_only ?_ (by with_reducible assumption) ?_ ?_ | (simp; done) | (simp; omega) | omega))⟩

/-- What is wrong with a line among those ahead of it. -/
def badAt (chk : Ln → Int) (L : List Ln) (i : Nat) : Int := match L[i]? with
  | none => 0
  | some x => if chk x = 0 then (if (L.take i).any (fun y => meetsP x.rg y.rg) then 11 else 0) else chk x
def allF (bad : Nat → Int) : Nat → Nat → Int × Int
  | 0, _ => (-1, 0)
  | d + 1, k => if bad k = 0 then allF bad d (k + 1) else ((k : Int), bad k)
/-- The first line with an error, and it. -/
def allP (chk : Ln → Int) (L : List Ln) : Int × Int := if 20 < L.length then (0, 1) else allF (badAt chk L) L.length 0
theorem badAt_ll (chk : Ln → Int) (l : LL) (k : Nat) (hk : k < l.length) : badAt chk (lns l) k = if chk l[k].1 = 0 then (if (l.take k).any (fun y => meetsP l[k].1.rg y.1.rg) then 11 else 0) else chk l[k].1 := by
  unfold badAt
  rw [show (lns l)[k]? = some l[k].1 from by simp [lns, hk]]
  simp only [lns, ← List.map_take, List.any_map]
  rfl
theorem allF_step (bad : Nat → Int) {n k : Nat} (h : k < n) : allF bad (n - k) k = if bad k = 0 then allF bad (n - (k + 1)) (k + 1) else ((k : Int), bad k) := by
  obtain ⟨d, hd⟩ : ∃ d, n - k = d + 1 := ⟨n - k - 1, by omega⟩
  rw [hd, show n - (k + 1) = d by omega]
  rfl

set_option maxHeartbeats 8000000 in
set_option maxRecDepth 100000 in
theorem allG_any (LA : Option Addr) (n lc : Nat) (l : LL) (NA : Option Addr) (n1 kc : Nat) (N : List Int) (RA : Option Addr) (n2 rc : Nat) (R : RL) (CA : Option Addr) (q cc : Nat) (C : List Cp) (mask : Int) (w : World) (hL : SlL w LA n lc l) (hP : PcW w NA n1 kc N RA n2 rc R CA q cc C) :
    Calls Tryz.prog 19 #[.slice LA n lc, .slice NA n1 kc, .slice RA n2 rc, .slice CA q cc, .int .i64 mask] w fun e w' => e = .returned (.tuple #[.int .i64 (allP (checkP N (rgs R) C mask) (lns l)).1, .int .i64 (allP (checkP N (rgs R) C mask) (lns l)).2]) ∧ Below w.heap.size w w' := by
  have hlen := hL.len
  have HL := Lib.hid hL
  have HP := Lib.hid hP
  have Hres : Hid (allP (checkP N (rgs R) C mask) (lns l) = if 20 < (lns l).length then (0, 1) else allF (badAt (checkP N (rgs R) C mask) (lns l)) (lns l).length 0) := Lib.hid rfl
  rw [lns_len, hlen] at Hres
  have Hbad := Lib.hid (badAt_ll (checkP N (rgs R) C mask) l)
  have Hstep := Lib.hid (fun (k : Nat) (h : k < n) => allF_step (badAt (checkP N (rgs R) C mask) (lns l)) h)
  generalize badAt (checkP N (rgs R) C mask) (lns l) = bad at *
  generalize allP (checkP N (rgs R) C mask) (lns l) = res at *
  have eg : ∀ args w, (callFunc 50 args).run Tryz.prog w = .ok (.enter 50 args) w := enters_of Tryz.func50 (by kernel_rfl) rfl
  have Eg := Lib.hid eg
  have Hlen := Lib.hid hlen
  clear hL hP eg hlen
  go_enter Tryz.func19, Tryz.ntmps19
  by_cases hbig : 20 < n
  · have hbig' : (20 : Int) < (n : Int) := by omega
    have He : Hid (res = (0, 1)) := Lib.hid (by rw [Hres.out, if_pos hbig])
    clear Hres
    go_wp2
    refine bodyPost_ret (v := .tuple #[.int .i64 0, .int .i64 1]) (by simp [results, Tryz.results19, go_sem, *]) rfl ?_
    exact ⟨by rw [He.out], Below.refl _ _⟩
  have hbig' : ¬ (20 : Int) < (n : Int) := by omega
  rw [if_neg hbig] at Hres
  go_upto_region 4 with fail
  obtain ⟨wa, hwa⟩ : ∃ wa : World, wa = w.alloc (.cells #[.slice NA n1 kc, .slice RA n2 rc, .slice CA q cc, .int .i64 mask] 77) := ⟨_, rfl⟩
  rw [← hwa]
  have HB : Hid (wa.heap[w.heap.size]? = some (.cells #[.slice NA n1 kc, .slice RA n2 rc, .slice CA q cc, .int .i64 mask] 77 (0, 0))) := Lib.hid (by rw [hwa]; exact heap_alloc_new w _)
  have Hba : Hid (Below w.heap.size w wa) := Lib.hid (by rw [hwa]; exact (by repeat' (first | with_reducible exact Below.refl _ _ | with_reducible refine below_drewN ?_ _ | with_reducible refine Below.drew ?_ | with_reducible refine Below.alloc ?_ ?_ _ | with_reducible refine Below.setCell ?_ ?_ _ | with_reducible refine Below.trans ?_ (Below.mono (by with_reducible assumption) ?_) | (simp; done) | (simp; omega) | omega)))
  have hla : w.heap.size < wa.heap.size := by rw [hwa]; simp
  obtain ⟨P, hPe⟩ : ∃ P, w.heap.size = P := ⟨_, rfl⟩
  have HLa := Lib.hid (HL.out.below Hba.out)
  have HPa := Lib.hid (HP.out.below Hba.out)
  have Hba0 := Lib.hid Hba.out
  have hla0 : w.heap.size ≤ wa.heap.size := Nat.le_of_lt hla
  rw [hPe] at HB hla ⊢
  clear hwa hPe HL HP Hba
  go_wp2_with fail
  go_loopw [13, 15, 26] (fun _ _ iv wr => ∃ k : Nat, k ≤ n ∧ iv = .int .i64 (k : Int) ∧ Hid (res = allF bad (n - k) k) ∧ Below wa.heap.size wa wr) (fun _ _ iv _ => n - (intOf iv).toNat)
  case atStart => exact ⟨0, Nat.zero_le _, rfl, Lib.hid Hres.out, Below.refl _ _⟩
  case round =>
    obtain ⟨k, hk, rfl, Hre, hbw⟩ := hrel
    have Hbw := Lib.hid hbw
    have hsw := hbw.size
    have HBr := Lib.hid ((hbw.block _ hla).trans HB.out)
    clear hbw
    by_cases hkn : k < n
    · have hkn' : (k : Int) < (n : Int) := by omega
      have hkl : k < l.length := by have := Hlen.out; omega
      have Hbk := Lib.hid (Hbad.out k hkl)
      have Hre2 : Hid (res = if bad k = 0 then allF bad (n - (k + 1)) (k + 1) else ((k : Int), bad k)) := Lib.hid (by rw [Hre.out, Hstep.out k hkn])
      clear Hre
      have HTk := Lib.hid ((HLa.out.below Hbw.out).take hk)
      obtain ⟨b2, o2, hA2, hb2, g0, g1, g2, g3, hS⟩ := (HLa.out.below Hbw.out).at k hkl
      have HS := Lib.hid hS
      clear hS
      generalize l[k] = y at *
      obtain ⟨⟨ypc, yrg, ycr, ysch⟩, ⟨ya, yc⟩⟩ := y
      dsimp only at *
      generalize l.take k = lk at *
      generalize bad k = bk at *
      subst hA2
      have hrow := heap_alloc_new wr (.cells #[.int .i64 ypc, .slice ya yrg.length yc, .int .i64 ycr, .int .i64 ysch] 38)
      have Hb6 : Hid (Below wr.heap.size wr (wr.alloc (.cells #[.int .i64 ypc, .slice ya yrg.length yc, .int .i64 ycr, .int .i64 ysch] 38))) := Lib.hid (by repeat' (first | with_reducible exact Below.refl _ _ | with_reducible refine below_drewN ?_ _ | with_reducible refine Below.drew ?_ | with_reducible refine Below.alloc ?_ ?_ _ | with_reducible refine Below.setCell ?_ ?_ _ | with_reducible refine Below.trans ?_ (Below.mono (by with_reducible assumption) ?_) | (simp; done) | (simp; omega) | omega))
      have hlb : wr.heap.size < (wr.alloc (.cells #[.int .i64 ypc, .slice ya yrg.length yc, .int .i64 ycr, .int .i64 ysch] 38)).heap.size := by simp
      go_upto_region 7 with fail
      obtain ⟨T, hT⟩ : ∃ T, wr.heap.size = T := ⟨_, rfl⟩
      rw [hT] at hrow hlb ⊢
      generalize wr.alloc (.cells #[.int .i64 ypc, .slice ya yrg.length yc, .int .i64 ycr, .int .i64 ysch] 38) = wb at *
      have t0' := cell_of_row wb T 0 _ _ _ hrow
      have t1' := cell_of_row wb T 1 _ _ _ hrow
      have t2' := cell_of_row wb T 2 _ _ _ hrow
      have t3' := cell_of_row wb T 3 _ _ _ hrow
      have hPr : P < wr.heap.size := by omega
      have hrP := (Hb6.out.block _ hPr).trans HBr.out
      have p0 := cell_of_row wb P 0 _ _ _ hrP
      have p1 := cell_of_row wb P 1 _ _ _ hrP
      have p2 := cell_of_row wb P 2 _ _ _ hrP
      have p3 := cell_of_row wb P 3 _ _ _ hrP
      have Hbab := Lib.hid (Hbw.out.trans (Hb6.out.mono hsw))
      have hsb := Hb6.out.size
      have Hrow := Lib.hid hrow
      have HPl := Lib.hid (plineG_any NA n1 kc N RA n2 rc R CA q cc C mask ⟨ypc, yrg, ycr, ysch⟩ ⟨ya, yc⟩ wb (HPa.out.below Hbab.out) (HS.out.below Hb6.out))
      generalize checkP N (rgs R) C mask ⟨ypc, yrg, ycr, ysch⟩ = ck at *
      clear g0 g1 g2 g3 hrow hrP hT
      by_cases hck : ck = 0
      case neg =>
        have He : Hid (res = ((k : Int), ck)) := Lib.hid (by rw [Hre2.out, Hbk.out, if_neg (by rw [if_neg hck]; exact hck), if_neg hck])
        clear Hre2 Hbk
        go_wp2_with (first | (go_at_call 48; refine HPl.out.mono ?_; rintro e w5 ⟨rfl, hb5⟩; have Hb65 := Lib.hid (Hb6.out.trans (hb5.mono hsb)); clear hb5) | fail)
        refine bodyPost_ret (v := .tuple #[.int .i64 (k : Int), .int .i64 ck]) (by simp [results, Tryz.results19, go_sem, *]) rfl ?_
        exact ⟨by rw [He.out], Hba0.out.trans ((Hbw.out.trans (Hb65.out.mono hsw)).mono hla0)⟩
      subst hck
      rw [if_pos rfl] at Hbk
      go_wp2_with fail
      refine HPl.out.mono ?_
      rintro e w5 ⟨rfl, hb5⟩
      have Hb5 := Lib.hid hb5
      have hs5 := hb5.size
      have t15 := cell_of_row w5 T 1 _ _ _ ((hb5.block _ hlb).trans Hrow.out)
      have hlT5 : T < w5.heap.size := by omega
      have Hb65 := Lib.hid (Hb6.out.trans (hb5.mono hsb))
      have HCo := Lib.hid (containsL_any (fun y => meetsP yrg y.1.rg) 50 #[.pointer (some ⟨T, 0, none⟩)] Eg.out (some ⟨b2, o2, none⟩) k lc lk w5 (HTk.out.below Hb65.out) (meetPred T ⟨ypc, yrg, ycr, ysch⟩ ⟨ya, yc⟩ w5 t15 hlT5 (HS.out.below Hb65.out)))
      clear t0' t1' t2' t3' p0 p1 p2 p3 hb5 HPl
      have hkc : k ≤ lc := HTk.out.cap
      have hkc' : (k : Int) ≤ (lc : Int) := by omega
      have hkc0 : ¬ (k : Int) < 0 := by omega
      generalize lk.any (fun y => meetsP yrg y.1.rg) = an at *
      cases an with
      | false =>
        have Hre3 : Hid (res = allF bad (n - (k + 1)) (k + 1)) := Lib.hid (by rw [Hre2.out, Hbk.out, if_pos (by simp)])
        clear Hre2 Hbk
        go_wp2_with (first | (go_at_call 49; refine HCo.out.mono ?_; rintro e w6 ⟨rfl, hb6⟩) | fail)
        go_roundw
        case rel => exact ⟨k + 1, by omega, by go_num, Hre3, Hbw.out.trans ((Hb65.out.trans (hb6.mono (by omega))).mono hsw)⟩
        case measure => simp [intOf]; omega
      | true =>
        have He : Hid (res = ((k : Int), 11)) := Lib.hid (by rw [Hre2.out, Hbk.out, if_neg (by simp)]; rfl)
        clear Hre2 Hbk
        go_wp2_with (first | (go_at_call 49; refine HCo.out.mono ?_; rintro e w6 ⟨rfl, hb6⟩) | fail)
        refine bodyPost_ret (v := .tuple #[.int .i64 (k : Int), .int .i64 11]) (by simp [results, Tryz.results19, go_sem, *]) rfl ?_
        exact ⟨by rw [He.out], Hba0.out.trans ((Hbw.out.trans ((Hb65.out.trans (hb6.mono (by omega))).mono hsw)).mono hla0)⟩
    · have hkn' : ¬ (k : Int) < (n : Int) := by omega
      have He : Hid (res = (-1, 0)) := Lib.hid (by rw [Hre.out, show n - k = 0 by omega]; rfl)
      go_wp2
      refine bodyPost_ret (v := .tuple #[.int .i64 (-1), .int .i64 0]) (by simp [results, Tryz.results19, go_sem, *]) rfl ?_
      exact ⟨by rw [He.out], Hba0.out.trans (Hbw.out.mono hla0)⟩
end Go.Proofs.YtglanlpjoaholaaGreat

namespace Go.Proofs.YtglanlpjoaholaaGreat
open Go.RowKit
set_option linter.unusedVariables false
set_option linter.unusedSimpArgs false

theorem SegF.starts {V : Type} {f : Int → Option V} {Y : List Int} (hY : ∀ y, f (y - 1) ≠ f y → y ∈ Y) : ∀ {l : List (Sg V)} {c : Int}, SegF f c l → (f (c - 1) ≠ f c ∨ f c = none) → ∃ E : List Int, E.Pairwise (· < ·) ∧ E.length = l.length ∧ ∀ e ∈ E, e ∈ Y ∧ c ≤ e
  | [], c, h, h0 => ⟨[], List.Pairwise.nil, rfl, fun e he => by cases he⟩
  | s :: t, c, h, h0 => by
    obtain ⟨h1, h2, h3, h4, h5, h6⟩ := h
    have hs := h4 s.1 (Int.le_refl _) h2
    have hp : f (s.1 - 1) ≠ f s.1 := by
      by_cases hc : s.1 = c
      · rcases h0 with h0 | h0
        · rw [hc]; exact h0
        · rw [hc, h0] at hs; cases hs
      · rw [h3 (s.1 - 1) (by omega) (by omega), hs]
        exact fun e => by cases e
    have he : f (s.2.1 - 1) ≠ f s.2.1 := by
      rw [h4 (s.2.1 - 1) (by omega) (by omega)]
      exact fun e => h5 e.symm
    obtain ⟨E, e1, e2, e3⟩ := SegF.starts hY h6 (.inl he)
    refine ⟨s.1 :: E, ?_, by simp [e2], fun e hm => ?_⟩
    · rw [List.pairwise_cons]
      exact ⟨fun e hm => by have := (e3 e hm).2; omega, e1⟩
    · rcases List.mem_cons.1 hm with rfl | hm
      · exact ⟨hY _ hp, h1⟩
      · exact ⟨(e3 e hm).1, by have := (e3 e hm).2; omega⟩
theorem segs_starts {V : Type} {f : Int → Option V} {Y : List Int} {l : List (Sg V)} (h : Segs f l) (hY : ∀ y, f (y - 1) ≠ f y → y ∈ Y) : l.length ≤ Y.length := by
  obtain ⟨c, h0, h1⟩ := h
  by_cases hc : f c = none
  · obtain ⟨E, e1, e2, e3⟩ := SegF.starts hY h1 (.inr hc)
    have := sub_len E Y e1 fun e he => (e3 e he).1
    omega
  · obtain ⟨E, e1, e2, e3⟩ := SegF.starts hY h1 (.inl (by rw [h0 (c - 1) (by omega)]; exact fun e => hc e.symm))
    have := sub_len E Y e1 fun e he => (e3 e he).1
    omega
theorem cut_hasY (q : R4) (x : Int) : Cut [q.b, q.t] (fun y => q.has x y) := by
  intro y hy
  by_cases h1 : y = q.b
  · simp [h1]
  by_cases h2 : y = q.t
  · simp [h2]
  exfalso
  apply hy
  have e1 : decide (q.b ≤ y - 1) = decide (q.b ≤ y) := decide_eq_decide.2 (by omega)
  have e2 : decide (y - 1 < q.t) = decide (y < q.t) := decide_eq_decide.2 (by omega)
  unfold R4.has
  dsimp only
  rw [e1, e2]
theorem cut_inLY (x : Int) : ∀ l : List R4, Cut (yEdges l) (fun y => inL l x y)
  | [] => cut_none _
  | q :: t => by
    have e : (fun y => inL (q :: t) x y) = fun y => q.has x y || inL t x y := by funext y; simp [inL]
    rw [e]
    have e2 : yEdges (q :: t) = [q.b, q.t] ++ yEdges t := by simp [yEdges]
    rw [e2]
    exact Cut.how (· || ·) ((cut_hasY q x).mono fun x hx => List.mem_append_left _ hx) ((cut_inLY x t).mono fun x hx => List.mem_append_right _ hx)
/-- A canonical list of squares that change at the cuts X and Y alone. -/
theorem canon_cuts {P : Int → Int → Bool} {R : List R4} (h : Canon P R) {X Y : List Int} (hX : ∀ y, Cut X (fun x => P x y)) (hY : ∀ x, Cut Y (fun y => P x y)) : R.length ≤ Y.length * (X.length / 2) := by
  obtain ⟨row, bs, h1, h2, rfl⟩ := h
  have hr : ∀ y, (row y).length ≤ X.length / 2 := fun y => by have := segs_ends (h1 y) (hX y); omega
  have hb : bs.length ≤ Y.length := segs_starts h2 fun y hne => by
    apply Classical.byContradiction
    intro hn
    apply hne
    have this' : (fun x => opt (P x (y - 1))) = fun x => opt (P x y) := by
      funext x
      congr 1
      apply Classical.byContradiction
      intro hd
      exact hn (hY x y hd)
    have e : row (y - 1) = row y := Segs.uniq (f := fun x => opt (P x y)) (by have := h1 (y - 1); rw [this'] at this; exact this) (h1 y)
    rw [e]
  have hf := flat_len (X.length / 2) bs (fun s hs => by
    have := (h2.mem s.1 s.2.2).2 ⟨s, hs, Int.le_refl _, h2.pos s hs, rfl⟩
    rw [← (nz_some this).1]
    exact hr _)
  exact Nat.le_trans hf (Nat.mul_le_mul_right _ hb)
def chainP (how : Bool → Bool → Bool) (a : List R4) (l : List (List R4)) : List R4 := l.foldl (fun left b => combP how left b) a
theorem chainP_snoc (how : Bool → Bool → Bool) (a : List R4) (l : List (List R4)) (b : List R4) : chainP how a (l ++ [b]) = combP how (chainP how a l) b := by
  unfold chainP
  rw [List.foldl_append]
  rfl
theorem chain_not : ∀ (l : List (List R4)) {P : Int → Int → Bool} {a : List R4}, Canon P a → Canon (fun x y => P x y && !inL l.flatten x y) (chainP notB a l)
  | [], P, a, h => h.congr fun x y => by simp [inL]
  | b :: t, P, a, h => by
    have h1 : Canon (fun x y => P x y && !inL b x y) (combP notB a b) := (comb_canon notB rfl a b).congr fun x y => by rw [h.mem x y]; rfl
    refine (chain_not t h1).congr fun x y => ?_
    rw [List.flatten_cons]
    have : inL (b ++ t.flatten) x y = (inL b x y || inL t.flatten x y) := by simp [inL]
    rw [this]
    cases P x y <;> cases inL b x y <;> simp
theorem chain_or : ∀ (l : List (List R4)) {P : Int → Int → Bool} {a : List R4}, Canon P a → Canon (fun x y => P x y || inL l.flatten x y) (chainP orB a l)
  | [], P, a, h => h.congr fun x y => by simp [inL]
  | b :: t, P, a, h => by
    have h1 : Canon (fun x y => P x y || inL b x y) (combP orB a b) := (comb_canon orB rfl a b).congr fun x y => by rw [h.mem x y]; rfl
    refine (chain_or t h1).congr fun x y => ?_
    rw [List.flatten_cons]
    have : inL (b ++ t.flatten) x y = (inL b x y || inL t.flatten x y) := by simp [inL]
    rw [this]
    cases P x y <;> cases inL b x y <;> simp
theorem canon_own {a : List R4} (ha : ∀ q ∈ a, q.l < q.r) (hc : canonP a = a) : Canon (fun x y => inL a x y) a := by
  have h := comb_canon (fun x y => x || y) rfl a []
  rw [← canonP_comb a ha, hc] at h
  exact h.congr fun x y => by simp [inL]
theorem cut_len (l : List R4) : (xEdges l).length = 2 * l.length ∧ (yEdges l).length = 2 * l.length := by
  refine ⟨?_, yEdges_len l⟩
  unfold xEdges
  induction l with
  | nil => rfl
  | cons a t ih => rw [List.flatMap_cons, List.length_append, ih]; simp; omega
theorem canon_two {P : Int → Int → Bool} {R a b : List R4} (how : Bool → Bool → Bool) (h : Canon P R) (hP : ∀ x y, P x y = how (inL a x y) (inL b x y)) : R.length ≤ (2 * (a.length + b.length)) * (a.length + b.length) := by
  have hX : ∀ y, Cut (xEdges (a ++ b)) (fun x => P x y) := fun y => by
    rw [show (fun x => P x y) = fun x => how (inL a x y) (inL b x y) from by funext x; exact hP x y]
    exact Cut.how how ((cut_inL y a).mono fun x hx => by simp only [xEdges, List.flatMap_append]; exact List.mem_append_left _ hx) ((cut_inL y b).mono fun x hx => by simp only [xEdges, List.flatMap_append]; exact List.mem_append_right _ hx)
  have hY : ∀ x, Cut (yEdges (a ++ b)) (fun y => P x y) := fun x => by
    rw [show (fun y => P x y) = fun y => how (inL a x y) (inL b x y) from by funext y; exact hP x y]
    exact Cut.how how ((cut_inLY x a).mono fun x hx => by simp only [yEdges, List.flatMap_append]; exact List.mem_append_left _ hx) ((cut_inLY x b).mono fun x hx => by simp only [yEdges, List.flatMap_append]; exact List.mem_append_right _ hx)
  have := canon_cuts h hX hY
  rw [(cut_len _).1, (cut_len _).2, List.length_append] at this
  rw [show 2 * (a.length + b.length) / 2 = a.length + b.length by omega] at this
  exact this
/-- The reference's Cover leaves what the program's Choose leaves. -/
theorem chain_cover {a : List R4} {l : List (List R4)} (ha : validP a = true) (hl : l.all validP = true) : chainP notB a l = chooseP notB a l.flatten := by
  obtain ⟨_, h1, h2⟩ := valid_parts ha
  have hp : ∀ q ∈ l.flatten, q.l < q.r := fun q hq => by
    obtain ⟨b, hb, hq⟩ := List.mem_flatten.1 hq
    exact ok_pos (valid_parts (List.all_eq_true.1 hl b hb)).2.1 q hq
  rw [choose_comb notB rfl a l.flatten (ok_pos h1) hp]
  exact (chain_not l (canon_own (ok_pos h1) h2)).uniq ((comb_canon notB rfl a l.flatten).congr fun x y => rfl)
theorem chain_cover_len {a : List R4} {l : List (List R4)} (ha : validP a = true) : (chainP notB a l).length ≤ (2 * (a.length + l.flatten.length)) * (a.length + l.flatten.length) := by
  obtain ⟨_, h1, h2⟩ := valid_parts ha
  exact canon_two notB (chain_not l (canon_own (ok_pos h1) h2)) fun x y => rfl
/-- The reference's union of many. -/
theorem chain_union (l : List (List R4)) (hp : ∀ q ∈ l.flatten, q.l < q.r) : chainP orB [] l = canonP l.flatten := by
  rw [canonP_comb _ hp]
  have h0 : Canon (fun _ _ => false) ([] : List R4) := (canon_own (a := []) (fun q hq => by cases hq) (by rw [canonP_comb _ (fun q hq => by cases hq)]; decide)).congr fun x y => rfl
  exact (chain_or l h0).uniq ((comb_canon (fun x y => x || y) rfl l.flatten []).congr fun x y => by simp [inL])
theorem chain_union_len (l : List (List R4)) : (chainP orB [] l).length ≤ (2 * l.flatten.length) * l.flatten.length := by
  have h0 : Canon (fun _ _ => false) ([] : List R4) := (canon_own (a := []) (fun q hq => by cases hq) (by rw [canonP_comb _ (fun q hq => by cases hq)]; decide)).congr fun x y => rfl
  have := canon_two (a := []) (b := l.flatten) orB (chain_or l h0) fun x y => rfl
  simpa using this

/-- Lines whose squares change at few places. -/
def CutsL (L : List Ln) : Prop := ∃ X Y : List Int, X.length ≤ 150 ∧ Y.length ≤ 150 ∧ (∀ x ∈ L, ∀ y, Cut X fun u => inL x.rg u y) ∧ ∀ x ∈ L, ∀ u, Cut Y fun y => inL x.rg u y
theorem cut_flat {X : List Int} {y : Int} : ∀ (gs : List (List R4)), (∀ g ∈ gs, Cut X fun u => inL g u y) → Cut X fun u => inL gs.flatten u y
  | [], _ => cut_none _
  | g :: t, h => by
    rw [show (fun u => inL (g :: t).flatten u y) = fun u => inL g u y || inL t.flatten u y from by funext u; simp [inL]]
    exact Cut.how (· || ·) (h g (by simp)) (cut_flat t fun q hq => h q (by simp [hq]))
theorem cut_flatY {X : List Int} {x : Int} : ∀ (gs : List (List R4)), (∀ g ∈ gs, Cut X fun y => inL g x y) → Cut X fun y => inL gs.flatten x y
  | [], _ => cut_none _
  | g :: t, h => by
    rw [show (fun y => inL (g :: t).flatten x y) = fun y => inL g x y || inL t.flatten x y from by funext u; simp [inL]]
    exact Cut.how (· || ·) (h g (by simp)) (cut_flatY t fun q hq => h q (by simp [hq]))
/-- The squares of the lines that are chosen. -/
def picks (p : Ln → Bool) (L : List Ln) : List (List R4) := (L.filter p).map Ln.rg
theorem picks_flat (p : Ln → Bool) (L : List Ln) : (picks p L).flatten = rectsP p L := by
  unfold picks rectsP
  rw [List.flatMap_def]
theorem picks_snoc (p : Ln → Bool) (L : List Ln) (x : Ln) : picks p (L ++ [x]) = if p x then picks p L ++ [x.rg] else picks p L := by
  unfold picks
  rw [List.filter_append, List.map_append]
  by_cases h : p x <;> simp [h]
theorem picks_mem {p : Ln → Bool} {L : List Ln} {g : List R4} (h : g ∈ picks p L) : ∃ x ∈ L, x.rg = g := by
  obtain ⟨x, hx, rfl⟩ := List.mem_map.1 h
  exact ⟨x, (List.mem_filter.1 hx).1, rfl⟩
theorem CutsL.sub {L M : List Ln} (h : CutsL L) (hs : ∀ x ∈ M, x ∈ L) : CutsL M := by
  obtain ⟨X, Y, h1, h2, h3, h4⟩ := h
  exact ⟨X, Y, h1, h2, fun x hx => h3 x (hs x hx), fun x hx => h4 x (hs x hx)⟩
/-- A chain of Combine over lines has few rectangles. -/
theorem chain_few {L : List Ln} (hc : CutsL L) (p : Ln → Bool) {a : List R4} (ha : validP a = true) (hl : a.length ≤ 92) : (chainP notB a (picks p L)).length ≤ 60000 := by
  obtain ⟨X, Y, h1, h2, h3, h4⟩ := hc
  obtain ⟨_, k1, k2⟩ := valid_parts ha
  have h := chain_not (picks p L) (canon_own (ok_pos k1) k2)
  have := canon_cuts h (X := xEdges a ++ X) (Y := yEdges a ++ Y) (fun y => Cut.how (fun u v => u && !v) ((cut_inL y a).mono fun x hx => List.mem_append_left _ hx) ((cut_flat (picks p L) fun g hg => by obtain ⟨x, hx, rfl⟩ := picks_mem hg; exact h3 x hx y).mono fun x hx => List.mem_append_right _ hx))
    (fun x => Cut.how (fun u v => u && !v) ((cut_inLY x a).mono fun x hx => List.mem_append_left _ hx) ((cut_flatY (picks p L) fun g hg => by obtain ⟨y, hy, rfl⟩ := picks_mem hg; exact h4 y hy x).mono fun x hx => List.mem_append_right _ hx))
  rw [List.length_append, List.length_append, (cut_len a).1, (cut_len a).2] at this
  have e1 : 2 * a.length + Y.length ≤ 334 := by omega
  have e2 : (2 * a.length + X.length) / 2 ≤ 167 := by omega
  have := Nat.le_trans this (Nat.mul_le_mul e1 e2)
  omega
theorem union_few {L : List Ln} (hc : CutsL L) (p : Ln → Bool) : (chainP orB [] (picks p L)).length ≤ 60000 := by
  obtain ⟨X, Y, h1, h2, h3, h4⟩ := hc
  have h0 : Canon (fun _ _ => false) ([] : List R4) := (canon_own (a := []) (fun q hq => by cases hq) (by rw [canonP_comb _ (fun q hq => by cases hq)]; decide)).congr fun x y => rfl
  have h := chain_or (picks p L) h0
  have := canon_cuts h (X := X) (Y := Y) (fun y => Cut.how (fun u v => u || v) (cut_none _) (cut_flat (picks p L) fun g hg => by obtain ⟨x, hx, rfl⟩ := picks_mem hg; exact h3 x hx y))
    (fun x => Cut.how (fun u v => u || v) (cut_none _) (cut_flatY (picks p L) fun g hg => by obtain ⟨y, hy, rfl⟩ := picks_mem hg; exact h4 y hy x))
  have e2 : X.length / 2 ≤ 75 := by omega
  have := Nat.le_trans this (Nat.mul_le_mul h2 e2)
  omega
theorem picks_valid {L : List Ln} (h : validL L = true) (p : Ln → Bool) : (picks p L).all validP = true := List.all_eq_true.2 fun g hg => by
  obtain ⟨x, hx, rfl⟩ := picks_mem hg
  exact validL_at h hx
/-- The reference's Rest leaves what the program's leaves. -/
theorem rest_chain {L : List Ln} (h : validL L = true) (p : Int) {r : List R4} (hr : validP r = true) : chainP notB r (picks (onP p) L) = chooseP notB r (rectsP (onP p) L) := by
  rw [chain_cover hr (picks_valid h _), picks_flat]
theorem claimed_chain {L : List Ln} (h : validL L = true) (p : Ln → Bool) : chainP orB [] (picks p L) = canonP (rectsP p L) := by
  rw [chain_union _ (fun q hq => rectsP_pos h p q (by rw [← picks_flat]; exact hq)), picks_flat]
theorem cuts_few {L : List Ln} (hl : L.length ≤ 25) (h : ∀ x ∈ L, x.rg.length ≤ 3) : CutsL L := by
  have e1 : ∀ M : List Ln, (∀ x ∈ M, x.rg.length ≤ 3) → (M.flatMap fun x => xEdges x.rg).length ≤ 6 * M.length ∧ (M.flatMap fun x => yEdges x.rg).length ≤ 6 * M.length := fun M => by
    induction M with
    | nil => intro _; simp
    | cons x t ih =>
      intro hM
      have h1 := ih fun y hy => hM y (by simp [hy])
      have h2 := hM x (by simp)
      rw [List.flatMap_cons, List.flatMap_cons, List.length_append, List.length_append, (cut_len _).1, (cut_len _).2, List.length_cons]
      omega
  obtain ⟨h1, h2⟩ := e1 L h
  exact ⟨L.flatMap fun x => xEdges x.rg, L.flatMap fun x => yEdges x.rg, by omega, by omega, fun x hx y => (cut_inL y x.rg).mono fun u hu => List.mem_flatMap.2 ⟨x, hx, hu⟩, fun x hx u => (cut_inLY u x.rg).mono fun v hv => List.mem_flatMap.2 ⟨x, hx, hv⟩⟩
/-- Squares within a grid change at few places. -/
theorem InS.cut {s : Nat} {l : List R4} (h : InS s l) : (∀ y, Cut ((List.range (s + 1)).map fun j : Nat => (j : Int)) fun u => inL l u y) ∧ ∀ u, Cut ((List.range (s + 1)).map fun j : Nat => (j : Int)) fun y => inL l u y := by
  refine ⟨fun y => (cut_inL y l).mono fun u hu => ?_, fun u => (cut_inLY u l).mono fun v hv => ?_⟩
  · obtain ⟨q, hq, hu⟩ := List.mem_flatMap.1 hu
    have := h q hq
    refine List.mem_map.2 ⟨u.toNat, List.mem_range.2 ?_, ?_⟩ <;> (simp at hu; omega)
  · obtain ⟨q, hq, hv⟩ := List.mem_flatMap.1 hv
    have := h q hq
    refine List.mem_map.2 ⟨v.toNat, List.mem_range.2 ?_, ?_⟩ <;> (simp at hv; omega)
/-- Lines of the tape, of which the squares of one may be others. -/
theorem cuts_made {L : List Ln} {b : List R4} (hb : b.length ≤ 20) (h : ∀ x ∈ L, InS 30 x.rg ∨ x.rg = b) : CutsL L := by
  refine ⟨((List.range 31).map fun j : Nat => (j : Int)) ++ xEdges b, ((List.range 31).map fun j : Nat => (j : Int)) ++ yEdges b, ?_, ?_, fun x hx y => ?_, fun x hx u => ?_⟩
  · rw [List.length_append, (cut_len _).1, List.length_map, List.length_range]; omega
  · rw [List.length_append, (cut_len _).2, List.length_map, List.length_range]; omega
  · rcases h x hx with h | h
    · exact ((InS.cut (s := 30) h).1 y).mono fun u hu => List.mem_append_left _ hu
    · rw [h]; exact (cut_inL y b).mono fun u hu => List.mem_append_right _ hu
  · rcases h x hx with h | h
    · exact ((InS.cut (s := 30) h).2 u).mono fun u hu => List.mem_append_left _ hu
    · rw [h]; exact (cut_inLY u b).mono fun u hu => List.mem_append_right _ hu
end Go.Proofs.YtglanlpjoaholaaGreat

namespace Go.Proofs.YtglanlpjoaholaaGreat
open Go.RowKit Go.Shelf
set_option linter.unusedVariables false
set_option linter.unusedSimpArgs false

set_option maxHeartbeats 4000000 in
theorem nameR2_any (s : ByteArray) (w : World) (hs : lettersB s = true) : Calls Tryz.prog 116 #[.string s] w fun e w' => e = .returned (.bool true) ∧ w = w' := by
  obtain ⟨n, hn⟩ : ∃ n, s.size = n := ⟨_, rfl⟩
  have Hn := Lib.hid hn
  have hn12 : 1 ≤ n ∧ n ≤ 12 := by
    unfold lettersB at hs
    simp only [Bool.and_eq_true, decide_eq_true_eq] at hs
    omega
  have h0s : 0 < s.size := by omega
  have h0n : (0 : Int) < (n : Int) := by omega
  have b1 : ¬ (n : Int) < 1 := by omega
  have b2 : ¬ (12 : Int) < (n : Int) := by omega
  obtain ⟨z1, z2⟩ := letter_at hs 0 h0s
  have c1 : ¬ (s[0].toNat : Int) < 97 := by omega
  have c2 : ¬ (122 : Int) < (s[0].toNat : Int) := by omega
  go_enter Tryz.func116, Tryz.ntmps116
  go_upto_region 3 with fail
  go_wp2_with fail
  go_loopw [3] (fun iv wr => ∃ k : Nat, k ≤ n ∧ iv = .int .i64 (k : Int) ∧ wr = w) (fun iv _ => n - (intOf iv).toNat)
  case atStart => exact ⟨0, Nat.zero_le _, rfl, rfl⟩
  case round =>
    obtain ⟨k, hk, rfl, rfl⟩ := hrel
    by_cases hkn : k < n
    · have hkn' : (k : Int) < (n : Int) := by omega
      have hks : k < s.size := by omega
      obtain ⟨h1, h2⟩ := letter_at hs k hks
      have a1 : ¬ (s[k].toNat : Int) < 97 := by omega
      have a2 : ¬ (122 : Int) < (s[k].toNat : Int) := by omega
      go_wp2
      go_roundw
      case rel => exact ⟨k + 1, by omega, by go_num, trivial⟩
      case measure => simp [intOf]; omega
    · have hkn' : ¬ (k : Int) < (n : Int) := by omega
      go_wp2
      go_ret
      exact ⟨rfl, rfl⟩

def oneE (x : Cp) : Int := if famB x then 0 else 2
set_option maxHeartbeats 2000000 in
theorem one12_any (x : Cp) (w : World) (hnm : lettersB x.nm = true) (hmk : 0 ≤ x.mks ∧ x.mks ≤ 31) : Calls Tryz.prog 107 #[.agg #[.string x.nm, .int .i64 x.fam, .int .i64 x.mks]] w fun e w' => e = .returned (.int .i64 (oneE x)) ∧ Below w.heap.size w w' := by
  obtain ⟨nm, fam, mk⟩ := x
  dsimp only at *
  have Hnm := Lib.hid (fun W => nameR2_any nm W hnm)
  have f3 : ¬ mk < 0 := by omega
  have f4 : ¬ 31 < mk := by omega
  obtain ⟨res, hres⟩ : ∃ r, oneE ⟨nm, fam, mk⟩ = r := ⟨_, rfl⟩
  rw [hres]
  have Hres : Hid (res = if famB ⟨nm, fam, mk⟩ then 0 else 2) := Lib.hid hres.symm
  clear hres
  go_enter Tryz.func107, Tryz.ntmps107
  by_cases f1 : fam < 0
  · have He : Hid (res = 2) := Lib.hid (by rw [Hres.out, show famB ⟨nm, fam, mk⟩ = false from by unfold famB; simp; omega]; rfl)
    clear Hres
    go_wp2_with (first | (go_at_call 116; refine (Hnm.out _).mono ?_; rintro e w' ⟨rfl, rfl⟩) | fail)
    go_ret
    exact ⟨by rw [He.out]; rfl, (by repeat' (first | with_reducible exact Below.refl _ _ | with_reducible refine below_drewN ?_ _ | with_reducible refine Below.drew ?_ | with_reducible refine Below.alloc ?_ ?_ _ | with_reducible refine Below.setCell ?_ ?_ _ | with_reducible refine Below.trans ?_ (Below.mono (by with_reducible assumption) ?_) | (simp; done) | (simp; omega) | omega))⟩
  have f1d : decide (fam < 0) = false := decide_eq_false f1
  by_cases f2 : 40 < fam
  · have He : Hid (res = 2) := Lib.hid (by rw [Hres.out, show famB ⟨nm, fam, mk⟩ = false from by unfold famB; simp; omega]; rfl)
    clear Hres
    go_wp2_with (first | (go_at_call 116; refine (Hnm.out _).mono ?_; rintro e w' ⟨rfl, rfl⟩) | fail)
    go_ret
    exact ⟨by rw [He.out]; rfl, (by repeat' (first | with_reducible exact Below.refl _ _ | with_reducible refine below_drewN ?_ _ | with_reducible refine Below.drew ?_ | with_reducible refine Below.alloc ?_ ?_ _ | with_reducible refine Below.setCell ?_ ?_ _ | with_reducible refine Below.trans ?_ (Below.mono (by with_reducible assumption) ?_) | (simp; done) | (simp; omega) | omega))⟩
  · have f2d : decide (40 < fam) = false := decide_eq_false f2
    have He : Hid (res = 0) := Lib.hid (by rw [Hres.out, show famB ⟨nm, fam, mk⟩ = true from by unfold famB; simp; omega]; rfl)
    clear Hres
    go_wp2_with (first | (go_at_call 116; refine (Hnm.out _).mono ?_; rintro e w' ⟨rfl, rfl⟩) | fail)
    go_ret
    exact ⟨by rw [He.out]; rfl, (by repeat' (first | with_reducible exact Below.refl _ _ | with_reducible refine below_drewN ?_ _ | with_reducible refine Below.drew ?_ | with_reducible refine Below.alloc ?_ ?_ _ | with_reducible refine Below.setCell ?_ ?_ _ | with_reducible refine Below.trans ?_ (Below.mono (by with_reducible assumption) ?_) | (simp; done) | (simp; omega) | omega))⟩

set_option maxHeartbeats 4000000 in
set_option maxRecDepth 100000 in
theorem crop12_any (A : Option Addr) (n c : Nat) (l : List Cp) (w : World) (hA : SlC w A n c l) (hok : cropsF l) :
    Calls Tryz.prog 86 #[.slice A n c] w fun e w' => e = .returned (.int .i64 (cropE l)) ∧ Below w.heap.size w w' := by
  have HA := Lib.hid hA
  have Hn := Lib.hid hA.len
  have Hok := Lib.hid hok
  have hn40 : n ≤ 40 := by have := hok.1; have := hA.len; omega
  have Hbad : Hid (∀ i (h : i < l.length), famB l[i] = false → cropE l = 2) := Lib.hid fun i h hx => cropE_bad h hx
  have Hgood : Hid ((∀ i (h : i < l.length), famB l[i] = true) → cropE l = 0) := Lib.hid cropE_ok
  generalize cropE l = res at *
  clear hA hok
  have hbig : ¬ (40 : Int) < (n : Int) := by omega
  go_enter Tryz.func86, Tryz.ntmps86
  go_wp2_with fail
  go_loopw [3, 4, 5, 11] (fun _ _ _ iv wr => ∃ k : Nat, k ≤ n ∧ iv = .int .i64 (k : Int) ∧ Hid (∀ i (h : i < l.length), i < k → famB l[i] = true) ∧ Below w.heap.size w wr) (fun _ _ _ iv _ => n - (intOf iv).toNat)
  case atStart => exact ⟨0, Nat.zero_le _, rfl, Lib.hid (fun i h h1 => by omega), Below.refl _ _⟩
  case round =>
    obtain ⟨k, hk, rfl, Hfs, hbw⟩ := hrel
    have Hbw := Lib.hid hbw
    have hsw := hbw.size
    clear hbw
    by_cases hkn : k < n
    · have hkn' : (k : Int) < (n : Int) := by omega
      have hkl : k < l.length := by have := Hn.out; omega
      obtain ⟨b, off, rfl, hb, c0, c1, c2⟩ := (HA.out.below Hbw.out).at k hkl
      obtain ⟨hnm, hmk⟩ := Hok.out.2.1 l[k] (List.getElem_mem hkl)
      have Hord : Hid (∀ j (hj : j < l.length), k = j + 1 → leqS l[k].nm l[j].nm = false) := Lib.hid (fun j hj e => by subst e; exact Hok.out.2.2 j hkl)
      have Hfk : Hid (famB l[k] = false → res = 2) := Lib.hid (Hbad.out k hkl)
      have Hnx : Hid (famB l[k] = true → ∀ i (h : i < l.length), i < k + 1 → famB l[i] = true) := Lib.hid (fun hf i h hi => by
        rcases Nat.lt_or_ge i k with h1 | h1
        · exact Hfs.out i h h1
        · obtain rfl : i = k := by omega
          exact hf)
      have Hone := Lib.hid (fun W => one12_any l[k] W hnm hmk)
      generalize l[k] = y at *
      have Hon : Hid (oneE y = if famB y then 0 else 2) := Lib.hid rfl
      generalize oneE y = oe at *
      generalize famB y = fb at *
      obtain ⟨nm, fam, mk⟩ := y
      dsimp only at *
      have hrow := heap_alloc_new wr (.cells #[.string nm, .int .i64 fam, .int .i64 mk] 57)
      have Hba : Hid (Below wr.heap.size wr (wr.alloc (.cells #[.string nm, .int .i64 fam, .int .i64 mk] 57))) := Lib.hid (by repeat' (first | with_reducible exact Below.refl _ _ | with_reducible refine below_drewN ?_ _ | with_reducible refine Below.drew ?_ | with_reducible refine Below.alloc ?_ ?_ _ | with_reducible refine Below.setCell ?_ ?_ _ | with_reducible refine Below.trans ?_ (Below.mono (by with_reducible assumption) ?_) | (simp; done) | (simp; omega) | omega))
      have hla : wr.heap.size < (wr.alloc (.cells #[.string nm, .int .i64 fam, .int .i64 mk] 57)).heap.size := by simp
      go_upto_region 6 with fail
      obtain ⟨T, hT⟩ : ∃ T, wr.heap.size = T := ⟨_, rfl⟩
      rw [hT] at hrow hla ⊢
      generalize wr.alloc (.cells #[.string nm, .int .i64 fam, .int .i64 mk] 57) = wa at *
      have Hbwa : Hid (Below w.heap.size w wa) := Lib.hid (Hbw.out.trans (Hba.out.mono hsw))
      have a0 := cell_of_row wa T 0 _ _ _ hrow
      have a1 := cell_of_row wa T 1 _ _ _ hrow
      have a2 := cell_of_row wa T 2 _ _ _ hrow
      have Hrow := Lib.hid hrow
      clear c0 c1 c2 hrow hT hnm hmk
      cases fb with
      | false =>
        have He : Hid (res = 2) := Lib.hid (Hfk.out rfl)
        have hoe : oe = 2 := by rw [Hon.out]; rfl
        subst hoe
        clear Hfk Hnx Hon
        go_wp2_with (first | (go_at_call 107; refine (Hone.out _).mono ?_; rintro e w5 ⟨rfl, hb5⟩; have Hb5 := Lib.hid (Hbwa.out.trans (hb5.mono (by have := Hbwa.out.size; omega))); clear hb5) | fail)
        go_ret
        exact ⟨by rw [He.out]; rfl, Hb5.out⟩
      | true =>
        have hoe : oe = 0 := by rw [Hon.out]; rfl
        subst hoe
        have Hnx2 := Lib.hid (Hnx.out rfl)
        clear Hfk Hnx Hon
        go_upto_region 9 with (first | (go_at_call 107; refine (Hone.out _).mono ?_; rintro e w5 ⟨rfl, hb5⟩; have Hb5 := Lib.hid (Hbwa.out.trans (hb5.mono (by have := Hbwa.out.size; omega))); have Hr5 := Lib.hid ((hb5.block T hla).trans Hrow.out); have hs5 := hb5.size; clear hb5) | fail)
        clear a0 a1 a2
        have a0 := cell_of_row w5 T 0 _ _ _ Hr5.out
        have hT5 : T < w5.heap.size := by omega
        by_cases hk0 : 0 < k
        · have hk0' : (0 : Int) < (k : Int) := by omega
          have hk0d : decide ((0 : Int) < (k : Int)) = true := decide_eq_true hk0'
          obtain ⟨j, hj⟩ : ∃ j, k = j + 1 := ⟨k - 1, by omega⟩
          have hjl : j < l.length := by omega
          obtain ⟨b', off', e', hb', d0, -, -⟩ := (HA.out.below Hb5.out).at j hjl
          injection e' with e'
          injection e' with e1 e2
          subst e1 e2
          have hlq := Hord.out j hjl hj
          generalize l[j].nm = pn at *
          have hwk : IntKind.i64.wrap ((k : Int) - 1) = (j : Int) := by rw [show (k : Int) - 1 = (j : Int) by omega]; exact IntWalk.i64_in _ (by omega)
          have hjn : (j : Int) < (n : Int) := by omega
          have Hj := Lib.hid hj
          clear hj
          unfold leqS at hlq
          go_quiet (fail)
          go_wp2
          go_roundw
          case rel => exact ⟨k + 1, by omega, by go_num, Hnx2, below_drewN Hb5.out _⟩
          case measure => simp [intOf]; omega
        · obtain rfl : k = 0 := by omega
          have hk0d : decide ((0 : Int) < ((0 : Nat) : Int)) = false := rfl
          go_quiet (fail)
          go_wp2
          go_roundw
          case rel => exact ⟨1, by omega, by go_num, Hnx2, below_drewN Hb5.out _⟩
          case measure => simp [intOf]; omega
    · have hkn' : ¬ (k : Int) < (n : Int) := by omega
      have He : Hid (res = 0) := Lib.hid (Hgood.out fun i h => Hfs.out i h (by have := Hn.out; omega))
      go_wp2
      go_ret
      exact ⟨by rw [He.out]; rfl, Hbw.out⟩

set_option maxHeartbeats 4000000 in
set_option maxRecDepth 100000 in
theorem given13_any (NA : Option Addr) (n kc : Nat) (N : List Int) (RA : Option Addr) (n2 rc : Nat) (R : RL) (CA : Option Addr) (m cc : Nat) (C : List Cp) (w : World) (hP : PcW w NA n kc N RA n2 rc R CA m cc C) :
    Calls Tryz.prog 57 #[.slice NA n kc, .slice RA n2 rc, .slice CA m cc] w fun e w' => e = .returned (.int .i64 (givenP N (rgs R) C)) ∧ Below w.heap.size w w' := by
  have HN := Lib.hid hP.hN
  have HR := Lib.hid hP.hR
  have Hn := Lib.hid hP.hN.len
  have Hn2 : Hid ((rgs R).length = n2) := Lib.hid (by rw [rgs_len]; exact hP.hR.len)
  have HCk := Lib.hid (fun W (hW : Below w.heap.size w W) => crop12_any CA m cc C W (hP.hC.below hW) hP.hc)
  have Hres : Hid (givenP N (rgs R) C = if N.length = (rgs R).length ∧ N.length ≤ 60 then (if N.Pairwise (· < ·) then (if (rgs R).all validP then cropE C else 7) else 3) else 3) := Lib.hid rfl
  rw [Hn.out, Hn2.out] at Hres
  generalize givenP N (rgs R) C = res at *
  generalize cropE C = ce at *
  clear hP
  go_enter Tryz.func57, Tryz.ntmps57
  by_cases hne : n = n2
  case neg =>
    have hne' : ¬ (n : Int) = (n2 : Int) := by omega
    have hned : decide (n = n2) = false := decide_eq_false hne
    have He : Hid (res = 3) := Lib.hid (by rw [Hres.out, if_neg (fun h => hne h.1)])
    clear Hres
    go_wp2
    go_ret
    exact ⟨by rw [He.out]; rfl, Below.refl _ _⟩
  subst hne
  by_cases hbig : 60 < n
  · have hbig' : (60 : Int) < (n : Int) := by omega
    have He : Hid (res = 3) := Lib.hid (by rw [Hres.out, if_neg (by omega)])
    clear Hres
    go_wp2
    go_ret
    exact ⟨by rw [He.out]; rfl, Below.refl _ _⟩
  have hn60 : ¬ (60 : Int) < (n : Int) := by omega
  rw [if_pos ⟨rfl, by omega⟩] at Hres
  go_upto_region 3 with fail
  go_wp2_with fail
  go_loopw [7] (fun iv wr => ∃ k : Nat, 1 ≤ k ∧ (k ≤ n ∨ k = 1) ∧ iv = .int .i64 (k : Int) ∧ Hid (∀ j (h : j + 1 < N.length), j + 1 < k → N[j] < N[j + 1]) ∧ Below w.heap.size w wr) (fun iv _ => n - (intOf iv).toNat)
  case atStart => exact ⟨1, Nat.le_refl _, .inr rfl, rfl, Lib.hid (fun j h h1 => by omega), Below.refl _ _⟩
  case round =>
    obtain ⟨k, hk1, hk, rfl, Hlo, hbw⟩ := hrel
    have Hbw := Lib.hid hbw
    have hsw := hbw.size
    clear hbw
    by_cases hkn : k < n
    · have hkn' : (k : Int) < (n : Int) := by omega
      have hkl : k < N.length := by have := Hn.out; omega
      obtain ⟨j, hj⟩ : ∃ j, k = j + 1 := ⟨k - 1, by omega⟩
      have hjl : j < N.length := by omega
      obtain ⟨b, off, rfl, hb, c0⟩ := (HN.out.below Hbw.out).at k hkl
      obtain ⟨b', off', e', -, c1⟩ := (HN.out.below Hbw.out).at j hjl
      injection e' with e'
      injection e' with e1 e2
      subst e1 e2
      have Hsn : Hid (N[j] < N[k] → ∀ i (h : i + 1 < N.length), i + 1 < k + 1 → N[i] < N[i + 1]) := Lib.hid (fun hl i h hi => by
        rcases Nat.lt_or_ge (i + 1) k with h1 | h1
        · exact Hlo.out i h h1
        · obtain rfl : i = j := by omega
          subst hj
          exact hl)
      have Hno : Hid (N[k] ≤ N[j] → ¬ N.Pairwise (· < ·)) := Lib.hid (fun hl hp => by
        have := List.pairwise_iff_getElem.1 hp j k hjl hkl (by omega)
        omega)
      generalize N[k] = y at *
      generalize N[j] = z at *
      have hwk : IntKind.i64.wrap ((k : Int) - 1) = (j : Int) := by rw [show (k : Int) - 1 = (j : Int) by omega]; exact IntWalk.i64_in _ (by omega)
      have hjn : (j : Int) < (n : Int) := by omega
      have Hj := Lib.hid hj
      have hbw0 : b < wr.heap.size := hb
      clear hj
      by_cases hle : y ≤ z
      · have He : Hid (res = 3) := Lib.hid (by rw [Hres.out, if_neg (Hno.out hle)])
        clear Hsn Hno
        go_wp2_with fail
        go_quiet (fail)
        go_wp2
        go_ret
        exact ⟨by rw [He.out]; rfl, below_drewN Hbw.out _⟩
      · have Hlo2 := Lib.hid (Hsn.out (by omega))
        clear Hsn Hno
        go_wp2_with fail
        go_quiet (fail)
        go_wp2
        go_roundw
        case rel => exact ⟨k + 1, by omega, by omega, by go_num, Hlo2, below_drewN Hbw.out _⟩
        case measure => simp [intOf]; omega
    · have hkn' : ¬ (k : Int) < (n : Int) := by omega
      have Hres2 : Hid (res = if (rgs R).all validP then ce else 7) := Lib.hid (by rw [Hres.out, if_pos (asc_of_next fun j h => Hlo.out j h (by have := Hn.out; omega))])
      clear Hres
      obtain ⟨wo, rfl⟩ : ∃ wo : World, wo = wr := ⟨_, rfl⟩
      go_upto_region 8 with fail
      go_wp2_with fail
      go_loopw [9, 38] (fun _ iv wr => ∃ k : Nat, iv = .int .i64 (k : Int) ∧ k ≤ n ∧ Hid (((rgs R).take k).all validP = true) ∧ Below w.heap.size w wr) (fun _ iv _ => n - (intOf iv).toNat)
      case atStart => exact ⟨0, rfl, by omega, Lib.hid rfl, Hbw.out⟩
      case round =>
        obtain ⟨k, rfl, hkn, Hall, hbr⟩ := hrel
        have Hbr := Lib.hid hbr
        have hsr := hbr.size
        clear hbr
        by_cases hk : k < n
        · have hk' : (k : Int) < (n : Int) := by omega
          have hkl : k < R.length := by have := HR.out.len; omega
          obtain ⟨b, off, rfl, hb, c0, hsl⟩ := (HR.out.below Hbr.out).at k hkl
          have hg : (rgs R)[k]'(by rw [rgs_len]; exact hkl) = R[k].1 := by simp [rgs]
          have Hnx : Hid (((rgs R).take (k + 1)).all validP = validP R[k].1) := Lib.hid (by rw [List.take_succ_eq_append_getElem (by rw [rgs_len]; exact hkl), List.all_append, Hall.out, hg]; simp)
          have Hbad : Hid (validP R[k].1 = false → res = 7) := Lib.hid (fun h => by
            rw [Hres2.out, if_neg]
            intro hc
            have := List.all_eq_true.1 hc _ (List.getElem_mem (by rw [rgs_len]; exact hkl))
            rw [hg, h] at this
            cases this)
          have Hv := Lib.hid (fun W hW => validR_any _ _ _ _ W (hsl.below hW))
          obtain ⟨D, hD⟩ : ∃ D, R[k].2.a = D := ⟨_, rfl⟩
          obtain ⟨q, hq⟩ : ∃ q, R[k].1.length = q := ⟨_, rfl⟩
          obtain ⟨d, hd⟩ : ∃ d, R[k].2.c = d := ⟨_, rfl⟩
          obtain ⟨v, hv⟩ : ∃ v, validP R[k].1 = v := ⟨_, rfl⟩
          rw [hD, hq, hd, hv] at Hv
          rw [hD, hq, hd] at c0
          rw [hv] at Hnx Hbad
          clear hg hD hq hd hv hsl
          cases v
          · have Hr := Lib.hid (Hbad.out rfl)
            go_wp2_with (first
              | (go_at_call 41
                 refine (Hv.out _ ((Below.refl _ _).alloc (Nat.le_refl _) _)).mono ?_
                 rintro e w5 ⟨rfl, hb5⟩
                 have Hb5 : Hid (Below wr.heap.size wr w5) := Lib.hid (show Below wr.heap.size wr w5 from (by have hbq := hb5; exact (by repeat' (first | with_reducible exact Below.refl _ _ | with_reducible assumption | with_reducible refine below_drewN ?_ _ | with_reducible refine Below.drew ?_ | with_reducible refine Below.alloc ?_ ?_ _ | with_reducible refine Below.setCell ?_ ?_ _ | with_reducible refine Below.trans ?_ (Below.mono (by with_reducible assumption) ?_) | with_reducible refine below_only ?_ (by with_reducible assumption) ?_ ?_ | (simp; done) | (simp; omega) | omega))))
                 clear hb5)
              | fail)
            go_ret
            exact ⟨by rw [Hr.out]; rfl, Hbr.out.trans (Hb5.out.mono hsr)⟩
          · go_wp2_with (first
              | (go_at_call 41
                 refine (Hv.out _ ((Below.refl _ _).alloc (Nat.le_refl _) _)).mono ?_
                 rintro e w5 ⟨rfl, hb5⟩
                 have Hb5 : Hid (Below wr.heap.size wr w5) := Lib.hid (show Below wr.heap.size wr w5 from (by have hbq := hb5; exact (by repeat' (first | with_reducible exact Below.refl _ _ | with_reducible assumption | with_reducible refine below_drewN ?_ _ | with_reducible refine Below.drew ?_ | with_reducible refine Below.alloc ?_ ?_ _ | with_reducible refine Below.setCell ?_ ?_ _ | with_reducible refine Below.trans ?_ (Below.mono (by with_reducible assumption) ?_) | with_reducible refine below_only ?_ (by with_reducible assumption) ?_ ?_ | (simp; done) | (simp; omega) | omega))))
                 clear hb5)
              | fail)
            go_roundw
            case rel => exact ⟨k + 1, by go_num, by omega, Lib.hid Hnx.out, Hbr.out.trans (Hb5.out.mono hsr)⟩
            case measure => simp [intOf]; omega
        · obtain rfl : k = n := by omega
          have hall := Hall.out
          rw [List.take_of_length_le (by rw [Hn2.out]; exact Nat.le_refl _)] at hall
          have He : Hid (res = ce) := Lib.hid (by rw [Hres2.out, if_pos hall])
          clear hall Hres2 hkn'
          have hkn' : ¬ (k : Int) < (k : Int) := by omega
          go_wp2_with (first
            | (go_at_call 86
               refine (HCk.out _ Hbr.out).mono ?_
               rintro e w3 ⟨rfl, hb3⟩
               have Hb3 := Lib.hid (Hbr.out.trans (hb3.mono hsr))
               clear hb3)
            | fail)
          go_ret
          exact ⟨by rw [He.out]; rfl, Hb3.out⟩

set_option maxHeartbeats 8000000 in
set_option maxRecDepth 100000 in
theorem line13_any (NA : Option Addr) (n kc : Nat) (N : List Int) (RA : Option Addr) (n2 rc : Nat) (R : RL) (CA : Option Addr) (m cc : Nat) (C : List Cp) (mask : Int) (x : Ln) (v : LV) (w : World) (hP : PcW w NA n kc N RA n2 rc R CA m cc C) (hx : SlR w v.a x.rg.length v.c x.rg) (hg : givenP N (rgs R) C = 0) :
    Calls Tryz.prog 58 #[.agg #[.int .i64 x.pc, .slice v.a x.rg.length v.c, .int .i64 x.cr, .int .i64 x.sch], .slice NA n kc, .slice RA n2 rc, .slice CA m cc, .int .i64 mask] w fun e w' => e = .returned (.int .i64 (lineP N (rgs R) m mask x)) ∧ Below w.heap.size w w' := by
  obtain ⟨hlen, hn60, hp⟩ := given_asc hg
  have HP := Lib.hid hP
  have HX := Lib.hid hx
  have Hp := Lib.hid hp
  have Hlen := Lib.hid hlen
  have hn60 : n ≤ 60 := by have h2 := hP.hN.len; omega
  have HVa := Lib.hid (fun W (hW : Below w.heap.size w W) => validR_any v.a x.rg.length v.c x.rg W (hx.below hW))
  have Hres : Hid (lineP N (rgs R) m mask x = if x.pc ∈ N then linP ((rgs R).getD (N.idxOf x.pc) []) m mask x else 10) := Lib.hid rfl
  generalize lineP N (rgs R) m mask x = res at *
  obtain ⟨pc, rg, cr, sch⟩ := x
  dsimp only at *
  have hNl := hP.hN.len
  have HNl := Lib.hid hNl
  clear hP hx hg hp hlen hNl
  go_enter Tryz.func58, Tryz.ntmps58
  go_upto_region 1 with fail
  obtain ⟨wa, hwa⟩ : ∃ wa : World, wa = w.alloc (.cells #[.int .i64 pc, .slice v.a rg.length v.c, .int .i64 cr, .int .i64 sch] 38) := ⟨_, rfl⟩
  rw [← hwa]
  have HE : Hid (wa.heap[w.heap.size]? = some (.cells #[.int .i64 pc, .slice v.a rg.length v.c, .int .i64 cr, .int .i64 sch] 38 (0, 0))) := Lib.hid (by rw [hwa]; exact heap_alloc_new w _)
  have Hba : Hid (Below w.heap.size w wa) := Lib.hid (by rw [hwa]; exact (by repeat' (first | with_reducible exact Below.refl _ _ | with_reducible refine below_drewN ?_ _ | with_reducible refine Below.drew ?_ | with_reducible refine Below.alloc ?_ ?_ _ | with_reducible refine Below.setCell ?_ ?_ _ | with_reducible refine Below.trans ?_ (Below.mono (by with_reducible assumption) ?_) | (simp; done) | (simp; omega) | omega)))
  have hlE : w.heap.size < wa.heap.size := by rw [hwa]; simp
  clear hwa
  obtain ⟨E, hE⟩ : ∃ E, w.heap.size = E := ⟨_, rfl⟩
  rw [hE] at HE hlE ⊢
  have hEw : w.heap.size ≤ wa.heap.size := by omega
  clear hE
  have e0 := cell_of_row wa E 0 _ _ _ HE.out
  go_wp2_with fail
  go_loopw [11, 12, 13, 16] (fun av _ _ iv wr => ∃ k : Nat, k ≤ n ∧ iv = .int .i64 (k : Int) ∧ ((av = .int .i64 (-1) ∧ Hid (∀ j (h : j < N.length), j < k → N[j] ≠ pc)) ∨ ∃ i : Nat, i < k ∧ av = .int .i64 (i : Int) ∧ Hid (N[i]? = some pc)) ∧ wa = wr) (fun _ _ _ iv _ => n - (intOf iv).toNat)
  case atStart => exact ⟨0, Nat.zero_le _, rfl, .inl ⟨rfl, Lib.hid (fun j h h1 => by omega)⟩, rfl⟩
  case round =>
    obtain ⟨k, hk, rfl, hav, rfl⟩ := hrel
    by_cases hkn : k < n
    · have hkn' : (k : Int) < (n : Int) := by omega
      have hkl : k < N.length := by have := HNl.out; omega
      obtain ⟨b, off, rfl, hb, c0⟩ := (HP.out.hN.below Hba.out).at k hkl
      have Hat : Hid (N[k]? = some N[k]) := Lib.hid (List.getElem?_eq_getElem hkl)
      have Hnx : Hid (N[k] ≠ pc → (∀ j (h : j < N.length), j < k → N[j] ≠ pc) → ∀ j (h : j < N.length), j < k + 1 → N[j] ≠ pc) := Lib.hid (fun h0 h1 j hj hjk => by
        rcases Nat.lt_or_ge j k with h2 | h2
        · exact h1 j hj h2
        · obtain rfl : j = k := by omega
          exact h0)
      generalize N[k] = y at *
      by_cases hy : y = pc
      · subst hy
        rcases hav with ⟨rfl, Hno⟩ | ⟨i, hi, rfl, Hi⟩
        · go_wp2
          go_roundw
          case rel => exact ⟨k + 1, by omega, by go_num, .inr ⟨k, by omega, rfl, Hat⟩, trivial⟩
          case measure => simp [intOf]; omega
        · go_wp2
          go_roundw
          case rel => exact ⟨k + 1, by omega, by go_num, .inr ⟨k, by omega, rfl, Hat⟩, trivial⟩
          case measure => simp [intOf]; omega
      · rcases hav with ⟨rfl, Hno⟩ | ⟨i, hi, rfl, Hi⟩
        · go_wp2
          go_roundw
          case rel => exact ⟨k + 1, by omega, by go_num, .inl ⟨rfl, Lib.hid (Hnx.out hy Hno.out)⟩, trivial⟩
          case measure => simp [intOf]; omega
        · go_wp2
          go_roundw
          case rel => exact ⟨k + 1, by omega, by go_num, .inr ⟨i, by omega, rfl, Hi⟩, trivial⟩
          case measure => simp [intOf]; omega
    · have hkn' : ¬ (k : Int) < (n : Int) := by omega
      rcases hav with ⟨rfl, Hno⟩ | ⟨i, hi, rfl, Hi⟩
      · have He : Hid (res = 10) := Lib.hid (by
          rw [Hres.out, if_neg]
          intro hm
          obtain ⟨j, hj, hjp⟩ := List.getElem_of_mem hm
          exact Hno.out j hj (by have := HNl.out; omega) hjp)
        clear Hres
        go_wp2
        go_ret
        exact ⟨by rw [He.out]; rfl, Hba.out⟩
      · have hat := Hi.out
        have hmem : pc ∈ N := List.mem_of_getElem? hat
        have hiR : i < R.length := by
          have h1 := (List.getElem?_eq_some_iff.1 hat).1
          have h2 := Hlen.out
          rw [rgs_len] at h2
          omega
        have hin : (i : Int) < (n2 : Int) := by have := HP.out.hR.len; omega
        have hin2 : i < n2 := by omega
        have hi0 : ¬ (i : Int) < 0 := by omega
        have Hres2 : Hid (res = linP R[i].1 m mask ⟨pc, rg, cr, sch⟩) := Lib.hid (by
          rw [Hres.out, if_pos hmem, idx_asc Hp.out hat]
          congr 1
          rw [List.getD_eq_getElem?_getD, List.getElem?_eq_getElem (by rw [rgs_len]; exact hiR)]
          simp [rgs])
        clear Hres
        unfold linP at Hres2
        dsimp only at Hres2
        have e1 := cell_of_row wa E 1 _ _ _ HE.out
        obtain ⟨br, off, rfl, hbr, cR, hSR⟩ := (HP.out.hR.below Hba.out).at i hiR
        have HSR := Lib.hid hSR
        have HW := Lib.hid (fun W (hW : Below wa.heap.size wa W) => withinR_any v.a R[i].2.a rg.length v.c R[i].1.length R[i].2.c rg R[i].1 W ((HX.out.below Hba.out).below hW) (HSR.out.below hW))
        have HVb := Lib.hid (fun W (hW : Below wa.heap.size wa W) => HVa.out W (Hba.out.trans (hW.mono hEw)))
        obtain ⟨rp, hrp⟩ : ∃ rp, R[i] = rp := ⟨_, rfl⟩
        rw [hrp] at cR HW Hres2
        clear hrp hSR HSR hmem hat HVa
        generalize withinP rg rp.1 = wi at *
        cases hva : validP rg with
        | false =>
          have He : Hid (res = 7) := Lib.hid (by rw [Hres2.out, if_pos (.inr hva)])
          rw [hva] at HVb
          clear Hres2 hva
          go_wp2_with (first
            | (go_at_call 41
               refine (HVb.out _ (Below.refl _ _)).mono ?_
               rintro e w2 ⟨rfl, hb2⟩
               have Hb2 := Lib.hid (Hba.out.trans (hb2.mono hEw))
               clear hb2)
            | fail)
          go_ret
          exact ⟨by rw [He.out]; rfl, Hb2.out⟩
        | true =>
          rw [hva] at HVb
          by_cases hrl : rg.length = 0
          · have He : Hid (res = 7) := Lib.hid (by rw [Hres2.out, if_pos (.inl hrl)])
            clear Hres2 hva HW cR e1 e0
            rw [hrl] at HVb HE ⊢
            clear hrl
            have e1 := cell_of_row wa E 1 _ _ _ HE.out
            have hz0 : ((0 : Nat) : Int) = 0 := rfl
            have hz1 : decide (((0 : Nat) : Int) = 0) = true := rfl
            go_wp2_with (first
              | (go_at_call 41
                 refine (HVb.out _ (Below.refl _ _)).mono ?_
                 rintro e w2 ⟨rfl, hb2⟩
                 have HE2 := Lib.hid ((hb2.block _ hlE).trans HE.out)
                 have e12 := cell_of_row w2 E 1 _ _ _ HE2.out
                 have Hb2 := Lib.hid (Hba.out.trans (hb2.mono hEw))
                 clear hb2)
              | fail)
            go_ret
            exact ⟨by rw [He.out]; rfl, Hb2.out⟩
          have hrl' : ¬ (rg.length : Int) = 0 := by omega
          rw [if_neg (by rw [hva]; simp [hrl])] at Hres2
          clear hva
          go_upto_region 12 with (first
            | (go_at_call 41
               refine (HVb.out _ (Below.refl _ _)).mono ?_
               rintro e w2 ⟨rfl, hb2⟩
               have HE2 := Lib.hid ((hb2.block _ hlE).trans HE.out)
               have e12 := cell_of_row w2 E 1 _ _ _ HE2.out
               have cR2 := (hb2.cell (p := ⟨br, off + i, none⟩) hbr).trans cR
               have Hb2 := Lib.hid hb2
               have hs2 := hb2.size
               clear hb2)
            | fail)
          clear e0 e1 e12 cR
          have e1 : w2.drew.cell? ⟨E, 1, none⟩ = _ := cell_of_row w2 E 1 _ _ _ HE2.out
          have cR3 : w2.drew.cell? ⟨br, off + i, none⟩ = some (.slice rp.2.a rp.1.length rp.2.c) := cR2
          clear cR2
          go_region_held3 (fun w' => w'.cell? ⟨E, 1, none⟩ = some (.slice v.a rg.length v.c) ∧ w'.cell? ⟨br, off + i, none⟩ = some (.slice rp.2.a rp.1.length rp.2.c)) (first | with_reducible exact ⟨e1, cR3⟩ | go_keep | ((repeat' apply And.intro) <;> go_keep))
            (first
              | (go_at_call 14
                 refine (HW.out _ (Below.drew Hb2.out)).mono ?_
                 rintro e w3 ⟨rfl, hb3⟩
                 have hb3' : Below w2.heap.size w2 w3 := (have hbq := hb3; (by repeat' (first | with_reducible exact Below.refl _ _ | with_reducible assumption | with_reducible refine below_drewN ?_ _ | with_reducible refine Below.drew ?_ | with_reducible refine Below.alloc ?_ ?_ _ | with_reducible refine Below.setCell ?_ ?_ _ | with_reducible refine Below.trans ?_ (Below.mono (by with_reducible assumption) ?_) | with_reducible refine below_only ?_ (by with_reducible assumption) ?_ ?_ | (simp; done) | (simp; omega) | omega)))
                 have HE3 := Lib.hid ((hb3'.block _ (by omega)).trans HE2.out)
                 have e13 := cell_of_row w3 E 1 _ _ _ HE3.out
                 have cR4 := (hb3'.cell (p := ⟨br, off + i, none⟩) (by show br < w2.heap.size; omega)).trans cR3
                 have Hb3 := Lib.hid (Hb2.out.trans (hb3'.mono hs2))
                 clear hb3 hb3')
              | fail)
          clear e1 cR3 e13 cR4
          have e2 := cell_of_row w3 E 2 _ _ _ HE3.out
          have e3 := cell_of_row w3 E 3 _ _ _ HE3.out
          have Hbe : Hid (Below w.heap.size w w3) := Lib.hid (Hba.out.trans (Hb3.out.mono (by omega)))
          cases wi with
          | false =>
            have He : Hid (res = 12) := Lib.hid (by rw [Hres2.out, if_pos rfl])
            clear Hres2
            go_wp2
            go_ret
            exact ⟨by rw [He.out]; rfl, Hbe.out⟩
          | true =>
            rw [if_neg (by simp)] at Hres2
            by_cases hcr0 : cr < 0
            · have He : Hid (res = 13) := Lib.hid (by rw [Hres2.out, if_pos (.inl hcr0)])
              clear Hres2
              go_wp2
              go_ret
              exact ⟨by rw [He.out]; rfl, Hbe.out⟩
            by_cases hcrm : (m : Int) ≤ cr
            · have He : Hid (res = 13) := Lib.hid (by rw [Hres2.out, if_pos (.inr hcrm)])
              clear Hres2
              go_wp2
              go_ret
              exact ⟨by rw [He.out]; rfl, Hbe.out⟩
            rw [if_neg (by omega)] at Hres2
            by_cases hs0 : sch = 0
            · have He : Hid (res = 17) := Lib.hid (by rw [Hres2.out, if_pos (.inl hs0)])
              clear Hres2
              subst hs0
              go_wp2
              go_ret
              exact ⟨by rw [He.out]; rfl, Hbe.out⟩
            by_cases hsm : bits BinOp.andNot IntKind.i64 sch mask = 0
            · have He : Hid (res = 0) := Lib.hid (by rw [Hres2.out, if_neg (by simp [hs0, hsm])])
              clear Hres2
              go_wp2
              go_ret
              exact ⟨by rw [He.out]; rfl, Hbe.out⟩
            · have He : Hid (res = 17) := Lib.hid (by rw [Hres2.out, if_pos (.inr hsm)])
              clear Hres2
              go_wp2
              go_ret
              exact ⟨by rw [He.out]; rfl, Hbe.out⟩

set_option maxHeartbeats 4000000 in
set_option maxRecDepth 100000 in
theorem check13_any (NA : Option Addr) (n kc : Nat) (N : List Int) (RA : Option Addr) (n2 rc : Nat) (R : RL) (CA : Option Addr) (m cc : Nat) (C : List Cp) (mask : Int) (x : Ln) (v : LV) (w : World) (hP : PcW w NA n kc N RA n2 rc R CA m cc C) (hx : SlR w v.a x.rg.length v.c x.rg) :
    Calls Tryz.prog 30 #[.agg #[.int .i64 x.pc, .slice v.a x.rg.length v.c, .int .i64 x.cr, .int .i64 x.sch], .slice NA n kc, .slice RA n2 rc, .slice CA m cc, .int .i64 mask] w fun e w' => e = .returned (.int .i64 (checkP N (rgs R) C mask x)) ∧ Below w.heap.size w w' := by
  have HG := Lib.hid (fun W (hW : Below w.heap.size w W) => given13_any NA n kc N RA n2 rc R CA m cc C W (hP.below hW))
  have HLi := Lib.hid (fun W (hW : Below w.heap.size w W) hg => line13_any NA n kc N RA n2 rc R CA m cc C mask x v W (hP.below hW) (hx.below hW) hg)
  have Hres : Hid (checkP N (rgs R) C mask x = if givenP N (rgs R) C = 0 then lineP N (rgs R) C.length mask x else givenP N (rgs R) C) := Lib.hid rfl
  rw [hP.hC.len] at Hres
  generalize checkP N (rgs R) C mask x = res at *
  generalize lineP N (rgs R) m mask x = li at *
  generalize givenP N (rgs R) C = gv at *
  obtain ⟨pc, rg, cr, sch⟩ := x
  dsimp only at *
  clear hP hx
  go_enter Tryz.func30, Tryz.ntmps30
  go_upto_region 1 with fail
  obtain ⟨wa, hwa⟩ : ∃ wa : World, wa = w.alloc (.cells #[.int .i64 pc, .slice v.a rg.length v.c, .int .i64 cr, .int .i64 sch] 38) := ⟨_, rfl⟩
  rw [← hwa]
  have HE : Hid (wa.heap[w.heap.size]? = some (.cells #[.int .i64 pc, .slice v.a rg.length v.c, .int .i64 cr, .int .i64 sch] 38 (0, 0))) := Lib.hid (by rw [hwa]; exact heap_alloc_new w _)
  have Hba : Hid (Below w.heap.size w wa) := Lib.hid (by rw [hwa]; exact (by repeat' (first | with_reducible exact Below.refl _ _ | with_reducible refine below_drewN ?_ _ | with_reducible refine Below.drew ?_ | with_reducible refine Below.alloc ?_ ?_ _ | with_reducible refine Below.setCell ?_ ?_ _ | with_reducible refine Below.trans ?_ (Below.mono (by with_reducible assumption) ?_) | (simp; done) | (simp; omega) | omega)))
  have hlE : w.heap.size < wa.heap.size := by rw [hwa]; simp
  clear hwa
  by_cases hg0 : gv = 0
  case neg =>
    have He : Hid (res = gv) := Lib.hid (by rw [Hres.out, if_neg hg0])
    clear Hres HLi
    go_wp2_with (first | (go_at_call 57; refine (HG.out _ Hba.out).mono ?_; rintro e w1 ⟨rfl, hb1⟩; have Hb1 := Lib.hid (Hba.out.trans (hb1.mono (by omega))); clear hb1) | fail)
    go_ret
    exact ⟨by rw [He.out]; rfl, Hb1.out⟩
  subst hg0
  have He : Hid (res = li) := Lib.hid (by rw [Hres.out, if_pos rfl])
  have HLi2 := Lib.hid (fun W (hW : Below w.heap.size w W) => HLi.out W hW rfl)
  clear Hres HLi
  go_wp2_with (first
    | (go_at_call 57
       refine (HG.out _ Hba.out).mono ?_
       rintro e w1 ⟨rfl, hb1⟩
       have Hb1 := Lib.hid (Hba.out.trans (hb1.mono (by omega)))
       have hr1 := (hb1.block _ hlE).trans HE.out
       have e0 := cell_of_row w1 w.heap.size 0 _ _ _ hr1
       have e1 := cell_of_row w1 w.heap.size 1 _ _ _ hr1
       have e2 := cell_of_row w1 w.heap.size 2 _ _ _ hr1
       have e3 := cell_of_row w1 w.heap.size 3 _ _ _ hr1
       have hs1 := Hb1.out.size
       clear hb1 hr1)
    | (go_at_call 58
       refine (HLi2.out _ Hb1.out).mono ?_
       rintro e w2 ⟨rfl, hb2⟩
       have Hb2 := Lib.hid (Hb1.out.trans (hb2.mono hs1))
       clear hb2)
    | fail)
  go_ret
  exact ⟨by rw [He.out]; rfl, Hb2.out⟩

theorem overP_comm (p q : R4) : overP p q = overP q p := by
  unfold overP
  cases decide (p.l < q.r) <;> cases decide (q.l < p.r) <;> cases decide (p.b < q.t) <;> cases decide (q.b < p.t) <;> rfl
theorem meetsP_comm (a b : List R4) : meetsP a b = meetsP b a := by
  have e : (a.any fun p => b.any fun q => overP p q) = b.any fun p => a.any fun q => overP p q := by
    rw [Bool.eq_iff_iff, List.any_eq_true, List.any_eq_true]
    constructor
    · rintro ⟨p, hp, h⟩
      obtain ⟨q, hq, h⟩ := List.any_eq_true.1 h
      exact ⟨q, hq, List.any_eq_true.2 ⟨p, hp, by rw [overP_comm]; exact h⟩⟩
    · rintro ⟨p, hp, h⟩
      obtain ⟨q, hq, h⟩ := List.any_eq_true.1 h
      exact ⟨q, hq, List.any_eq_true.2 ⟨p, hp, by rw [overP_comm]; exact h⟩⟩
  unfold meetsP
  rw [e, Bool.and_comm (validP a)]

set_option maxHeartbeats 8000000 in
set_option maxRecDepth 100000 in
theorem all13_any (LA : Option Addr) (n lc : Nat) (l : LL) (NA : Option Addr) (n1 kc : Nat) (N : List Int) (RA : Option Addr) (n2 rc : Nat) (R : RL) (CA : Option Addr) (q cc : Nat) (C : List Cp) (mask : Int) (w : World) (hL : SlL w LA n lc l) (hP : PcW w NA n1 kc N RA n2 rc R CA q cc C) :
    Calls Tryz.prog 28 #[.slice LA n lc, .slice NA n1 kc, .slice RA n2 rc, .slice CA q cc, .int .i64 mask] w fun e w' => e = .returned (.tuple #[.int .i64 (allP (checkP N (rgs R) C mask) (lns l)).1, .int .i64 (allP (checkP N (rgs R) C mask) (lns l)).2]) ∧ Below w.heap.size w w' := by
  have hlen := hL.len
  have HL := Lib.hid hL
  have HP := Lib.hid hP
  have Hres : Hid (allP (checkP N (rgs R) C mask) (lns l) = if 20 < (lns l).length then (0, 1) else allF (badAt (checkP N (rgs R) C mask) (lns l)) (lns l).length 0) := Lib.hid rfl
  rw [lns_len, hlen] at Hres
  have Hbad := Lib.hid (badAt_ll (checkP N (rgs R) C mask) l)
  have Hstep := Lib.hid (fun (k : Nat) (h : k < n) => allF_step (badAt (checkP N (rgs R) C mask) (lns l)) h)
  generalize badAt (checkP N (rgs R) C mask) (lns l) = bad at *
  generalize allP (checkP N (rgs R) C mask) (lns l) = res at *
  have Hlen := Lib.hid hlen
  have hcap := hL.cap
  clear hL hP hlen
  go_enter Tryz.func28, Tryz.ntmps28
  by_cases hbig : 20 < n
  · have hbig' : (20 : Int) < (n : Int) := by omega
    have He : Hid (res = (0, 1)) := Lib.hid (by rw [Hres.out, if_pos hbig])
    clear Hres
    go_wp2
    refine bodyPost_ret (v := .tuple #[.int .i64 0, .int .i64 1]) (by simp [results, Tryz.results28, go_sem, *]) rfl ?_
    exact ⟨by rw [He.out], Below.refl _ _⟩
  have hbig' : ¬ (20 : Int) < (n : Int) := by omega
  rw [if_neg hbig] at Hres
  go_wp2_with fail
  go_loopw [12, 13, 15, 21, 37, 38, 39, 40, 41] (fun _ _ _ iv _ _ _ _ _ wr => ∃ k : Nat, k ≤ n ∧ iv = .int .i64 (k : Int) ∧ Hid (res = allF bad (n - k) k) ∧ Below w.heap.size w wr) (fun _ _ _ iv _ _ _ _ _ _ => n - (intOf iv).toNat)
  case atStart => exact ⟨0, Nat.zero_le _, rfl, Lib.hid Hres.out, Below.refl _ _⟩
  case round =>
    obtain ⟨k, hk, rfl, Hre, hbw⟩ := hrel
    obtain ⟨wo, rfl⟩ : ∃ wo : World, wo = wr := ⟨_, rfl⟩
    have Hbw := Lib.hid hbw
    have hsw := hbw.size
    clear hbw
    by_cases hkn : k < n
    · have hkn' : (k : Int) < (n : Int) := by omega
      have hkl : k < l.length := by have := Hlen.out; omega
      have Hbk := Lib.hid (Hbad.out k hkl)
      have Hre2 : Hid (res = if bad k = 0 then allF bad (n - (k + 1)) (k + 1) else ((k : Int), bad k)) := Lib.hid (by rw [Hre.out, Hstep.out k hkn])
      clear Hre
      have hck := fun W (hW : Below wo.heap.size wo W) => check13_any NA n1 kc N RA n2 rc R CA q cc C mask l[k].1 l[k].2 W ((HP.out.below Hbw.out).below hW) (((HL.out.below Hbw.out).fits l[k] (List.getElem_mem hkl)).below hW)
      have HCk := Lib.hid hck
      clear hck
      have HTk := Lib.hid ((HL.out.below Hbw.out).take hk)
      obtain ⟨b2, o2, hA2, hb2, g0, g1, g2, g3, hS⟩ := (HL.out.below Hbw.out).at k hkl
      have HS := Lib.hid hS
      clear hS
      obtain ⟨y, hy⟩ : ∃ y, l[k] = y := ⟨_, rfl⟩
      rw [hy] at Hbk HCk g0 g1 g2 g3 HS
      clear hy
      obtain ⟨⟨ypc, yrg, ycr, ysch⟩, ⟨ya, yc⟩⟩ := y
      dsimp only at *
      obtain ⟨lk, hlk⟩ : ∃ lk, l.take k = lk := ⟨_, rfl⟩
      rw [hlk] at Hbk HTk
      clear hlk
      generalize bad k = bk at *
      subst hA2
      generalize checkP N (rgs R) C mask ⟨ypc, yrg, ycr, ysch⟩ = ck at *
      have hkc : k ≤ lc := by omega
      have hkc' : (k : Int) ≤ (lc : Int) := by omega
      have hkc0 : ¬ (k : Int) < 0 := by omega
      by_cases hck : ck = 0
      case neg =>
        have He : Hid (res = ((k : Int), ck)) := Lib.hid (by rw [Hre2.out, Hbk.out, if_neg (by rw [if_neg hck]; exact hck), if_neg hck])
        clear Hre2 Hbk
        go_wp2_with (first | (go_at_call 30; refine (HCk.out _ (Below.refl _ _)).mono ?_; rintro e w5 ⟨rfl, hb5⟩; have Hb5 := Lib.hid hb5; clear hb5) | fail)
        refine bodyPost_ret (v := .tuple #[.int .i64 (k : Int), .int .i64 ck]) (by simp [results, Tryz.results28, go_sem, *]) rfl ?_
        exact ⟨by rw [He.out], Hbw.out.trans (Hb5.out.mono hsw)⟩
      subst hck
      rw [if_pos rfl] at Hbk
      go_upto_region 9 with (first | (go_at_call 30; refine (HCk.out _ (Below.refl _ _)).mono ?_; rintro e w5 ⟨rfl, hb5⟩; have Hb5 := Lib.hid hb5; have hs5 := hb5.size; have g15 := (hb5.cell (p := ⟨b2, o2 + k * 4 + 1, none⟩) hb2).trans g1; clear hb5) | fail)
      have hb25 : b2 < w5.heap.size := by omega
      have HTk5 := Lib.hid (HTk.out.below Hb5.out)
      have HS5 := Lib.hid (HS.out.below Hb5.out)
      have Hlk : Hid (lk.length = k) := Lib.hid HTk.out.len
      clear g0 g1 g2 g3 HTk HS HCk
      go_wp2_with fail
      go_loopw [15, 41] (fun _ jv wr => ∃ t : Nat, t ≤ k ∧ jv = .int .i64 (t : Int) ∧ Hid ((lk.take t).any (fun y => meetsP yrg y.1.rg) = false) ∧ Below w5.heap.size w5 wr) (fun _ jv _ => k - (intOf jv).toNat)
      case atStart => exact ⟨0, Nat.zero_le _, rfl, Lib.hid rfl, Below.refl _ _⟩
      case round =>
        obtain ⟨t, ht, rfl, Hno, hbt⟩ := hrel
        obtain ⟨wt, rfl⟩ : ∃ wt : World, wt = wr := ⟨_, rfl⟩
        have Hbt := Lib.hid hbt
        have hst := hbt.size
        clear hbt
        by_cases htk : t < k
        · have htk' : (t : Int) < (k : Int) := by omega
          have htl : t < lk.length := by have := Hlk.out; omega
          obtain ⟨b3, o3, hA3, hb3, d0, d1, d2, d3, hS3⟩ := (HTk5.out.below Hbt.out).at t htl
          injection hA3 with hA3
          injection hA3 with e1 e2
          subst e1 e2
          have hME := meetsR_any (n := lk[t].1.rg.length) lk[t].2.a ya lk[t].2.c yrg.length yc lk[t].1.rg yrg
          have HS3 := Lib.hid hS3
          have Hnx : Hid ((lk.take (t + 1)).any (fun y => meetsP yrg y.1.rg) = meetsP lk[t].1.rg yrg) := Lib.hid (by
            rw [List.take_succ_eq_append_getElem htl, List.any_append, Hno.out, meetsP_comm lk[t].1.rg]
            simp)
          have Hyes : Hid (meetsP lk[t].1.rg yrg = true → lk.any (fun y => meetsP yrg y.1.rg) = true) := Lib.hid (fun h => List.any_eq_true.2 ⟨lk[t], List.getElem_mem htl, by rw [meetsP_comm]; exact h⟩)
          clear hME hS3
          obtain ⟨z, hz⟩ : ∃ z, lk[t] = z := ⟨_, rfl⟩
          rw [hz] at d0 d1 d2 d3 HS3 Hnx Hyes
          clear hz
          obtain ⟨⟨zpc, zrg, zcr, zsch⟩, ⟨za, zc⟩⟩ := z
          dsimp only at *
          have gt := (Hbt.out.cell (p := ⟨b2, o2 + k * 4 + 1, none⟩) hb25).trans g15
          have hrow := heap_alloc_new wt (.cells #[.int .i64 zpc, .slice za zrg.length zc, .int .i64 zcr, .int .i64 zsch] 38)
          have Hb6 : Hid (Below wt.heap.size wt (wt.alloc (.cells #[.int .i64 zpc, .slice za zrg.length zc, .int .i64 zcr, .int .i64 zsch] 38))) := Lib.hid (by repeat' (first | with_reducible exact Below.refl _ _ | with_reducible refine below_drewN ?_ _ | with_reducible refine Below.drew ?_ | with_reducible refine Below.alloc ?_ ?_ _ | with_reducible refine Below.setCell ?_ ?_ _ | with_reducible refine Below.trans ?_ (Below.mono (by with_reducible assumption) ?_) | (simp; done) | (simp; omega) | omega))
          have hlb : wt.heap.size < (wt.alloc (.cells #[.int .i64 zpc, .slice za zrg.length zc, .int .i64 zcr, .int .i64 zsch] 38)).heap.size := by simp
          go_upto_region 12 with fail
          obtain ⟨T, hT⟩ : ∃ T, wt.heap.size = T := ⟨_, rfl⟩
          rw [hT] at hrow hlb ⊢
          generalize wt.alloc (.cells #[.int .i64 zpc, .slice za zrg.length zc, .int .i64 zcr, .int .i64 zsch] 38) = wb at *
          have hsb := Hb6.out.size
          have HM := Lib.hid (fun W (hW : Below wb.heap.size wb W) => meetsR_any za ya zrg.length zc yrg.length yc zrg yrg W ((HS3.out.below Hb6.out).below hW) (((HS5.out.below Hbt.out).below Hb6.out).below hW))
          have f1 : wb.cell? ⟨T, 1, none⟩ = some (.slice za zrg.length zc) := cell_of_row wb T 1 _ _ _ hrow
          have f2 : wb.cell? ⟨b2, o2 + k * 4 + 1, none⟩ = some (.slice ya yrg.length yc) := (Hb6.out.cell (p := ⟨b2, o2 + k * 4 + 1, none⟩) (by show b2 < _; omega)).trans gt
          have hbb : b2 < wb.heap.size := by omega
          have hrk : (k : Int) < (n : Int) := by omega
          generalize meetsP zrg yrg = mz at *
          clear d0 d1 d2 d3 hrow gt hT
          refine wp_region_below (W := wb) wb.heap.size (Nat.le_refl _) (by kernel_rfl) (by kernel_rfl) ?_
          intro I _ F hFc hFb hFs
          repeat (go_big_quiet_step ((go_at_call 15; with_reducible exact class_call hFb hFs (Nat.le_refl _) (HM.out _ (hFb _)))))
          refine wpQuiet_nil ?_
          rintro _ ⟨iq, rfl⟩
          have Hfq : Hid (Below wt.heap.size wt (F iq)) := Lib.hid (Hb6.out.trans ((hFb iq).mono hsb))
          cases mz with
          | false =>
            go_wp2
            go_roundw
            case rel => exact ⟨t + 1, by omega, by go_num, Lib.hid Hnx.out, Hbt.out.trans (Hfq.out.mono hst)⟩
            case measure => simp [intOf]; omega
          | true =>
            have He : Hid (res = ((k : Int), 11)) := Lib.hid (by rw [Hre2.out, Hbk.out, Hyes.out rfl, if_neg (by simp)]; rfl)
            clear Hre2 Hbk
            go_wp2
            refine bodyPost_ret (v := .tuple #[.int .i64 (k : Int), .int .i64 11]) (by simp [results, Tryz.results28, go_sem, *]) rfl ?_
            exact ⟨by rw [He.out], Hbw.out.trans ((Hb5.out.trans ((Hbt.out.trans (Hfq.out.mono hst)).mono hs5)).mono hsw)⟩
        · obtain rfl : t = k := by omega
          have htk' : ¬ (t : Int) < (t : Int) := by omega
          have hno := Hno.out
          rw [List.take_of_length_le (by have := Hlk.out; omega)] at hno
          have Hre3 : Hid (res = allF bad (n - (t + 1)) (t + 1)) := Lib.hid (by rw [Hre2.out, Hbk.out, hno, if_pos (by simp)])
          clear Hre2 Hbk hno
          go_wp2
          go_roundw
          case rel => exact ⟨t + 1, by omega, by go_num, Hre3, Hbw.out.trans ((Hb5.out.trans (Hbt.out.mono hs5)).mono hsw)⟩
          case measure => simp [intOf]; omega
    · have hkn' : ¬ (k : Int) < (n : Int) := by omega
      have He : Hid (res = (-1, 0)) := Lib.hid (by rw [Hre.out, show n - k = 0 by omega]; rfl)
      go_wp2
      refine bodyPost_ret (v := .tuple #[.int .i64 (-1), .int .i64 0]) (by simp [results, Tryz.results28, go_sem, *]) rfl ?_
      exact ⟨by rw [He.out], Hbw.out⟩
end Go.Proofs.YtglanlpjoaholaaGreat

namespace Go.Proofs.YtglanlpjoaholaaGreat
open Go.RowKit Go.Shelf
set_option linter.unusedVariables false
set_option linter.unusedSimpArgs false

def clipsP (r : List R4) : List Ln → List Ln
  | [] => []
  | x :: t => (if (chooseP andB x.rg r).length = 0 then [] else [⟨x.pc, chooseP andB x.rg r, x.cr, x.sch⟩]) ++ clipsP r t
theorem clipsP_app (r : List R4) : ∀ a b : List Ln, clipsP r (a ++ b) = clipsP r a ++ clipsP r b
  | [], b => rfl
  | x :: t, b => by rw [List.cons_append, clipsP, clipsP, clipsP_app r t b, List.append_assoc]
theorem clipsP_snoc (r : List R4) (l : List Ln) (x : Ln) : clipsP r (l ++ [x]) = if (chooseP andB x.rg r).length = 0 then clipsP r l else clipsP r l ++ [⟨x.pc, chooseP andB x.rg r, x.cr, x.sch⟩] := by
  rw [clipsP_app]
  simp only [clipsP, List.append_nil]
  split <;> simp
def bigC (r : List R4) (x : Ln) : Bool := decide (120 < (chooseP andB x.rg r).length)
def clipCP (l : List Ln) (r : List R4) : List Ln × Int := if 20 < l.length then ([], 1) else if validL l && validP r then (if l.any (bigC r) then ([], 1) else (clipsP r l, 0)) else ([], 7)
/-- What Clip hands back. -/
def ClPost (w : World) (res : List Ln × Int) (e : Ending) (w' : World) : Prop :=
  ∃ (O : LL) (A : Option Addr) (c : Nat), e = .returned (.tuple #[.slice A O.length c, .int .i64 res.2]) ∧ lns O = res.1 ∧ LsOwn w' w.heap.size (.slice A O.length c) O ∧ Below w.heap.size w w'
theorem ClPost.nil {w w' : World} {r : Int} (h : Below w.heap.size w w') : ClPost w ([], r) (.returned (.tuple #[.slice none 0 0, .int .i64 r])) w' := ⟨[], none, 0, rfl, rfl, LsOwn.nil _ _, h⟩
set_option maxHeartbeats 4000000 in
set_option maxRecDepth 100000 in
theorem clipC_any (A : Option Addr) (n c : Nat) (l : LL) (B : Option Addr) (m d : Nat) (r : List R4) (w : World) (hL : SlL w A n c l) (hB : SlR w B m d r) :
    Calls Tryz.prog 21 #[.slice A n c, .agg #[.slice B m d]] w (ClPost w (clipCP (lns l) r)) := by
  obtain ⟨i2, hi2, hi2z, hl1, hl2⟩ := info_parts Tryz.infoLine
  have hx := hL.len
  have hxb := hB.len
  have Hln : Hid ((lns l).length = n) := Lib.hid (by rw [lns_len]; exact hx)
  have HL := Lib.hid hL
  have HB := Lib.hid hB
  have Hres : Hid (clipCP (lns l) r = if 20 < (lns l).length then ([], 1) else if validL (lns l) && validP r then (if (lns l).any (bigC r) then ([], 1) else (clipsP r (lns l), 0)) else ([], 7)) := Lib.hid rfl
  rw [Hln.out] at Hres
  generalize clipCP (lns l) r = res at *
  clear hL hB
  go_enter Tryz.func21, Tryz.ntmps21
  go_upto_region 1 with fail
  obtain ⟨wa, hwa⟩ : ∃ wa : World, wa = w.alloc (.cells #[.slice B m d] 33) := ⟨_, rfl⟩
  rw [← hwa]
  have HE : Hid (wa.heap[w.heap.size]? = some (.cells #[.slice B m d] 33 (0, 0))) := Lib.hid (by rw [hwa]; exact heap_alloc_new w _)
  have Hba : Hid (Below w.heap.size w wa) := Lib.hid (by rw [hwa]; exact (by repeat' (first | with_reducible exact Below.refl _ _ | with_reducible refine below_drewN ?_ _ | with_reducible refine Below.drew ?_ | with_reducible refine Below.alloc ?_ ?_ _ | with_reducible refine Below.setCell ?_ ?_ _ | with_reducible refine Below.trans ?_ (Below.mono (by with_reducible assumption) ?_) | (simp; done) | (simp; omega) | omega)))
  have hlE : w.heap.size < wa.heap.size := by rw [hwa]; simp
  have hEw : w.heap.size ≤ wa.heap.size := Nat.le_of_lt hlE
  have HLa := Lib.hid (HL.out.below Hba.out)
  have HBa := Lib.hid (HB.out.below Hba.out)
  clear hwa HL HB
  obtain ⟨E, hE⟩ : ∃ E, w.heap.size = E := ⟨_, rfl⟩
  rw [hE] at HE hlE ⊢
  have HEe : Hid (w.heap.size = E) := Lib.hid hE
  clear hE
  have e0 := cell_of_row wa E 0 _ _ _ HE.out
  by_cases h1 : 20 < n
  · have h1' : (20 : Int) < (n : Int) := by omega
    have He : Hid (res = ([], 1)) := Lib.hid (by rw [Hres.out, if_pos h1])
    clear Hres
    go_wp2
    refine bodyPost_ret (v := .tuple #[.slice none 0 0, .int .i64 1]) (by simp [results, Tryz.results21, go_sem, *]) rfl ?_
    rw [He.out]
    exact ClPost.nil Hba.out
  have h1' : ¬ (20 : Int) < (n : Int) := by omega
  rw [if_neg h1] at Hres
  have HRg := Lib.hid (regionsC_any wa (wa.alloc (.cells #[.slice B m d] 33)) ((Below.refl _ _).alloc (Nat.le_refl _) _) (.slice (some ⟨wa.heap.size, 0, none⟩) 1 1) [(r, ⟨B, d⟩)] (own_lit wa _ 1 1 _ _ (by simp [rgCells, rgC, hxb]) rfl (by unfold maxLen; omega)) (fun x hx => by rw [List.mem_singleton] at hx; subst hx; dsimp only; rw [hxb]; exact HBa.out) A n c l HLa.out (by omega) (by simp))
  rw [List.all_append, validL_regs, List.all_cons, List.all_nil, Bool.and_true, Bool.and_comm] at HRg
  dsimp only at HRg
  cases hv : validL (lns l) && validP r with
  | false =>
    rw [hv] at HRg Hres
    have He : Hid (res = ([], 7)) := Lib.hid (by rw [Hres.out]; rfl)
    clear hv Hres
    go_wp2_with (first
      | (go_at_call 37
         refine HRg.out.mono ?_
         rintro e w1 ⟨rfl, hb1⟩
         have Hb1 := Lib.hid (Hba.out.trans (hb1.mono (by omega)))
         clear hb1)
      | fail)
    refine bodyPost_ret (v := .tuple #[.slice none 0 0, .int .i64 7]) (by simp [results, Tryz.results21, go_sem, *]) rfl ?_
    rw [He.out]
    exact ClPost.nil Hb1.out
  | true =>
    rw [hv] at HRg Hres
    rw [Bool.and_eq_true] at hv
    simp only [if_true] at HRg Hres
    have Hv := Lib.hid hv
    clear hv
    have hn20 : n ≤ 20 := by omega
    go_wp2_with (first
      | (go_at_call 37
         refine HRg.out.mono ?_
         rintro e w1 ⟨rfl, hb1⟩
         have Hb1 := Lib.hid hb1
         have hs1 := hb1.size
         clear hb1 HRg)
      | fail)
    go_loopw [7, 9, 10, 11, 24] (fun v _ _ _ iv wr => ∃ (k : Nat) (O : LL), k ≤ n ∧ iv = .int .i64 (k : Int) ∧ (lns (l.take k)).any (bigC r) = false ∧ lns O = clipsP r (lns (l.take k)) ∧ O.length ≤ k ∧ LsOwn wr wa.heap.size v O ∧ Below wa.heap.size wa wr) (fun _ _ _ _ iv _ => n - (intOf iv).toNat)
    case atStart => exact ⟨0, [], Nat.zero_le _, rfl, rfl, rfl, Nat.zero_le _, LsOwn.nil _ _, Hb1.out⟩
    case round =>
      obtain ⟨k, O, hk, rfl, hany, hO, hOk, hown, hbw⟩ := hrel
      have Hbw := Lib.hid hbw
      have hsw := hbw.size
      obtain ⟨OA, oc, rfl, -, -, -⟩ := own_slice hown.o
      have Hown := Lib.hid hown
      have Hany := Lib.hid hany
      have HO := Lib.hid hO
      have er := (hbw.cell (p := ⟨E, 0, none⟩) hlE).trans e0
      clear hown hbw hany hO
      by_cases hkn : k < n
      · have hkn' : (k : Int) < (n : Int) := by omega
        have hkl : k < l.length := by omega
        obtain ⟨b2, o2, rfl, hb2, g0, g1, g2, g3, hS⟩ := (HLa.out.below Hbw.out).at k hkl
        have HS := Lib.hid hS
        have hvy := validL_at Hv.out.1 (List.mem_map_of_mem (List.getElem_mem hkl) : l[k].1 ∈ lns l)
        have Hts := Lib.hid (lns_take hkl)
        have HAt := Lib.hid (fun h : bigC r l[k].1 = true => (List.any_eq_true.2 ⟨l[k].1, List.mem_map_of_mem (List.getElem_mem hkl), h⟩ : (lns l).any (bigC r) = true))
        clear hS
        generalize l[k] = y at *
        obtain ⟨⟨ypc, yrg, ycr, ysch⟩, ⟨ya, yc⟩⟩ := y
        dsimp only at *
        have hcm : combineP andB yrg r = if 120 < (chooseP andB yrg r).length then ([], 1) else (chooseP andB yrg r, 0) := by
          unfold combineP
          rw [hvy, Hv.out.2]
          rfl
        have HBo := Lib.hid (fun W (hW : Below wr.heap.size wr W) => both_any ya B yrg.length yc m d yrg r W (HS.out.below hW) ((HBa.out.below Hbw.out).below hW))
        rw [hcm] at HBo
        have hrow := heap_alloc_new wr (.cells #[.int .i64 ypc, .slice ya yrg.length yc, .int .i64 ycr, .int .i64 ysch] 38)
        have Hbb : Hid (Below wr.heap.size wr (wr.alloc (.cells #[.int .i64 ypc, .slice ya yrg.length yc, .int .i64 ycr, .int .i64 ysch] 38))) := Lib.hid (by repeat' (first | with_reducible exact Below.refl _ _ | with_reducible refine below_drewN ?_ _ | with_reducible refine Below.drew ?_ | with_reducible refine Below.alloc ?_ ?_ _ | with_reducible refine Below.setCell ?_ ?_ _ | with_reducible refine Below.trans ?_ (Below.mono (by with_reducible assumption) ?_) | (simp; done) | (simp; omega) | omega))
        have hlb : wr.heap.size < (wr.alloc (.cells #[.int .i64 ypc, .slice ya yrg.length yc, .int .i64 ycr, .int .i64 ysch] 38)).heap.size := by simp
        have hEr : E < wr.heap.size := by omega
        clear hcm hvy
        go_upto_region 10 with fail
        obtain ⟨T, hT⟩ : ∃ T, wr.heap.size = T := ⟨_, rfl⟩
        rw [hT] at hrow hlb hEr ⊢
        have HTe : Hid (wr.heap.size = T) := Lib.hid hT
        have hTle : wr.heap.size ≤ T := Nat.le_of_eq hT
        generalize wr.alloc (.cells #[.int .i64 ypc, .slice ya yrg.length yc, .int .i64 ycr, .int .i64 ysch] 38) = wb at *
        have a1 := cell_of_row wb T 1 _ _ _ hrow
        have eb := (Hbb.out.cell (p := ⟨E, 0, none⟩) (by show E < _; omega)).trans er
        have Hrow := Lib.hid hrow
        clear hrow g0 g1 g2 g3 hT er
        have hsb : wr.heap.size ≤ wb.heap.size := by omega
        by_cases hbg : 120 < (chooseP andB yrg r).length
        · have He : Hid (res = ([], 1)) := Lib.hid (by
            have h := HAt.out (decide_eq_true hbg)
            rw [Hres.out, h]; rfl)
          rw [if_pos hbg] at HBo
          clear Hres HAt Hts
          go_wp2_with (first
            | (go_at_call 54
               refine (HBo.out _ Hbb.out).mono ?_
               rintro e w5 ⟨v5, rfl, hown5, hb5⟩
               dsimp only at hown5 ⊢
               obtain ⟨D, dc, rfl, -⟩ := SlR.of_own hown5
               have Hb5 := Lib.hid hb5
               have hs5 := hb5.size
               clear hown5 hb5)
            | fail)
          refine bodyPost_ret (v := .tuple #[.slice none 0 0, .int .i64 1]) (by simp [results, Tryz.results21, go_sem, *]) rfl ?_
          rw [He.out]
          exact ClPost.nil (Hba.out.trans ((Hbw.out.trans ((Hbb.out.trans ((Hb5.out.alloc (by omega) _).mono hsb)).mono hsw)).mono (by omega)))
        · have Hany2 : Hid ((lns (l.take (k + 1))).any (bigC r) = false) := Lib.hid (by
            rw [Hts.out, List.any_append, Hany.out, List.any_cons, List.any_nil]
            simp only [bigC, Bool.false_or, Bool.or_false]
            exact decide_eq_false hbg)
          have HOn : Hid (clipsP r (lns (l.take (k + 1))) = if (chooseP andB yrg r).length = 0 then lns O else lns O ++ [⟨ypc, chooseP andB yrg r, ycr, ysch⟩]) := Lib.hid (by rw [Hts.out, clipsP_snoc, HO.out])
          rw [if_neg hbg] at HBo
          clear HAt Hts Hany HO
          obtain ⟨cl, hcl⟩ : ∃ cl, chooseP andB yrg r = cl := ⟨_, rfl⟩
          rw [hcl] at HBo HOn hbg
          clear hcl
          go_upto_region 11 with (first
            | (go_at_call 54
               refine (HBo.out _ Hbb.out).mono ?_
               rintro e w5 ⟨v5, rfl, hown5, hb5⟩
               dsimp only at hown5 ⊢
               obtain ⟨D, dc, rfl, -⟩ := SlR.of_own hown5
               have Hown5 := Lib.hid hown5
               have Hb5 := Lib.hid hb5
               have hs5 := hb5.size
               clear hown5 hb5)
            | fail)
          obtain ⟨w6, hw6⟩ : ∃ w6 : World, w6 = w5.alloc (.cells #[.slice D cl.length dc] 33) := ⟨_, rfl⟩
          rw [← hw6]
          have HZ : Hid (w6.heap[w5.heap.size]? = some (.cells #[.slice D cl.length dc] 33 (0, 0))) := Lib.hid (by rw [hw6]; exact heap_alloc_new w5 _)
          have Hb6 : Hid (Below wb.heap.size wb w6) := Lib.hid (by rw [hw6]; exact Hb5.out.alloc hs5 _)
          have Hown6 := Lib.hid (own_keep Hown5.out (w' := w6) (fun b hb _ => by rw [hw6]; exact Below.heap_alloc _ _ _ hb))
          have hlZ : w5.heap.size < w6.heap.size := by rw [hw6]; simp
          obtain ⟨Z, hZ⟩ : ∃ Z, w5.heap.size = Z := ⟨_, rfl⟩
          rw [hZ] at HZ hlZ hs5 ⊢
          clear hw6 hZ Hown5 Hb5
          have hs6 := Hb6.out.size
          have z0 := cell_of_row w6 Z 0 _ _ _ HZ.out
          have hrow6 := (Hb6.out.block T hlb).trans Hrow.out
          have t1 := cell_of_row w6 T 1 _ _ _ hrow6
          have f1 := frozen_of_row w6 T 1 _ _ hrow6
          have HbT : Hid (Below wr.heap.size wr w6) := Lib.hid (Hbb.out.trans (Hb6.out.mono hsb))
          have Hrow7 := Lib.hid (heap_setCell_same w6 T 1 _ _ (.slice D cl.length dc) hrow6)
          clear hrow6 a1 eb Hrow
          by_cases hl0 : 0 < cl.length
          · have hl0' : (0 : Int) < (cl.length : Int) := by omega
            have hlne : ¬ cl.length = 0 := by omega
            rw [if_neg hlne] at HOn
            go_upto_region 15 with fail
            obtain ⟨w7, hw7⟩ : ∃ w7 : World, w7 = w6.setCell ⟨T, 1, none⟩ (.slice D cl.length dc) := ⟨_, rfl⟩
            rw [← hw7] at Hrow7 ⊢
            have Hb7 : Hid (Below wr.heap.size wr w7) := Lib.hid (by rw [hw7]; exact HbT.out.setCell (by show wr.heap.size ≤ T; have := HTe.out; omega) _)
            have hlow := own_base Hown6.out
            have hlt6 := own_lt Hown6.out
            have Hown7 : Hid (w7.ownsRow wb.heap.size 64 4 (.slice D cl.length dc) cl.length (rCells cl)) := Lib.hid (by rw [hw7]; exact own_other Hown6.out (only_setCell (g := T) (World.grownBy.refl _ _) (.inl rfl) _) (fun k hk e => by injection e with e; have := hlow k hk; omega))
            have hltO := own_lt Hown.out.o
            have HAP : Hid (∀ q, (Value.slice OA O.length oc).ownBlock = some q → (Value.slice D cl.length dc).ownBlock ≠ some q) := Lib.hid (fun q hq e => by have h1 := hltO q hq; have h2 := hlow q e; omega)
            have HO7 := Lib.hid (Hown.out.below Hb7.out)
            have hs7 := Hb7.out.size
            clear hlow hlt6 hltO hw7 Hown6
            have b0 := cell_of_row w7 T 0 _ _ _ Hrow7.out
            have b1 := cell_of_row w7 T 1 _ _ _ Hrow7.out
            have b2' := cell_of_row w7 T 2 _ _ _ Hrow7.out
            have b3 := cell_of_row w7 T 3 _ _ _ Hrow7.out
            go_wp2_with (first
              | (at_builtin
                 (go_loud (refine wpList_append_any _ rfl (.tmp 44) (.tmp 46) _ rfl wa.heap.size 38 i2 _ 4 48 Tryz.underlying25 hi2 hi2z hl1 hl2 rfl (by omega) _ O.length (lnCells O) rfl (HO7.out.o.alloc _) _ _ 1 1 [.int .i64 ypc, .slice D cl.length dc, .int .i64 ycr, .int .i64 ysch] rfl ⟨rfl, fun _ => ⟨_, rfl, Nat.lt_succ_self _, fun j u hu => (by exact news_any _ _ _ j u hu)⟩⟩ (by simp [Value.oneCell']) (by simp only [maxLen]; omega) (by omega) (by simp; omega) ?_))
                 intro v10 w10 hown10 hg10 hat10)
              | fail)
            go_roundw
            case rel =>
              have hbO := own_base Hown.out.o
              refine ⟨k + 1, O ++ [(⟨ypc, cl, ycr, ysch⟩, ⟨D, dc⟩)], by omega, by go_num, Hany2.out, ?_, by simp; omega, ?_, ?_⟩
              · rw [HOn.out]; simp [lns]
              · exact LsOwn.push HO7.out (⟨ypc, cl, ycr, ysch⟩, ⟨D, dc⟩) (own_rebase Hown7.out (by omega)) HAP.out ((Below.refl _ _).alloc (Nat.le_refl _) _) hg10 hown10 hat10
              · exact Below.grown ((Hbw.out.trans (Hb7.out.mono hsw)).alloc (by omega) _) hg10 (by simp; omega) hbO
            case measure => simp [intOf]; omega
          · have hl0' : ¬ (0 : Int) < (cl.length : Int) := by omega
            rw [if_pos (by omega)] at HOn
            go_wp2
            go_roundw
            case rel => exact ⟨k + 1, O, by omega, by go_num, Hany2.out, HOn.out.symm, by omega, Hown.out.below HbT.out, Hbw.out.trans (HbT.out.mono hsw)⟩
            case measure => simp [intOf]; omega
      · obtain rfl : k = n := by omega
        have hkn' : ¬ (k : Int) < (k : Int) := by omega
        have hfull : l.take k = l := List.take_of_length_le (by omega)
        rw [hfull] at Hany HO
        have He : Hid (res = (lns O, 0)) := Lib.hid (by rw [Hres.out, Hany.out, HO.out]; rfl)
        clear hfull
        go_wp2
        refine bodyPost_ret (v := .tuple #[.slice OA O.length oc, .int .i64 0]) (by simp [results, Tryz.results21, go_sem, *]) rfl ?_
        rw [He.out]
        exact ⟨O, OA, oc, rfl, rfl, Hown.out.rebase (by have := HEe.out; omega), Hba.out.trans (Hbw.out.mono (by omega))⟩

set_option maxHeartbeats 4000000 in
set_option maxRecDepth 100000 in
theorem sameL_any (A : Option Addr) (n c : Nat) (l : LL) (B : Option Addr) (m d : Nat) (k : LL) (w : World) (hA : SlL w A n c l) (hB : SlL w B m d k) (h : lns l = lns k) :
    Calls Tryz.prog 22 #[.slice A n c, .slice B m d] w fun e w' => e = .returned (.bool true) ∧ Below w.heap.size w w' := by
  have hx := hA.len
  have hy := hB.len
  have hm63 : n ≤ 9223372036854775807 := Nat.le_trans (Nat.le_trans hA.cap hA.top) (by unfold maxLen; omega)
  obtain rfl : m = n := by have := congrArg List.length h; rw [lns_len, lns_len] at this; omega
  have HA := Lib.hid hA
  have HB := Lib.hid hB
  have Hx := Lib.hid hx
  have Hy := Lib.hid hy
  have Hlk : Hid (∀ (i : Nat) (h1 : i < l.length) (h2 : i < k.length), l[i].1 = k[i].1) := Lib.hid (fun i h1 h2 => by
    have e1 : (lns l)[i]'(by rw [lns_len]; exact h1) = l[i].1 := by simp [lns]
    have e2 : (lns k)[i]'(by rw [lns_len]; exact h2) = k[i].1 := by simp [lns]
    rw [← e1, ← e2]
    simp only [h])
  clear hA hB h hx hy
  go_enter Tryz.func22, Tryz.ntmps22
  go_wp2_with fail
  go_loopw [5, 13] (fun _ iv wr => ∃ i : Nat, i ≤ m ∧ iv = .int .i64 (i : Int) ∧ Below w.heap.size w wr) (fun _ iv _ => m - (intOf iv).toNat)
  case atStart => exact ⟨0, Nat.zero_le _, rfl, Below.refl _ _⟩
  case round =>
    obtain ⟨i, hi, rfl, hbw⟩ := hrel
    have Hbw := Lib.hid hbw
    have hsw := hbw.size
    clear hbw
    by_cases him : i < m
    · have him' : (i : Int) < (m : Int) := by omega
      have h1 : i < l.length := by have := Hx.out; omega
      have h2 : i < k.length := by have := Hy.out; omega
      obtain ⟨b1, o1, rfl, hb1, g0, g1, g2, g3, hS1⟩ := (HA.out.below Hbw.out).at i h1
      obtain ⟨b2, o2, rfl, hb2, k0, k1, k2, k3, hS2⟩ := (HB.out.below Hbw.out).at i h2
      have hyz := Hlk.out i h1 h2
      have HS1 := Lib.hid hS1
      have HS2 := Lib.hid hS2
      clear hS1 hS2
      generalize l[i] = y at *
      generalize k[i] = z at *
      obtain ⟨⟨ypc, yrg, ycr, ysch⟩, ⟨ya, yc⟩⟩ := y
      obtain ⟨z1, ⟨za, zc⟩⟩ := z
      dsimp only at *
      subst hyz
      dsimp only at *
      have HSm := Lib.hid (fun W (hW : Below wr.heap.size wr W) => sameRef_any ya za yrg.length yc yrg.length zc yrg yrg W (HS1.out.below hW) (HS2.out.below hW))
      rw [decide_eq_true rfl] at HSm
      go_upto_region 6 with fail
      refine wp_region_below (W := wr) wr.heap.size (Nat.le_refl _) (by kernel_rfl) (by kernel_rfl) ?_
      intro I _ F hFc hFb hFs
      repeat (go_big_quiet_step ((go_at_call 18; with_reducible exact class_call hFb hFs (Nat.le_refl _) (HSm.out _ (hFb _)))))
      refine wpQuiet_nil ?_
      rintro _ ⟨iq, rfl⟩
      go_wp2
      go_roundw
      case rel => exact ⟨i + 1, by omega, by go_num, Hbw.out.trans ((hFb iq).mono hsw)⟩
      case measure => simp [intOf]; omega
    · obtain rfl : i = m := by omega
      have him' : ¬ (i : Int) < (i : Int) := by omega
      go_wp2
      go_ret
      exact ⟨rfl, Hbw.out⟩

theorem InS.mono {s t : Int} {l : List R4} (h : InS s l) (hs : s ≤ t) : InS t l := fun q hq => by have := h q hq; omega
/-- What a line keeps within a region. -/
theorem clip_one {R : List (List R4)} {nc : Nat} {x : Ln} {a : List R4} (hR : PcOk R) (h : LnOk R nc x) (ha : InS 30 a) :
    (∀ u v, inL (chooseP andB x.rg a) u v = (inL x.rg u v && inL a u v)) ∧ Reg 30 120 (chooseP andB x.rg a) ∧ ((chooseP andB x.rg a).length ≠ 0 → LnOk R nc ⟨x.pc, chooseP andB x.rg a, x.cr, x.sch⟩) ∧ chooseP andB (chooseP andB x.rg a) a = chooseP andB x.rg a := by
  have hm : ∀ u v, inL (chooseP andB x.rg a) u v = (inL x.rg u v && inL a u v) := fun u v => choose_mem andB rfl h.reg.ins.pos ha.pos u v
  have hr0 := choose_reg andB rfl 30 h.reg.ins ha
  obtain ⟨p, hp, hpc, hin⟩ := h.pc
  have hbx : ∀ u v, inL (chooseP andB x.rg a) u v = true → 10 * (p : Int) ≤ u ∧ u < 10 * (p : Int) + 9 ∧ 0 ≤ v ∧ v < 9 := fun u v huv => by
    rw [hm, Bool.and_eq_true] at huv
    exact (hR.at' p hp).in u v (hin u v huv.1)
  have hl : (chooseP andB x.rg a).length ≤ 9 * (((List.range 10).map fun j : Nat => 10 * (p : Int) + (j : Int)).length / 2) := by
    refine canon_len hr0.can (X := (List.range 10).map fun j : Nat => 10 * (p : Int) + (j : Int)) (fun y u hu => ?_) 9 (fun u v huv => by have := hbx u v huv; omega)
    have hr : 10 * (p : Int) ≤ u ∧ u ≤ 10 * (p : Int) + 9 := by
      dsimp only at hu
      cases h1 : inL (chooseP andB x.rg a) (u - 1) y with
      | true => have := hbx _ _ h1; omega
      | false =>
        cases h2 : inL (chooseP andB x.rg a) u y with
        | true => have := hbx _ _ h2; omega
        | false => rw [h1, h2] at hu; exact absurd rfl hu
    exact List.mem_map.2 ⟨(u - 10 * (p : Int)).toNat, List.mem_range.2 (by omega), by omega⟩
  have hreg : Reg 30 120 (chooseP andB x.rg a) := ⟨hr0.ins, hr0.canon, by rw [List.length_map, List.length_range] at hl; omega⟩
  refine ⟨hm, hreg, fun hne => ⟨⟨p, hp, hpc, fun u v huv => ?_⟩, hreg, fun e => hne (by dsimp only at e; rw [e]; rfl), h.cr, h.sch⟩, ?_⟩
  · dsimp only at huv
    rw [hm, Bool.and_eq_true] at huv
    exact hin u v huv.1
  · refine choose_is rfl hr0.ins.pos hr0.canon hr0.ins.pos ha.pos fun u v => ?_
    rw [hm]
    show ((inL x.rg u v && inL a u v) && inL a u v) = _
    cases inL x.rg u v <;> cases inL a u v <;> rfl
theorem mem_clips {a : List R4} {y : Ln} : ∀ {L : List Ln}, y ∈ clipsP a L → ∃ x ∈ L, (chooseP andB x.rg a).length ≠ 0 ∧ y = ⟨x.pc, chooseP andB x.rg a, x.cr, x.sch⟩
  | [], h => by simp [clipsP] at h
  | x :: t, h => by
    rw [clipsP] at h
    rcases List.mem_append.1 h with h | h
    · split at h
      · simp at h
      · rename_i hn
        rw [List.mem_singleton] at h
        exact ⟨x, List.mem_cons_self, hn, h⟩
    · obtain ⟨z, hz, h1, h2⟩ := mem_clips h
      exact ⟨z, List.mem_cons_of_mem _ hz, h1, h2⟩
theorem clips_same {a : List R4} : ∀ {M : List Ln}, (∀ x ∈ M, chooseP andB x.rg a = x.rg ∧ x.rg.length ≠ 0) → clipsP a M = M
  | [], _ => rfl
  | x :: t, h => by
    obtain ⟨h1, h2⟩ := h x List.mem_cons_self
    rw [clipsP, h1, if_neg h2, clips_same fun y hy => h y (List.mem_cons_of_mem _ hy)]
    rfl
theorem clips_len (a : List R4) : ∀ L : List Ln, (clipsP a L).length ≤ L.length
  | [] => Nat.le_refl _
  | x :: t => by
    have := clips_len a t
    rw [clipsP, List.length_append, List.length_cons]
    split <;> simp <;> omega
theorem clips_dis {a : List R4} {s : Int} (ha : InS s a) : ∀ {L : List Ln}, (∀ x ∈ L, InS s x.rg) → (L.Pairwise fun a b => ∀ u v, inL a.rg u v = true → inL b.rg u v = false) → (clipsP a L).Pairwise fun a b => ∀ u v, inL a.rg u v = true → inL b.rg u v = false
  | [], _, _ => List.Pairwise.nil
  | x :: t, h, hp => by
    obtain ⟨h1, h2⟩ := List.pairwise_cons.1 hp
    have ih := clips_dis ha (fun y hy => h y (List.mem_cons_of_mem _ hy)) h2
    rw [clipsP]
    split
    · exact ih
    · rw [List.singleton_append, List.pairwise_cons]
      refine ⟨fun y hy u v huv => ?_, ih⟩
      obtain ⟨z, hz, -, rfl⟩ := mem_clips hy
      dsimp only at huv ⊢
      rw [choose_mem andB rfl (h x List.mem_cons_self).pos ha.pos] at huv
      rw [choose_mem andB rfl (h z (List.mem_cons_of_mem _ hz)).pos ha.pos]
      unfold andB at huv ⊢
      rw [Bool.and_eq_true] at huv
      rw [h1 z hz u v huv.1]
      rfl
theorem apart_of {R : List (List R4)} {nc : Nat} {L : LL} (hok : ∀ x ∈ lns L, LnOk R nc x) (hdis : (lns L).Pairwise fun a b => ∀ u v, inL a.rg u v = true → inL b.rg u v = false) (i : Nat) (hi : i < L.length) : (L.take i).any (fun y => meetsP L[i].1.rg y.1.rg) = false := by
  rw [List.any_eq_false]
  intro y hy
  obtain ⟨j, hj, rfl⟩ := List.mem_take_iff_getElem.1 hy
  have hji : j < i := by omega
  have hjl : j < L.length := by omega
  have hd := List.pairwise_iff_getElem.1 hdis j i (by rw [lns_len]; exact hjl) (by rw [lns_len]; exact hi) hji
  have e1 : (lns L)[j]'(by rw [lns_len]; exact hjl) = L[j].1 := by simp [lns]
  have e2 : (lns L)[i]'(by rw [lns_len]; exact hi) = L[i].1 := by simp [lns]
  rw [e1, e2] at hd
  have h1 := hok _ (List.mem_map_of_mem (List.getElem_mem hi))
  have h2 := hok _ (List.mem_map_of_mem (List.getElem_mem hjl))
  rw [meets_not h1.reg.ins h2.reg.ins (fun u v huv => by
    cases hc : inL L[j].1.rg u v with
    | false => rfl
    | true => rw [hd u v hc] at huv; cases huv)]
  simp
/-- Lines that are clipped. -/
theorem clips_law {R : List (List R4)} {nc k : Nat} {L : List Ln} {a : List R4} {m : Nat} (hR : PcOk R) (h : LsOk R nc k L) (hk : k ≤ 4) (ha : Reg 20 m a) (hm : m ≤ 120) :
    clipCP L a = (clipsP a L, 0) ∧ clipCP (clipsP a L) a = (clipsP a L, 0) ∧ (∀ x ∈ clipsP a L, LnOk R nc x) ∧ (clipsP a L).Pairwise (fun a b => ∀ u v, inL a.rg u v = true → inL b.rg u v = false) ∧ (clipsP a L).length ≤ 4 ∧ ∀ x ∈ L, combineP andB x.rg a = (chooseP andB x.rg a, 0) := by
  have ha3 : InS 30 a := ha.ins.mono (by omega)
  have hva := ha.valid (by omega) hm
  have hL := h.len
  have hcl := clips_len a L
  have hok : ∀ x ∈ clipsP a L, LnOk R nc x := fun y hy => by
    obtain ⟨x, hx, hne, rfl⟩ := mem_clips hy
    exact (clip_one hR (h.ok x hx) ha3).2.2.1 hne
  have hval : ∀ M : List Ln, (∀ x ∈ M, LnOk R nc x) → M.length ≤ 4 → clipCP M a = (clipsP a M, 0) := fun M hM hl => by
    unfold clipCP
    rw [if_neg (by omega), show validL M = true from List.all_eq_true.2 fun x hx => (hM x hx).reg.valid (by omega) (by omega), hva, show M.any (bigC a) = false from List.any_eq_false.2 fun x hx => by
      have := (clip_one hR (hM x hx) ha3).2.1.len
      unfold bigC
      rw [decide_eq_true_eq]
      omega]
    rfl
  refine ⟨hval L h.ok (by omega), ?_, hok, clips_dis ha3 (fun x hx => (h.ok x hx).reg.ins) h.dis, by omega, fun x hx => ?_⟩
  · rw [hval _ hok (by omega), clips_same fun y hy => ?_]
    obtain ⟨x, hx, hne, rfl⟩ := mem_clips hy
    exact ⟨(clip_one hR (h.ok x hx) ha3).2.2.2, hne⟩
  · unfold combineP
    rw [(h.ok x hx).reg.valid (by omega) (by omega), hva, Bool.and_self, if_pos rfl, if_neg (by have := (clip_one hR (h.ok x hx) ha3).2.1.len; omega)]
end Go.Proofs.YtglanlpjoaholaaGreat

namespace Go.Proofs.YtglanlpjoaholaaGreat
open Go.RowKit Go.Shelf
set_option linter.unusedVariables false
set_option linter.unusedSimpArgs false

theorem SlR.grownX {w w' : World} {A : Option Addr} {n c : Nat} {l : List R4} {row : Option Nat} (h : SlR w A n c l) (hg : w.grownBy w' row) (hne : ∀ b off, A = some ⟨b, off, none⟩ → row ≠ some b ∨ n = 0) : SlR w' A n c l := by
  refine ⟨h.len, h.cap, h.top, ?_⟩
  rcases h.lies with h0 | ⟨b, off, e, hb, hc⟩
  · exact .inl h0
  · rcases hne b off e with h1 | h1
    · refine .inr ⟨b, off, e, Nat.lt_of_lt_of_le hb hg.size, fun j u hu => ?_⟩
      rw [← hc j u hu]
      exact World.cell?_of_block (a := ⟨b, off + j, none⟩) (hg.block b hb fun e => h1 e.symm)
    · exact .inl h1
theorem SlR.of_ownX {w : World} {base : Nat} {v : Value} {l : List R4} (h : w.ownsRow base 64 4 v l.length (rCells l)) : ∃ A c, v = .slice A l.length c ∧ SlR w A l.length c l ∧ ∀ b off, A = some ⟨b, off, none⟩ → base ≤ b := by
  obtain ⟨A, c, rfl, hS⟩ := SlR.of_own h
  have hb := own_base h
  exact ⟨A, c, rfl, hS, fun b off e => by subst e; exact hb b rfl⟩
/-- A region that a function hands back, wherever it lies. -/
def RegL (w : World) (res : List R4 × Int) (e : Ending) (w' : World) : Prop :=
  ∃ A c, e = .returned (.tuple #[.agg #[.slice A res.1.length c], .int .i64 res.2]) ∧ SlR w' A res.1.length c res.1 ∧ Below w.heap.size w w'

set_option maxHeartbeats 400000 in
theorem some13_any (A : Option Addr) (n c : Nat) (w : World) : Calls Tryz.prog 59 #[.slice A n c] w fun e w' => e = .returned (.int .i64 (if 20 < n then 1 else 0)) ∧ w = w' := by
  by_cases h : 20 < n
  · have h' : (20 : Int) < (n : Int) := by omega
    rw [if_pos h]
    go_enter Tryz.func59, Tryz.ntmps59
    go_wp2
    go_ret
    exact ⟨rfl, rfl⟩
  · have h' : ¬ (20 : Int) < (n : Int) := by omega
    rw [if_neg h]
    go_enter Tryz.func59, Tryz.ntmps59
    go_wp2
    go_ret
    exact ⟨rfl, rfl⟩

set_option maxHeartbeats 2000000 in
set_option maxRecDepth 100000 in
theorem valid13_any (A : Option Addr) (n c : Nat) (l : LL) (w : World) (hA : SlL w A n c l) : Calls Tryz.prog 60 #[.slice A n c] w fun e w' => e = .returned (.int .i64 (if validL (lns l) then 0 else 7)) ∧ Below w.heap.size w w' := by
  have hlen := hA.len
  have hn63 : n ≤ 9223372036854775807 := Nat.le_trans (Nat.le_trans hA.cap hA.top) (by unfold maxLen; omega)
  have HA := Lib.hid hA
  have Hlen := Lib.hid hlen
  obtain ⟨res, hres⟩ : ∃ res : Int, (if validL (lns l) then 0 else 7) = res := ⟨_, rfl⟩
  rw [hres]
  have Hres : Hid (res = if validL (lns l) then 0 else 7) := Lib.hid hres.symm
  clear hA hlen hres
  go_enter Tryz.func60, Tryz.ntmps60
  go_wp2_with fail
  go_loopw [4, 7] (fun _ iv wr => ∃ k : Nat, k ≤ n ∧ iv = .int .i64 (k : Int) ∧ Hid (validL (lns (l.take k)) = true) ∧ Below w.heap.size w wr) (fun _ iv _ => n - (intOf iv).toNat)
  case atStart => exact ⟨0, Nat.zero_le _, rfl, Lib.hid rfl, Below.refl _ _⟩
  case round =>
    obtain ⟨k, hk, rfl, Hall, hbw⟩ := hrel
    have Hbw := Lib.hid hbw
    have hsw := hbw.size
    clear hbw
    by_cases hkn : k < n
    · have hkn' : (k : Int) < (n : Int) := by omega
      have hkl : k < l.length := by have := Hlen.out; omega
      obtain ⟨b2, o2, rfl, hb2, g0, g1, g2, g3, hS⟩ := (HA.out.below Hbw.out).at k hkl
      have HV := Lib.hid (fun W (hW : Below wr.heap.size wr W) => validR_any _ _ _ _ W (hS.below hW))
      have Hnx : Hid (validL (lns (l.take (k + 1))) = validP l[k].1.rg) := Lib.hid (by
        rw [lns_take hkl]
        unfold validL at *
        rw [List.all_append, Hall.out]
        simp)
      have Hbad : Hid (validP l[k].1.rg = false → res = 7) := Lib.hid (fun h => by
        rw [Hres.out, if_neg]
        intro hv
        have := validL_at hv (List.mem_map_of_mem (List.getElem_mem hkl) : l[k].1 ∈ lns l)
        rw [h] at this
        cases this)
      clear hS
      generalize l[k] = y at *
      obtain ⟨⟨ypc, yrg, ycr, ysch⟩, ⟨ya, yc⟩⟩ := y
      dsimp only at *
      generalize validP yrg = vy at *
      have hrow := heap_alloc_new wr (.cells #[.int .i64 ypc, .slice ya yrg.length yc, .int .i64 ycr, .int .i64 ysch] 38)
      have Hbb : Hid (Below wr.heap.size wr (wr.alloc (.cells #[.int .i64 ypc, .slice ya yrg.length yc, .int .i64 ycr, .int .i64 ysch] 38))) := Lib.hid (by repeat' (first | with_reducible exact Below.refl _ _ | with_reducible refine below_drewN ?_ _ | with_reducible refine Below.drew ?_ | with_reducible refine Below.alloc ?_ ?_ _ | with_reducible refine Below.setCell ?_ ?_ _ | with_reducible refine Below.trans ?_ (Below.mono (by with_reducible assumption) ?_) | (simp; done) | (simp; omega) | omega))
      have hlb : wr.heap.size < (wr.alloc (.cells #[.int .i64 ypc, .slice ya yrg.length yc, .int .i64 ycr, .int .i64 ysch] 38)).heap.size := by simp
      go_upto_region 4 with fail
      obtain ⟨T, hT⟩ : ∃ T, wr.heap.size = T := ⟨_, rfl⟩
      rw [hT] at hrow hlb ⊢
      generalize wr.alloc (.cells #[.int .i64 ypc, .slice ya yrg.length yc, .int .i64 ycr, .int .i64 ysch] 38) = wb at *
      have a1 := cell_of_row wb T 1 _ _ _ hrow
      have hsb := Hbb.out.size
      clear g0 g1 g2 g3 hrow hT
      cases vy with
      | false =>
        have He : Hid (res = 7) := Lib.hid (Hbad.out rfl)
        go_wp2_with (first
          | (go_at_call 41
             refine (HV.out _ Hbb.out).mono ?_
             rintro e w5 ⟨rfl, hb5⟩
             have Hb5 := Lib.hid (Hbw.out.trans ((Hbb.out.trans (hb5.mono hsb)).mono hsw))
             clear hb5)
          | fail)
        go_ret
        exact ⟨by rw [He.out]; rfl, Hb5.out⟩
      | true =>
        have Hall2 := Lib.hid Hnx.out
        clear Hnx Hbad
        go_wp2_with (first
          | (go_at_call 41
             refine (HV.out _ Hbb.out).mono ?_
             rintro e w5 ⟨rfl, hb5⟩
             have Hb5 := Lib.hid (Hbw.out.trans ((Hbb.out.trans (hb5.mono hsb)).mono hsw))
             clear hb5)
          | fail)
        go_roundw
        case rel => exact ⟨k + 1, by omega, by go_num, Hall2, Hb5.out⟩
        case measure => simp [intOf]; omega
    · obtain rfl : k = n := by omega
      have hkn' : ¬ (k : Int) < (k : Int) := by omega
      have hall := Hall.out
      rw [List.take_of_length_le (by rw [Hlen.out]; exact Nat.le_refl _)] at hall
      have He : Hid (res = 0) := Lib.hid (by rw [Hres.out, if_pos hall])
      clear hall
      go_wp2
      go_ret
      exact ⟨by rw [He.out]; rfl, Hbw.out⟩

set_option maxHeartbeats 8000000 in
set_option maxRecDepth 100000 in
theorem rest13_any (A : Option Addr) (n c : Nat) (l : LL) (p : Int) (B : Option Addr) (m d : Nat) (r : List R4) (w : World) (hL : SlL w A n c l) (hB : SlR w B m d r) (hc : CutsL (lns l)) (hm : m ≤ 92) :
    Calls Tryz.prog 31 #[.slice A n c, .int .i64 p, .agg #[.slice B m d]] w (RegL w (restCP (lns l) p r)) := by
  have hx := hL.len
  have hxb := hB.len
  have HL := Lib.hid hL
  have HB := Lib.hid hB
  have Hln : Hid ((lns l).length = n) := Lib.hid (by rw [lns_len]; exact hx)
  have Hres : Hid (restCP (lns l) p r = if 20 < (lns l).length then ([], 1) else if validL (lns l) && validP r then limP (chooseP notB r (rectsP (onP p) (lns l))) else ([], 7)) := Lib.hid rfl
  rw [Hln.out] at Hres
  have Hch := Lib.hid (fun h1 h2 => @rest_chain (lns l) h1 p r h2)
  have Hfew : Hid (validP r = true → ∀ k, (chainP notB r (picks (onP p) (lns (l.take k)))).length ≤ 60000) := Lib.hid (fun h k => chain_few (hc.sub fun x hx => by
    obtain ⟨y, hy, rfl⟩ := List.mem_map.1 hx
    exact List.mem_map_of_mem (List.mem_of_mem_take hy)) (onP p) h (by omega))
  have HSo := Lib.hid (fun W => some13_any A n c W)
  have HVl := Lib.hid (fun W (hW : Below w.heap.size w W) => valid13_any A n c l W (hL.below hW))
  have HVr := Lib.hid (fun W (hW : Below w.heap.size w W) => validR_any B m d r W (hB.below hW))
  have Hxb := Lib.hid hxb
  generalize restCP (lns l) p r = res at *
  clear hL hB hc hxb
  go_enter Tryz.func31, Tryz.ntmps31
  go_upto_region 1 with fail
  obtain ⟨wa, hwa⟩ : ∃ wa : World, wa = (w.alloc (.cells #[.slice B m d] 33)).alloc (.cells #[.slice none 0 0] 33) := ⟨_, rfl⟩
  rw [← hwa]
  have HE : Hid (wa.heap[w.heap.size]? = some (.cells #[.slice B m d] 33 (0, 0))) := Lib.hid (by rw [hwa]; exact (Below.heap_alloc _ _ _ (by simp)).trans (heap_alloc_new w _))
  obtain ⟨T, hT⟩ : ∃ T, w.heap.size + 1 = T := ⟨_, rfl⟩
  have HT : Hid (wa.heap[T]? = some (.cells #[.slice none 0 0] 33 (0, 0))) := Lib.hid (by rw [hwa, ← hT]; have hzz := heap_alloc_new (w.alloc (.cells #[.slice B m d] 33)) (.cells #[.slice none 0 0] 33); simpa using hzz)
  have Hba : Hid (Below w.heap.size w wa) := Lib.hid (by rw [hwa]; exact (by repeat' (first | with_reducible exact Below.refl _ _ | with_reducible refine below_drewN ?_ _ | with_reducible refine Below.drew ?_ | with_reducible refine Below.alloc ?_ ?_ _ | with_reducible refine Below.setCell ?_ ?_ _ | with_reducible refine Below.trans ?_ (Below.mono (by with_reducible assumption) ?_) | (simp; done) | (simp; omega) | omega)))
  have hlT : T < wa.heap.size := by rw [hwa, ← hT]; simp
  have hGT : w.heap.size < T := by omega
  have hsa : w.heap.size ≤ wa.heap.size := by omega
  rw [hT]
  clear hwa hT
  have e0 := cell_of_row wa w.heap.size 0 _ _ _ HE.out
  by_cases h1 : 20 < n
  · have h1' : (20 : Int) < (n : Int) := by omega
    have He : Hid (res = ([], 1)) := Lib.hid (by rw [Hres.out, if_pos h1])
    rw [if_pos h1] at HSo
    clear Hres
    have hr := HT.out
    have cr := cell_of_row wa T 0 _ _ _ hr
    have fr := frozen_of_row wa T 0 _ _ hr
    have cs : (wa.setCell ⟨T, 0, none⟩ (.slice none 0 0)).cell? ⟨T, 0, none⟩ = some (.slice none 0 0) := by
      rw [cell_of_row _ T 0 _ _ _ (heap_setCell_same wa T 0 _ _ _ hr)]
      simp
    go_wp2_with (first | (go_at_call 59; refine (HSo.out _).mono ?_; rintro e w' ⟨rfl, rfl⟩) | fail)
    refine bodyPost_ret (v := .tuple #[.agg #[.slice none 0 0], .int .i64 1]) (by simp [results, Tryz.results31, go_sem, *]) rfl ?_
    rw [He.out]
    exact ⟨none, 0, rfl, SlR.nil _, Hba.out.setCell (Nat.le_of_lt hGT) _⟩
  have h1' : ¬ (20 : Int) < (n : Int) := by omega
  rw [if_neg h1] at Hres HSo
  cases hv1 : validL (lns l) with
  | false =>
    rw [hv1] at HVl Hres
    have He : Hid (res = ([], 7)) := Lib.hid (by rw [Hres.out]; rfl)
    clear hv1 Hres
    go_wp2_with (first
      | (go_at_call 59; refine (HSo.out _).mono ?_; rintro e w' ⟨rfl, rfl⟩)
      | (go_at_call 60
         refine (HVl.out _ Hba.out).mono ?_
         rintro e w1 ⟨rfl, hb1⟩
         have hr := (hb1.block T hlT).trans HT.out
         have cr := cell_of_row w1 T 0 _ _ _ hr
         have fr := frozen_of_row w1 T 0 _ _ hr
         have cs : (w1.setCell ⟨T, 0, none⟩ (.slice none 0 0)).cell? ⟨T, 0, none⟩ = some (.slice none 0 0) := (by
           rw [cell_of_row _ T 0 _ _ _ (heap_setCell_same w1 T 0 _ _ _ hr)]
           simp)
         have Hb1 := Lib.hid (Hba.out.trans (hb1.mono hsa))
         clear hb1 hr)
      | fail)
    refine bodyPost_ret (v := .tuple #[.agg #[.slice none 0 0], .int .i64 7]) (by simp [results, Tryz.results31, go_sem, *]) rfl ?_
    rw [He.out]
    exact ⟨none, 0, rfl, SlR.nil _, Hb1.out.setCell (Nat.le_of_lt hGT) _⟩
  | true =>
  cases hv2 : validP r with
  | false =>
    rw [hv1] at HVl
    rw [hv2] at HVr
    rw [hv1, hv2] at Hres
    have He : Hid (res = ([], 7)) := Lib.hid (by rw [Hres.out]; rfl)
    clear hv1 hv2 Hres
    go_wp2_with (first
      | (go_at_call 59; refine (HSo.out _).mono ?_; rintro e w' ⟨rfl, rfl⟩)
      | (go_at_call 60
         refine (HVl.out _ Hba.out).mono ?_
         rintro e w1 ⟨rfl, hb1⟩
         have e01 := (hb1.cell (p := ⟨w.heap.size, 0, none⟩) (by show w.heap.size < _; omega)).trans e0
         have HT1 := Lib.hid ((hb1.block T hlT).trans HT.out)
         have Hb1 := Lib.hid (Hba.out.trans (hb1.mono hsa))
         have hs1 := hb1.size
         clear hb1)
      | (go_at_call 41
         refine (HVr.out _ Hb1.out).mono ?_
         rintro e w2 ⟨rfl, hb2⟩
         have hr := (hb2.block T (by omega)).trans HT1.out
         have cr := cell_of_row w2 T 0 _ _ _ hr
         have fr := frozen_of_row w2 T 0 _ _ hr
         have cs : (w2.setCell ⟨T, 0, none⟩ (.slice none 0 0)).cell? ⟨T, 0, none⟩ = some (.slice none 0 0) := (by
           rw [cell_of_row _ T 0 _ _ _ (heap_setCell_same w2 T 0 _ _ _ hr)]
           simp)
         have Hb2 := Lib.hid (Hb1.out.trans (hb2.mono (by omega)))
         clear hb2 hr)
      | fail)
    refine bodyPost_ret (v := .tuple #[.agg #[.slice none 0 0], .int .i64 7]) (by simp [results, Tryz.results31, go_sem, *]) rfl ?_
    rw [He.out]
    exact ⟨none, 0, rfl, SlR.nil _, Hb2.out.setCell (Nat.le_of_lt hGT) _⟩
  | true =>
    rw [hv1] at HVl
    rw [hv2] at HVr
    have Hch0 := Lib.hid (Hch.out hv1 hv2)
    have Hfew0 := Lib.hid (Hfew.out hv2)
    have Hva := Lib.hid hv1
    rw [hv1, hv2] at Hres
    simp only [Bool.and_self, if_true] at Hres
    clear hv1 hv2 Hch Hfew
    have hn20 : n ≤ 20 := by omega
    go_upto_region 8 with (first
      | (go_at_call 59; refine (HSo.out _).mono ?_; rintro e w' ⟨rfl, rfl⟩)
      | (go_at_call 60
         refine (HVl.out _ Hba.out).mono ?_
         rintro e w1 ⟨rfl, hb1⟩
         have e01 := (hb1.cell (p := ⟨w.heap.size, 0, none⟩) (by show w.heap.size < _; omega)).trans e0
         have HT1 := Lib.hid ((hb1.block T hlT).trans HT.out)
         have Hb1 := Lib.hid (Hba.out.trans (hb1.mono hsa))
         have hs1 := hb1.size
         clear hb1)
      | (go_at_call 41
         refine (HVr.out _ Hb1.out).mono ?_
         rintro e w2 ⟨rfl, hb2⟩
         have e02 := (hb2.cell (p := ⟨w.heap.size, 0, none⟩) (by show w.heap.size < _; omega)).trans e01
         have HT2 := Lib.hid ((hb2.block T (by omega)).trans HT1.out)
         have Hb2 := Lib.hid (Hb1.out.trans (hb2.mono (by omega)))
         have hs2 := hb2.size
         clear hb2)
      | fail)
    clear e01 e02 e0
    have hT2 : T < w2.heap.size := by omega
    go_wp2_with fail
    go_loopw [10, 12, 33] (fun v _ iv wr => ∃ (k : Nat) (D : Option Addr) (e : Nat), iv = .int .i64 (k : Int) ∧ k ≤ n ∧ v = .slice D (chainP notB r (picks (onP p) (lns (l.take k)))).length e ∧ SlR wr D (chainP notB r (picks (onP p) (lns (l.take k)))).length e (chainP notB r (picks (onP p) (lns (l.take k)))) ∧ Hid (∀ b off, D = some ⟨b, off, none⟩ → b ≠ T ∨ (chainP notB r (picks (onP p) (lns (l.take k)))).length = 0) ∧ Below w2.heap.size w2 wr) (fun _ _ iv _ => n - (intOf iv).toNat)
    case atStart =>
      refine ⟨0, B, d, rfl, by omega, by rw [show chainP notB r (picks (onP p) (lns (l.take 0))) = r from rfl, Hxb.out], by rw [show chainP notB r (picks (onP p) (lns (l.take 0))) = r from rfl, Hxb.out]; exact HB.out.below Hb2.out, Lib.hid (fun b off e => ?_), Below.refl _ _⟩
      rw [show chainP notB r (picks (onP p) (lns (l.take 0))) = r from rfl, Hxb.out]
      rcases HB.out.lies with h0 | ⟨b', off', e', hb', -⟩
      · exact .inr h0
      · rw [e'] at e
        injection e with e
        injection e with e1 e2
        exact .inl (by omega)
    case round =>
      obtain ⟨k, D, e, rfl, hkn, rfl, hS, Hne, hbr⟩ := hrel
      have Hbr := Lib.hid hbr
      have hsr := hbr.size
      have HS := Lib.hid hS
      clear hbr hS
      by_cases hk : k < n
      · have hk' : (k : Int) < (n : Int) := by omega
        have hkl : k < l.length := by omega
        have Hnx := Lib.hid (by rw [lns_take hkl, picks_snoc] : picks (onP p) (lns (l.take (k + 1))) = if onP p l[k].1 then picks (onP p) (lns (l.take k)) ++ [l[k].1.rg] else picks (onP p) (lns (l.take k)))
        have hle := Hfew0.out k
        have Hq : Hid (l[k].1.rg.length ≤ 120) := Lib.hid (valid_parts (validL_at Hva.out (List.mem_map_of_mem (List.getElem_mem hkl) : l[k].1 ∈ lns l))).1
        obtain ⟨b2, o2, rfl, hb2, g0, g1, g2, g3, hSy⟩ := ((HL.out.below Hb2.out).below Hbr.out).at k hkl
        have HSy := Lib.hid hSy
        clear hSy
        generalize l[k] = y at *
        obtain ⟨⟨ypc, yrg, ycr, ysch⟩, ⟨ya, yc⟩⟩ := y
        dsimp only at *
        obtain ⟨P2, hP2⟩ : ∃ P2, picks (onP p) (lns (l.take (k + 1))) = P2 := ⟨_, rfl⟩
        obtain ⟨P1, hP1⟩ : ∃ P1, picks (onP p) (lns (l.take k)) = P1 := ⟨_, rfl⟩
        have HP2 := Lib.hid hP2
        rw [hP2] at Hnx
        rw [hP1] at HS Hnx hle Hne ⊢
        clear hP1 hP2
        have hrow := heap_alloc_new wr (.cells #[.int .i64 ypc, .slice ya yrg.length yc, .int .i64 ycr, .int .i64 ysch] 38)
        have Hbb : Hid (Below wr.heap.size wr (wr.alloc (.cells #[.int .i64 ypc, .slice ya yrg.length yc, .int .i64 ycr, .int .i64 ysch] 38))) := Lib.hid (by repeat' (first | with_reducible exact Below.refl _ _ | with_reducible refine below_drewN ?_ _ | with_reducible refine Below.drew ?_ | with_reducible refine Below.alloc ?_ ?_ _ | with_reducible refine Below.setCell ?_ ?_ _ | with_reducible refine Below.trans ?_ (Below.mono (by with_reducible assumption) ?_) | (simp; done) | (simp; omega) | omega))
        have hlb : wr.heap.size < (wr.alloc (.cells #[.int .i64 ypc, .slice ya yrg.length yc, .int .i64 ycr, .int .i64 ysch] 38)).heap.size := by simp
        go_upto_region 11 with fail
        obtain ⟨S, hS'⟩ : ∃ S, wr.heap.size = S := ⟨_, rfl⟩
        rw [hS'] at hrow hlb ⊢
        have hSr : wr.heap.size ≤ S := Nat.le_of_eq hS'
        generalize wr.alloc (.cells #[.int .i64 ypc, .slice ya yrg.length yc, .int .i64 ycr, .int .i64 ysch] 38) = wb at *
        have a0 := cell_of_row wb S 0 _ _ _ hrow
        have a1 := cell_of_row wb S 1 _ _ _ hrow
        have hsb := Hbb.out.size
        clear g0 g1 g2 g3 hrow hS'
        by_cases hpe : ypc = p
        · have hon : onP p ⟨ypc, yrg, ycr, ysch⟩ = true := by simp [onP, hpe]
          rw [hon, if_pos rfl] at Hnx
          have Hch2 : Hid (chainP notB r P2 = combP (howR 3) (chainP notB r P1) yrg) := Lib.hid (by rw [Hnx.out, chainP_snoc, howR3])
          clear hon Hnx
          obtain ⟨U, hU⟩ : ∃ U, chainP notB r P1 = U := ⟨_, rfl⟩
          rw [hU] at HS Hch2 hle Hne ⊢
          have Hcb := Lib.hid (fun W hW => combineR_any D ya U.length e yrg.length yc U yrg 3 W (HS.out.below hW) (HSy.out.below hW) (by have := Hq.out; omega))
          rw [← Hch2.out] at Hcb
          clear hU hle
          obtain ⟨un, hun⟩ : ∃ un, U.length = un := ⟨_, rfl⟩
          rw [hun] at Hcb ⊢
          clear hun
          go_wp2_with (first
            | (go_at_call 36
               refine (Hcb.out _ Hbb.out).mono ?_
               rintro e w5 ⟨v5, rfl, hown5, hb5⟩
               obtain ⟨E2, ec, rfl, hS5, hge⟩ := SlR.of_ownX hown5
               have HS5 := Lib.hid hS5
               have Hge := Lib.hid hge
               have Hb5 : Hid (Below wr.heap.size wr w5) := Lib.hid (Hbb.out.trans (hb5.mono hsb))
               clear hown5 hb5 hS5 hge)
            | fail)
          go_roundw
          case rel => exact ⟨k + 1, E2, ec, by go_num, by omega, by rw [HP2.out], by rw [HP2.out]; exact HS5.out, Lib.hid (fun b off e => .inl (by have := Hge.out b off e; omega)), Hbr.out.trans (Hb5.out.mono hsr)⟩
          case measure => simp [intOf]; omega
        · have hon : onP p ⟨ypc, yrg, ycr, ysch⟩ = false := by simp [onP, hpe]
          rw [hon, if_neg (by simp)] at Hnx
          clear hon
          have Hch2 : Hid (chainP notB r P2 = chainP notB r P1) := Lib.hid (by rw [Hnx.out])
          clear Hnx
          obtain ⟨U, hU⟩ : ∃ U, chainP notB r P1 = U := ⟨_, rfl⟩
          rw [hU] at HS Hch2 hle Hne ⊢
          clear hU
          obtain ⟨un, hun⟩ : ∃ un, U.length = un := ⟨_, rfl⟩
          have Hun := Lib.hid hun
          rw [hun]
          clear hun hle
          go_wp2
          go_roundw
          case rel => exact ⟨k + 1, D, e, by go_num, by omega, by rw [HP2.out, Hch2.out, Hun.out], by rw [HP2.out, Hch2.out]; exact HS.out.below Hbb.out, Lib.hid (by rw [HP2.out, Hch2.out]; exact Hne.out), Hbr.out.trans (Hbb.out.mono hsr)⟩
          case measure => simp [intOf]; omega
      · obtain rfl : k = n := by omega
        have hk' : ¬ (k : Int) < (k : Int) := by omega
        have htk : l.take k = l := List.take_of_length_le (by omega)
        rw [htk, Hch0.out] at HS Hne ⊢
        clear htk
        obtain ⟨U, hU⟩ : ∃ U, chooseP notB r (rectsP (onP p) (lns l)) = U := ⟨_, rfl⟩
        rw [hU] at HS Hne Hres ⊢
        clear hU
        obtain ⟨un, hun⟩ : ∃ un, U.length = un := ⟨_, rfl⟩
        have Hun := Lib.hid hun
        unfold limP at Hres
        rw [hun] at Hres ⊢
        clear hun
        have hTr : T < wr.heap.size := by omega
        have HTr := Lib.hid ((Hbr.out.block T hT2).trans HT2.out)
        by_cases hbg : 120 < un
        · have He : Hid (res = ([], 1)) := Lib.hid (by rw [Hres.out, if_pos hbg])
          clear Hres
          go_wp2_with (first
            | (go_at_call 61
               refine (boundR_big D un e _ hbg).mono ?_
               rintro e' w3 ⟨rfl, hb3⟩
               have hr := (hb3.block T hTr).trans HTr.out
               have cr := cell_of_row w3 T 0 _ _ _ hr
               have fr := frozen_of_row w3 T 0 _ _ hr
               have cs : (w3.setCell ⟨T, 0, none⟩ (.slice none 0 0)).cell? ⟨T, 0, none⟩ = some (.slice none 0 0) := (by
                 rw [cell_of_row _ T 0 _ _ _ (heap_setCell_same w3 T 0 _ _ _ hr)]
                 simp)
               have Hb3 := Lib.hid (Hb2.out.trans ((Hbr.out.trans (hb3.mono hsr)).mono (by omega)))
               clear hb3 hr)
            | fail)
          refine bodyPost_ret (v := .tuple #[.agg #[.slice none 0 0], .int .i64 1]) (by simp [results, Tryz.results31, go_sem, *]) rfl ?_
          rw [He.out]
          exact ⟨none, 0, rfl, SlR.nil _, Hb3.out.setCell (Nat.le_of_lt hGT) _⟩
        · have He : Hid (res = (U, 0)) := Lib.hid (by rw [Hres.out, if_neg hbg])
          clear Hres
          go_wp2_with (first
            | (go_at_call 61
               refine (boundR_ok D un e _ (by omega)).mono ?_
               rintro e' w3 ⟨rfl, hb3⟩
               have hr := (hb3.block T hTr).trans HTr.out
               have cr := cell_of_row w3 T 0 _ _ _ hr
               have fr := frozen_of_row w3 T 0 _ _ hr
               have cs : (w3.setCell ⟨T, 0, none⟩ (.slice D un e)).cell? ⟨T, 0, none⟩ = some (.slice D un e) := (by
                 rw [cell_of_row _ T 0 _ _ _ (heap_setCell_same w3 T 0 _ _ _ hr)]
                 simp)
               have HS3 := Lib.hid (HS.out.below hb3)
               have Hb3 := Lib.hid (Hb2.out.trans ((Hbr.out.trans (hb3.mono hsr)).mono (by omega)))
               clear hb3 hr)
            | fail)
          refine bodyPost_ret (v := .tuple #[.agg #[.slice D un e], .int .i64 0]) (by simp [results, Tryz.results31, go_sem, *]) rfl ?_
          rw [He.out]
          refine ⟨D, e, by rw [Hun.out], HS3.out.grownX (row := some T) (only_setCell (g := T) (World.grownBy.refl _ _) (.inl rfl) _) (fun b off e => ?_), Hb3.out.setCell (Nat.le_of_lt hGT) _⟩
          rcases Hne.out b off e with h | h
          · exact .inl (fun e => by injection e with e; exact h e.symm)
          · exact .inr h

set_option maxHeartbeats 8000000 in
set_option maxRecDepth 100000 in
theorem claimed13_any (A : Option Addr) (n c : Nat) (l : LL) (s : Int) (w : World) (hL : SlL w A n c l) (hc : CutsL (lns l)) :
    Calls Tryz.prog 33 #[.slice A n c, .int .i64 s] w (RegL w (claimedP (lns l) s)) := by
  have hx := hL.len
  have HL := Lib.hid hL
  have Hln : Hid ((lns l).length = n) := Lib.hid (by rw [lns_len]; exact hx)
  have Hres : Hid (claimedP (lns l) s = if 20 < (lns l).length then ([], 1) else if s < 0 ∨ 15 < s then ([], 2) else if validL (lns l) then limP (canonP (rectsP (bitP s) (lns l))) else ([], 7)) := Lib.hid rfl
  rw [Hln.out] at Hres
  have Hch := Lib.hid (fun h1 => @claimed_chain (lns l) h1 (bitP s))
  have Hfew : Hid (∀ k, (chainP orB [] (picks (bitP s) (lns (l.take k)))).length ≤ 60000) := Lib.hid (fun k => union_few (hc.sub fun x hx => by
    obtain ⟨y, hy, rfl⟩ := List.mem_map.1 hx
    exact List.mem_map_of_mem (List.mem_of_mem_take hy)) (bitP s))
  have HSo := Lib.hid (fun W => some13_any A n c W)
  have HVl := Lib.hid (fun W (hW : Below w.heap.size w W) => valid13_any A n c l W (hL.below hW))
  generalize claimedP (lns l) s = res at *
  clear hL hc
  go_enter Tryz.func33, Tryz.ntmps33
  go_upto_region 1 with fail
  obtain ⟨wa, hwa⟩ : ∃ wa : World, wa = w.alloc (.cells #[.slice none 0 0] 33) := ⟨_, rfl⟩
  rw [← hwa]
  obtain ⟨T, hT⟩ : ∃ T, w.heap.size = T := ⟨_, rfl⟩
  have HT : Hid (wa.heap[T]? = some (.cells #[.slice none 0 0] 33 (0, 0))) := Lib.hid (by rw [hwa, ← hT]; exact heap_alloc_new w _)
  have Hba : Hid (Below w.heap.size w wa) := Lib.hid (by rw [hwa]; exact (by repeat' (first | with_reducible exact Below.refl _ _ | with_reducible refine below_drewN ?_ _ | with_reducible refine Below.drew ?_ | with_reducible refine Below.alloc ?_ ?_ _ | with_reducible refine Below.setCell ?_ ?_ _ | with_reducible refine Below.trans ?_ (Below.mono (by with_reducible assumption) ?_) | (simp; done) | (simp; omega) | omega)))
  have hlT : T < wa.heap.size := by rw [hwa, ← hT]; simp
  have hGT : w.heap.size ≤ T := by omega
  have hsa : w.heap.size ≤ wa.heap.size := by omega
  rw [hT]
  clear hwa hT
  by_cases h1 : 20 < n
  · have h1' : (20 : Int) < (n : Int) := by omega
    have He : Hid (res = ([], 1)) := Lib.hid (by rw [Hres.out, if_pos h1])
    rw [if_pos h1] at HSo
    clear Hres
    have hr := HT.out
    have cr := cell_of_row wa T 0 _ _ _ hr
    have fr := frozen_of_row wa T 0 _ _ hr
    have cs : (wa.setCell ⟨T, 0, none⟩ (.slice none 0 0)).cell? ⟨T, 0, none⟩ = some (.slice none 0 0) := by
      rw [cell_of_row _ T 0 _ _ _ (heap_setCell_same wa T 0 _ _ _ hr)]
      simp
    go_wp2_with (first | (go_at_call 59; refine (HSo.out _).mono ?_; rintro e w' ⟨rfl, rfl⟩) | fail)
    refine bodyPost_ret (v := .tuple #[.agg #[.slice none 0 0], .int .i64 1]) (by simp [results, Tryz.results33, go_sem, *]) rfl ?_
    rw [He.out]
    exact ⟨none, 0, rfl, SlR.nil _, Hba.out.setCell hGT _⟩
  have h1' : ¬ (20 : Int) < (n : Int) := by omega
  rw [if_neg h1] at Hres HSo
  by_cases h2 : s < 0
  · have He : Hid (res = ([], 2)) := Lib.hid (by rw [Hres.out, if_pos (.inl h2)])
    clear Hres
    have h2d : decide (s < 0) = true := decide_eq_true h2
    have hr := HT.out
    have cr := cell_of_row wa T 0 _ _ _ hr
    have fr := frozen_of_row wa T 0 _ _ hr
    have cs : (wa.setCell ⟨T, 0, none⟩ (.slice none 0 0)).cell? ⟨T, 0, none⟩ = some (.slice none 0 0) := by
      rw [cell_of_row _ T 0 _ _ _ (heap_setCell_same wa T 0 _ _ _ hr)]
      simp
    go_wp2_with (first | (go_at_call 59; refine (HSo.out _).mono ?_; rintro e w' ⟨rfl, rfl⟩) | fail)
    refine bodyPost_ret (v := .tuple #[.agg #[.slice none 0 0], .int .i64 2]) (by simp [results, Tryz.results33, go_sem, *]) rfl ?_
    rw [He.out]
    exact ⟨none, 0, rfl, SlR.nil _, Hba.out.setCell hGT _⟩
  have h2d : decide (s < 0) = false := decide_eq_false h2
  by_cases h3 : 15 < s
  · have He : Hid (res = ([], 2)) := Lib.hid (by rw [Hres.out, if_pos (.inr h3)])
    clear Hres
    have h3d : decide (15 < s) = true := decide_eq_true h3
    have hr := HT.out
    have cr := cell_of_row wa T 0 _ _ _ hr
    have fr := frozen_of_row wa T 0 _ _ hr
    have cs : (wa.setCell ⟨T, 0, none⟩ (.slice none 0 0)).cell? ⟨T, 0, none⟩ = some (.slice none 0 0) := by
      rw [cell_of_row _ T 0 _ _ _ (heap_setCell_same wa T 0 _ _ _ hr)]
      simp
    go_wp2_with (first | (go_at_call 59; refine (HSo.out _).mono ?_; rintro e w' ⟨rfl, rfl⟩) | fail)
    refine bodyPost_ret (v := .tuple #[.agg #[.slice none 0 0], .int .i64 2]) (by simp [results, Tryz.results33, go_sem, *]) rfl ?_
    rw [He.out]
    exact ⟨none, 0, rfl, SlR.nil _, Hba.out.setCell hGT _⟩
  have h3d : decide (15 < s) = false := decide_eq_false h3
  rw [if_neg (by omega)] at Hres
  cases hv1 : validL (lns l) with
  | false =>
    rw [hv1] at HVl Hres
    have He : Hid (res = ([], 7)) := Lib.hid (by rw [Hres.out]; rfl)
    clear hv1 Hres
    go_wp2_with (first
      | (go_at_call 59; refine (HSo.out _).mono ?_; rintro e w' ⟨rfl, rfl⟩)
      | (go_at_call 60
         refine (HVl.out _ Hba.out).mono ?_
         rintro e w1 ⟨rfl, hb1⟩
         have hr := (hb1.block T hlT).trans HT.out
         have cr := cell_of_row w1 T 0 _ _ _ hr
         have fr := frozen_of_row w1 T 0 _ _ hr
         have cs : (w1.setCell ⟨T, 0, none⟩ (.slice none 0 0)).cell? ⟨T, 0, none⟩ = some (.slice none 0 0) := (by
           rw [cell_of_row _ T 0 _ _ _ (heap_setCell_same w1 T 0 _ _ _ hr)]
           simp)
         have Hb1 := Lib.hid (Hba.out.trans (hb1.mono hsa))
         clear hb1 hr)
      | fail)
    refine bodyPost_ret (v := .tuple #[.agg #[.slice none 0 0], .int .i64 7]) (by simp [results, Tryz.results33, go_sem, *]) rfl ?_
    rw [He.out]
    exact ⟨none, 0, rfl, SlR.nil _, Hb1.out.setCell hGT _⟩
  | true =>
    rw [hv1] at HVl
    have Hch0 := Lib.hid (Hch.out hv1)
    have Hva := Lib.hid hv1
    rw [hv1] at Hres
    simp only [if_true] at Hres
    clear hv1 Hch
    have hn20 : n ≤ 20 := by omega
    go_upto_region 10 with (first
      | (go_at_call 59; refine (HSo.out _).mono ?_; rintro e w' ⟨rfl, rfl⟩)
      | (go_at_call 60
         refine (HVl.out _ Hba.out).mono ?_
         rintro e w2 ⟨rfl, hb1⟩
         have HT2 := Lib.hid ((hb1.block T hlT).trans HT.out)
         have Hb2 := Lib.hid (Hba.out.trans (hb1.mono hsa))
         have hs2 := hb1.size
         clear hb1)
      | fail)
    have hT2 : T < w2.heap.size := by omega
    go_wp2_with fail
    go_loopw [8, 10, 32] (fun v _ iv wr => ∃ (k : Nat) (D : Option Addr) (e : Nat), iv = .int .i64 (k : Int) ∧ k ≤ n ∧ v = .slice D (chainP orB [] (picks (bitP s) (lns (l.take k)))).length e ∧ SlR wr D (chainP orB [] (picks (bitP s) (lns (l.take k)))).length e (chainP orB [] (picks (bitP s) (lns (l.take k)))) ∧ Hid (∀ b off, D = some ⟨b, off, none⟩ → b ≠ T) ∧ Below w2.heap.size w2 wr) (fun _ _ iv _ => n - (intOf iv).toNat)
    case atStart => exact ⟨0, none, 0, rfl, by omega, rfl, SlR.nil _, Lib.hid (fun b off e => by cases e), Below.refl _ _⟩
    case round =>
      obtain ⟨k, D, e, rfl, hkn, rfl, hS, Hne, hbr⟩ := hrel
      have Hbr := Lib.hid hbr
      have hsr := hbr.size
      have HS := Lib.hid hS
      clear hbr hS
      by_cases hk : k < n
      · have hk' : (k : Int) < (n : Int) := by omega
        have hkl : k < l.length := by omega
        have Hnx := Lib.hid (by rw [lns_take hkl, picks_snoc] : picks (bitP s) (lns (l.take (k + 1))) = if bitP s l[k].1 then picks (bitP s) (lns (l.take k)) ++ [l[k].1.rg] else picks (bitP s) (lns (l.take k)))
        have hle := Hfew.out k
        have Hq : Hid (l[k].1.rg.length ≤ 120) := Lib.hid (valid_parts (validL_at Hva.out (List.mem_map_of_mem (List.getElem_mem hkl) : l[k].1 ∈ lns l))).1
        obtain ⟨b2, o2, rfl, hb2, g0, g1, g2, g3, hSy⟩ := ((HL.out.below Hb2.out).below Hbr.out).at k hkl
        have HSy := Lib.hid hSy
        clear hSy
        generalize l[k] = y at *
        obtain ⟨⟨ypc, yrg, ycr, ysch⟩, ⟨ya, yc⟩⟩ := y
        dsimp only at *
        obtain ⟨P2, hP2⟩ : ∃ P2, picks (bitP s) (lns (l.take (k + 1))) = P2 := ⟨_, rfl⟩
        obtain ⟨P1, hP1⟩ : ∃ P1, picks (bitP s) (lns (l.take k)) = P1 := ⟨_, rfl⟩
        have HP2 := Lib.hid hP2
        rw [hP2] at Hnx
        rw [hP1] at HS Hnx hle ⊢
        clear hP1 hP2
        have hrow := heap_alloc_new wr (.cells #[.int .i64 ypc, .slice ya yrg.length yc, .int .i64 ycr, .int .i64 ysch] 38)
        have Hbb : Hid (Below wr.heap.size wr (wr.alloc (.cells #[.int .i64 ypc, .slice ya yrg.length yc, .int .i64 ycr, .int .i64 ysch] 38))) := Lib.hid (by repeat' (first | with_reducible exact Below.refl _ _ | with_reducible refine below_drewN ?_ _ | with_reducible refine Below.drew ?_ | with_reducible refine Below.alloc ?_ ?_ _ | with_reducible refine Below.setCell ?_ ?_ _ | with_reducible refine Below.trans ?_ (Below.mono (by with_reducible assumption) ?_) | (simp; done) | (simp; omega) | omega))
        have hlb : wr.heap.size < (wr.alloc (.cells #[.int .i64 ypc, .slice ya yrg.length yc, .int .i64 ycr, .int .i64 ysch] 38)).heap.size := by simp
        go_upto_region 13 with fail
        obtain ⟨S, hS'⟩ : ∃ S, wr.heap.size = S := ⟨_, rfl⟩
        rw [hS'] at hrow hlb ⊢
        have hSr : wr.heap.size ≤ S := Nat.le_of_eq hS'
        generalize wr.alloc (.cells #[.int .i64 ypc, .slice ya yrg.length yc, .int .i64 ycr, .int .i64 ysch] 38) = wb at *
        have a3 := cell_of_row wb S 3 _ _ _ hrow
        have a1 := cell_of_row wb S 1 _ _ _ hrow
        have hsb := Hbb.out.size
        clear g0 g1 g2 g3 hrow hS'
        by_cases hpe : bits BinOp.and IntKind.i64 (ysch / 2 ^ s.toNat) 1 = 1
        · have hon : bitP s ⟨ypc, yrg, ycr, ysch⟩ = true := by simp [bitP, hpe]
          rw [hon, if_pos rfl] at Hnx
          have Hch2 : Hid (chainP orB [] P2 = combP (howR 1) (chainP orB [] P1) yrg) := Lib.hid (by rw [Hnx.out, chainP_snoc, howR1])
          clear hon Hnx
          obtain ⟨U, hU⟩ : ∃ U, chainP orB [] P1 = U := ⟨_, rfl⟩
          rw [hU] at HS Hch2 hle ⊢
          have Hcb := Lib.hid (fun W hW => combineR_any D ya U.length e yrg.length yc U yrg 1 W (HS.out.below hW) (HSy.out.below hW) (by have := Hq.out; omega))
          rw [← Hch2.out] at Hcb
          clear hU hle
          obtain ⟨un, hun⟩ : ∃ un, U.length = un := ⟨_, rfl⟩
          rw [hun] at Hcb ⊢
          clear hun
          go_wp2_with (first
            | (go_at_call 36
               refine (Hcb.out _ Hbb.out).mono ?_
               rintro e w5 ⟨v5, rfl, hown5, hb5⟩
               obtain ⟨E2, ec, rfl, hS5, hge⟩ := SlR.of_ownX hown5
               have HS5 := Lib.hid hS5
               have Hge := Lib.hid hge
               have Hb5 : Hid (Below wr.heap.size wr w5) := Lib.hid (Hbb.out.trans (hb5.mono hsb))
               clear hown5 hb5 hS5 hge)
            | fail)
          go_roundw
          case rel => exact ⟨k + 1, E2, ec, by go_num, by omega, by rw [HP2.out], by rw [HP2.out]; exact HS5.out, Lib.hid (fun b off e => by have := Hge.out b off e; omega), Hbr.out.trans (Hb5.out.mono hsr)⟩
          case measure => simp [intOf]; omega
        · have hon : bitP s ⟨ypc, yrg, ycr, ysch⟩ = false := by simp [bitP, hpe]
          rw [hon, if_neg (by simp)] at Hnx
          clear hon
          have Hch2 : Hid (chainP orB [] P2 = chainP orB [] P1) := Lib.hid (by rw [Hnx.out])
          clear Hnx
          obtain ⟨U, hU⟩ : ∃ U, chainP orB [] P1 = U := ⟨_, rfl⟩
          rw [hU] at HS Hch2 hle ⊢
          clear hU
          obtain ⟨un, hun⟩ : ∃ un, U.length = un := ⟨_, rfl⟩
          have Hun := Lib.hid hun
          rw [hun]
          clear hun hle
          go_wp2
          go_roundw
          case rel => exact ⟨k + 1, D, e, by go_num, by omega, by rw [HP2.out, Hch2.out, Hun.out], by rw [HP2.out, Hch2.out]; exact HS.out.below Hbb.out, Hne, Hbr.out.trans (Hbb.out.mono hsr)⟩
          case measure => simp [intOf]; omega
      · obtain rfl : k = n := by omega
        have hk' : ¬ (k : Int) < (k : Int) := by omega
        have htk : l.take k = l := List.take_of_length_le (by omega)
        rw [htk, Hch0.out] at HS ⊢
        clear htk
        obtain ⟨U, hU⟩ : ∃ U, canonP (rectsP (bitP s) (lns l)) = U := ⟨_, rfl⟩
        rw [hU] at HS Hres ⊢
        clear hU
        obtain ⟨un, hun⟩ : ∃ un, U.length = un := ⟨_, rfl⟩
        have Hun := Lib.hid hun
        unfold limP at Hres
        rw [hun] at Hres ⊢
        clear hun
        have hTr : T < wr.heap.size := by omega
        have HTr := Lib.hid ((Hbr.out.block T hT2).trans HT2.out)
        by_cases hbg : 120 < un
        · have He : Hid (res = ([], 1)) := Lib.hid (by rw [Hres.out, if_pos hbg])
          clear Hres
          go_wp2_with (first
            | (go_at_call 61
               refine (boundR_big D un e _ hbg).mono ?_
               rintro e' w3 ⟨rfl, hb3⟩
               have hr := (hb3.block T hTr).trans HTr.out
               have cr := cell_of_row w3 T 0 _ _ _ hr
               have fr := frozen_of_row w3 T 0 _ _ hr
               have cs : (w3.setCell ⟨T, 0, none⟩ (.slice none 0 0)).cell? ⟨T, 0, none⟩ = some (.slice none 0 0) := (by
                 rw [cell_of_row _ T 0 _ _ _ (heap_setCell_same w3 T 0 _ _ _ hr)]
                 simp)
               have Hb3 := Lib.hid (Hb2.out.trans ((Hbr.out.trans (hb3.mono hsr)).mono (by omega)))
               clear hb3 hr)
            | fail)
          refine bodyPost_ret (v := .tuple #[.agg #[.slice none 0 0], .int .i64 1]) (by simp [results, Tryz.results33, go_sem, *]) rfl ?_
          rw [He.out]
          exact ⟨none, 0, rfl, SlR.nil _, Hb3.out.setCell hGT _⟩
        · have He : Hid (res = (U, 0)) := Lib.hid (by rw [Hres.out, if_neg hbg])
          clear Hres
          go_wp2_with (first
            | (go_at_call 61
               refine (boundR_ok D un e _ (by omega)).mono ?_
               rintro e' w3 ⟨rfl, hb3⟩
               have hr := (hb3.block T hTr).trans HTr.out
               have cr := cell_of_row w3 T 0 _ _ _ hr
               have fr := frozen_of_row w3 T 0 _ _ hr
               have cs : (w3.setCell ⟨T, 0, none⟩ (.slice D un e)).cell? ⟨T, 0, none⟩ = some (.slice D un e) := (by
                 rw [cell_of_row _ T 0 _ _ _ (heap_setCell_same w3 T 0 _ _ _ hr)]
                 simp)
               have HS3 := Lib.hid (HS.out.below hb3)
               have Hb3 := Lib.hid (Hb2.out.trans ((Hbr.out.trans (hb3.mono hsr)).mono (by omega)))
               clear hb3 hr)
            | fail)
          refine bodyPost_ret (v := .tuple #[.agg #[.slice D un e], .int .i64 0]) (by simp [results, Tryz.results33, go_sem, *]) rfl ?_
          rw [He.out]
          exact ⟨D, e, by rw [Hun.out], HS3.out.grownX (row := some T) (only_setCell (g := T) (World.grownBy.refl _ _) (.inl rfl) _) (fun b off e => .inl (fun e' => by injection e' with e'; exact Hne.out b off e e'.symm)), Hb3.out.setCell hGT _⟩

set_option maxHeartbeats 4000000 in
set_option maxRecDepth 100000 in
theorem clip13_any (A : Option Addr) (n c : Nat) (l : LL) (B : Option Addr) (m d : Nat) (r : List R4) (w : World) (hL : SlL w A n c l) (hB : SlR w B m d r) :
    Calls Tryz.prog 32 #[.slice A n c, .agg #[.slice B m d]] w (ClPost w (clipCP (lns l) r)) := by
  obtain ⟨i2, hi2, hi2z, hl1, hl2⟩ := info_parts Tryz.infoLine
  have hx := hL.len
  have hxb := hB.len
  have Hln : Hid ((lns l).length = n) := Lib.hid (by rw [lns_len]; exact hx)
  have HL := Lib.hid hL
  have HB := Lib.hid hB
  have Hres : Hid (clipCP (lns l) r = if 20 < (lns l).length then ([], 1) else if validL (lns l) && validP r then (if (lns l).any (bigC r) then ([], 1) else (clipsP r (lns l), 0)) else ([], 7)) := Lib.hid rfl
  rw [Hln.out] at Hres
  generalize clipCP (lns l) r = res at *
  clear hL hB
  go_enter Tryz.func32, Tryz.ntmps32
  go_upto_region 1 with fail
  obtain ⟨wa, hwa⟩ : ∃ wa : World, wa = w.alloc (.cells #[.slice B m d] 33) := ⟨_, rfl⟩
  rw [← hwa]
  have HE : Hid (wa.heap[w.heap.size]? = some (.cells #[.slice B m d] 33 (0, 0))) := Lib.hid (by rw [hwa]; exact heap_alloc_new w _)
  have Hba : Hid (Below w.heap.size w wa) := Lib.hid (by rw [hwa]; exact (by repeat' (first | with_reducible exact Below.refl _ _ | with_reducible refine below_drewN ?_ _ | with_reducible refine Below.drew ?_ | with_reducible refine Below.alloc ?_ ?_ _ | with_reducible refine Below.setCell ?_ ?_ _ | with_reducible refine Below.trans ?_ (Below.mono (by with_reducible assumption) ?_) | (simp; done) | (simp; omega) | omega)))
  have hlE : w.heap.size < wa.heap.size := by rw [hwa]; simp
  have hEw : w.heap.size ≤ wa.heap.size := Nat.le_of_lt hlE
  have HLa := Lib.hid (HL.out.below Hba.out)
  have HBa := Lib.hid (HB.out.below Hba.out)
  clear hwa HL HB
  obtain ⟨E, hE⟩ : ∃ E, w.heap.size = E := ⟨_, rfl⟩
  rw [hE] at HE hlE ⊢
  have HEe : Hid (w.heap.size = E) := Lib.hid hE
  clear hE
  have e0 := cell_of_row wa E 0 _ _ _ HE.out
  have HSo := Lib.hid (fun W => some13_any A n c W)
  have HVl := Lib.hid (fun W (hW : Below wa.heap.size wa W) => valid13_any A n c l W (HLa.out.below hW))
  have HVr := Lib.hid (fun W (hW : Below wa.heap.size wa W) => validR_any B m d r W (HBa.out.below hW))
  by_cases h1 : 20 < n
  · have h1' : (20 : Int) < (n : Int) := by omega
    have He : Hid (res = ([], 1)) := Lib.hid (by rw [Hres.out, if_pos h1])
    rw [if_pos h1] at HSo
    clear Hres
    go_wp2_with (first | (go_at_call 59; refine (HSo.out _).mono ?_; rintro e w' ⟨rfl, rfl⟩) | fail)
    refine bodyPost_ret (v := .tuple #[.slice none 0 0, .int .i64 1]) (by simp [results, Tryz.results32, go_sem, *]) rfl ?_
    rw [He.out]
    exact ClPost.nil Hba.out
  have h1' : ¬ (20 : Int) < (n : Int) := by omega
  rw [if_neg h1] at Hres HSo
  cases hv1 : validL (lns l) with
  | false =>
    rw [hv1] at HVl Hres
    have He : Hid (res = ([], 7)) := Lib.hid (by rw [Hres.out]; rfl)
    clear hv1 Hres
    go_wp2_with (first
      | (go_at_call 59; refine (HSo.out _).mono ?_; rintro e w' ⟨rfl, rfl⟩)
      | (go_at_call 60
         refine (HVl.out _ (Below.refl _ _)).mono ?_
         rintro e w1 ⟨rfl, hb1⟩
         have Hb1 := Lib.hid (Hba.out.trans (hb1.mono (by omega)))
         clear hb1)
      | fail)
    refine bodyPost_ret (v := .tuple #[.slice none 0 0, .int .i64 7]) (by simp [results, Tryz.results32, go_sem, *]) rfl ?_
    rw [He.out]
    exact ClPost.nil Hb1.out
  | true =>
  cases hv2 : validP r with
  | false =>
    rw [hv1] at HVl
    rw [hv2] at HVr
    rw [hv1, hv2] at Hres
    have He : Hid (res = ([], 7)) := Lib.hid (by rw [Hres.out]; rfl)
    clear hv1 hv2 Hres
    go_wp2_with (first
      | (go_at_call 59; refine (HSo.out _).mono ?_; rintro e w' ⟨rfl, rfl⟩)
      | (go_at_call 60
         refine (HVl.out _ (Below.refl _ _)).mono ?_
         rintro e w1 ⟨rfl, hb1⟩
         have e01 := (hb1.cell (p := ⟨E, 0, none⟩) hlE).trans e0
         have Hb1 := Lib.hid hb1
         have hs1 := hb1.size
         clear hb1)
      | (go_at_call 41
         refine (HVr.out _ Hb1.out).mono ?_
         rintro e w2 ⟨rfl, hb2⟩
         have Hb2 := Lib.hid (Hba.out.trans ((Hb1.out.trans (hb2.mono hs1)).mono hEw))
         clear hb2)
      | fail)
    refine bodyPost_ret (v := .tuple #[.slice none 0 0, .int .i64 7]) (by simp [results, Tryz.results32, go_sem, *]) rfl ?_
    rw [He.out]
    exact ClPost.nil (by have := HEe.out; subst this; exact Hb2.out)
  | true =>
    rw [hv1] at HVl
    rw [hv2] at HVr
    have Hv : Hid (validL (lns l) = true ∧ validP r = true) := Lib.hid ⟨hv1, hv2⟩
    rw [hv1, hv2] at Hres
    simp only [Bool.and_self, if_true] at Hres
    clear hv1 hv2
    have hn20 : n ≤ 20 := by omega
    go_upto_region 7 with (first
      | (go_at_call 59; refine (HSo.out _).mono ?_; rintro e w' ⟨rfl, rfl⟩)
      | (go_at_call 60
         refine (HVl.out _ (Below.refl _ _)).mono ?_
         rintro e w1' ⟨rfl, hb1'⟩
         have e01 := (hb1'.cell (p := ⟨E, 0, none⟩) hlE).trans e0
         have Hb1' := Lib.hid hb1'
         have hs1' := hb1'.size
         clear hb1')
      | (go_at_call 41
         refine (HVr.out _ Hb1'.out).mono ?_
         rintro e w1 ⟨rfl, hb2⟩
         have Hb1 : Hid (Below wa.heap.size wa w1) := Lib.hid (Hb1'.out.trans (hb2.mono hs1'))
         have hs1 := Hb1.out.size
         clear hb2)
      | fail)
    clear e01
    go_wp2_with fail
    go_loopw [8, 10, 11, 12, 29] (fun v _ _ _ iv wr => ∃ (k : Nat) (O : LL), k ≤ n ∧ iv = .int .i64 (k : Int) ∧ (lns (l.take k)).any (bigC r) = false ∧ lns O = clipsP r (lns (l.take k)) ∧ O.length ≤ k ∧ LsOwn wr wa.heap.size v O ∧ Below wa.heap.size wa wr) (fun _ _ _ _ iv _ => n - (intOf iv).toNat)
    case atStart => exact ⟨0, [], Nat.zero_le _, rfl, rfl, rfl, Nat.zero_le _, LsOwn.nil _ _, Hb1.out⟩
    case round =>
      obtain ⟨k, O, hk, rfl, hany, hO, hOk, hown, hbw⟩ := hrel
      have Hbw := Lib.hid hbw
      have hsw := hbw.size
      obtain ⟨OA, oc, rfl, -, -, -⟩ := own_slice hown.o
      have Hown := Lib.hid hown
      have Hany := Lib.hid hany
      have HO := Lib.hid hO
      have er := (hbw.cell (p := ⟨E, 0, none⟩) hlE).trans e0
      clear hown hbw hany hO
      by_cases hkn : k < n
      · have hkn' : (k : Int) < (n : Int) := by omega
        have hkl : k < l.length := by omega
        obtain ⟨b2, o2, rfl, hb2, g0, g1, g2, g3, hS⟩ := (HLa.out.below Hbw.out).at k hkl
        have HS := Lib.hid hS
        have hvy := validL_at Hv.out.1 (List.mem_map_of_mem (List.getElem_mem hkl) : l[k].1 ∈ lns l)
        have Hts := Lib.hid (lns_take hkl)
        have HAt := Lib.hid (fun h : bigC r l[k].1 = true => (List.any_eq_true.2 ⟨l[k].1, List.mem_map_of_mem (List.getElem_mem hkl), h⟩ : (lns l).any (bigC r) = true))
        clear hS
        generalize l[k] = y at *
        obtain ⟨⟨ypc, yrg, ycr, ysch⟩, ⟨ya, yc⟩⟩ := y
        dsimp only at *
        have hcm : combineP andB yrg r = if 120 < (chooseP andB yrg r).length then ([], 1) else (chooseP andB yrg r, 0) := by
          unfold combineP
          rw [hvy, Hv.out.2]
          rfl
        have HBo := Lib.hid (fun W (hW : Below wr.heap.size wr W) => bothR_any ya B yrg.length yc m d yrg r W (HS.out.below hW) ((HBa.out.below Hbw.out).below hW))
        rw [hcm] at HBo
        have hrow := heap_alloc_new wr (.cells #[.int .i64 ypc, .slice ya yrg.length yc, .int .i64 ycr, .int .i64 ysch] 38)
        have Hbb : Hid (Below wr.heap.size wr (wr.alloc (.cells #[.int .i64 ypc, .slice ya yrg.length yc, .int .i64 ycr, .int .i64 ysch] 38))) := Lib.hid (by repeat' (first | with_reducible exact Below.refl _ _ | with_reducible refine below_drewN ?_ _ | with_reducible refine Below.drew ?_ | with_reducible refine Below.alloc ?_ ?_ _ | with_reducible refine Below.setCell ?_ ?_ _ | with_reducible refine Below.trans ?_ (Below.mono (by with_reducible assumption) ?_) | (simp; done) | (simp; omega) | omega))
        have hlb : wr.heap.size < (wr.alloc (.cells #[.int .i64 ypc, .slice ya yrg.length yc, .int .i64 ycr, .int .i64 ysch] 38)).heap.size := by simp
        have hEr : E < wr.heap.size := by omega
        clear hcm hvy
        go_upto_region 11 with fail
        obtain ⟨T, hT⟩ : ∃ T, wr.heap.size = T := ⟨_, rfl⟩
        rw [hT] at hrow hlb hEr ⊢
        have HTe : Hid (wr.heap.size = T) := Lib.hid hT
        have hTle : wr.heap.size ≤ T := Nat.le_of_eq hT
        generalize wr.alloc (.cells #[.int .i64 ypc, .slice ya yrg.length yc, .int .i64 ycr, .int .i64 ysch] 38) = wb at *
        have a1 := cell_of_row wb T 1 _ _ _ hrow
        have eb := (Hbb.out.cell (p := ⟨E, 0, none⟩) (by show E < _; omega)).trans er
        have Hrow := Lib.hid hrow
        clear hrow g0 g1 g2 g3 hT er
        have hsb : wr.heap.size ≤ wb.heap.size := by omega
        by_cases hbg : 120 < (chooseP andB yrg r).length
        · have He : Hid (res = ([], 1)) := Lib.hid (by
            have h := HAt.out (decide_eq_true hbg)
            rw [Hres.out, h]; rfl)
          rw [if_pos hbg] at HBo
          clear Hres HAt Hts
          go_wp2_with (first
            | (go_at_call 23
               refine (HBo.out _ Hbb.out).mono ?_
               rintro e w5 ⟨v5, rfl, hown5, hb5⟩
               dsimp only at hown5 ⊢
               obtain ⟨D, dc, rfl, -⟩ := SlR.of_own hown5
               have Hb5 := Lib.hid hb5
               have hs5 := hb5.size
               clear hown5 hb5)
            | fail)
          refine bodyPost_ret (v := .tuple #[.slice none 0 0, .int .i64 1]) (by simp [results, Tryz.results32, go_sem, *]) rfl ?_
          rw [He.out]
          exact ClPost.nil (Hba.out.trans ((Hbw.out.trans ((Hbb.out.trans ((Hb5.out.alloc (by omega) _).mono hsb)).mono hsw)).mono (by omega)))
        · have Hany2 : Hid ((lns (l.take (k + 1))).any (bigC r) = false) := Lib.hid (by
            rw [Hts.out, List.any_append, Hany.out, List.any_cons, List.any_nil]
            simp only [bigC, Bool.false_or, Bool.or_false]
            exact decide_eq_false hbg)
          have HOn : Hid (clipsP r (lns (l.take (k + 1))) = if (chooseP andB yrg r).length = 0 then lns O else lns O ++ [⟨ypc, chooseP andB yrg r, ycr, ysch⟩]) := Lib.hid (by rw [Hts.out, clipsP_snoc, HO.out])
          rw [if_neg hbg] at HBo
          clear HAt Hts Hany HO
          obtain ⟨cl, hcl⟩ : ∃ cl, chooseP andB yrg r = cl := ⟨_, rfl⟩
          rw [hcl] at HBo HOn hbg
          clear hcl
          go_upto_region 12 with (first
            | (go_at_call 23
               refine (HBo.out _ Hbb.out).mono ?_
               rintro e w5 ⟨v5, rfl, hown5, hb5⟩
               dsimp only at hown5 ⊢
               obtain ⟨D, dc, rfl, -⟩ := SlR.of_own hown5
               have Hown5 := Lib.hid hown5
               have Hb5 := Lib.hid hb5
               have hs5 := hb5.size
               clear hown5 hb5)
            | fail)
          obtain ⟨w6, hw6⟩ : ∃ w6 : World, w6 = w5.alloc (.cells #[.slice D cl.length dc] 33) := ⟨_, rfl⟩
          rw [← hw6]
          have HZ : Hid (w6.heap[w5.heap.size]? = some (.cells #[.slice D cl.length dc] 33 (0, 0))) := Lib.hid (by rw [hw6]; exact heap_alloc_new w5 _)
          have Hb6 : Hid (Below wb.heap.size wb w6) := Lib.hid (by rw [hw6]; exact Hb5.out.alloc hs5 _)
          have Hown6 := Lib.hid (own_keep Hown5.out (w' := w6) (fun b hb _ => by rw [hw6]; exact Below.heap_alloc _ _ _ hb))
          have hlZ : w5.heap.size < w6.heap.size := by rw [hw6]; simp
          obtain ⟨Z, hZ⟩ : ∃ Z, w5.heap.size = Z := ⟨_, rfl⟩
          rw [hZ] at HZ hlZ hs5 ⊢
          clear hw6 hZ Hown5 Hb5
          have hs6 := Hb6.out.size
          have z0 := cell_of_row w6 Z 0 _ _ _ HZ.out
          have hrow6 := (Hb6.out.block T hlb).trans Hrow.out
          have t1 := cell_of_row w6 T 1 _ _ _ hrow6
          have f1 := frozen_of_row w6 T 1 _ _ hrow6
          have HbT : Hid (Below wr.heap.size wr w6) := Lib.hid (Hbb.out.trans (Hb6.out.mono hsb))
          have Hrow7 := Lib.hid (heap_setCell_same w6 T 1 _ _ (.slice D cl.length dc) hrow6)
          clear hrow6 a1 eb Hrow
          by_cases hl0 : 0 < cl.length
          · have hl0' : (0 : Int) < (cl.length : Int) := by omega
            have hlne : ¬ cl.length = 0 := by omega
            rw [if_neg hlne] at HOn
            go_upto_region 16 with fail
            obtain ⟨w7, hw7⟩ : ∃ w7 : World, w7 = w6.setCell ⟨T, 1, none⟩ (.slice D cl.length dc) := ⟨_, rfl⟩
            rw [← hw7] at Hrow7 ⊢
            have Hb7 : Hid (Below wr.heap.size wr w7) := Lib.hid (by rw [hw7]; exact HbT.out.setCell (by show wr.heap.size ≤ T; have := HTe.out; omega) _)
            have hlow := own_base Hown6.out
            have hlt6 := own_lt Hown6.out
            have Hown7 : Hid (w7.ownsRow wb.heap.size 64 4 (.slice D cl.length dc) cl.length (rCells cl)) := Lib.hid (by rw [hw7]; exact own_other Hown6.out (only_setCell (g := T) (World.grownBy.refl _ _) (.inl rfl) _) (fun k hk e => by injection e with e; have := hlow k hk; omega))
            have hltO := own_lt Hown.out.o
            have HAP : Hid (∀ q, (Value.slice OA O.length oc).ownBlock = some q → (Value.slice D cl.length dc).ownBlock ≠ some q) := Lib.hid (fun q hq e => by have h1 := hltO q hq; have h2 := hlow q e; omega)
            have HO7 := Lib.hid (Hown.out.below Hb7.out)
            have hs7 := Hb7.out.size
            clear hlow hlt6 hltO hw7 Hown6
            have b0 := cell_of_row w7 T 0 _ _ _ Hrow7.out
            have b1 := cell_of_row w7 T 1 _ _ _ Hrow7.out
            have b2' := cell_of_row w7 T 2 _ _ _ Hrow7.out
            have b3 := cell_of_row w7 T 3 _ _ _ Hrow7.out
            go_wp2_with (first
              | (at_builtin
                 (go_loud (refine wpList_append_any _ rfl (.tmp 49) (.tmp 51) _ rfl wa.heap.size 38 i2 _ 4 48 Tryz.underlying25 hi2 hi2z hl1 hl2 rfl (by omega) _ O.length (lnCells O) rfl (HO7.out.o.alloc _) _ _ 1 1 [.int .i64 ypc, .slice D cl.length dc, .int .i64 ycr, .int .i64 ysch] rfl ⟨rfl, fun _ => ⟨_, rfl, Nat.lt_succ_self _, fun j u hu => (by exact news_any _ _ _ j u hu)⟩⟩ (by simp [Value.oneCell']) (by simp only [maxLen]; omega) (by omega) (by simp; omega) ?_))
                 intro v10 w10 hown10 hg10 hat10)
              | fail)
            go_roundw
            case rel =>
              have hbO := own_base Hown.out.o
              refine ⟨k + 1, O ++ [(⟨ypc, cl, ycr, ysch⟩, ⟨D, dc⟩)], by omega, by go_num, Hany2.out, ?_, by simp; omega, ?_, ?_⟩
              · rw [HOn.out]; simp [lns]
              · exact LsOwn.push HO7.out (⟨ypc, cl, ycr, ysch⟩, ⟨D, dc⟩) (own_rebase Hown7.out (by omega)) HAP.out ((Below.refl _ _).alloc (Nat.le_refl _) _) hg10 hown10 hat10
              · exact Below.grown ((Hbw.out.trans (Hb7.out.mono hsw)).alloc (by omega) _) hg10 (by simp; omega) hbO
            case measure => simp [intOf]; omega
          · have hl0' : ¬ (0 : Int) < (cl.length : Int) := by omega
            rw [if_pos (by omega)] at HOn
            go_wp2
            go_roundw
            case rel => exact ⟨k + 1, O, by omega, by go_num, Hany2.out, HOn.out.symm, by omega, Hown.out.below HbT.out, Hbw.out.trans (HbT.out.mono hsw)⟩
            case measure => simp [intOf]; omega
      · obtain rfl : k = n := by omega
        have hkn' : ¬ (k : Int) < (k : Int) := by omega
        have hfull : l.take k = l := List.take_of_length_le (by omega)
        rw [hfull] at Hany HO
        have He : Hid (res = (lns O, 0)) := Lib.hid (by rw [Hres.out, Hany.out, HO.out]; rfl)
        clear hfull
        go_wp2
        refine bodyPost_ret (v := .tuple #[.slice OA O.length oc, .int .i64 0]) (by simp [results, Tryz.results32, go_sem, *]) rfl ?_
        rw [He.out]
        exact ⟨O, OA, oc, rfl, rfl, Hown.out.rebase (by have := HEe.out; omega), Hba.out.trans (Hbw.out.mono (by omega))⟩

end Go.Proofs.YtglanlpjoaholaaGreat

namespace Go.Proofs.YtglanlpjoaholaaGreat
open Go.RowKit Go.Shelf
set_option linter.unusedVariables false
set_option linter.unusedSimpArgs false

theorem lnCells_cons (x : Ln × LV) (t : LL) : lnCells (x :: t) = lnC x ++ lnCells t := by simp [lnCells]
theorem lnC_len (x : Ln × LV) : (lnC x).length = 4 := rfl
theorem lnCells_setF (u : Value) (f : Nat) (hf : f < 4) : ∀ (l : LL) (k : Nat) (hk : k < l.length) (y : Ln × LV), lnC y = (lnC l[k]).set f u → lnCells (l.set k y) = (lnCells l).set (k * 4 + f) u
  | x :: t, 0, _, y, hy => by
    rw [List.set_cons_zero, lnCells_cons, lnCells_cons, Nat.zero_mul, Nat.zero_add, List.set_append_left _ _ (by rw [lnC_len]; exact hf)]
    rw [hy]
    rfl
  | x :: t, k + 1, hk, y, hy => by
    rw [List.set_cons_succ, lnCells_cons, lnCells_cons, lnCells_setF u f hf t k (by simpa using hk) y hy, List.set_append_right _ _ (by rw [lnC_len]; omega)]
    rw [lnC_len, show (k + 1) * 4 + f - 4 = k * 4 + f by omega]
theorem SlL.of_own {w : World} {base n c : Nat} {A : Option Addr} {l : LL} (h : w.ownsRow base 38 4 (.slice A n c) n (lnCells l)) (hl : l.length = n) (hf : ∀ x ∈ l, SlR w x.2.a x.1.rg.length x.2.c x.1.rg) : SlL w A n c l := by
  obtain ⟨A', c', e, h1, h2, h3⟩ := own_slice h
  injection e with e1 e2 e3
  subst e1 e3
  exact ⟨hl, h2, h3, h1, hf⟩
/-- A row of a type stays where a row of another type is turned. -/
theorem own_setT {w : World} {base base' : Nat} {e e' : TypeId} {size size' n n' G c' : Nat} {v : Value} {xs xs' : List Value} (h : w.ownsRow base e size v n xs) (h' : w.ownsRow base' e' size' (.slice (some ⟨G, 0, none⟩) n' c') n' xs') (hne : e ≠ e') (o : Nat) (u : Value) : (w.setCell ⟨G, o, none⟩ u).ownsRow base e size v n xs :=
  own_setNe h (fun g hg => by
    rintro rfl
    obtain ⟨-, h2⟩ := h
    obtain ⟨-, h2'⟩ := h'
    rcases h2 with ⟨rfl, _⟩ | ⟨k, cap, cur, rfl, -, hk, -⟩
    · simp [Value.ownBlock] at hg
    · rcases h2' with ⟨h3, _⟩ | ⟨k', cap', cur', h3, -, hk', -⟩
      · cases h3
      · injection h3 with h3
        injection h3 with h3
        injection h3 with h3
        have hkg : k = g := by have := hg; simp [Value.ownBlock] at this; exact this
        subst hkg h3
        rw [hk] at hk'
        injection hk' with hk'
        injection hk' with _ hk'
        exact hne hk') u
/-- Lines where they lie, each list and each line's squares in rows of their own. -/
structure LsRow (w : World) (base : Nat) (A : Option Addr) (c : Nat) (l : LL) : Prop where
  o : w.ownsRow base 38 4 (.slice A l.length c) l.length (lnCells l)
  fs : ∀ x ∈ l, w.ownsRow base 64 4 (.slice x.2.a x.1.rg.length x.2.c) x.1.rg.length (rCells x.1.rg)
theorem LsRow.sll {w : World} {base c : Nat} {A : Option Addr} {l : LL} (h : LsRow w base A c l) : SlL w A l.length c l :=
  SlL.of_own h.o rfl (fun x hx => by
    obtain ⟨A', c', e, h1, h2, h3⟩ := own_slice (h.fs x hx)
    injection e with e1 e2 e3
    subst e1 e3
    exact ⟨rfl, h2, h3, h1⟩)
theorem LsRow.only {w w' : World} {base c g : Nat} {A : Option Addr} {l : LL} (h : LsRow w base A c l) (hg : w.grownBy w' (some g)) (hb : g < base) : LsRow w' base A c l := ⟨ownsRow_only h.o hg hb, fun x hx => ownsRow_only (h.fs x hx) hg hb⟩
theorem LsRow.below {w w' : World} {base c : Nat} {A : Option Addr} {l : LL} (h : LsRow w base A c l) (hb : Below w.heap.size w w') : LsRow w' base A c l := ⟨ownsRow_below h.o hb, fun x hx => ownsRow_below (h.fs x hx) hb⟩
theorem LsRow.setT {w : World} {base base' c : Nat} {A : Option Addr} {l : LL} {e' : TypeId} {size' n' G c' : Nat} {xs' : List Value} (h : LsRow w base A c l) (h' : w.ownsRow base' e' size' (.slice (some ⟨G, 0, none⟩) n' c') n' xs') (h1 : 38 ≠ e') (h2 : 64 ≠ e') (o : Nat) (u : Value) : LsRow (w.setCell ⟨G, o, none⟩ u) base A c l :=
  ⟨own_setT h.o h' h1 o u, fun x hx => own_setT (h.fs x hx) h' h2 o u⟩
theorem LsRow.rebase {w : World} {base base' c : Nat} {A : Option Addr} {l : LL} (h : LsRow w base A c l) (hb : base' ≤ base) : LsRow w base' A c l := ⟨own_rebase h.o hb, fun x hx => own_rebase (h.fs x hx) hb⟩
/-- What spoilt leaves: lines whose squares are those of the lines, or others (few). -/
def SpoPost (w : World) (g base : Nat) (L : LL) (e : Ending) (w' : World) : Prop :=
  ∃ (l : LL) (A : Option Addr) (c : Nat) (r : List Int) (b : List R4), e = .returned (.slice A l.length c) ∧ LsRow w' base A c l ∧ TapeAt w' g r ∧ w.grownBy w' (some g) ∧ l.length ≤ L.length + 1 ∧ b.length ≤ 7 ∧ ∀ x ∈ l, (∃ y ∈ L, x.1.rg = y.1.rg) ∨ x.1.rg = b
theorem mkBrk_two (r : List Int) (side : Int) (hs : 1 ≤ side ∧ side ≤ 1000) : (mkBrk r side 2).1.length ≤ 7 := by
  have h1 := (mkReg_reg r side 2 hs.1 hs.2 (by omega) (by omega)).len
  have h1' : (mkReg r side 2).1.length ≤ 6 := h1
  unfold mkBrk
  split
  · omega
  · split
    · exact Nat.le_trans (brkP_len _ _ _) (by omega)
    · show (mkReg r side 2).1.length ≤ 7
      omega
set_option maxHeartbeats 16000000 in
set_option maxRecDepth 100000 in
theorem spoilt13_any (g : Nat) (r : List Int) (LA : Option Addr) (n lc base : Nat) (L : LL) (by_ : Int) (w : World) (ht : TapeAt w g r) (hO : LsOwn w base (.slice LA L.length lc) L) (hgb : g < base) (hbw : base ≤ w.heap.size) (hn : L.length = n) (hn10 : n ≤ 10) (hby : (Lit.int .i64 by_).wf = true) :
    Calls Tryz.prog 24 #[.pointer (some ⟨g, 0, none⟩), .slice LA n lc, .int .i64 by_] w (SpoPost w g base L) := by
  obtain ⟨i2, hi2, hi2z, hl1, hl2⟩ := info_parts Tryz.infoLine
  have HM12 := Lib.hid (fun W => mod_any by_ 12 W (bounds_i64 hby) (by omega))
  have HM40 := Lib.hid (fun W => mod_any by_ 40 W (bounds_i64 hby) (by omega))
  have Hb12 := Lib.hid (modV_bd by_ 12 (by omega))
  have HO := Lib.hid hO
  have HS : Hid (SlL w LA n lc L) := Lib.hid (by have h := hO.sll; rwa [hn] at h)
  have Ht := Lib.hid ht
  have hlt := ht.lt
  have Hn := Lib.hid hn
  clear ht hO hby hn
  go_enter Tryz.func24, Tryz.ntmps24
  go_upto_region 2 with (first
    | (at_builtin
       refine wpList_append_any _ rfl (.tmp 9) (.tmp 10) _ rfl w.heap.size 38 i2 _ 4 48 Tryz.underlying25 hi2 hi2z hl1 hl2 rfl (by omega) (.slice (some ⟨w.heap.size, 0, none⟩) 0 0) 0 [] rfl (own_lit w 38 4 0 #[] [] rfl (by simp) (Nat.zero_le _)) _ LA n _ (lnCells L) rfl ((HS.out.lies.reads (by rw [lnCells_len, Hn.out])).below ((Below.refl _ _).alloc (Nat.le_refl _) _)) (lnCells_one L) (by simp only [maxLen]; omega) (by omega) (by simp) ?_
       intro v4 w4 hown4 hg4 hat4
       rw [List.nil_append, Nat.zero_add] at hown4
       have hb4 : Below w.heap.size w w4 := ((Below.refl _ _).alloc (Nat.le_refl _) _).grown hg4 (by simp) (fun x hx => by simp [Value.ownBlock] at hx; omega)
       have Hown4 := Lib.hid hown4
       have Hb4 := Lib.hid hb4
       have hs4 := hb4.size
       clear hown4 hg4 hat4 hb4)
    | fail)
  have Ht4 := Lib.hid (Ht.out.below Hb4.out hlt)
  have Hg4 : Hid (w.grownBy w4 (some g)) := Lib.hid (only_below (World.grownBy.refl _ _) Hb4.out (Nat.le_refl _))
  by_cases hn0 : n = 0
  · subst hn0
    obtain ⟨A4, c4, rfl, q1, q2, q3⟩ := own_slice Hown4.out
    have hz0 : ((0 : Nat) : Int) = 0 := rfl
    have HL0 : Hid (L = []) := Lib.hid (List.length_eq_zero_iff.1 Hn.out)
    clear q1 q2 q3
    go_wp2
    go_ret
    exact ⟨[], A4, c4, r, [], rfl, ⟨by have h := own_rebase Hown4.out hbw; rw [HL0.out] at h; exact h, fun x hx => by simp at hx⟩, Ht4.out, Hg4.out, by simp, by simp, fun x hx => by simp at hx⟩
  have hnp : 0 < n := by omega
  have hni : ¬ (n : Int) = 0 := by omega
  have hnd : decide (n = 0) = false := decide_eq_false hn0
  obtain ⟨G, c4, rfl, hGw, hG4, hnc, hcm, hcells, hfz⟩ := own_at Hown4.out hnp
  have Hcells := Lib.hid hcells
  have Hfz := Lib.hid hfz
  have hgw : g < w.heap.size := hlt
  clear hcells hfz
  go_wp2_with fail
  refine (next_any g r (n : Int) w4 Ht4.out (by omega)).mono ?_
  rintro e w5 ⟨rfl, ht5, hg5⟩
  have hkb := nx_bd r (n : Int) (by omega)
  obtain ⟨k, hk⟩ := Int.eq_ofNat_of_zero_le hkb.1
  rw [hk] at hkb ⊢
  have hkn : k < n := by omega
  have hkn' : (k : Int) < (n : Int) := by omega
  have Ht5 := Lib.hid ht5
  have Hg5 := Lib.hid hg5
  have hs5 := hg5.size
  clear ht5 hg5 hk hkb
  go_wp2_with fail
  refine (next_any g _ 8 w5 Ht5.out (by omega)).mono ?_
  rintro e w6 ⟨rfl, ht6, hg6⟩
  have hzb := nx_bd r.tail 8 (by omega)
  obtain ⟨z, hz⟩ : ∃ z, nx r.tail 8 = z := ⟨_, rfl⟩
  rw [hz] at hzb ⊢
  have Ht6 := Lib.hid ht6
  have Hg46 := Lib.hid (only_trans Hg5.out hg6)
  have hs6 := hg6.size
  generalize r.tail.tail = r6 at *
  clear ht6 hg6 hz
  have Hg6 : Hid (w.grownBy w6 (some g)) := Lib.hid (only_trans Hg4.out Hg46.out)
  have Hown6 : Hid (w6.ownsRow w.heap.size 38 4 (.slice (some ⟨G, 0, none⟩) n c4) n (lnCells L)) := Lib.hid (own_other Hown4.out Hg46.out (fun q hq e => by have := own_base Hown4.out q hq; injection e with e; omega))
  have hG6 : G < w6.heap.size := by omega
  obtain ⟨G', c', e0, -, -, -, -, hcells, hfz⟩ := own_at Hown6.out hnp
  injection e0 with e1 e2 e3
  injection e1 with e1
  injection e1 with e1 e4 e5
  subst e1 e3
  clear e2 e4 e5
  have hkL : k < L.length := by rw [Hn.out]; exact hkn
  obtain ⟨q0, q1, q2, q3⟩ := lnCells_at L k hkL
  have g0 := hcells _ _ q0
  have g1 := hcells _ _ q1
  have g2 := hcells _ _ q2
  have g3 := hcells _ _ q3
  have f0 := hfz (k * 4)
  have f1 := hfz (k * 4 + 1)
  have f2 := hfz (k * 4 + 2)
  have f3 := hfz (k * 4 + 3)
  clear hcells hfz q0 q1 q2 q3
  have Hmem : Hid (L[k] ∈ L) := Lib.hid (List.getElem_mem hkL)
  have Hset : Hid (∀ (y : Ln × LV) (f : Nat) (u : Value), f < 4 → lnC y = (lnC L[k]).set f u → ∀ W : World, W.ownsRow w.heap.size 38 4 (.slice (some ⟨G, 0, none⟩) n c4) n (lnCells L) → (W.setCell ⟨G, k * 4 + f, none⟩ u).ownsRow w.heap.size 38 4 (.slice (some ⟨G, 0, none⟩) n c4) n (lnCells (L.set k y))) := Lib.hid (fun y f u hf hy W hW => by
    rw [lnCells_setF u f hf L k hkL y hy]
    exact own_setN hW _ _)
  have Hfin : Hid (∀ (y : Ln × LV) (W : World) (r' : List Int) (b : List R4), W.ownsRow w.heap.size 38 4 (.slice (some ⟨G, 0, none⟩) n c4) n (lnCells (L.set k y)) → w.grownBy W (some g) → TapeAt W g r' → W.ownsRow base 64 4 (.slice y.2.a y.1.rg.length y.2.c) y.1.rg.length (rCells y.1.rg) → b.length ≤ 7 → (y.1.rg = L[k].1.rg ∨ y.1.rg = b) → SpoPost w g base L (.returned (.slice (some ⟨G, 0, none⟩) n c4)) W) := Lib.hid (fun y W r' b hW hgW htW hyS hb hy => by
    have hll : (L.set k y).length = n := by rw [List.length_set, Hn.out]
    have hof := (HO.out.only hgW hgb)
    refine ⟨L.set k y, some ⟨G, 0, none⟩, c4, r', b, by rw [hll], ⟨by rw [hll]; exact own_rebase hW hbw, fun x hx => ?_⟩, htW, hgW, by rw [hll, Hn.out]; omega, hb, fun x hx => ?_⟩
    · rcases List.mem_or_eq_of_mem_set hx with h | h
      · exact hof.fs x h
      · subst h; exact hyS
    · rcases List.mem_or_eq_of_mem_set hx with h | h
      · exact .inl ⟨x, h, rfl⟩
      · subst h
        rcases hy with h | h
        · exact .inl ⟨L[k], Hmem.out, h⟩
        · exact .inr h)
  have Hsame : Hid (∀ W, w.grownBy W (some g) → W.ownsRow base 64 4 (.slice L[k].2.a L[k].1.rg.length L[k].2.c) L[k].1.rg.length (rCells L[k].1.rg)) := Lib.hid (fun W hW => (HO.out.only hW hgb).fs _ Hmem.out)
  have Htp : Hid (∀ (f : Nat) (u : Value), TapeAt (w6.setCell ⟨G, k * 4 + f, none⟩ u) g r6 ∧ w.grownBy (w6.setCell ⟨G, k * 4 + f, none⟩ u) (some g)) := Lib.hid (fun f u => ⟨Ht6.out.setCell (by show g < G; omega) u, only_setCell Hg6.out (.inr hGw) u⟩)
  have Hpush : Hid (∀ (W : World) (A' : Option Addr) (c' : Nat), W.ownsRow w.heap.size 38 4 (.slice A' (n + 1) c') (n + 1) (lnCells (L ++ [L[k]])) → w.grownBy W (some g) → TapeAt W g r6 → SpoPost w g base L (.returned (.slice A' (n + 1) c')) W) := Lib.hid (fun W A' c' hW hgW htW => by
    have hll : (L ++ [L[k]]).length = n + 1 := by rw [List.length_append, Hn.out]; rfl
    have hof := (HO.out.only hgW hgb)
    have hmm : ∀ x ∈ L ++ [L[k]], x ∈ L := fun x hx => by
      rcases List.mem_append.1 hx with h | h
      · exact h
      · rw [List.mem_singleton] at h; subst h; exact Hmem.out
    exact ⟨L ++ [L[k]], A', c', r6, [], by rw [hll], ⟨by rw [hll]; exact own_rebase hW hbw, fun x hx => hof.fs x (hmm x hx)⟩, htW, hgW, by rw [hll, Hn.out]; omega, by simp, fun x hx => .inl ⟨x, hmm x hx, rfl⟩⟩)
  have Hsn := Lib.hid (lnCells_snoc L L[k])
  have Hid1 : Hid (L.set k L[k] = L) := Lib.hid (List.set_getElem_self hkL)
  clear Hn HO HS Hmem
  generalize L[k] = y at *
  obtain ⟨⟨ypc, yrg, ycr, ysch⟩, ⟨ya, yc⟩⟩ := y
  dsimp only at *
  rcases (show z = 0 ∨ z = 1 ∨ z = 2 ∨ z = 3 ∨ z = 4 ∨ z = 5 ∨ z = 6 ∨ z = 7 by omega) with rfl | rfl | rfl | rfl | rfl | rfl | rfl | rfl
  · go_wp2
    go_ret
    obtain ⟨h1, h2⟩ := Htp.out 0 (.int .i64 by_)
    exact Hfin.out (⟨by_, yrg, ycr, ysch⟩, ⟨ya, yc⟩) _ r6 [] (Hset.out (⟨by_, yrg, ycr, ysch⟩, ⟨ya, yc⟩) 0 (.int .i64 by_) (by omega) rfl w6 Hown6.out) h2 h1 (Hsame.out _ h2) (by simp) (.inl rfl)
  · obtain ⟨m12, hm12⟩ : ∃ m12, modV by_ 12 = m12 := ⟨_, rfl⟩
    rw [hm12] at Hb12 HM12
    have hb12 := Hb12.out
    have hwr : IntKind.i64.wrap (m12 - 2) = m12 - 2 := IntWalk.i64_in _ (by omega)
    clear hm12
    go_wp2_with (first | (go_at_call 26; refine (HM12.out _).mono ?_; rintro e w' ⟨rfl, rfl⟩) | fail)
    go_ret
    obtain ⟨h1, h2⟩ := Htp.out 2 (.int .i64 (m12 - 2))
    exact Hfin.out (⟨ypc, yrg, m12 - 2, ysch⟩, ⟨ya, yc⟩) _ r6 [] (Hset.out (⟨ypc, yrg, m12 - 2, ysch⟩, ⟨ya, yc⟩) 2 (.int .i64 (m12 - 2)) (by omega) rfl w6 Hown6.out) h2 h1 (Hsame.out _ h2) (by simp) (.inl rfl)
  · obtain ⟨m40, hm40⟩ : ∃ m40, modV by_ 40 = m40 := ⟨_, rfl⟩
    rw [hm40] at HM40
    clear hm40
    go_wp2_with (first | (go_at_call 26; refine (HM40.out _).mono ?_; rintro e w' ⟨rfl, rfl⟩) | fail)
    go_ret
    obtain ⟨h1, h2⟩ := Htp.out 3 (.int .i64 m40)
    exact Hfin.out (⟨ypc, yrg, ycr, m40⟩, ⟨ya, yc⟩) _ r6 [] (Hset.out (⟨ypc, yrg, ycr, m40⟩, ⟨ya, yc⟩) 3 (.int .i64 m40) (by omega) rfl w6 Hown6.out) h2 h1 (Hsame.out _ h2) (by simp) (.inl rfl)
  · have h7 := mkBrk_two r6 12 (by omega)
    have HB := Lib.hid (broken_any g r6 12 2 w6 Ht6.out (by omega) (by omega))
    obtain ⟨⟨nb, r7⟩, hp⟩ : ∃ p, mkBrk r6 12 2 = p := ⟨_, rfl⟩
    rw [hp] at HB h7
    dsimp only at h7
    clear hp
    go_wp2_with (first
      | (go_at_call 27
         refine HB.out.mono ?_
         rintro e w7 ⟨v7, rfl, hown7, ht7, hg7⟩
         dsimp only at hown7 ht7
         obtain ⟨D, dc, rfl, -, -, -⟩ := own_slice hown7
         have Hown7 := Lib.hid hown7
         have Ht7 := Lib.hid ht7
         have Hg7 := Lib.hid hg7
         have hs7 := hg7.size
         have k1 := (tcell hg7).1 G (k * 4 + 1) hG6 (by omega)
         have k2 := (tcell hg7).2 G (k * 4 + 1) hG6 (by omega)
         rw [g1] at k1
         rw [f1] at k2
         clear hown7 ht7 hg7)
      | fail)
    go_ret
    have h1 : TapeAt (w7.setCell ⟨G, k * 4 + 1, none⟩ (.slice D nb.length dc)) g r7 := Ht7.out.setCell (by show g < G; omega) _
    have h2 : w.grownBy (w7.setCell ⟨G, k * 4 + 1, none⟩ (.slice D nb.length dc)) (some g) := only_setCell (only_trans Hg6.out Hg7.out) (.inr hGw) _
    have h3 := own_other Hown6.out Hg7.out (fun q hq e => by have := own_base Hown6.out q hq; injection e with e; omega)
    exact Hfin.out (⟨ypc, nb, ycr, ysch⟩, ⟨D, dc⟩) _ r7 nb (Hset.out (⟨ypc, nb, ycr, ysch⟩, ⟨D, dc⟩) 1 (.slice D nb.length dc) (by omega) rfl w7 h3) h2 h1 (own_rebase (own_other Hown7.out (only_setCell (g := G) (World.grownBy.refl _ _) (.inl rfl) _) (fun q hq e => by injection e with e; have := own_base Hown7.out q hq; omega)) (by omega)) h7 (.inr rfl)
  · go_wp2_with (first
      | (at_builtin
         refine wpList_append_any _ rfl (.tmp 56) (.tmp 61) _ rfl w.heap.size 38 i2 _ 4 48 Tryz.underlying25 hi2 hi2z hl1 hl2 rfl (by omega) _ n (lnCells L) rfl (Hown6.out.alloc _) _ _ 1 1 [.int .i64 ypc, .slice ya yrg.length yc, .int .i64 ycr, .int .i64 ysch] rfl ⟨rfl, fun _ => ⟨_, rfl, Nat.lt_succ_self _, fun j u hu => (by exact news_any _ _ _ j u hu)⟩⟩ (by simp [Value.oneCell']) (by simp only [maxLen]; omega) (by omega) (by simp; omega) ?_
         intro v8 w8 hown8 hg8 hat8
         rw [← Hsn.out] at hown8
         obtain ⟨A8, c8, rfl, -, -, -⟩ := own_slice hown8
         have Hown8 := Lib.hid hown8
         have Hg8 := Lib.hid hg8
         clear hown8 hg8 hat8)
      | fail)
    go_ret
    have hob := own_base Hown6.out
    exact Hpush.out _ _ _ Hown8.out (only_grown (only_alloc Hg6.out _) Hg8.out (fun x e => hob x e)) ((Ht6.out.alloc _).grown Hg8.out (fun k e => by have := hob _ e; omega))
  all_goals (
    go_wp2
    go_ret
    exact Hfin.out (⟨ypc, yrg, ycr, ysch⟩, ⟨ya, yc⟩) _ r6 [] (by rw [Hid1.out]; exact Hown6.out) Hg6.out Ht6.out (Hsame.out _ Hg6.out) (by simp) (.inl rfl))
end Go.Proofs.YtglanlpjoaholaaGreat

namespace Go.Proofs.YtglanlpjoaholaaGreat
open Go.RowKit Go.Shelf
set_option linter.unusedVariables false
set_option linter.unusedSimpArgs false

structure Made (w : World) (base : Nat) (NA : Option Addr) (kc : Nat) (N : List Int) (RA : Option Addr) (rc : Nat) (R : RL) (CA : Option Addr) (cc : Nat) (C : List Cp) (LA : Option Addr) (lc : Nat) (L : LL) (OA : Option Addr) (oc : Nat) (O : LL) : Prop where
  hn : w.ownsRow base 3 1 (.slice NA N.length kc) N.length (N.map (.int .i64))
  hr : w.ownsRow base 33 1 (.slice RA R.length rc) R.length (rgCells R)
  hrs : ∀ x ∈ R, w.ownsRow base 64 4 (.slice x.2.a x.1.length x.2.c) x.1.length (rCells x.1)
  hc : w.ownsRow base 57 3 (.slice CA C.length cc) C.length (kCells C)
  hl : LsRow w base LA lc L
  ho : LsRow w base OA oc O
theorem Made.only {w w' : World} {base g : Nat} {NA RA CA LA OA : Option Addr} {kc rc cc lc oc : Nat} {N : List Int} {R : RL} {C : List Cp} {L O : LL} (h : Made w base NA kc N RA rc R CA cc C LA lc L OA oc O) (hg : w.grownBy w' (some g)) (hb : g < base) : Made w' base NA kc N RA rc R CA cc C LA lc L OA oc O :=
  ⟨ownsRow_only h.hn hg hb, ownsRow_only h.hr hg hb, fun x hx => ownsRow_only (h.hrs x hx) hg hb, ownsRow_only h.hc hg hb, h.hl.only hg hb, h.ho.only hg hb⟩
theorem Made.below {w w' : World} {base : Nat} {NA RA CA LA OA : Option Addr} {kc rc cc lc oc : Nat} {N : List Int} {R : RL} {C : List Cp} {L O : LL} (h : Made w base NA kc N RA rc R CA cc C LA lc L OA oc O) (hb : Below w.heap.size w w') : Made w' base NA kc N RA rc R CA cc C LA lc L OA oc O :=
  ⟨ownsRow_below h.hn hb, ownsRow_below h.hr hb, fun x hx => ownsRow_below (h.hrs x hx) hb, ownsRow_below h.hc hb, h.hl.below hb, h.ho.below hb⟩
theorem Made.pcw {w : World} {base : Nat} {NA RA CA LA OA : Option Addr} {kc rc cc lc oc : Nat} {N : List Int} {R : RL} {C : List Cp} {L O : LL} (h : Made w base NA kc N RA rc R CA cc C LA lc L OA oc O) (hf : cropsF C) : PcW w NA N.length kc N RA R.length rc R CA C.length cc C := by
  refine ⟨?_, ?_, ?_, hf⟩
  · obtain ⟨A', c', e, h1, h2, h3⟩ := own_slice h.hn
    injection e with e1 e2 e3
    subst e1 e3
    exact ⟨rfl, h2, h3, h1⟩
  · obtain ⟨A', c', e, h1, h2, h3⟩ := own_slice h.hr
    injection e with e1 e2 e3
    subst e1 e3
    exact ⟨rfl, h2, h3, h1, fun x hx => by
      obtain ⟨A', c', e, h1, h2, h3⟩ := own_slice (h.hrs x hx)
      injection e with e1 e2 e3
      subst e1 e3
      exact ⟨rfl, h2, h3, h1⟩⟩
  · obtain ⟨A', c', e, h1, h2, h3⟩ := own_slice h.hc
    injection e with e1 e2 e3
    subst e1 e3
    exact ⟨rfl, h2, h3, h1⟩
theorem cropsF_of {l : List Cp} (h : cropsB l) : cropsF l := ⟨h.1, fun x hx => ⟨(h.2.1 x hx).1, (h.2.1 x hx).2.2⟩, h.2.2⟩
def setFam (l : List Cp) (f : Int) : List Cp := match l with
  | [] => []
  | x :: t => ⟨x.nm, f, x.mks⟩ :: t
theorem setFam_len (l : List Cp) (f : Int) : (setFam l f).length = l.length := by cases l <;> rfl
theorem setFam_cells (l : List Cp) (f : Int) (h : 0 < l.length) : kCells (setFam l f) = (kCells l).set 1 (.int .i64 f) := by
  cases l with
  | nil => simp at h
  | cons x t => simp [setFam, kCells]
theorem setFam_get (l : List Cp) (f : Int) (i : Nat) (h : i < l.length) : ((setFam l f)[i]'(by rw [setFam_len]; exact h)).nm = l[i].nm ∧ ((setFam l f)[i]'(by rw [setFam_len]; exact h)).mks = l[i].mks := by
  cases l with
  | nil => simp at h
  | cons x t =>
    cases i with
    | zero => exact ⟨rfl, rfl⟩
    | succ i => exact ⟨rfl, rfl⟩
theorem cropsF_set {l : List Cp} (h : cropsF l) (f : Int) : cropsF (setFam l f) := by
  refine ⟨by rw [setFam_len]; exact h.1, fun x hx => ?_, fun i hi => ?_⟩
  · obtain ⟨i, hi, rfl⟩ := List.getElem_of_mem hx
    rw [setFam_len] at hi
    obtain ⟨h1, h2⟩ := setFam_get l f i hi
    rw [h1, h2]
    exact h.2.1 _ (List.getElem_mem hi)
  · rw [setFam_len] at hi
    rw [(setFam_get l f (i + 1) hi).1, (setFam_get l f i (by omega)).1]
    exact h.2.2 i hi
theorem Made.setInt {w : World} {base : Nat} {G kc rc cc lc oc : Nat} {RA CA LA OA : Option Addr} {N : List Int} {R : RL} {C : List Cp} {L O : LL} (h : Made w base (some ⟨G, 0, none⟩) kc N RA rc R CA cc C LA lc L OA oc O) (x : Int) : Made (w.setCell ⟨G, 0, none⟩ (.int .i64 x)) base (some ⟨G, 0, none⟩) kc (N.set 0 x) RA rc R CA cc C LA lc L OA oc O := by
  refine ⟨?_, own_setT h.hr h.hn (by decide) _ _, fun y hy => own_setT (h.hrs y hy) h.hn (by decide) _ _, own_setT h.hc h.hn (by decide) _ _, h.hl.setT h.hn (by decide) (by decide) _ _, h.ho.setT h.hn (by decide) (by decide) _ _⟩
  rw [List.length_set, List.map_set]
  exact own_setN h.hn 0 _
theorem Made.setReg {w : World} {base : Nat} {G kc rc cc lc oc : Nat} {NA CA LA OA : Option Addr} {N : List Int} {R : RL} {C : List Cp} {L O : LL} (h : Made w base NA kc N (some ⟨G, 0, none⟩) rc R CA cc C LA lc L OA oc O) (y : List R4 × LV) (hy : w.ownsRow base 64 4 (.slice y.2.a y.1.length y.2.c) y.1.length (rCells y.1)) : Made (w.setCell ⟨G, 0, none⟩ (.slice y.2.a y.1.length y.2.c)) base NA kc N (some ⟨G, 0, none⟩) rc (R.set 0 y) CA cc C LA lc L OA oc O := by
  refine ⟨own_setT h.hn h.hr (by decide) _ _, ?_, fun x hx => ?_, own_setT h.hc h.hr (by decide) _ _, h.hl.setT h.hr (by decide) (by decide) _ _, h.ho.setT h.hr (by decide) (by decide) _ _⟩
  · rw [List.length_set, show rgCells (R.set 0 y) = (rgCells R).set 0 (.slice y.2.a y.1.length y.2.c) from by unfold rgCells; rw [List.map_set]; rfl]
    exact own_setN h.hr 0 _
  · rcases List.mem_or_eq_of_mem_set hx with h1 | h1
    · exact own_setT (h.hrs x h1) h.hr (by decide) _ _
    · subst h1; exact own_setT hy h.hr (by decide) _ _
theorem Made.setFm {w : World} {base : Nat} {G kc rc cc lc oc : Nat} {NA RA LA OA : Option Addr} {N : List Int} {R : RL} {C : List Cp} {L O : LL} (h : Made w base NA kc N RA rc R (some ⟨G, 0, none⟩) cc C LA lc L OA oc O) (hC : 0 < C.length) (f : Int) : Made (w.setCell ⟨G, 1, none⟩ (.int .i64 f)) base NA kc N RA rc R (some ⟨G, 0, none⟩) cc (setFam C f) LA lc L OA oc O := by
  refine ⟨own_setT h.hn h.hc (by decide) _ _, own_setT h.hr h.hc (by decide) _ _, fun y hy => own_setT (h.hrs y hy) h.hc (by decide) _ _, ?_, h.hl.setT h.hc (by decide) (by decide) _ _, h.ho.setT h.hc (by decide) (by decide) _ _⟩
  rw [setFam_len, setFam_cells C f hC]
  exact own_setN h.hc 1 _
/-- The state behind the law's beginning. -/
def Begun (wa : World) (g base : Nat) (RA : Option Addr) (rc : Nat) (m : Nat) (CA : Option Addr) (cc nc : Nat) (LA : Option Addr) (lc : Nat) (L : LL) (OA : Option Addr) (oc : Nat) (O : LL) (nv : Value) (wx : World) : Prop :=
  ∃ (N : List Int) (NA : Option Addr) (kc : Nat) (R : RL) (C : List Cp) (r' : List Int), nv = .slice NA N.length kc ∧ Made wx base NA kc N RA rc R CA cc C LA lc L OA oc O ∧ R.length = m ∧ C.length = nc ∧ cropsF C ∧ TapeAt wx g r' ∧ Below wa.heap.size wa wx ∧ N.length ≤ 4
end Go.Proofs.YtglanlpjoaholaaGreat
