/- Contracts: the sums over several lines. -/
import Derived.Test.YtepcelekjjalfaaLn
import Derived.Deep.RegionHeld3
namespace Go.Proofs.Ytepcelekjjalfaa
open Go.RowKit
set_option linter.unusedVariables false

theorem results_tmp4 {fn : Func} {t u v x : Tmp} (h : fn.results = #[.tmp t, .tmp u, .tmp v, .tmp x]) (tmps : Array Value) (P : Program) (w : World) :
    (results fn tmps).run P w = .ok (.tuple #[tmps.getD t undef, tmps.getD u undef, tmps.getD v undef, tmps.getD x undef]) w := by simp [results, h]

/-- A fact, as plain numbers. -/
structure Fct where
  d : Int
  u : Int
  s : Int
  k : Int
  a : Int
  b : Int
/-- Its cells. -/
def Fct.cells (f : Fct) : List Value := [.int .i64 f.d, .int .i64 f.u, .int .i64 f.s, .int .i64 f.k, .int .i64 f.a, .int .i64 f.b]
/-- The cells of several facts. -/
def factCells (L : List Fct) : List Value := L.flatMap Fct.cells
theorem factCells_len (L : List Fct) : (factCells L).length = L.length * 6 := by
  induction L with
  | nil => rfl
  | cons p r ih => simp [factCells, Fct.cells] at ih ⊢; omega
theorem factCells_at (L : List Fct) (n : Nat) (h : n < L.length) : (factCells L)[n * 6]? = some (.int .i64 L[n].d) ∧ (factCells L)[n * 6 + 1]? = some (.int .i64 L[n].u) ∧ (factCells L)[n * 6 + 2]? = some (.int .i64 L[n].s) ∧
    (factCells L)[n * 6 + 3]? = some (.int .i64 L[n].k) ∧ (factCells L)[n * 6 + 4]? = some (.int .i64 L[n].a) ∧ (factCells L)[n * 6 + 5]? = some (.int .i64 L[n].b) := by
  induction L generalizing n with
  | nil => simp at h
  | cons p r ih =>
    cases n with
    | zero => simp [factCells, Fct.cells]
    | succ n =>
      have := ih n (by simpa using h)
      have key : ∀ j, (factCells (p :: r))[(n + 1) * 6 + j]? = (factCells r)[n * 6 + j]? := by
        intro j
        show (p.cells ++ factCells r)[(n + 1) * 6 + j]? = _
        rw [List.getElem?_append_right (by simp [Fct.cells]; omega)]
        congr 1
        simp [Fct.cells]
        omega
      have k0 := key 0
      simp only [Nat.add_zero] at k0
      rw [k0, key, key, key, key, key]
      exact this

def chkOf (f : Fct) (wd : Int) : Int := checkF f.d f.u f.s f.k f.a f.b wd
def lineOf (f : Fct) (wd : Int) : Int × Int := lineV f.d f.u f.s f.k f.a f.b wd
def errS : List Fct → Int → Int
  | [], _ => 0
  | f :: r, wd => if chkOf f wd = 0 then errS r wd else chkOf f wd
def sumD (L : List Fct) : Int := (L.map (·.d)).sum
def sumN (L : List Fct) (wd : Int) : Int := (L.map fun f => (lineOf f wd).1).sum
def sumR (L : List Fct) (wd : Int) : List Int := L.map fun f => (lineOf f wd).2
/-- The error of a sum. -/
def sumE (L : List Fct) (wd : Int) : Int := if 20 < L.length then 1 else if errS L wd ≠ 0 then errS L wd else if 268435456 < sumD L then 2 else 0
def sumDV (L : List Fct) (wd : Int) : Int := if sumE L wd = 0 then sumD L else 0
def sumNV (L : List Fct) (wd : Int) : Int := if sumE L wd = 0 then sumN L wd else 0
def sumRV (L : List Fct) (wd : Int) : List Int := if sumE L wd = 0 then sumR L wd else []

theorem acceptV_bd (c a b wd : Int) (hc : 0 ≤ c) (ha : 0 ≤ a) : 0 ≤ acceptV c a b wd := by
  unfold acceptV
  split
  · split <;> assumption
  · omega
theorem lay_bd (x l : Int × Int) (m : Int) (h1 : 0 ≤ x.1) (h2 : x.1 ≤ m) (h3 : 0 ≤ l.2) : 0 ≤ (lay x l).1 ∧ (lay x l).1 ≤ m := by
  unfold lay
  split
  · exact ⟨h3, by simp; omega⟩
  · exact ⟨h1, h2⟩
theorem lineV_bd (d u s k a b wd : Int) (h : checkF d u s k a b wd = 0) : 0 ≤ (lineV d u s k a b wd).1 ∧ (lineV d u s k a b wd).1 ≤ u := by
  obtain ⟨h1, h2, h3, h4, h5, h6⟩ := (checkF_zero d u s k a b wd).1 h
  have hs : 0 ≤ secN d a b wd k := by
    unfold secN
    by_cases hk : k = 1
    · rw [if_pos hk]
      rw [if_pos hk, measB_iff] at h5
      exact acceptV_bd _ _ _ _ h1.1 h5.1.1
    · rw [if_neg hk]; omega
  have hu : (lay (d, 0) (1, u)).1 ≤ u ∧ 0 ≤ (lay (d, 0) (1, u)).1 := by
    unfold lay
    split
    · simp; omega
    · simp at *; omega
  unfold lineV limL
  rw [if_pos h]
  split
  · exact ⟨hu.2, hu.1⟩
  · exact lay_bd _ _ _ hu.2 hu.1 hs
theorem chkOf_bd (f : Fct) (wd : Int) (h : chkOf f wd = 0) : 0 ≤ f.d ∧ f.d ≤ 268435456 ∧ 0 ≤ (lineOf f wd).1 ∧ (lineOf f wd).1 ≤ 268435456 := by
  obtain ⟨h1, h2, _⟩ := (checkF_zero _ _ _ _ _ _ _).1 h
  have := lineV_bd _ _ _ _ _ _ _ h
  unfold lineOf
  omega
theorem errS_app (L : List Fct) (f : Fct) (wd : Int) (h : errS L wd = 0) : errS (L ++ [f]) wd = chkOf f wd := by
  induction L with
  | nil => simp only [errS, List.nil_append]; split <;> simp_all
  | cons p r ih =>
    simp only [errS, List.cons_append] at h ⊢
    by_cases hp : chkOf p wd = 0
    · rw [if_pos hp] at h ⊢; exact ih h
    · rw [if_neg hp] at h; exact absurd h hp
theorem errS_cut (L M : List Fct) (wd : Int) (h : errS L wd ≠ 0) : errS (L ++ M) wd = errS L wd := by
  induction L with
  | nil => simp [errS] at h
  | cons p r ih =>
    simp only [errS, List.cons_append] at h ⊢
    by_cases hp : chkOf p wd = 0
    · rw [if_pos hp] at h ⊢; rw [if_pos hp]; exact ih h
    · rw [if_neg hp, if_neg hp]
theorem sums_bd (L : List Fct) (wd : Int) (h : errS L wd = 0) : 0 ≤ sumD L ∧ sumD L ≤ L.length * 268435456 ∧ 0 ≤ sumN L wd ∧ sumN L wd ≤ L.length * 268435456 := by
  induction L with
  | nil => simp [sumD, sumN]
  | cons p r ih =>
    simp only [errS] at h
    by_cases hp : chkOf p wd = 0
    · rw [if_pos hp] at h
      have h1 := ih h
      have h2 := chkOf_bd p wd hp
      simp only [sumD, sumN, List.map_cons, List.sum_cons, List.length_cons] at h1 ⊢
      omega
    · rw [if_neg hp] at h; exact absurd h hp
theorem sumD_app (L : List Fct) (f : Fct) : sumD (L ++ [f]) = sumD L + f.d := by simp [sumD]
theorem sumN_app (L : List Fct) (f : Fct) (wd : Int) : sumN (L ++ [f]) wd = sumN L wd + (lineOf f wd).1 := by simp [sumN]
theorem sumR_app (L : List Fct) (f : Fct) (wd : Int) : sumR (L ++ [f]) wd = sumR L wd ++ [(lineOf f wd).2] := by simp [sumR]
theorem sumR_len (L : List Fct) (wd : Int) : (sumR L wd).length = L.length := by simp [sumR]

theorem Try.infoInt : (Try.prog.info? 3).map (fun i => (i.zero, i.size, i.bytes)) = some (some (.int .i64 0), 1, 8) := by kernel_rfl

/-- What a sum leaves. -/
def SumPost (w : World) (L : List Fct) (wd : Int) (e : Ending) (w' : World) : Prop :=
  ∃ v, e = .returned (.tuple #[.int .i64 (sumDV L wd), .int .i64 (sumNV L wd), v, .int .i64 (sumE L wd)]) ∧ w'.ownsRow w.heap.size 3 1 v (sumRV L wd).length ((sumRV L wd).map (.int .i64)) ∧ Below w.heap.size w w'
/-- Where the cells of a slice lie. -/
def Lies (w : World) (A : Option Addr) (n : Nat) (xs : List Value) : Prop := n = 0 ∨ ∃ b off, A = some ⟨b, off, none⟩ ∧ b < w.heap.size ∧ ∀ j u, xs[j]? = some u → w.cell? ⟨b, off + j, none⟩ = some u

theorem own_fresh {w : World} {base : Nat} {e : TypeId} {size : Nat} {v : Value} {n : Nat} {xs : List Value} (h : w.ownsRow base e size v n xs) : v.ownBlock ≠ some w.heap.size := by
  rcases h.2 with ⟨rfl, _⟩ | ⟨g, cap, cur, rfl, _, hg, _⟩
  · simp [Value.ownBlock]
  · intro he
    have : g = w.heap.size := by simpa [Value.ownBlock] using he
    subst this
    rw [Array.getElem?_eq_none (Nat.le_refl _)] at hg
    cases hg
theorem own_base {w : World} {base : Nat} {e : TypeId} {size : Nat} {v : Value} {n : Nat} {xs : List Value} (h : w.ownsRow base e size v n xs) : ∀ k, v.ownBlock = some k → base ≤ k := by
  intro k hk
  rcases h.2 with ⟨rfl, _⟩ | ⟨g, cap, cur, rfl, hg, _⟩
  · simp [Value.ownBlock] at hk
  · have : g = k := by simpa [Value.ownBlock] using hk
    omega
theorem sumPost_err {w w' : World} {L : List Fct} {wd z : Int} (hz : sumE L wd = z) (h0 : z ≠ 0) (hb : Below w.heap.size w w') :
    SumPost w L wd (.returned (.tuple #[.int .i64 0, .int .i64 0, .slice none 0 0, .int .i64 z])) w' := by
  have h : sumE L wd ≠ 0 := by rw [hz]; exact h0
  refine ⟨.slice none 0 0, ?_, ?_, hb⟩
  · unfold sumDV sumNV
    rw [if_neg h, if_neg h, hz]
  · unfold sumRV
    rw [if_neg h]
    exact World.ownsRow_nil _ _ _ _

set_option maxHeartbeats 400000 in
theorem sumT_many (A : Option Addr) (n c : Nat) (wd : Int) (w : World) (L : List Fct) (hn : L.length = n) (h20 : 20 < n) (hm : n ≤ maxLen) :
    Calls Try.prog 17 #[.slice A n c, .int .i64 wd] w (SumPost w L wd) := by
  have hf := Lib.hid (@sumPost_err w w L wd 1 (by unfold sumE; rw [if_pos (by omega)]) (by omega) (Below.refl _ _))
  clear hn
  unfold maxLen at hm
  go_enter Try.func17, Try.ntmps17
  go_wp2
  refine bodyPost_ret (results_tmp4 rfl _ _ _) rfl ?_
  exact hf.out

set_option maxHeartbeats 400000 in
theorem sumT_few (A : Option Addr) (n c : Nat) (wd : Int) (w : World) (L : List Fct) (hn : L.length = n) (h20 : n ≤ 20) (hA : Lies w A n (factCells L)) :
    Calls Try.prog 17 #[.slice A n c, .int .i64 wd] w (SumPost w L wd) := by
  obtain ⟨i0, hi, hz0, hz1, hz2⟩ := info_parts Try.infoInt
  have Hn := Lib.hid hn
  clear hn
  have HA := Lib.hid hA
  clear hA
  go_enter Try.func17, Try.ntmps17
  go_wp2
  go_loopw [8, 9, 10, 21] (fun x y v i wr => ∃ m : Nat, m ≤ n ∧ errS (L.take m) wd = 0 ∧ i = .int .i64 m ∧ x = .int .i64 (sumD (L.take m)) ∧ y = .int .i64 (sumN (L.take m) wd) ∧ wr.ownsRow w.heap.size 3 1 v m ((sumR (L.take m) wd).map (.int .i64)) ∧ Below w.heap.size w wr) (fun _ _ _ i _ => n - (intOf i).toNat)
  case atStart => exact ⟨0, Nat.zero_le _, rfl, rfl, rfl, rfl, World.ownsRow_nil _ _ _ _, Below.refl _ _⟩
  case round =>
    obtain ⟨m, hm, he, rfl, rfl, rfl, hown, hbr⟩ := hrel
    have hsr := hbr.size
    have hlt : (L.take m).length ≤ m := List.length_take_le _ _
    have hbd := sums_bd (L.take m) wd he
    by_cases hmn : m < n
    · have hL : m < L.length := by have := Hn.out; omega
      have htk : L.take (m + 1) = L.take m ++ [L[m]] := List.take_succ_eq_append_getElem hL
      obtain ⟨b, off, rfl, hb, hcell⟩ := HA.out.resolve_left (by omega)
      obtain ⟨h0, h1, h2, h3, h4, h5⟩ := factCells_at L m hL
      have c0 := (hbr.cell (p := ⟨b, off + m * 6, none⟩) hb).trans (hcell _ _ h0)
      have c1 := (hbr.cell (p := ⟨b, off + (m * 6 + 1), none⟩) hb).trans (hcell _ _ h1)
      rw [← Nat.add_assoc] at c1
      have c2 := (hbr.cell (p := ⟨b, off + (m * 6 + 2), none⟩) hb).trans (hcell _ _ h2)
      rw [← Nat.add_assoc] at c2
      have c3 := (hbr.cell (p := ⟨b, off + (m * 6 + 3), none⟩) hb).trans (hcell _ _ h3)
      rw [← Nat.add_assoc] at c3
      have c4 := (hbr.cell (p := ⟨b, off + (m * 6 + 4), none⟩) hb).trans (hcell _ _ h4)
      rw [← Nat.add_assoc] at c4
      have c5 := (hbr.cell (p := ⟨b, off + (m * 6 + 5), none⟩) hb).trans (hcell _ _ h5)
      rw [← Nat.add_assoc] at c5
      clear h0 h1 h2 h3 h4 h5 hcell
      have hb' : b < wr.heap.size := by omega
      have Htk := Lib.hid htk
      clear htk
      have Hchk := Lib.hid (lineT_any L[m].d L[m].u L[m].s L[m].k L[m].a L[m].b wd)
      have Hz : Hid (checkF L[m].d L[m].u L[m].s L[m].k L[m].a L[m].b wd = chkOf L[m] wd) := Lib.hid rfl
      have Hl : Hid (lineV L[m].d L[m].u L[m].s L[m].k L[m].a L[m].b wd = lineOf L[m] wd) := Lib.hid rfl
      rw [Hz.out, Hl.out] at Hchk
      clear Hz Hl
      generalize L[m] = f at *
      by_cases hz : chkOf f wd = 0
      · have hbf := chkOf_bd f wd hz
        rw [hz] at Hchk
        have Hz := Lib.hid hz
        clear hz
        generalize hq : lineOf f wd = q at *
        have Hq := Lib.hid hq
        clear hq
        have ag := own_fresh hown
        have ab := own_base hown
        have Hown := Lib.hid hown
        have Hbd := Lib.hid hbd
        have Hlen := Lib.hid hlt
        obtain ⟨hbd1, hbd2, hbd3, hbd4⟩ : 0 ≤ sumD (L.take m) ∧ sumD (L.take m) ≤ 5368709120 ∧ 0 ≤ sumN (L.take m) wd ∧ sumN (L.take m) wd ≤ 5368709120 := by omega
        clear hown hbd hlt
        obtain ⟨D, HD⟩ : ∃ D, Hid (sumD (L.take m) = D) := ⟨_, rfl⟩
        obtain ⟨N, HN⟩ : ∃ N, Hid (sumN (L.take m) wd = N) := ⟨_, rfl⟩
        rw [HD.out] at hbd1 hbd2 ⊢
        rw [HN.out] at hbd3 hbd4 ⊢
        go_wp2_with ((go_at_call 13; refine (Hchk.out _).mono ?_; rintro e w1 ⟨rfl, hb1⟩; obtain ⟨hc1, hf1⟩ := bcell hb1; have hl1 : w.heap.size < w1.heap.size := (by have := hb1.size; (try simp at this); omega)))
        have cf : w1.cell? ⟨wr.heap.size, 0, none⟩ = some (.int .i64 f.d) := by rw [hc1 _ _ (by simp)]; go_simp
        have hs1 : wr.heap.size + 1 ≤ w1.heap.size := by have := hb1.size; simpa using this
        have e1 : IntKind.i64.wrap (D + f.d) = D + f.d := IntWalk.i64_in _ (by omega)
        have e2 : IntKind.i64.wrap (N + q.1) = N + q.1 := IntWalk.i64_in _ (by omega)
        clear c0 c1 c2 c3 c4 c5 hc1 hf1
        go_region_held3 (fun w' => w'.cell? ⟨wr.heap.size, 0, none⟩ = some (.int .i64 f.d))
          (first
            | go_keep
            | (rw [hgrow.cell_far _ (by simp; omega) (Ne.symm ag)]; assumption)
            | (rw [hgrow.cell_far _ (by simp; omega) (Ne.symm ag)]; go_keep))
          ((refine step_append_lies _ (by rfl) _ _ _ (by rfl) w.heap.size 3 i0 _ 1 8 Try.underlying22 hi hz0 hz1 hz2 rfl (by omega) u10 m ((sumR (L.take m) wd).map (.int .i64)) (by rfl) (((ownsRow_below (Hown.out.alloc _) hb1).alloc _).drew)
                ⟨w1.heap.size, 0, none⟩ 1 1 [.int .i64 q.2] (by rfl) (by rfl) (World.news_of_block (cs := #[.int .i64 q.2]) (t := 3) (fr := (0, 0)) (heap_alloc_new w1 _)) (by simp [Value.oneCell'])
                (by omega) (by unfold maxLen; omega) (by omega) (by simp; omega) (w1.heap.size + 1) (by simp) ?_; intro gg cap w2 hown2 hgrow hat hltg))
        go_wp2
        go_roundw
        case rel =>
          refine ⟨m + 1, by omega, ?_, by go_num, ?_, ?_, ?_, ?_⟩
          · rw [Htk.out, errS_app _ _ _ he]; exact Hz.out
          · rw [Htk.out, sumD_app, HD.out]
          · rw [Htk.out, sumN_app, HN.out, Hq.out]
          · rw [Htk.out, sumR_app, Hq.out]; simpa using hown2
          · exact ((by repeat' (first | exact Below.refl _ _ | refine below_drewN ?_ _ | refine Below.drew ?_ | refine Below.alloc ?_ ?_ _ | refine Below.setCell ?_ ?_ _ | refine Below.trans ?_ (Below.mono (by assumption) ?_) | (simp; done) | (simp; omega) | omega)) : Below w.heap.size w _).grown hgrow (by simp; omega) ab
        case measure => simp [intOf]; omega
      · have hE : sumE L wd = chkOf f wd := by
          have hc : errS L wd = chkOf f wd := by
            have h1 : errS (L.take (m + 1)) wd = chkOf f wd := by rw [Htk.out, errS_app _ _ _ he]
            have h2 := errS_cut (L.take (m + 1)) (L.drop (m + 1)) wd (by rw [h1]; exact hz)
            rw [List.take_append_drop] at h2
            rw [h2, h1]
          have := Hn.out
          unfold sumE
          rw [if_neg (by omega), hc, if_pos hz]
        have Hp := Lib.hid (fun w' => @sumPost_err w w' L wd (chkOf f wd) hE hz)
        have hz' : (chkOf f wd != 0) = true := by simp [hz]
        clear hE hz hbd hown
        generalize chkOf f wd = z at *
        generalize lineOf f wd = q at *
        go_wp2_with ((go_at_call 13; refine (Hchk.out _).mono ?_; rintro e w1 ⟨rfl, hb1⟩; obtain ⟨hc1, hf1⟩ := bcell hb1; have hl1 : w.heap.size < w1.heap.size := (by have := hb1.size; (try simp at this); omega)))
        refine bodyPost_ret (results_tmp4 rfl _ _ _) rfl ?_
        exact Hp.out _ (by repeat' (first | exact Below.refl _ _ | refine below_drewN ?_ _ | refine Below.drew ?_ | refine Below.alloc ?_ ?_ _ | refine Below.setCell ?_ ?_ _ | refine Below.trans ?_ (Below.mono (by assumption) ?_) | (simp; done) | (simp; omega) | omega))
    · have hmn' : m = n := by omega
      subst hmn'
      have hLm : L.take m = L := List.take_of_length_le (by have := Hn.out; omega)
      rw [hLm] at he hbd hlt hown ⊢
      clear hLm
      have hbd' : 0 ≤ sumD L ∧ sumD L ≤ 5368709120 ∧ 0 ≤ sumN L wd ∧ sumN L wd ≤ 5368709120 := by omega
      by_cases hbig : 268435456 < sumD L
      · have hE : sumE L wd = 2 := by
          have := Hn.out
          unfold sumE
          rw [if_neg (by omega), if_neg (by simp [he]), if_pos hbig]
        have Hp := Lib.hid (fun w' => @sumPost_err w w' L wd 2 hE (by omega))
        clear hE hown hbd
        generalize sumD L = D at *
        generalize sumN L wd = N at *
        go_wp2
        refine bodyPost_ret (results_tmp4 rfl _ _ _) rfl ?_
        exact Hp.out _ hbr
      · have hE : sumE L wd = 0 := by
          have := Hn.out
          unfold sumE
          rw [if_neg (by omega), if_neg (by simp [he]), if_neg hbig]
        have hown' : wr.ownsRow w.heap.size 3 1 u10 (sumRV L wd).length ((sumRV L wd).map (.int .i64)) := by
          unfold sumRV
          rw [if_pos hE, sumR_len, Hn.out]
          exact hown
        have Hp : Hid (SumPost w L wd (.returned (.tuple #[.int .i64 (sumD L), .int .i64 (sumN L wd), u10, .int .i64 0])) wr) := by
          refine ⟨u10, ?_, hown', hbr⟩
          unfold sumDV sumNV
          rw [if_pos hE, if_pos hE, hE]
        clear hE hown hown' hbd
        generalize sumD L = D at *
        generalize sumN L wd = N at *
        go_wp2
        refine bodyPost_ret (results_tmp4 rfl _ _ _) rfl ?_
        exact Hp.out

theorem sumT_any (A : Option Addr) (n c : Nat) (wd : Int) (w : World) (L : List Fct) (hn : L.length = n) (hm : n ≤ maxLen) (hA : Lies w A n (factCells L)) :
    Calls Try.prog 17 #[.slice A n c, .int .i64 wd] w (SumPost w L wd) := by
  by_cases h : 20 < n
  · exact sumT_many A n c wd w L hn h hm
  · exact sumT_few A n c wd w L hn (by omega) hA
end Go.Proofs.Ytepcelekjjalfaa
