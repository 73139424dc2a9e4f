/- Plain: picks put one by one, ascending by farm, are the picks of the map. -/
import Derived.Test.YtjmbdfoegnfpnaaKO
import Derived.Test.YtjmbdfoegnfpnaaKQ
import Derived.Test.YtjmbdfoegnfpnaaKH
import Derived.Test.YtjmbdfoegnfpnaaK7
namespace Go.Proofs.Ytjmbdfoegnfpnaa
open Go.RowKit
set_option linter.unusedVariables false
set_option linter.unusedSimpArgs false

/-- Picks with one more, ascending by farm. -/
def putK (l : List (Int × Int)) (x : Int × Int) : List (Int × Int) := l.takeWhile (fun y => decide (y.1 ≤ x.1)) ++ [x] ++ l.dropWhile (fun y => decide (y.1 ≤ x.1))
def hasK (l : List (Int × Int)) (x : Int) : Bool := l.any fun y => decide (x < y.1)
def outK (l : List (Int × Int)) (x : Int × Int) : List (Int × Int) := if hasK l x.1 then putK l x else l
theorem dropK_all : ∀ {l : List (Int × Int)} {x : Int}, hasK l x = false → l.takeWhile (fun y => decide (y.1 ≤ x)) = l ∧ l.dropWhile (fun y => decide (y.1 ≤ x)) = []
  | [], x, h => by simp
  | a :: l, x, h => by
    unfold hasK at h
    rw [List.any_cons, Bool.or_eq_false_iff] at h
    have ha : decide (a.1 ≤ x) = true := by have := h.1; simp at this ⊢; omega
    have ih := dropK_all (l := l) (x := x) h.2
    simp only [List.takeWhile_cons, List.dropWhile_cons, ha, if_true, ih.1, ih.2]
    exact ⟨trivial, trivial⟩
theorem putK_none {l : List (Int × Int)} {x : Int × Int} (h : hasK l x.1 = false) : putK l x = l ++ [x] := by
  unfold putK
  rw [(dropK_all h).1, (dropK_all h).2, List.append_nil]
theorem hasK_snoc (l : List (Int × Int)) (x : Int) (y : Int × Int) : hasK (l ++ [y]) x = (hasK l x || decide (x < y.1)) := by simp [hasK]
theorem putK_snoc : ∀ (l : List (Int × Int)) (x y : Int × Int), hasK l x.1 = true → putK (l ++ [y]) x = putK l x ++ [y]
  | [], x, y, h => by simp [hasK] at h
  | a :: l, x, y, h => by
    unfold putK
    by_cases ha : a.1 ≤ x.1
    · have h' : hasK l x.1 = true := by
        unfold hasK at h ⊢
        rw [List.any_cons, Bool.or_eq_true] at h
        rcases h with h | h
        · simp at h; omega
        · exact h
      have ih := putK_snoc l x y h'
      unfold putK at ih
      rw [List.cons_append, List.takeWhile_cons_of_pos (by simpa using ha), List.dropWhile_cons_of_pos (by simpa using ha), List.takeWhile_cons_of_pos (by simpa using ha), List.dropWhile_cons_of_pos (by simpa using ha)]
      simp only [List.cons_append]
      rw [ih]
    · rw [List.cons_append, List.takeWhile_cons_of_neg (by simpa using ha), List.dropWhile_cons_of_neg (by simpa using ha), List.takeWhile_cons_of_neg (by simpa using ha), List.dropWhile_cons_of_neg (by simpa using ha)]
      simp
theorem putK_first {l : List (Int × Int)} {x y : Int × Int} (h : hasK l x.1 = false) (hy : x.1 < y.1) : putK (l ++ [y]) x = l ++ [x] ++ [y] := by
  unfold putK
  have h1 := dropK_all h
  have e1 : (l ++ [y]).takeWhile (fun z => decide (z.1 ≤ x.1)) = l := by
    rw [List.takeWhile_append, h1.1, if_pos rfl, List.takeWhile_cons_of_neg (by simp; omega), List.append_nil]
  have e2 : (l ++ [y]).dropWhile (fun z => decide (z.1 ≤ x.1)) = [y] := by
    rw [List.dropWhile_append, h1.2]
    simp [show ¬ y.1 ≤ x.1 by omega]
  rw [e1, e2]
theorem outK_snoc (l : List (Int × Int)) (x y : Int × Int) : outK (l ++ [y]) x = if hasK l x.1 then outK l x ++ [y] else if x.1 < y.1 then outK l x ++ [x] ++ [y] else outK l x ++ [y] := by
  unfold outK
  rw [hasK_snoc]
  cases h : hasK l x.1 with
  | true => simp [putK_snoc l x y h]
  | false =>
    by_cases hy : x.1 < y.1
    · simp [hy, putK_first h hy]
    · simp [hy]
theorem putK_perm (l : List (Int × Int)) (x : Int × Int) : (putK l x).Perm (x :: l) := by
  unfold putK
  have h := List.takeWhile_append_dropWhile (p := fun y : Int × Int => decide (y.1 ≤ x.1)) (l := l)
  rw [List.append_assoc, List.singleton_append]
  exact List.perm_middle.trans (by rw [h])
theorem putK_len (l : List (Int × Int)) (x : Int × Int) : (putK l x).length = l.length + 1 := by
  rw [(putK_perm l x).length_eq]; rfl
theorem outK_len (l : List (Int × Int)) (x : Int × Int) : (outK l x).length ≤ l.length + 1 := by
  unfold outK
  split
  · rw [putK_len]; omega
  · omega
theorem takeK_le : ∀ (l : List (Int × Int)) (x : Int), ∀ a ∈ l.takeWhile (fun y => decide (y.1 ≤ x)), a.1 ≤ x
  | [], x, a, h => by simp at h
  | b :: l, x, a, h => by
    rw [List.takeWhile_cons] at h
    split at h
    · rename_i hb
      rw [List.mem_cons] at h
      rcases h with rfl | h
      · simpa using hb
      · exact takeK_le l x a h
    · simp at h
theorem dropK_lt : ∀ (l : List (Int × Int)) (x : Int), l.Pairwise (fun a b => a.1 < b.1) → ∀ a ∈ l.dropWhile (fun y => decide (y.1 ≤ x)), x < a.1
  | [], x, hp, a, h => by simp at h
  | b :: l, x, hp, a, h => by
    rw [List.pairwise_cons] at hp
    by_cases hb : b.1 ≤ x
    · rw [List.dropWhile_cons_of_pos (by simpa using hb)] at h
      exact dropK_lt l x hp.2 a h
    · rw [List.dropWhile_cons_of_neg (by simpa using hb), List.mem_cons] at h
      rcases h with rfl | h
      · omega
      · have := hp.1 a h; omega
/-- Picks are those of a map, ascending. -/
structure IsP (O : List (Int × Int)) (f : Int → Option Int) : Prop where
  up : O.Pairwise (fun a b => a.1 < b.1)
  at' : ∀ x k, (x, k) ∈ O ↔ f x = some k
theorem IsP.nil : IsP [] (fun _ => none) := ⟨List.Pairwise.nil, fun x k => by simp⟩
theorem IsP.congr {O : List (Int × Int)} {f g : Int → Option Int} (h : IsP O f) (e : ∀ x, f x = g x) : IsP O g := ⟨h.up, fun x k => by rw [h.at', e]⟩
theorem IsP.put {O : List (Int × Int)} {f g : Int → Option Int} {x k : Int} (h : IsP O f) (hx : f x = none) (e : ∀ y, (if y = x then some k else f y) = g y) : IsP (putK O (x, k)) g := by
  have hne : ∀ a ∈ O, a.1 ≠ x := fun a ha hax => by
    have := (h.at' a.1 a.2).1 ha
    rw [hax, hx] at this
    contradiction
  refine ⟨?_, fun y j => ?_⟩
  · unfold putK
    rw [List.append_assoc, List.pairwise_append]
    refine ⟨h.up.sublist (List.takeWhile_sublist _), ?_, fun a ha b hb => ?_⟩
    · rw [List.singleton_append, List.pairwise_cons]
      exact ⟨fun a ha => dropK_lt O x h.up a ha, h.up.sublist (List.dropWhile_sublist _)⟩
    · have h1 := takeK_le O x a ha
      have h2 := hne a ((List.takeWhile_sublist _).subset ha)
      rw [List.singleton_append, List.mem_cons] at hb
      rcases hb with rfl | hb
      · show a.1 < x; omega
      · have := dropK_lt O x h.up b hb; omega
  · rw [(putK_perm O (x, k)).mem_iff, List.mem_cons, ← e y, h.at']
    by_cases hy : y = x
    · subst hy
      rw [if_pos rfl, hx]
      constructor
      · rintro (h1 | h1)
        · injection h1 with _ h1; rw [h1]
        · contradiction
      · intro h1; injection h1 with h1; left; rw [h1]
    · rw [if_neg hy]
      constructor
      · rintro (h1 | h1)
        · injection h1 with h1 _; exact absurd h1 hy
        · exact h1
      · exact fun h1 => Or.inr h1
theorem IsP.eq {O Q : List (Int × Int)} {f : Int → Option Int} (h : IsP O f) (h' : IsP Q f) : O = Q := by
  have nd : ∀ {O : List (Int × Int)}, O.Pairwise (fun a b => a.1 < b.1) → O.Nodup := fun hp => hp.imp (fun {a b} hab he => by subst he; omega)
  have hp : O.Perm Q := (List.perm_ext_iff_of_nodup (nd h.up) (nd h'.up)).2 (fun a => by
    rw [show a = (a.1, a.2) from rfl, h.at', h'.at'])
  exact hp.eq_of_pairwise (le := fun a b => a.1 < b.1) (fun a b _ _ h1 h2 => by omega) h.up h'.up
theorem IsP.picks {l : List Int} {f : Int → Option Int} (hl : l.Pairwise (· < ·)) (hf : ∀ x k, f x = some k → x ∈ l) : IsP (picks f l) f := by
  refine ⟨?_, fun x k => ?_⟩
  · unfold Go.Proofs.Ytjmbdfoegnfpnaa.picks
    rw [List.pairwise_filterMap]
    refine hl.imp ?_
    intro a b hab a' ha b' hb
    cases h1 : f a with
    | none => rw [h1] at ha; simp at ha
    | some u =>
      cases h2 : f b with
      | none => rw [h2] at hb; simp at hb
      | some v =>
        rw [h1] at ha; rw [h2] at hb
        simp at ha hb
        subst ha hb
        exact hab
  · unfold Go.Proofs.Ytjmbdfoegnfpnaa.picks
    rw [List.mem_filterMap]
    constructor
    · rintro ⟨a, ha, he⟩
      cases h1 : f a with
      | none => rw [h1] at he; simp at he
      | some u =>
        rw [h1] at he
        simp at he
        rw [← he.1, ← he.2]
        exact h1
    · intro h1
      exact ⟨x, hf x k h1, by rw [h1]; rfl⟩
theorem IsP.len {O : List (Int × Int)} {f : Int → Option Int} (h : IsP O f) {l : List Int} (hl : l.Pairwise (· < ·)) (hf : ∀ x k, f x = some k → x ∈ l) : O.length ≤ l.length := by
  rw [h.eq (IsP.picks hl hf)]
  exact picks_len f l
theorem draw_fresh {q : Pl} {l : List Un} (h : unitsP q l = 0) (seed : Int) (R : List Int) {s : Nat} (hs : s < q.ss.length) {x : Int} (hx : x ∈ drawP q l seed R s) : mapF q l seed R s x = none := by
  have h1 := draw_sub h seed R hs hx
  cases hm : mapF q l seed R s x with
  | none => rfl
  | some v =>
    exfalso
    rcases mapF_src h seed R x v s (Nat.le_of_lt hs) hm with h2 | ⟨t, ht, h2⟩
    · obtain ⟨u, -, -, h3, -⟩ := mem_rest h1
      exact h3 h2
    · have := rest_one (farms_nodup h) h1 h2
      omega
theorem mapF_mem {q : Pl} {l : List Un} (h : unitsP q l = 0) (seed : Int) {x v : Int} {k : Nat} (hk : k ≤ q.ss.length) (hm : mapF q l seed (randP q l seed) k x = some v) : x ∈ farms l := by
  rcases mapF_src h seed _ x v k hk hm with h2 | ⟨t, ht, h2⟩
  · exact rand_sub h seed h2
  · exact rest_sub.subset h2
/-- Picks put in one by one in an order of the strata are the chosen ones. -/
theorem isP_choose {q : Pl} {l : List Un} (h : unitsP q l = 0) (seed : Int) {O : List (Int × Int)} (hO : IsP O (mapF q l seed (randP q l seed) q.ss.length)) : O = picks (mapF q l seed (randP q l seed) q.ss.length) (farms l) :=
  hO.eq (IsP.picks (units_ok h).2.2.2 (fun x k hk => mapF_mem h seed (Nat.le_refl _) hk))

/-- What a call leaves that returns picks in a list of its own. -/
def PicksPost (w : World) (l : List (Int × Int)) (e : Ending) (w' : World) : Prop :=
  ∃ v, e = .returned v ∧ w'.ownsRow w.heap.size 55 2 v l.length (pCells l) ∧ Below w.heap.size w w'

set_option maxHeartbeats 8000000 in
set_option maxRecDepth 100000 in
theorem putK_any (A : Option Addr) (n c : Nat) (l : List (Int × Int)) (x : Int × Int) (w : World) (hA : SlK w A n c l) (hn1 : n ≤ 1000) :
    Calls Try.prog 44 #[.slice A n c, .agg #[.int .i64 x.1, .int .i64 x.2]] w (PicksPost w (putK l x)) := by
  obtain ⟨i1, hj, hj0, hj1, hj2⟩ := info_parts Try.infoPick
  have hn := hA.len
  obtain ⟨R, hR⟩ : ∃ R, putK l x = R := ⟨_, rfl⟩
  have HR := Lib.hid hR
  rw [hR]
  clear hR
  go_enter Try.func44, Try.ntmps44
  go_upto_region 1 with fail
  obtain ⟨wa, hwa⟩ : ∃ wa : World, wa = w.alloc (.cells #[.int .i64 x.1, .int .i64 x.2] 55) := ⟨_, rfl⟩
  rw [← hwa]
  have Hr : Hid (wa.heap[w.heap.size]? = some (.cells #[.int .i64 x.1, .int .i64 x.2] 55 (0, 0))) := Lib.hid (by rw [hwa]; exact heap_alloc_new w _)
  have Hba : Hid (Below w.heap.size w wa) := Lib.hid (by rw [hwa]; exact (Below.refl _ _).alloc (Nat.le_refl _) _)
  have hl : w.heap.size < wa.heap.size := by rw [hwa]; simp
  have HA := Lib.hid (hA.below Hba.out)
  have Hn := Lib.hid hn
  clear hwa hA
  have Hend : Hid (∀ (v : Value) (W : World), W.ownsRow wa.heap.size 55 2 v R.length (pCells R) → Below wa.heap.size wa W → PicksPost w R (.returned v) W) := Lib.hid (fun v W h1 h2 => ⟨v, rfl, own_rebase h1 (Nat.le_of_lt hl), Hba.out.trans (h2.mono (Nat.le_of_lt hl))⟩)
  go_wp2_with fail
  go_loopw [5, 6, 7] (fun v dn i wr => ∃ k : Nat, k ≤ n ∧ i = .int .i64 (k : Int) ∧ dn = .bool (hasK (l.take k) x.1) ∧ wr.ownsRow wa.heap.size 55 2 v (outK (l.take k) x).length (pCells (outK (l.take k) x)) ∧ Below wa.heap.size wa wr) (fun _ _ i _ => n - (intOf i).toNat)
  case atStart => exact ⟨0, Nat.zero_le _, rfl, rfl, World.ownsRow_nil _ _ _ _, Below.refl _ _⟩
  case round =>
    obtain ⟨k, hk, rfl, rfl, hown, hbw⟩ := hrel
    have hsw := hbw.size
    have Hown := Lib.hid hown
    have Hbw := Lib.hid hbw
    have hol := outK_len (l.take k) x
    have htl : (l.take k).length ≤ k := by rw [List.length_take]; omega
    clear hown hbw
    have Hrb := Lib.hid ((Hbw.out.block _ hl).trans Hr.out)
    have q0 := cell_of_row wr w.heap.size 0 _ _ _ Hrb.out
    have q1 := cell_of_row wr w.heap.size 1 _ _ _ Hrb.out
    by_cases hkn : k < n
    · have hkl : k < l.length := by omega
      obtain ⟨b3, o3, e3, hb3, c3, d3⟩ := (HA.out.below Hbw.out).at k hkl
      have Hts := Lib.hid (List.take_succ_eq_append_getElem hkl)
      have Hhs := Lib.hid (hasK_snoc (l.take k) x.1 l[k])
      have Hos := Lib.hid (outK_snoc (l.take k) x l[k])
      rw [← Hts.out] at Hhs Hos
      have hkn' : (k : Int) < (n : Int) := by omega
      subst e3
      have Hy : Hid (∀ h : k < l.length, l[k]'h = l[k]'hkl) := Lib.hid (fun _ => rfl)
      generalize l[k] = y at *
      generalize outK (l.take k) x = Q at *
      generalize hasK (l.take k) x.1 = P0 at *
      clear hn hkl Hts
      have one : Hid (∀ (v : Value) (W : World), W.ownsRow wa.heap.size 55 2 v (Q.length + 1) (pCells Q ++ [.int .i64 y.1, .int .i64 y.2]) → W.ownsRow wa.heap.size 55 2 v (Q ++ [y]).length (pCells (Q ++ [y]))) := Lib.hid (fun v W h => by rw [List.length_append, pCells_app]; exact h)
      have two : Hid (∀ (v : Value) (W : World), W.ownsRow wa.heap.size 55 2 v (Q.length + 1 + 1) ((pCells Q ++ [.int .i64 x.1, .int .i64 x.2]) ++ [.int .i64 y.1, .int .i64 y.2]) → W.ownsRow wa.heap.size 55 2 v (Q ++ [x] ++ [y]).length (pCells (Q ++ [x] ++ [y]))) := Lib.hid (fun v W h => by rw [List.length_append, List.length_append, pCells_app, pCells_app]; exact h)
      cases P0 with
      | true =>
        have HQ : Hid (outK (l.take (k + 1)) x = Q ++ [y]) := Lib.hid (by rw [Hos.out]; rfl)
        have HP : Hid (hasK (l.take (k + 1)) x.1 = true) := Lib.hid (by rw [Hhs.out]; rfl)
        clear Hhs Hos
        by_cases hxy : x.1 < y.1
        · have hxyd : decide (x.1 < y.1) = true := decide_eq_true hxy
          go_wp2_with fail
          go_quiet (fail)
          have Hbw : Hid (Below wa.heap.size wa (wr.drewN nq)) := Lib.hid (below_drewN Hbw.out nq)
          have Hown : Hid ((wr.drewN nq).ownsRow wa.heap.size 55 2 u5 Q.length (pCells Q)) := Hown
          have c3 : (wr.drewN nq).cell? ⟨b3, o3 + k * 2, none⟩ = some (.int .i64 y.1) := c3
          have d3 : (wr.drewN nq).cell? ⟨b3, o3 + k * 2 + 1, none⟩ = some (.int .i64 y.2) := d3
          have q0 : (wr.drewN nq).cell? ⟨w.heap.size, 0, none⟩ = some (.int .i64 x.1) := q0
          have q1 : (wr.drewN nq).cell? ⟨w.heap.size, 1, none⟩ = some (.int .i64 x.2) := q1
          have hb3 : b3 < (wr.drewN nq).heap.size := hb3
          have hsw : wa.heap.size ≤ (wr.drewN nq).heap.size := hsw
          have hlw : w.heap.size < (wr.drewN nq).heap.size := by omega
          generalize wr.drewN nq = wd at Hbw Hown c3 d3 q0 q1 hb3 hsw hlw ⊢
          go_wp2_with (first
            | (at_builtin
               refine wpList_append_any _ rfl (.tmp 30) (.tmp 35) _ rfl wa.heap.size 55 i1 _ 2 16 Try.underlying49 hj hj0 hj1 hj2 rfl (by omega) _ Q.length (pCells Q) rfl
                 (Hown.out.alloc _) _ _ 1 1 [.int .i64 y.1, .int .i64 y.2] rfl ⟨rfl, fun _ => ⟨_, rfl, Nat.lt_succ_self _, fun j u hu => (by exact news_any _ _ _ j u hu)⟩⟩ (by simp [Value.oneCell']) (by simp only [maxLen]; omega) (by omega) (by simp; omega) ?_
               intro v5 w5 hown5 hg5 hat5)
            | fail)
          go_roundw
          case rel => exact ⟨k + 1, by omega, by go_num, by rw [HP.out], by rw [HQ.out]; exact one.out _ _ hown5, Below.grown (Hbw.out.alloc hsw _) hg5 (by simp; omega) (own_base Hown.out)⟩
          case measure => simp [intOf]; omega
        · have hxyd : decide (x.1 < y.1) = false := decide_eq_false hxy
          go_wp2_with fail
          go_quiet (fail)
          have Hbw : Hid (Below wa.heap.size wa (wr.drewN nq)) := Lib.hid (below_drewN Hbw.out nq)
          have Hown : Hid ((wr.drewN nq).ownsRow wa.heap.size 55 2 u5 Q.length (pCells Q)) := Hown
          have c3 : (wr.drewN nq).cell? ⟨b3, o3 + k * 2, none⟩ = some (.int .i64 y.1) := c3
          have d3 : (wr.drewN nq).cell? ⟨b3, o3 + k * 2 + 1, none⟩ = some (.int .i64 y.2) := d3
          have q0 : (wr.drewN nq).cell? ⟨w.heap.size, 0, none⟩ = some (.int .i64 x.1) := q0
          have q1 : (wr.drewN nq).cell? ⟨w.heap.size, 1, none⟩ = some (.int .i64 x.2) := q1
          have hb3 : b3 < (wr.drewN nq).heap.size := hb3
          have hsw : wa.heap.size ≤ (wr.drewN nq).heap.size := hsw
          have hlw : w.heap.size < (wr.drewN nq).heap.size := by omega
          generalize wr.drewN nq = wd at Hbw Hown c3 d3 q0 q1 hb3 hsw hlw ⊢
          go_wp2_with (first
            | (at_builtin
               refine wpList_append_any _ rfl (.tmp 30) (.tmp 35) _ rfl wa.heap.size 55 i1 _ 2 16 Try.underlying49 hj hj0 hj1 hj2 rfl (by omega) _ Q.length (pCells Q) rfl
                 (Hown.out.alloc _) _ _ 1 1 [.int .i64 y.1, .int .i64 y.2] rfl ⟨rfl, fun _ => ⟨_, rfl, Nat.lt_succ_self _, fun j u hu => (by exact news_any _ _ _ j u hu)⟩⟩ (by simp [Value.oneCell']) (by simp only [maxLen]; omega) (by omega) (by simp; omega) ?_
               intro v5 w5 hown5 hg5 hat5)
            | fail)
          go_roundw
          case rel => exact ⟨k + 1, by omega, by go_num, by rw [HP.out], by rw [HQ.out]; exact one.out _ _ hown5, Below.grown (Hbw.out.alloc hsw _) hg5 (by simp; omega) (own_base Hown.out)⟩
          case measure => simp [intOf]; omega
      | false =>
        by_cases hxy : x.1 < y.1
        · have HQ : Hid (outK (l.take (k + 1)) x = Q ++ [x] ++ [y]) := Lib.hid (by rw [Hos.out, if_neg (by simp), if_pos hxy])
          have HP : Hid (hasK (l.take (k + 1)) x.1 = true) := Lib.hid (by rw [Hhs.out]; simp [hxy])
          clear Hhs Hos
          have hxyd : decide (x.1 < y.1) = true := decide_eq_true hxy
          go_wp2_with fail
          go_quiet (fail)
          have Hbw : Hid (Below wa.heap.size wa (wr.drewN nq)) := Lib.hid (below_drewN Hbw.out nq)
          have Hown : Hid ((wr.drewN nq).ownsRow wa.heap.size 55 2 u5 Q.length (pCells Q)) := Hown
          have c3 : (wr.drewN nq).cell? ⟨b3, o3 + k * 2, none⟩ = some (.int .i64 y.1) := c3
          have d3 : (wr.drewN nq).cell? ⟨b3, o3 + k * 2 + 1, none⟩ = some (.int .i64 y.2) := d3
          have q0 : (wr.drewN nq).cell? ⟨w.heap.size, 0, none⟩ = some (.int .i64 x.1) := q0
          have q1 : (wr.drewN nq).cell? ⟨w.heap.size, 1, none⟩ = some (.int .i64 x.2) := q1
          have hb3 : b3 < (wr.drewN nq).heap.size := hb3
          have hsw : wa.heap.size ≤ (wr.drewN nq).heap.size := hsw
          have hlw : w.heap.size < (wr.drewN nq).heap.size := by omega
          generalize wr.drewN nq = wd at Hbw Hown c3 d3 q0 q1 hb3 hsw hlw ⊢
          go_wp2_with (first
            | (at_builtin
               refine wpList_append_any _ rfl (.tmp 26) (.tmp 28) _ rfl wa.heap.size 55 i1 _ 2 16 Try.underlying49 hj hj0 hj1 hj2 rfl (by omega) _ Q.length (pCells Q) rfl
                 (Hown.out.alloc _) _ _ 1 1 [.int .i64 x.1, .int .i64 x.2] rfl ⟨rfl, fun _ => ⟨_, rfl, Nat.lt_succ_self _, fun j u hu => (by exact news_any _ _ _ j u hu)⟩⟩ (by simp [Value.oneCell']) (by simp only [maxLen]; omega) (by omega) (by simp; omega) ?_
               intro v4 w4 hown4 hg4 hat4
               have Hown4 := Lib.hid hown4
               have Hb4 : Hid (Below wa.heap.size wa w4) := Lib.hid (Below.grown (Hbw.out.alloc hsw _) hg4 (by simp; omega) (own_base Hown.out))
               obtain ⟨b4, o4, e4, hb4, c4, d4⟩ := (HA.out.below Hb4.out).at k (by have := Hn.out; omega)
               rw [Hy.out] at c4 d4
               cases e4
               have hs4 := Hb4.out.size
               clear hown4 hg4)
            | (at_builtin
               refine wpList_append_any _ rfl (.tmp 30) (.tmp 35) _ rfl wa.heap.size 55 i1 _ 2 16 Try.underlying49 hj hj0 hj1 hj2 rfl (by omega) _ (Q.length + 1) (pCells Q ++ [.int .i64 x.1, .int .i64 x.2]) rfl
                 (Hown4.out.alloc _) _ _ 1 1 [.int .i64 y.1, .int .i64 y.2] rfl ⟨rfl, fun _ => ⟨_, rfl, Nat.lt_succ_self _, fun j u hu => (by exact news_any _ _ _ j u hu)⟩⟩ (by simp [Value.oneCell']) (by simp only [maxLen]; omega) (by omega) (by simp; omega) ?_
               intro v5 w5 hown5 hg5 hat5)
            | fail)
          go_roundw
          case rel => exact ⟨k + 1, by omega, by go_num, by rw [HP.out], by rw [HQ.out]; exact two.out _ _ hown5, Below.grown (Hb4.out.alloc hs4 _) hg5 (by simp; omega) (own_base Hown4.out)⟩
          case measure => simp [intOf]; omega
        · have HQ : Hid (outK (l.take (k + 1)) x = Q ++ [y]) := Lib.hid (by rw [Hos.out, if_neg (by simp), if_neg hxy])
          have HP : Hid (hasK (l.take (k + 1)) x.1 = false) := Lib.hid (by rw [Hhs.out]; simp; omega)
          clear Hhs Hos
          have hxyd : decide (x.1 < y.1) = false := decide_eq_false hxy
          go_wp2_with fail
          go_quiet (fail)
          have Hbw : Hid (Below wa.heap.size wa (wr.drewN nq)) := Lib.hid (below_drewN Hbw.out nq)
          have Hown : Hid ((wr.drewN nq).ownsRow wa.heap.size 55 2 u5 Q.length (pCells Q)) := Hown
          have c3 : (wr.drewN nq).cell? ⟨b3, o3 + k * 2, none⟩ = some (.int .i64 y.1) := c3
          have d3 : (wr.drewN nq).cell? ⟨b3, o3 + k * 2 + 1, none⟩ = some (.int .i64 y.2) := d3
          have q0 : (wr.drewN nq).cell? ⟨w.heap.size, 0, none⟩ = some (.int .i64 x.1) := q0
          have q1 : (wr.drewN nq).cell? ⟨w.heap.size, 1, none⟩ = some (.int .i64 x.2) := q1
          have hb3 : b3 < (wr.drewN nq).heap.size := hb3
          have hsw : wa.heap.size ≤ (wr.drewN nq).heap.size := hsw
          have hlw : w.heap.size < (wr.drewN nq).heap.size := by omega
          generalize wr.drewN nq = wd at Hbw Hown c3 d3 q0 q1 hb3 hsw hlw ⊢
          go_wp2_with (first
            | (at_builtin
               refine wpList_append_any _ rfl (.tmp 30) (.tmp 35) _ rfl wa.heap.size 55 i1 _ 2 16 Try.underlying49 hj hj0 hj1 hj2 rfl (by omega) _ Q.length (pCells Q) rfl
                 (Hown.out.alloc _) _ _ 1 1 [.int .i64 y.1, .int .i64 y.2] rfl ⟨rfl, fun _ => ⟨_, rfl, Nat.lt_succ_self _, fun j u hu => (by exact news_any _ _ _ j u hu)⟩⟩ (by simp [Value.oneCell']) (by simp only [maxLen]; omega) (by omega) (by simp; omega) ?_
               intro v5 w5 hown5 hg5 hat5)
            | fail)
          go_roundw
          case rel => exact ⟨k + 1, by omega, by go_num, by rw [HP.out], by rw [HQ.out]; exact one.out _ _ hown5, Below.grown (Hbw.out.alloc hsw _) hg5 (by simp; omega) (own_base Hown.out)⟩
          case measure => simp [intOf]; omega
    · have hkk : k = n := by omega
      have hkn' : ¬ (k : Int) < (n : Int) := by omega
      have et : l.take k = l := List.take_of_length_le (by omega)
      rw [et] at Hown hol ⊢
      cases hp : hasK l x.1 with
      | true =>
        have e1 : outK l x = R := by rw [← HR.out]; unfold outK; rw [hp]; rfl
        rw [e1] at Hown
        clear e1 hp et hn hol htl hkk
        go_wp2
        go_ret
        exact Hend.out _ _ Hown.out Hbw.out
      | false =>
        have e1 : outK l x = l := by unfold outK; rw [hp]; rfl
        have e2 : Hid (R = l ++ [x]) := Lib.hid (by rw [← HR.out]; exact putK_none hp)
        rw [e1] at Hown hol
        have hll : l.length ≤ 1000 := by omega
        clear e1 hp et hn hol htl hkk
        go_wp2_with (first
          | (at_builtin
             refine wpList_append_any _ rfl (.tmp 39) (.tmp 41) _ rfl wa.heap.size 55 i1 _ 2 16 Try.underlying49 hj hj0 hj1 hj2 rfl (by omega) _ l.length (pCells l) rfl
               (Hown.out.alloc _) _ _ 1 1 [.int .i64 x.1, .int .i64 x.2] rfl ⟨rfl, fun _ => ⟨_, rfl, Nat.lt_succ_self _, fun j u hu => (by exact news_any _ _ _ j u hu)⟩⟩ (by simp [Value.oneCell']) (by simp only [maxLen]; omega) (by omega) (by simp; omega) ?_
             intro v5 w5 hown5 hg5 hat5)
          | fail)
        go_ret
        refine Hend.out _ _ ?_ (Below.grown (Hbw.out.alloc hsw _) hg5 (by simp; omega) (own_base Hown.out))
        rw [e2.out, List.length_append, pCells_app]
        exact hown5
end Go.Proofs.Ytjmbdfoegnfpnaa
