import Derived.Test.YtfmkmhhghmdakaaGreatDoorSh05
import Derived.Test.YtfmkmhhghmdakaaGreatDoorRH
import Derived.Test.YtfmkmhhghmdakaaGreatDoorRK
import Derived.Test.YtfmkmhhghmdakaaGreatDoorRW
import Derived.Test.YtfmkmhhghmdakaaGreatDoorRX
namespace Go.Proofs.YtfmkmhhghmdakaaGreatDoor
open Go.RowKit Go.Shelf
set_option linter.unusedVariables false
set_option linter.unusedSimpArgs false
set_option maxHeartbeats 64000000
set_option maxRecDepth 100000
end Go.Proofs.YtfmkmhhghmdakaaGreatDoor
namespace Go.Proofs.YtfmkmhhghmdakaaGreatDoor
open Go.RowKit Go.Shelf Go.Lib Go.Sort
set_option linter.unusedVariables false
set_option linter.unusedSimpArgs false
set_option maxHeartbeats 64000000
set_option maxRecDepth 100000
def Gr (w w' : World) : Prop := ∃ q os, w' = Sort.grow (w.drewN q) os
theorem Gr.refl (w : World) : Gr w w := ⟨0, #[], by rw [Sort.grow_empty]; rfl⟩
theorem Gr.drew {w w' : World} (h : Gr w w') : Gr w w'.drew := by
  obtain ⟨q, os, rfl⟩ := h
  exact ⟨q + 1, os, rfl⟩
theorem Gr.alloc {w w' : World} (h : Gr w w') (o : Obj) : Gr w (w'.alloc o) := by
  obtain ⟨q, os, rfl⟩ := h
  exact ⟨q, os ++ #[o], by rw [alloc_eq_grow, Sort.grow_grow]⟩
theorem Gr.below {w w' : World} (h : Gr w w') : Below w.heap.size w w' := by
  obtain ⟨q, os, rfl⟩ := h
  refine ⟨rfl, rfl, rfl, by simp [Sort.grow, World.drewN], fun k hk => ?_⟩
  exact heap_grow_old _ _ (by simpa [World.drewN] using hk)
theorem cell_lt {w : World} {a : Addr} {v : Value} (h : w.cell? a = some v) : a.block < w.heap.size := by
  rcases Nat.lt_or_ge a.block w.heap.size with h1 | h1
  · exact h1
  · unfold World.cell? at h
    rw [Array.getElem?_eq_none h1] at h
    cases h
theorem Gr.trans {a b c : World} (h : Gr a b) (k : Gr b c) : Gr a c := by
  obtain ⟨q, os, rfl⟩ := h
  obtain ⟨r, ps, rfl⟩ := k
  refine ⟨q + r, os ++ ps, ?_⟩
  rw [← Sort.grow_grow]
  simp only [World.drewN, Sort.grow, Nat.add_assoc]
theorem lower_gr (p q : Pt) (w : World) : Calls Tryz.prog 151 #[.agg #[.int .i64 p.1, .int .i64 p.2], .agg #[.int .i64 q.1, .int .i64 q.2]] w fun e w' => e = .returned (.int .i64 (lowP p q)) ∧ Gr w w' := by
  obtain ⟨a, b⟩ := p
  obtain ⟨c, d⟩ := q
  have Hc1 := Lib.hid (fun W => cmpI_any b d W)
  have Hc2 := Lib.hid (fun W => cmpI_any a c W)
  have Hr : Hid (lowP (a, b) (c, d) = orI (cI b d) (cI a c)) := Lib.hid rfl
  generalize lowP (a, b) (c, d) = res at *
  generalize cI b d = c1 at *
  generalize cI a c = c2 at *
  dsimp only at *
  go_enter Tryz.func151, Tryz.ntmps151
  go_upto_region 1 with fail
  obtain ⟨wa, hwa⟩ : ∃ wa : World, wa = (w.alloc (.cells #[.int .i64 a, .int .i64 b] 189)).alloc (.cells #[.int .i64 c, .int .i64 d] 189) := ⟨_, rfl⟩
  rw [← hwa]
  have HG : Hid (wa.heap[w.heap.size]? = some (.cells #[.int .i64 a, .int .i64 b] 189 (0, 0))) := Lib.hid (by rw [hwa]; exact (Below.heap_alloc _ _ _ (by simp)).trans (heap_alloc_new w _))
  have HE : Hid (wa.heap[w.heap.size + 1]? = some (.cells #[.int .i64 c, .int .i64 d] 189 (0, 0))) := Lib.hid (by rw [hwa]; have hzz := heap_alloc_new (w.alloc (.cells #[.int .i64 a, .int .i64 b] 189)) (.cells #[.int .i64 c, .int .i64 d] 189); rw [World.size_alloc] at hzz; exact hzz)
  have Hga : Hid (Gr w wa) := Lib.hid (by rw [hwa]; exact ((Gr.refl w).alloc _).alloc _)
  have hlE : w.heap.size + 1 < wa.heap.size := by rw [hwa]; simp
  clear hwa
  have hlG : w.heap.size < wa.heap.size := by omega
  have a0 := cell_of_row wa w.heap.size 0 _ _ _ HG.out
  have a1 := cell_of_row wa w.heap.size 1 _ _ _ HG.out
  have b0 := cell_of_row wa (w.heap.size + 1) 0 _ _ _ HE.out
  have b1 := cell_of_row wa (w.heap.size + 1) 1 _ _ _ HE.out
  have Hor := Lib.hid (orI_any wa.heap.size c1 c2 (wa.alloc (.cells #[.int .i64 c1, .int .i64 c2] 3)).drew (cell_of_row _ _ 0 _ _ _ (heap_alloc_new wa _)) (cell_of_row _ _ 1 _ _ _ (heap_alloc_new wa _)))
  have Hg2 : Hid (Gr w (wa.alloc (.cells #[.int .i64 c1, .int .i64 c2] 3)).drew) := Lib.hid ((Hga.out.alloc _).drew)
  rw [← Hr.out] at Hor
  go_region_held3 (fun w' => w'.cell? ⟨w.heap.size, 0, none⟩ = some (.int .i64 a) ∧ w'.cell? ⟨w.heap.size, 1, none⟩ = some (.int .i64 b) ∧ w'.cell? ⟨w.heap.size + 1, 0, none⟩ = some (.int .i64 c) ∧ w'.cell? ⟨w.heap.size + 1, 1, none⟩ = some (.int .i64 d))
    (first | exact ⟨a0, a1, b0, b1⟩ | exact ⟨(World.cell?_alloc_lt wa _ ⟨w.heap.size, 0, none⟩ hlG).trans a0, (World.cell?_alloc_lt wa _ ⟨w.heap.size, 1, none⟩ hlG).trans a1, (World.cell?_alloc_lt wa _ ⟨w.heap.size + 1, 0, none⟩ hlE).trans b0, (World.cell?_alloc_lt wa _ ⟨w.heap.size + 1, 1, none⟩ hlE).trans b1⟩ | go_keep)
    (first
      | (go_at_call_of 171 (Value.int IntKind.i64 b); refine (Hc1.out _).mono ?_; rintro e w1 ⟨rfl, rfl⟩)
      | (go_at_call_of 171 (Value.int IntKind.i64 a); refine (Hc2.out _).mono ?_; rintro e w1 ⟨rfl, rfl⟩)
      | (go_at_call 170; refine Hor.out.mono ?_; rintro e w1 ⟨rfl, rfl⟩)
      | fail)
  all_goals go_wp2
  all_goals go_ret
  all_goals exact ⟨rfl, Hg2.out⟩
theorem cmpRg_any (b1 b2 n1 n2 c1 c2 : Nat) (p q : Pt) (W : World) (h0 : W.cell? ⟨b1, 0, none⟩ = some (.int .i64 p.1)) (h1 : W.cell? ⟨b1, 1, none⟩ = some (.int .i64 p.2)) (k0 : W.cell? ⟨b2, 0, none⟩ = some (.int .i64 q.1)) (k1 : W.cell? ⟨b2, 1, none⟩ = some (.int .i64 q.2)) (hn1 : 0 < n1) (hn2 : 0 < n2) :
    Calls Tryz.prog 150 #[.slice (some ⟨b1, 0, none⟩) n1 c1, .slice (some ⟨b2, 0, none⟩) n2 c2] W fun e w' => e = .returned (.int .i64 (lowP p q)) ∧ Gr W w' := by
  have HL := Lib.hid (fun W => lower_gr p q W)
  have hl1 := cell_lt h0
  have hl2 := cell_lt k0
  have hn1' : (0 : Int) < (n1 : Int) := by omega
  have hn2' : (0 : Int) < (n2 : Int) := by omega
  obtain ⟨a, b⟩ := p
  obtain ⟨c, d⟩ := q
  generalize lowP (a, b) (c, d) = res at *
  dsimp only at *
  go_enter Tryz.func150, Tryz.ntmps150
  go_upto_region 1 with fail
  go_region_held3 (fun w' => w'.cell? ⟨b1, 0, none⟩ = some (.int .i64 a) ∧ w'.cell? ⟨b1, 1, none⟩ = some (.int .i64 b) ∧ w'.cell? ⟨b2, 0, none⟩ = some (.int .i64 c) ∧ w'.cell? ⟨b2, 1, none⟩ = some (.int .i64 d))
    (first | exact ⟨h0, h1, k0, k1⟩ | exact ⟨(Hg1.out.below.cell (p := ⟨b1, 0, none⟩) hl1).trans h0, (Hg1.out.below.cell (p := ⟨b1, 1, none⟩) hl1).trans h1, (Hg1.out.below.cell (p := ⟨b2, 0, none⟩) hl2).trans k0, (Hg1.out.below.cell (p := ⟨b2, 1, none⟩) hl2).trans k1⟩ | go_keep)
    (first
      | (go_at_call 151; refine (HL.out _).mono ?_; rintro e w1 ⟨rfl, hg1⟩; have Hg1 := Lib.hid hg1; clear hg1)
      | fail)
  all_goals go_wp2
  all_goals go_ret
  all_goals exact ⟨rfl, (Gr.refl W).drew.trans Hg1.out⟩
theorem holds_blk {α : Type} [Inhabited α] {enc : α → Value} {w : World} {g : Nat} {cur : Array Value} {e : TypeId} {ss : List α} (hb : w.heap[g]? = some (.cells cur e (0, 0))) (ht : cur.toList.take ss.length = ss.map enc) : Holds enc w g 0 ss.toArray := by
  intro j hj
  have hj' : j < ss.length := by simpa using hj
  refine ⟨?_, by simp [World.frozen?, hb]⟩
  have h1 : (cur.toList.take ss.length)[j]? = (ss.map enc)[j]? := by rw [ht]
  rw [List.getElem?_take_of_lt hj'] at h1
  simp only [World.cell?, hb, Nat.zero_add]
  simp only [Option.isSome_none, Bool.false_eq_true, if_false]
  rw [← Array.getElem?_toList, h1]
  simp [hj']
def hdP (r : List Pt) : Pt := r.headD (0, 0)
def befR (x y : List Pt) : Bool := decide (lowP (hdP x) (hdP y) < 0)
theorem befR_iff (x y : List Pt) : befR x y = true ↔ (hdP x).2 < (hdP y).2 ∨ ((hdP x).2 = (hdP y).2 ∧ (hdP x).1 < (hdP y).1) := by
  unfold befR lowP orI
  rw [decide_eq_true_eq]
  rcases cI_cases (hdP x).2 (hdP y).2 with ⟨e1, h1⟩ | ⟨e1, h1⟩ | ⟨e1, h1⟩ <;> rcases cI_cases (hdP x).1 (hdP y).1 with ⟨e2, h2⟩ | ⟨e2, h2⟩ | ⟨e2, h2⟩ <;> rw [e1, e2] <;> simp <;> omega
theorem befR_not (x y : List Pt) : befR x y = false ↔ ¬ ((hdP x).2 < (hdP y).2 ∨ ((hdP x).2 = (hdP y).2 ∧ (hdP x).1 < (hdP y).1)) := by
  rw [← Bool.not_eq_true, befR_iff]
theorem swoR {n : Nat} (f : Fin n → List Pt) : Sort.SWO (ltOf fun i j => lowP (hdP (f i)) (hdP (f j))) where
  irrefl x := by
    show befR (f x) (f x) = false
    rw [befR_not]; omega
  trans x y z h1 h2 := by
    have h1 : befR (f x) (f y) = true := h1
    have h2 : befR (f y) (f z) = true := h2
    show befR (f x) (f z) = true
    rw [befR_iff] at *; omega
  ntrans x y z h1 h2 := by
    have h1 : befR (f x) (f y) = false := h1
    have h2 : befR (f y) (f z) = false := h2
    show befR (f x) (f z) = false
    rw [befR_not] at *; omega
theorem finRange_map {α β : Type} (l : List α) (g : α → β) : (List.finRange l.length).map (fun i => g l[i]) = l.map g := by
  apply List.ext_getElem
  · simp
  · intro i h1 h2
    simp
theorem sortRg_own {base : Nat} {v : Value} {rs : List (Value × List Pt)} (w : World) (hg0 : RgAt w base v rs) (hne : ∀ x ∈ rs, x.2 ≠ []) (hl : rs.length < 4611686018427387904) :
    Calls Tryz.prog 149 #[v, .func (.func 150) #[] #[]] w fun e w' => e = .returned (.tuple #[]) ∧ ∃ ss, ss.Perm rs ∧ ss.Pairwise (fun a b => befR b.2 a.2 = false) ∧ RgAt w' base v ss ∧ w.grownBy w' v.ownBlock := by
  have hpts := hg0.pts
  have hrow := hg0.row
  obtain ⟨h1, h2⟩ := hg0.row
  rcases h2 with ⟨rfl, h0⟩ | ⟨g, cap, cur, rfl, hb, hg, hc, hm, hs, ht⟩
  · have hnil : rs = [] := List.length_eq_zero_iff.1 h0
    subst hnil
    refine (AnyF.slices_SortFunc_none Tryz.laySortRing0 none 0 _ w).mono ?_
    rintro e w' ⟨rfl, rfl⟩
    exact ⟨rfl, [], List.Perm.refl _, List.Pairwise.nil, RgAt.nil _ _, World.grownBy.refl _ _⟩
  · rcases Nat.eq_zero_or_pos rs.length with h0 | h0
    · have hnil : rs = [] := List.length_eq_zero_iff.1 h0
      subst hnil
      refine (AnyF.slices_SortFunc_none Tryz.laySortRing0 (some ⟨g, 0, none⟩) cap _ w).mono ?_
      rintro e w' ⟨rfl, rfl⟩
      exact ⟨rfl, [], List.Perm.refl _, List.Pairwise.nil, hg0, World.grownBy.refl _ _⟩
    · have hlt : g < w.heap.size := by
        rcases Nat.lt_or_ge g w.heap.size with h | h
        · exact h
        · rw [Array.getElem?_eq_none h] at hg; cases hg
      letI : Inhabited (Fin rs.length) := ⟨⟨0, h0⟩⟩
      have eg : ∀ args w, (callFunc 150 args).run Tryz.prog w = .ok (.enter 150 args) w := enters_of Tryz.func150 (by kernel_rfl) rfl
      obtain ⟨enc, henc⟩ : ∃ enc : Fin rs.length → Value, enc = fun i => rs[i].1 := ⟨_, rfl⟩
      have hmap : (List.finRange rs.length).map enc = rs.map (·.1) := by rw [henc]; exact finRange_map rs (·.1)
      have ht' : cur.toList.take (List.finRange rs.length).length = (List.finRange rs.length).map enc := by rw [hmap, List.length_finRange, ← ht, Nat.mul_one]
      have hH : Holds enc w g 0 (List.finRange rs.length).toArray := holds_blk hg ht'
      have hone : OneCell enc := fun i => by
        obtain ⟨A, k, e, _⟩ := own_slice (hpts rs[i] (List.getElem_mem _))
        have ex : enc i = rs[i].1 := by rw [henc]
        rw [ex, e]
        rfl
      have hcmp : CmpLays1 Tryz.prog 150 #[] enc (fun i j => lowP (hdP rs[i].2) (hdP rs[j].2)) g 0 (List.finRange rs.length).toArray.size w := by
        intro m os dk hd x y
        have key : ∀ x : Fin rs.length, ∃ b n c, enc x = .slice (some ⟨b, 0, none⟩) n c ∧ 0 < n ∧ (sortWorld enc w g 0 m dk os).cell? ⟨b, 0, none⟩ = some (.int .i64 (hdP rs[x].2).1) ∧ (sortWorld enc w g 0 m dk os).cell? ⟨b, 1, none⟩ = some (.int .i64 (hdP rs[x].2).2) := fun x => by
          have hx := hpts rs[x] (List.getElem_mem _)
          have hxn := hne rs[x] (List.getElem_mem _)
          have ex : enc x = rs[x].1 := by rw [henc]
          rw [ex]
          clear ex
          generalize rs[x] = z at *
          obtain ⟨v1, r1⟩ := z
          cases r1 with
          | nil => exact (hxn rfl).elim
          | cons p t =>
            obtain ⟨k1, k2⟩ := hx
            rcases k2 with ⟨_, k0⟩ | ⟨b, bc, bcur, hv, hbb, hbg, hbc, hbm, hbs, hbt⟩
            · simp at k0
            · dsimp only at hv
              subst hv
              have hbl : b < w.heap.size := by
                rcases Nat.lt_or_ge b w.heap.size with h | h
                · exact h
                · rw [Array.getElem?_eq_none h] at hbg; cases hbg
              have hgb : g ≠ b := fun e => by
                subst e
                rw [hg] at hbg
                injection hbg with hbg
                injection hbg with _ hbg
                exact absurd hbg (by decide)
              have hcell : (sortWorld enc w g 0 m dk os).heap[b]? = some (.cells bcur 189 (0, 0)) := by
                unfold sortWorld
                rw [heap_grow_old _ _ (by simpa [Sort.putRow, Sort.mapBlock, Sort.ahead] using hbl)]
                simp [Sort.putRow, Sort.mapBlock, Sort.ahead, Array.getElem?_modify, hgb, hbg]
              have hbt0 : bcur.toList[0]? = some (.int .i64 p.1) ∧ bcur.toList[1]? = some (.int .i64 p.2) := by
                have e0 : pCells (p :: t) = .int .i64 p.1 :: .int .i64 p.2 :: pCells t := rfl
                rw [e0] at hbt
                have q0 := congrArg (·[0]?) hbt
                have q1 := congrArg (·[1]?) hbt
                simp only [List.getElem?_take] at q0 q1
                constructor
                · simpa using q0
                · have q2 := q1
                  simp at q2
                  simpa using q2.2
              refine ⟨b, _, bc, rfl, by simp, ?_, ?_⟩
              · exact cell_of_row _ b 0 _ _ _ hcell |>.trans (by simpa [hdP] using hbt0.1)
              · exact cell_of_row _ b 1 _ _ _ hcell |>.trans (by simpa [hdP] using hbt0.2)
        obtain ⟨b1, n1, c1, e1, q1, q2, q3⟩ := key x
        obtain ⟨b2, n2, c2, e2, r1, r2, r3⟩ := key y
        rw [e1, e2]
        exact cmpRg_any b1 b2 n1 n2 c1 c2 _ _ _ q2 q3 r2 r3 q1 r1
      have hsz0 : (List.finRange rs.length).toArray.size = rs.length := by simp
      have hcall := Any.slices_SortFunc Tryz.laySortRing enc hone (fun i j => lowP (hdP rs[i].2) (hdP rs[j].2)) (swoR fun i => rs[i].2) 150 #[] g 0 cap (List.finRange rs.length).toArray w eg hcmp hH hlt (by simpa using hl)
      rw [hsz0] at hcall
      refine hcall.mono ?_
      rintro e w' ⟨rfl, d', n, os, ⟨hsz, _, hperm⟩, hso, rfl⟩
      have hsz' : d'.toList.length = rs.length := by simpa using hsz
      have e1 : d'.extract 0 rs.length = d' := by
        have : d'.size = rs.length := by simpa using hsz
        have h5 := Array.extract_size (xs := d')
        rw [this] at h5
        exact h5
      have e2 : (List.finRange rs.length).toArray.extract 0 rs.length = (List.finRange rs.length).toArray := by
        have h6 := Array.extract_size (xs := (List.finRange rs.length).toArray)
        rw [hsz0] at h6
        exact h6
      rw [e1, e2] at hperm
      have hpl : d'.toList.Perm (List.finRange rs.length) := by simpa using hperm
      have hss : (d'.toList.map fun i => rs[i]).Perm rs := by
        have h3 := hpl.map fun i => rs[i]
        have h4 := finRange_map rs (fun x => x)
        rw [List.map_id'] at h4
        rw [h4] at h3
        exact h3
      have hgr : w.grownBy (sortWorld enc w g 0 n d' os) (some g) := by
        refine ⟨rfl, rfl, rfl, by simp [sortWorld, Sort.putRow, Sort.mapBlock, Sort.ahead, Sort.grow], fun k hk hne => ?_⟩
        unfold sortWorld
        rw [heap_grow_old _ _ (by simpa [Sort.putRow, Sort.mapBlock, Sort.ahead] using hk)]
        have : g ≠ k := fun e => hne (by rw [e])
        simp [Sort.putRow, Sort.mapBlock, Sort.ahead, Array.getElem?_modify, this]
      refine ⟨rfl, d'.toList.map fun i => rs[i], hss, ?_, ⟨?_, fun x hx => ?_⟩, hgr⟩
      · rw [List.pairwise_iff_getElem]
        intro i j hi hj hij
        have hi' : i < d'.size := by simpa using hi
        have hj' : j < d'.size := by simpa using hj
        have hsz2 : d'.size = rs.length := by simpa using hsz
        have := hso i j (Nat.zero_le _) hij (by omega)
        rw [getElem!_pos d' j hj', getElem!_pos d' i hi'] at this
        simpa [ltOf, befR] using this
      · rw [List.length_map, hsz', List.map_map]
        have hmap2 : (List.map ((fun x : Value × List Pt => x.1) ∘ fun i : Fin rs.length => rs[i]) d'.toList) = d'.toList.map enc := by rw [henc]; rfl
        rw [hmap2]
        refine ⟨by simp [hsz'], .inr ⟨g, cap, putCells enc 0 d' cur, rfl, hb, ?_, hc, hm, by simpa [putCells] using hs, ?_⟩⟩
        · unfold sortWorld
          rw [heap_grow_old _ _ (by simpa [Sort.putRow, Sort.mapBlock, Sort.ahead] using hlt)]
          simp [Sort.putRow, Sort.mapBlock, Sort.ahead, Array.getElem?_modify, hg, onCells]
        · apply List.ext_getElem?
          intro j
          rw [List.getElem?_take, Array.getElem?_toList, List.getElem?_map, Array.getElem?_toList]
          have hsz2 : d'.size = rs.length := by simpa using hsz
          by_cases hj : j < rs.length * 1
          · have hjc : j < cur.size := by rw [hs]; exact Nat.lt_of_lt_of_le hj (Nat.mul_le_mul_right 1 hc)
            have hjd : j < d'.size := by omega
            simp only [if_pos hj, putCells, Array.getElem?_mapIdx, Array.getElem?_eq_getElem hjc, Array.getElem?_eq_getElem hjd, Option.map_some]
            rw [if_pos (by simp; omega)]
            simp [getElem!_pos, hjd]
          · rw [if_neg hj, Array.getElem?_eq_none (by omega)]
            rfl
      · have hxm := hss.mem_iff.1 hx
        refine own_grown (hpts x hxm) hgr (fun b hbb e => ?_)
        injection e with e
        obtain ⟨cs, i, q⟩ := own_type (hpts x hxm) b hbb
        rw [← e, hg] at q
        injection q with q
        injection q with _ q
        exact absurd q (by decide)
abbrev Hdr := Option Addr × Nat × Nat
def encH (x : Hdr) : Value := .slice x.1 x.2.1 x.2.2
def decH : Value → Hdr
  | .slice a n c => (a, n, c)
  | _ => (none, 0, 0)
theorem longPred (w : World) : PredAt Tryz.prog 148 #[] encH (fun x => decide (400 < x.2.1)) w := by
  intro W x hb
  obtain ⟨a, n, c⟩ := x
  refine Calls.mono (show Calls Tryz.prog 148 #[.slice a n c] W fun e w' => e = .returned (.bool (decide (400 < n))) ∧ w' = W from ?_) ?_
  · by_cases h : 400 < n
    · have h' : (400 : Int) < (n : Int) := by omega
      go_enter Tryz.func148, Tryz.ntmps148
      go_wp2
      go_ret
      simp [h]
    · have h' : ¬ (400 : Int) < (n : Int) := by omega
      go_enter Tryz.func148, Tryz.ntmps148
      go_wp2
      go_ret
      simp [h]
  · rintro e w' ⟨rfl, rfl⟩
    exact ⟨rfl, 0, rfl⟩
theorem longRg_own {base : Nat} {v : Value} {rs : List (Value × List Pt)} (w : World) (hg0 : RgAt w base v rs) (hl : rs.length < 4611686018427387904) :
    Calls Tryz.prog 147 #[v, .func (.func 148) #[] #[]] w fun e w' => e = .returned (.bool (rs.any fun x => decide (400 < x.2.length))) ∧ Below w.heap.size w w' := by
  have hpts := hg0.pts
  rcases Nat.eq_zero_or_pos rs.length with h0 | h0
  · have hnil : rs = [] := List.length_eq_zero_iff.1 h0
    subst hnil
    have hv : ∃ a c, v = .slice a 0 c := by
      rcases hg0.row.2 with ⟨rfl, _⟩ | ⟨g, cap, cur, rfl, _⟩
      · exact ⟨_, _, rfl⟩
      · exact ⟨_, _, rfl⟩
    obtain ⟨a, c, rfl⟩ := hv
    refine (AnyE.slices_ContainsFunc_empty Tryz.layContainsRing a c _ w).mono ?_
    rintro e w' ⟨rfl, rfl⟩
    exact ⟨rfl, Below.refl _ _⟩
  · obtain ⟨g, cap, rfl, _, _, _, _, hc, _⟩ := own_at hg0.row h0
    have eg : ∀ args w, (callFunc 148 args).run Tryz.prog w = .ok (.enter 148 args) w := enters_of Tryz.func148 (by kernel_rfl) rfl
    have hdec : ∀ x ∈ rs, encH (decH x.1) = x.1 ∧ (decH x.1).2.1 = x.2.length := fun x hx => by
      obtain ⟨A, k, e, _⟩ := own_slice (hpts x hx)
      rw [e]
      exact ⟨rfl, rfl⟩
    have hcall := AnyE.slices_ContainsFunc Tryz.layContainsRing encH (fun x => decide (400 < x.2.1)) 148 #[] eg g 0 rs.length cap (rs.map fun x => decH x.1) w (longPred w) (by simp) (by omega) (fun j hj => by
      have hj' : j < rs.length := by simpa using hj
      rw [getElem!_pos _ j hj, List.getElem_map, (hdec _ (List.getElem_mem hj')).1, Nat.zero_add]
      exact hc j _ (by simp [hj']))
    have hq : ((rs.map fun x => decH x.1).take rs.length).any (fun x => decide (400 < x.2.1)) = rs.any fun x => decide (400 < x.2.length) := by
      rw [List.take_of_length_le (by simp), List.any_map]
      exact any_congr' fun x hx => by
        show decide (400 < (decH x.1).2.1) = _
        rw [(hdec x hx).2]
    rw [hq] at hcall
    refine hcall.mono ?_
    rintro e w' ⟨rfl, q, rfl⟩
    exact ⟨rfl, below_drewN' (Below.refl _ w) q⟩
end Go.Proofs.YtfmkmhhghmdakaaGreatDoor
namespace Go.Proofs.YtfmkmhhghmdakaaGreatDoor
set_option maxHeartbeats 64000000
set_option maxRecDepth 100000
open Go.RowKit Go.Shelf
set_option linter.unusedVariables false
set_option linter.unusedSimpArgs false
variable {P : Sq} {es : List R4}
def Clo (P : Sq) (es R : List R4) : Prop := ∀ e ∈ es, ∀ g ∈ es, Sx P e g → (e ∈ R ↔ g ∈ R)
theorem follow_full (h : ESet P es) {R : List R4} {f : Pt → List R4} (hr : Rem f R) (hb : Bal R) (hs : R.Sublist es) (hc : Clo P es R) {e0 : R4} (he : e0 ∈ R) :
    ∃ cs f' R', followF es.length f e0 e0 [] = some (cs, f') ∧ cs ≠ [] ∧ cs.length ≤ es.length ∧ Rem f' R' ∧ Bal R' ∧ R'.Sublist es ∧ Clo P es R' := by
  obtain ⟨cs, f', R1, h1, h2, h3, h4, h5, h6, h7⟩ := follow_ok es.length R f e0 e0 [] hr he hs.length_le (fun v => by rw [hb v])
  obtain ⟨t, g1, g2, g3, R2, g4, g5⟩ := follow_ring h hr (fun e he => hs.subset he) (h.nod.sublist hs) hc he h1
  have g6 : ∀ e, e ∈ R1 ↔ e ∈ R ∧ e ∉ e0 :: t := fun e => by
    rw [← g5, ← rem_mem h2, ← rem_mem g4]
  obtain ⟨c, l, k1, k2, _⟩ := ring_cor h g1
  refine ⟨cs, f', R1, h1, ?_, ?_, h2, h3, h4.trans hs, fun e he2 g hg hsx => ?_⟩
  · rw [g3, k1]; simp
  · have := hs.length_le
    simp at h7
    omega
  · rw [g6, g6, hc e he2 g hg hsx, g1.clo h he2 hg hsx]
def bigR (cs : List (R4 × List R4)) : Prop := 60 < cs.length ∨ ∃ r ∈ cs.map ringOf, 400 < r.length
structure RgRes (l : List R4) (rs : List (List Pt)) (err : Int) : Prop where
  bad : validP l = false → rs = [] ∧ err = 7
  good : validP l = true → ∃ cs, Rings (inL l) (edgesP l) cs ∧ ((bigR cs ∧ rs = [] ∧ err = 1) ∨ (¬ bigR cs ∧ err = 0 ∧ rs.Perm (cs.map ringOf) ∧ rs.Pairwise fun a b => befR b a = false))
def RgPost (w : World) (l : List R4) (e : Ending) (w' : World) : Prop := ∃ v rs err, e = .returned (.tuple #[v, .int .i64 err]) ∧ RgAt w' w.heap.size v rs ∧ Below w.heap.size w w' ∧ RgRes l (rs.map (·.2)) err
theorem ringOf_ne (h : ESet P es) {c : R4 × List R4} (hr : Ring1 P es c.1 c.2) : ringOf c ≠ [] := by
  obtain ⟨y, m, e1, h1⟩ := crn_ring h hr
  rw [ringOf_eq, e1]
  simp
theorem gathered {l : List R4} (hl : ∀ q ∈ l, q.l < q.r) {f0 : Pt → List R4} (hr : Rem f0 (edgesP l)) : ∃ cs, ringsF (edgesP l).length (edgesP l) f0 = cs.map ringOf ∧ Rings (inL l) (edgesP l) cs ∧ ∀ r ∈ cs.map ringOf, r ≠ [] := by
  obtain ⟨cs, h1, h2⟩ := ringsF_rings (edges_set l hl) (edges_bal l hl) hr
  refine ⟨cs, h1, h2, fun r hm => ?_⟩
  obtain ⟨c, hc, rfl⟩ := List.mem_map.1 hm
  exact ringOf_ne (edges_set l hl) (h2.ring c hc)
end Go.Proofs.YtfmkmhhghmdakaaGreatDoor
namespace Go.Proofs.YtfmkmhhghmdakaaGreatDoor
open Go.RowKit Go.Shelf
set_option linter.unusedVariables false
set_option linter.unusedSimpArgs false
set_option maxHeartbeats 64000000
set_option maxRecDepth 100000
structure HV where
  a : Option Addr
  c : Nat
abbrev RgL := List (List Pt × HV)
def rgH (x : List Pt × HV) : Value := .slice x.2.a x.1.length x.2.c
structure SlRg (w : World) (A : Option Addr) (n c : Nat) (l : RgL) : Prop where
  len : l.length = n
  cap : n ≤ c
  top : c ≤ maxLen
  lies : Lies w A n (l.map rgH)
  fits : ∀ x ∈ l, SlPt w x.2.a x.1.length x.2.c x.1
theorem SlRg.below {w w' : World} {A : Option Addr} {n c : Nat} {l : RgL} (h : SlRg w A n c l) (hb : Below w.heap.size w w') : SlRg w' A n c l := ⟨h.len, h.cap, h.top, h.lies.below hb, fun x hx => (h.fits x hx).below hb⟩
theorem SlRg.at {w : World} {A : Option Addr} {n c : Nat} {l : RgL} (h : SlRg w A n c l) (i : Nat) (hi : i < l.length) :
    ∃ b off, A = some ⟨b, off, none⟩ ∧ b < w.heap.size ∧ w.cell? ⟨b, off + i, none⟩ = some (.slice l[i].2.a l[i].1.length l[i].2.c) ∧ SlPt w l[i].2.a l[i].1.length l[i].2.c l[i].1 := by
  obtain ⟨b, off, e, hb, hc⟩ := h.lies.resolve_left (by have := h.len; omega)
  refine ⟨b, off, e, hb, hc i _ ?_, h.fits _ (List.getElem_mem hi)⟩
  simp [rgH, hi]
def rgPts (l : RgL) : List (List Pt) := l.map (·.1)
theorem RgAt.sl {w : World} {B : Nat} {v : Value} {rs : List (Value × List Pt)} (h : RgAt w B v rs) : ∃ A c l, v = .slice A rs.length c ∧ SlRg w A rs.length c l ∧ rgPts l = rs.map (·.2) := by
  have key : ∀ rs : List (Value × List Pt), (∀ x ∈ rs, w.ownsRow B 189 2 x.1 x.2.length (pCells x.2)) → ∃ l : RgL, l.map rgH = rs.map (·.1) ∧ rgPts l = rs.map (·.2) ∧ ∀ x ∈ l, SlPt w x.2.a x.1.length x.2.c x.1 := fun rs => by
    induction rs with
    | nil => exact fun _ => ⟨[], rfl, rfl, by simp⟩
    | cons x t ih =>
      intro hp
      obtain ⟨l, h1, h2, h3⟩ := ih fun y hy => hp y (List.mem_cons_of_mem _ hy)
      obtain ⟨A, c, e, hs⟩ := SlPt.of_own (hp x (by simp))
      refine ⟨(x.2, ⟨A, c⟩) :: l, ?_, ?_, fun y hy => ?_⟩
      · rw [List.map_cons, List.map_cons, h1, e]; rfl
      · show x.2 :: rgPts l = _
        rw [h2]; rfl
      · rcases List.mem_cons.1 hy with rfl | hy
        · exact hs
        · exact h3 y hy
  obtain ⟨l, h1, h2, h3⟩ := key rs h.pts
  obtain ⟨A, c, e, h4, h5, h6⟩ := own_slice h.row
  have hl : l.length = rs.length := by have := congrArg List.length h2; simpa [rgPts] using this
  exact ⟨A, c, l, e, ⟨hl, h5, h6, by rw [h1]; exact h4, h3⟩, h2⟩
theorem emap_nil {w : World} {b : Nat} (h : w.heap[b]? = some (.map #[] 0)) : EMap w (b + 1) b [] (fun _ => []) :=
  ⟨h, Nat.lt_succ_self _, fun p => World.ownsRow_nil _ _ _ _, fun p q _ g e => by simp [getP, findP, nilS, Value.ownBlock] at e⟩
theorem take_filter (es : List R4) (j : Nat) (hj : j < es.length) (f : Pt → List R4) (hf : ∀ p, f p = (es.take j).filter fun e => decide (frOf e = p)) :
    ∀ p, upd f (frOf es[j]) (f (frOf es[j]) ++ [es[j]]) p = (es.take (j + 1)).filter fun e => decide (frOf e = p) := by
  intro p
  rw [List.take_succ_eq_append_getElem hj, List.filter_append, ← hf p]
  unfold upd
  by_cases h : p = frOf es[j]
  · subst h
    simp
  · rw [if_neg h, List.filter_cons_of_neg (by simp; exact fun e => h e.symm)]
    simp
theorem sumLen_set2 {p : Pt} {v u : Value} : ∀ {E : List (Pt × Value)} {i : Nat}, E[i]? = some (p, u) → sumLen (E.set i (p, v)) + vlen u = sumLen E + vlen v
  | [], i, h => by simp at h
  | x :: t, 0, h => by
    simp at h
    subst h
    simp [sumLen]
    omega
  | x :: t, i + 1, h => by
    have := sumLen_set2 (v := v) (E := t) (i := i) (by simpa using h)
    simp [sumLen] at *
    omega
theorem sumLen_ent (p : Pt) (E : List (Pt × Value)) : sumLen (entE p E) = sumLen E := by
  unfold entE
  split
  · rfl
  · simp [sumLen, vlen, nilS]
theorem own_vlen {w : World} {base : Nat} {e : TypeId} {size n : Nat} {v : Value} {xs : List Value} (h : w.ownsRow base e size v n xs) : vlen v = n := by
  obtain ⟨A, c, rfl, _, _, _⟩ := own_slice h
  rfl
theorem RgAt.lower {w : World} {B B' : Nat} {cv : Value} {rs : List (Value × List Pt)} (h : RgAt w B cv rs) (hb : B' ≤ B) : RgAt w B' cv rs :=
  ⟨own_lower h.row hb, fun x hx => own_lower (h.pts x hx) hb⟩
theorem Tryz.infoRing : (Tryz.prog.info? 123).map (fun i => (i.zero, i.size, i.bytes)) = some (some (.slice none 0 0), 1, 24) := by kernel_rfl
theorem rings_bad (A : Option Addr) (n c : Nat) (l : List R4) (w : World) (hA : SlR w A n c l) (hv : validP l = false) :
    Calls Tryz.prog 60 #[.agg #[.slice A n c]] w (RgPost w l) := by
  have HA := Lib.hid hA
  have HV := Lib.hid (fun W (hW : SlR W A n c l) => valid_any A n c l W hW)
  rw [hv] at HV
  have Hr : Hid (RgRes l [] 7) := Lib.hid ⟨fun _ => ⟨rfl, rfl⟩, fun h => by rw [hv] at h; cases h⟩
  clear hA hv
  go_enter Tryz.func60, Tryz.ntmps60
  go_wp2_with (first
    | (go_at_call 48
       refine (HV.out _ (HA.out.below gBel)).mono ?_
       rintro e w1 ⟨rfl, hb1⟩
       have Hb1 : Hid (Below w.heap.size w w1) := Lib.hid (by have hbq := hb1; exact gBelo)
       clear hb1)
    | fail)
  refine bodyPost_ret (v := .tuple #[.slice none 0 0, .int .i64 7]) (by simp [results, Tryz.results60, go_sem, *]) rfl ?_
  exact ⟨_, [], 7, rfl, RgAt.nil _ _, Hb1.out, Hr.out⟩
theorem rings_good (A : Option Addr) (n c : Nat) (l : List R4) (w : World) (hA : SlR w A n c l) (hv : validP l = true) (hE : (edgesP l).length ≤ 100000) :
    Calls Tryz.prog 60 #[.agg #[.slice A n c]] w (RgPost w l) := by
  obtain ⟨i0, hi, hz0, hz1, hz2⟩ := info_parts Tryz.infoEdge
  obtain ⟨i1, hinf, hy0, hy1, hy2⟩ := info_parts Tryz.infoRing
  have hnl := hA.len
  have HA := Lib.hid hA
  have HV := Lib.hid (fun W (hW : SlR W A n c l) => valid_any A n c l W hW)
  rw [hv] at HV
  obtain ⟨hl120, hok, _⟩ := valid_parts hv
  have HE := Lib.hid (fun W (hW : SlR W A n c l) => edgesO_any A n c l W hW hok (by omega))
  have Hel : Hid ((edgesP l).length ≤ 100000) := Lib.hid hE
  have Hbal : Hid (Bal (edgesP l)) := Lib.hid (edges_bal l (ok_pos hok))
  have Hset : Hid (ESet (inL l) (edgesP l)) := Lib.hid (edges_set l (ok_pos hok))
  have Hga := Lib.hid (fun f0 (hr : Rem f0 (edgesP l)) => gathered (ok_pos hok) hr)
  have Hres : Hid (∀ rs err, (∃ cs, Rings (inL l) (edgesP l) cs ∧ ((bigR cs ∧ rs = [] ∧ err = 1) ∨ (¬ bigR cs ∧ err = 0 ∧ rs.Perm (cs.map ringOf) ∧ rs.Pairwise fun a b => befR b a = false))) → RgRes l rs err) := Lib.hid (fun rs err h => ⟨(fun h0 => by rw [hv] at h0; cases h0), fun _ => h⟩)
  have Hclo : Hid (Clo (inL l) (edgesP l) (edgesP l)) := Lib.hid (fun e he g hg _ => by simp [he, hg])
  generalize edgesP l = es at *
  clear hA hv hok hE
  go_enter Tryz.func60, Tryz.ntmps60
  go_upto_region 3 with (first
    | (go_at_call 48
       refine (HV.out _ (HA.out.below gBel)).mono ?_
       rintro e w1 ⟨rfl, hb1⟩
       have Hb1 : Hid (Below w.heap.size w w1) := Lib.hid (by have hbq := hb1; exact gBelo)
       have hr1 : w1.heap[w.heap.size]? = some (.cells #[.slice A n c] 33 (0, 0)) := (hb1.block _ (by simp)).trans (heap_alloc_new w _)
       have c1 := cell_of_row w1 w.heap.size 0 _ _ _ hr1
       have hs1 := Hb1.out.size
       clear hb1 hr1)
    | fail)
  have HA1 := Lib.hid (HA.out.below Hb1.out)
  have hmm := @run_makeMap Tryz.prog
  go_upto_region 5 with (first
    | (go_at_call 131
       refine (HE.out _ HA1.out).mono ?_
       rintro e w2 ⟨v2, rfl, hown2, hb2⟩
       obtain ⟨E, ec, rfl, hEl, hEc, hEm⟩ := own_slice hown2
       have HEl := Lib.hid hEl
       have Hb2 : Hid (Below w.heap.size w w2) := Lib.hid (Hb1.out.trans (hb2.mono hs1))
       clear hown2 hb2 hEl c1)
    | fail)
  clear hmm
  have hs2 := Hb2.out.size
  obtain ⟨wm, hwm⟩ : ∃ wm : World, wm = w2.alloc (.map #[] 0) := ⟨_, rfl⟩
  rw [← hwm]
  have Hbm : Hid (Below w2.heap.size w2 wm) := Lib.hid (by rw [hwm]; exact (Below.refl _ _).alloc (Nat.le_refl _) _)
  obtain ⟨b, hb⟩ : ∃ b, w2.heap.size = b := ⟨_, rfl⟩
  have Hm0 : Hid (EMap wm (b + 1) b [] (fun _ => [])) := Lib.hid (emap_nil (by rw [hwm, ← hb]; exact heap_alloc_new w2 _))
  rw [hb] at Hbm ⊢
  have hbm : b < wm.heap.size := by rw [hwm, ← hb]; simp
  clear hwm
  have HEm := Lib.hid (HEl.out.below (by rw [hb]; exact Hbm.out))
  have hel := Hel.out
  go_wp2_with fail
  go_loopw [19] (fun i wr => ∃ (j : Nat) (E1 : List (Pt × Value)) (f : Pt → List R4), j ≤ es.length ∧ i = .int .i64 (j : Int) ∧ EMap wr (b + 1) b E1 f ∧ Hid (∀ p, f p = (es.take j).filter fun e => decide (frOf e = p)) ∧ Below b w2 wr ∧ Hid (sumLen E1 = j) ∧ wm.heap.size ≤ wr.heap.size) (fun i _ => es.length - (intOf i).toNat)
  case atStart => exact ⟨0, [], fun _ => [], Nat.zero_le _, rfl, Hm0.out, Lib.hid (fun p => rfl), Hbm.out, Lib.hid rfl, Nat.le_refl _⟩
  case round =>
    obtain ⟨j, E1, f, hj, rfl, hem, Hf, hbr, Hsum, hwz⟩ := hrel
    have Hem := Lib.hid hem
    have Hbr := Lib.hid hbr
    clear hem
    by_cases hjn : j < es.length
    · have hjn' : (j : Int) < (es.length : Int) := by omega
      obtain ⟨b2, off, hEe, hb2, c0, c1', c2, c3⟩ := lies_r (HEl.out.below (by rw [hb]; exact hbr)) j hjn hjn
      subst hEe
      have Htf := Lib.hid (take_filter es j hjn f Hf.out)
      obtain ⟨q, hq⟩ : ∃ q, es[j] = q := ⟨_, rfl⟩
      rw [hq] at c0 c1' c2 c3 Htf
      clear hbr hq
      go_upto_region 8 with fail
      obtain ⟨wx, hwx⟩ : ∃ wx : World, wx = wr.alloc (.cells #[.int .i64 q.l, .int .i64 q.b, .int .i64 q.r, .int .i64 q.t] 191) := ⟨_, rfl⟩
      rw [← hwx]
      have HX : Hid (wx.heap[wr.heap.size]? = some (.cells #[.int .i64 q.l, .int .i64 q.b, .int .i64 q.r, .int .i64 q.t] 191 (0, 0))) := Lib.hid (by rw [hwx]; exact heap_alloc_new wr _)
      have Hbx : Hid (Below wr.heap.size wr wx) := Lib.hid (by rw [hwx]; exact (Below.refl _ _).alloc (Nat.le_refl _) _)
      clear hwx c0 c1' c2 c3
      have x0 := cell_of_row _ _ 0 _ _ _ HX.out
      have x1 := cell_of_row _ _ 1 _ _ _ HX.out
      have x2 := cell_of_row _ _ 2 _ _ _ HX.out
      have x3 := cell_of_row _ _ 3 _ _ _ HX.out
      have hxz := Hbx.out.size
      have HemA := Lib.hid ((Hem.out.below Hbx.out).below ((Below.refl wx.heap.size wx).alloc (Nat.le_refl _) (.cells #[.int .i64 q.l, .int .i64 q.b, .int .i64 q.r, .int .i64 q.t] 191)))
      have hbl := (Hem.out.below Hbx.out).lt
      obtain ⟨wM, hrunM, hPM, hgM, hsM⟩ := pm_entry HemA.out.m mapEdge (frOf q)
      have HemM := Lib.hid (HemA.out.ent (frOf q) hPM hgM)
      have HAr : Hid (wM.heap[wx.heap.size]? = some (.cells #[.int .i64 q.l, .int .i64 q.b, .int .i64 q.r, .int .i64 q.t] 191 (0, 0))) := Lib.hid ((hgM.block _ (by simp) (fun e => by injection e with e; omega)).trans (heap_alloc_new wx _))
      have hsM' : wM.heap.size = wx.heap.size + 1 := by rw [hsM]; simp
      obtain ⟨v, hv⟩ : ∃ v, getP (frOf q) E1 = v := ⟨_, rfl⟩
      obtain ⟨ei, hei⟩ : ∃ ei, entI (frOf q) E1 = ei := ⟨_, rfl⟩
      have HvM : Hid (getP (frOf q) (entE (frOf q) E1) = v) := Lib.hid (by rw [getP_ent, hv])
      have HfM : Hid (findP (frOf q) (entE (frOf q) E1) 0 = some (ei, v)) := Lib.hid (by rw [findP_ent, hv, hei])
      have hrow := HemM.out.at' (frOf q)
      rw [HvM.out] at hrow
      have Hrow := Lib.hid hrow
      rw [hv, hei] at hrunM
      have HgM := Lib.hid hgM
      have hfl : (f (frOf q)).length ≤ 110649600 := by
        rw [Hf.out]
        have h1 := List.length_filter_le (fun e => decide (frOf e = frOf q)) (es.take j)
        rw [List.length_take] at h1
        omega
      unfold ptV at hrunM
      dsimp only at hrunM
      clear hPM hgM hsM hrow hv hei
      go_wp2_with (first
        | (at_builtin
           go_loud (refine wpList_append_any _ rfl (.tmp 26) (.tmp 28) _ rfl (b + 1) 191 i0 _ 4 32 Tryz.underlying186 hi hz0 hz1 hz2 rfl (by omega) v (f (frOf q)).length (rCells (f (frOf q))) rfl Hrow.out (wx.heap.size + 1) _ 1 1 [.int .i64 q.l, .int .i64 q.b, .int .i64 q.r, .int .i64 q.t] rfl ⟨rfl, fun _ => ⟨_, rfl, Nat.lt_succ_self _, fun j u hu => (by exact World.news_of_block HAr.out j u hu)⟩⟩ (by simp [Value.oneCell']) (by simp only [maxLen]; omega) (by omega) (by omega) ?_)
           intro v1 w1 hown1 hg1 hat1
           have hob := own_base Hrow.out
           have hP1 : PMap w1 b (entE (frOf q) E1) := by
             unfold PMap
             rw [hg1.block b HemM.out.lt (fun e => by have := hob b e.symm; omega)]
             exact HemM.out.m
           have hE : (entE (frOf q) E1)[ei]? = some (frOf q, v) := by
             obtain ⟨d, hd, hE⟩ := findP_some HfM.out
             obtain rfl : ei = d := by omega
             exact hE
           obtain ⟨w9, hrunS, hPS, hgS, hsS⟩ := pm_store (t := 199) hP1 (frOf q) v1 hE
           unfold goInt at hrunS
           have Hnew := Lib.hid (HemM.out.step (l' := f (frOf q) ++ [q]) (by rw [HvM.out]; exact HfM.out) (by rw [List.length_append, rCells_snoc]; exact hown1) (by rw [HvM.out]; exact hat1.imp id fun e => ⟨_, e, Nat.le_refl _⟩) (by rw [HvM.out]; exact hg1) hPS hgS)
           have hsz1 := hg1.size
           have hbw := hbl
           have Hb9 : Hid (Below b w2 w9) := Lib.hid (((((Hbr.out.trans (Hbx.out.mono (by omega))).alloc (by omega) _).grown HgM.out (by simp; omega) (fun z hz => by injection hz with hz; omega)).grown hg1 (by omega) (fun z hz => by have := hob z hz; omega)).grown hgS (by omega) (fun z hz => by injection hz with hz; omega))
           have Hsum9 : Hid (sumLen ((entE (frOf q) E1).set ei (frOf q, v1)) = j + 1) := Lib.hid (by
             have h1 := sumLen_set2 (v := v1) hE
             rw [sumLen_ent, own_vlen Hrow.out, own_vlen hown1, Hsum.out] at h1
             omega)
           have hs9 : wm.heap.size ≤ w9.heap.size := by omega
           clear hob hP1 hE hPS hgS hown1 hg1 hat1)
        | fail)
      go_roundw
      case rel => exact ⟨j + 1, _, _, by omega, by go_num, Hnew.out, Htf, Hb9.out, Hsum9, hs9⟩
      case measure => simp [intOf]; omega
    · obtain rfl : j = es.length := by omega
      have hjn' : ¬ (es.length : Int) < (es.length : Int) := by omega
      have Hrem : Hid (Rem f es) := Lib.hid (fun p => by rw [Hf.out p, List.take_of_length_le (Nat.le_refl _)])
      obtain ⟨w3, rfl⟩ : ∃ w3 : World, w3 = wr := ⟨_, rfl⟩
      obtain ⟨f0, hf0⟩ : ∃ f0, f0 = f := ⟨_, rfl⟩
      have hl3 := Hem.out.lt
      have HE3 := Lib.hid (HEl.out.below (by rw [hb]; exact Hbr.out))
      clear hbr Hf
      go_wp2_with fail
      go_loopw [8, 35] (fun cv iv wr => ∃ (k : Nat) (E2 : List (Pt × Value)) (f : Pt → List R4) (R : List R4) (rs : List (Value × List Pt)), k ≤ es.length ∧ iv = .int .i64 (k : Int) ∧ EMap wr (b + 1) b E2 f ∧ Hid (Rem f R) ∧ Hid (Bal R) ∧ Hid (R.Sublist es ∧ Clo (inL l) es R ∧ rs.length ≤ k) ∧ RgAt wr (b + 1) cv rs ∧ Below b w2 wr ∧ Hid (rs.map (·.2) ++ ringsF es.length (es.drop k) f = ringsF es.length es f0) ∧ Hid (sumLen E2 ≤ es.length) ∧ w3.heap.size ≤ wr.heap.size) (fun _ iv _ => es.length - (intOf iv).toNat)
      case atStart => exact ⟨0, E1, f, es, [], Nat.zero_le _, rfl, Hem.out, Hrem, Hbal, Lib.hid ⟨List.Sublist.refl _, Hclo.out, Nat.le_refl _⟩, RgAt.nil _ _, Hbr.out, Lib.hid (by rw [hf0]; rfl), Lib.hid (by rw [Hsum.out]; exact Nat.le_refl _), Nat.le_refl _⟩
      case round =>
        obtain ⟨k, E2, f2, R, rs, hk, rfl, hem2, Hrem2, Hbal2, Hsubs, hrg, hbr2, Hout, Hs2, hz2⟩ := hrel
        have Hsub : Hid (R.Sublist es) := Lib.hid Hsubs.out.1
        have Hcl2 : Hid (Clo (inL l) es R) := Lib.hid Hsubs.out.2.1
        have hrsk : rs.length ≤ k := Hsubs.out.2.2
        clear Hsubs
        obtain ⟨CV, cc, rfl, -, -, -⟩ := own_slice hrg.row
        have Hem2 := Lib.hid hem2
        have Hrg := Lib.hid hrg
        have Hbr2 := Lib.hid hbr2
        clear hem2 hrg
        by_cases hkn : k < es.length
        · have hkn' : (k : Int) < (es.length : Int) := by omega
          obtain ⟨_, _, hEe, hb3, c0, c1', c2, c3⟩ := lies_r (HEl.out.below (by rw [hb]; exact hbr2)) k hkn hkn
          subst hEe
          obtain ⟨q, hq⟩ : ∃ q, es[k] = q := ⟨_, rfl⟩
          have Hq := Lib.hid hq
          rw [hq] at c0 c1' c2 c3
          clear hbr2 hq
          go_upto_region 14 with fail
          obtain ⟨wx, hwx⟩ : ∃ wx : World, wx = wr.alloc (.cells #[.int .i64 q.l, .int .i64 q.b, .int .i64 q.r, .int .i64 q.t] 191) := ⟨_, rfl⟩
          rw [← hwx]
          have HX : Hid (wx.heap[wr.heap.size]? = some (.cells #[.int .i64 q.l, .int .i64 q.b, .int .i64 q.r, .int .i64 q.t] 191 (0, 0))) := Lib.hid (by rw [hwx]; exact heap_alloc_new wr _)
          have Hbx : Hid (Below wr.heap.size wr wx) := Lib.hid (by rw [hwx]; exact (Below.refl _ _).alloc (Nat.le_refl _) _)
          have hXz : wr.heap.size < wx.heap.size := by rw [hwx]; simp
          clear hwx c0 c1' c2 c3
          obtain ⟨X, hX⟩ : ∃ X, wr.heap.size = X := ⟨_, rfl⟩
          rw [hX] at HX hXz ⊢
          obtain ⟨w8, hw8⟩ : ∃ w8 : World, w8 = wx.drew := ⟨_, rfl⟩
          have Hb8 : Hid (Below wr.heap.size wr w8) := Lib.hid (by rw [hw8]; exact Hbx.out.drew)
          have HX8 : Hid (w8.heap[X]? = some (.cells #[.int .i64 q.l, .int .i64 q.b, .int .i64 q.r, .int .i64 q.t] 191 (0, 0))) := Lib.hid (by rw [hw8]; exact HX.out)
          have hX8 : X < w8.heap.size := by rw [hw8]; exact hXz
          have Hem8 := Lib.hid (Hem2.out.below Hb8.out)
          obtain ⟨v, hv⟩ : ∃ v, getP (frOf q) E2 = v := ⟨_, rfl⟩
          have Hv := Lib.hid hv
          have hlk := pm_lookup Hem8.out.m mapEdge (frOf q)
          rw [hv] at hlk
          unfold ptV at hlk
          dsimp only at hlk
          have hfl : (f2 (frOf q)).length ≤ 110649600 := by
            rw [Hrem2.out.out]
            have h1 : outN R (frOf q) ≤ R.length := List.countP_le_length
            have h2 := Hsub.out.length_le
            omega
          have HC := Lib.hid (contains_own (by have h := Hem8.out.at' (frOf q); rw [hv] at h; exact h) (by omega) q)
          have Hlk := Lib.hid hlk
          refine wp_region_held (S := (fun w' : World => (Instr.lookup 199 (.map (some b)) (.agg #[.int .i64 q.l, .int .i64 q.b]) false).run Tryz.prog w' = .ok v w' ∧ w'.cell? ⟨X, 0, none⟩ = some (.int .i64 q.l) ∧ w'.cell? ⟨X, 1, none⟩ = some (.int .i64 q.b) ∧ w'.cell? ⟨X, 2, none⟩ = some (.int .i64 q.r) ∧ w'.cell? ⟨X, 3, none⟩ = some (.int .i64 q.t))) (by kernel_rfl) ?_
          change wpAnyH _ _ _ _ _ 6 #[false, false, false, false, false, false] _ wx.drew
          rw [← hw8]
          have hHeld : (fun w' : World => (Instr.lookup 199 (.map (some b)) (.agg #[.int .i64 q.l, .int .i64 q.b]) false).run Tryz.prog w' = .ok v w' ∧ w'.cell? ⟨X, 0, none⟩ = some (.int .i64 q.l) ∧ w'.cell? ⟨X, 1, none⟩ = some (.int .i64 q.b) ∧ w'.cell? ⟨X, 2, none⟩ = some (.int .i64 q.r) ∧ w'.cell? ⟨X, 3, none⟩ = some (.int .i64 q.t)) w8 := ⟨hlk, cell_of_row _ _ 0 _ _ _ HX8.out, cell_of_row _ _ 1 _ _ _ HX8.out, cell_of_row _ _ 2 _ _ _ HX8.out, cell_of_row _ _ 3 _ _ _ HX8.out⟩
          clear hw8 hlk hv
          refine wpAnyH_take (i := 0) (v := ?vva0) rfl (by kernel_rfl) (by kernel_rfl) (by kernel_rfl) (fun _ _ _ h => h) (Or.inl ⟨by rfl, ?hya0⟩) hHeld ?resta0; (case hya0 => (intro w hSw; (try dsimp only at hSw); go_simp; all_goals (with_reducible rfl))); simp only [Act.put, List.getElem_toArray, List.getElem_cons_zero, List.getElem_cons_succ, List.setIfInBounds_toArray, List.set_cons_zero, List.set_cons_succ]
          refine wpAnyH_take (i := 1) (v := ?vva1) rfl (by kernel_rfl) (by kernel_rfl) (by kernel_rfl) (fun _ _ _ h => h) (Or.inl ⟨by rfl, ?hya1⟩) hHeld ?resta1; (case hya1 => (intro w hSw; (try dsimp only at hSw); go_simp; all_goals (with_reducible rfl))); simp only [Act.put, List.getElem_toArray, List.getElem_cons_zero, List.getElem_cons_succ, List.setIfInBounds_toArray, List.set_cons_zero, List.set_cons_succ]
          refine wpAnyH_take (i := 2) (v := ?vva2) rfl (by kernel_rfl) (by kernel_rfl) (by kernel_rfl) (fun _ _ _ h => h) (Or.inl ⟨by rfl, ?hya2⟩) hHeld ?resta2; (case hya2 => (intro w hSw; (try dsimp only at hSw); go_simp; all_goals (with_reducible rfl))); simp only [Act.put, List.getElem_toArray, List.getElem_cons_zero, List.getElem_cons_succ, List.setIfInBounds_toArray, List.set_cons_zero, List.set_cons_succ]
          refine wpAnyH_take (i := 3) (v := ?vva3) rfl (by kernel_rfl) (by kernel_rfl) (by kernel_rfl) (fun _ _ _ h => h) (Or.inl ⟨by rfl, ?hya3⟩) hHeld ?resta3; (case hya3 => (intro w hSw; (try dsimp only at hSw); go_simp; all_goals (with_reducible rfl))); simp only [Act.put, List.getElem_toArray, List.getElem_cons_zero, List.getElem_cons_succ, List.setIfInBounds_toArray, List.set_cons_zero, List.set_cons_succ]
          refine wpAnyH_take (i := 4) (v := ?vva4) rfl (by kernel_rfl) (by kernel_rfl) (by kernel_rfl) (fun _ _ _ h => h) (Or.inl ⟨by rfl, ?hya4⟩) hHeld ?resta4; (case hya4 => (intro w hSw; (try dsimp only at hSw); go_simp; all_goals (with_reducible rfl))); simp only [Act.put, List.getElem_toArray, List.getElem_cons_zero, List.getElem_cons_succ, List.setIfInBounds_toArray, List.set_cons_zero, List.set_cons_succ]
          refine wpAnyH_ready (rs := [5]) (by kernel_rfl) (by simp) ?_; refine AllReadyH.cons rfl (fun K hK => ?_) AllReadyH.nil
          go_simp
          go_at_call 144
          refine HC.out.mono ?_
          rintro e w9 ⟨rfl, hb9⟩
          have hX9 := (hb9.block X hX8).trans HX8.out
          have hem9 := Hem8.out.below hb9
          have hlk9 := pm_lookup hem9.m mapEdge (frOf q)
          rw [Hv.out] at hlk9
          unfold ptV at hlk9
          dsimp only at hlk9
          refine hK.out _ _ ⟨hlk9, cell_of_row _ _ 0 _ _ _ hX9, cell_of_row _ _ 1 _ _ _ hX9, cell_of_row _ _ 2 _ _ _ hX9, cell_of_row _ _ 3 _ _ _ hX9⟩ (fun hHeld => ?_)
          have Hem9 := Lib.hid hem9
          have HX9 := Lib.hid hX9
          have hs8 := Hb8.out.size
          have Hb9 : Hid (Below wr.heap.size wr w9) := Lib.hid (Hb8.out.trans (hb9.mono hs8))
          have Hrg9 := Lib.hid (Hrg.out.below Hb9.out)
          have hs9 := hb9.size
          have hlr := Hem2.out.lt
          have Hbr9 : Hid (Below b w2 w9) := Lib.hid (Hbr2.out.trans (Hb9.out.mono (by omega)))
          have Hdr : Hid (es.drop k = q :: es.drop (k + 1)) := Lib.hid (by rw [← Hq.out]; exact List.drop_eq_getElem_cons hkn)
          clear hK K hem9 hX9 hlk9 hb9
          try simp only [Act.put, List.getElem_toArray, List.getElem_cons_zero, List.getElem_cons_succ, List.setIfInBounds_toArray, List.set_cons_zero, List.set_cons_succ]
          refine wpAnyH_done (by kernel_rfl) ?_ _
          clear hHeld
          by_cases hqR : q ∈ f2 (frOf q)
          · have Hin := Lib.hid hqR
            have hd : decide (q ∈ f2 (frOf q)) = true := decide_eq_true hqR
            rw [hd]
            clear hqR hd
            have hqR : q ∈ R := (Hrem2.out.mem Hin.out).1
            obtain ⟨cs, f3, R3, hfol, hcne, hcs, hrem3, hbal3, hsub3, hclo3⟩ := follow_full Hset.out Hrem2.out Hbal2.out Hsub.out Hcl2.out hqR
            have hcs0 : 0 < cs.length := List.length_pos_iff.2 hcne
            have Hrem3 := Lib.hid hrem3
            have Hbal3 := Lib.hid hbal3
            have Hsub3 := Lib.hid hsub3
            have Hclo3 := Lib.hid hclo3
            clear hrem3 hbal3 hsub3 hclo3 hcne hqR
            have x0 := cell_of_row _ _ 0 _ _ _ HX9.out
            have x1 := cell_of_row _ _ 1 _ _ _ HX9.out
            have x2 := cell_of_row _ _ 2 _ _ _ HX9.out
            have x3 := cell_of_row _ _ 3 _ _ _ HX9.out
            have HF := Lib.hid (follow_any b (b + 1) E2 f2 q w9 Hem9.out es.length (cs, f3) hfol (by have := Hs2.out; omega) (fun p g hg => own_lt (Hem9.out.at' p) g hg))
            have Hfol := Lib.hid hfol
            clear hfol
            go_wp2_with (first
              | (go_at_call 146
                 refine HF.out.mono ?_
                 rintro e wf ⟨vf, E3, rfl, hownf, hemf, hbf, hcf, hsf, hrf⟩
                 obtain ⟨gv, capv, rfl, hgvb, hgvl, hgvc, hgvm, hgv1, hgv2⟩ := own_at hownf hcs0
                 have Hownf := Lib.hid hownf
                 have Hemf := Lib.hid hemf
                 have hs9f := hbf.size
                 have hbw9 := Hem9.out.lt
                 have Hbf : Hid (Below b w2 wf) := Lib.hid (Hbr9.out.trans hbf)
                 have Hrgf : Hid (RgAt wf (b + 1) _ rs) := Lib.hid (Hrg9.out.but hcf)
                 have HSp : Hid (SlPt wf (some ⟨gv, 0, none⟩) cs.length capv cs) := Lib.hid ⟨rfl, hgvc, hgvm, .inr ⟨gv, 0, rfl, hgvl, fun j u hu => by rw [Nat.zero_add]; exact hgv1 j u hu⟩⟩
                 have hsf' : sumLen E3 ≤ es.length := Nat.le_trans hsf Hs2.out
                 clear hownf hemf hbf hcf hgv1 hgv2 hsf hrf hgvc hgvm x0 x1 x2 x3)
              | (go_at_call 145
                 refine (begun_any gv 0 cs.length capv cs _ HSp.out (by omega) hcs0 hgvl).mono ?_
                 rintro e wb ⟨vb, rfl, hownb, hbb⟩
                 obtain ⟨BA, bc, rfl, -, -, -⟩ := own_slice hownb
                 have Hownb := Lib.hid hownb
                 have hsfb := hbb.size
                 have hbwf := Hemf.out.lt
                 have Hemb := Lib.hid (Hemf.out.below hbb)
                 have Hrgb := Lib.hid (Hrgf.out.below hbb)
                 have Hbb : Hid (Below b w2 wb) := Lib.hid (Hbf.out.trans (hbb.mono (by omega)))
                 clear hownb hbb)
              | (at_builtin
                 go_loud (refine wpList_append_any _ rfl (.tmp 45) (.tmp 50) _ rfl (b + 1) 123 i1 _ 1 24 Tryz.underlying110 hinf hy0 hy1 hy2 rfl (by omega) _ rs.length (rs.map (·.1)) rfl (Hrgb.out.row.alloc _) (wb.heap.size + 1) _ 1 1 [.slice BA (begunP cs).length bc] rfl ⟨rfl, fun _ => ⟨_, rfl, Nat.lt_succ_self _, fun j u hu => (by exact World.news_of_block (heap_alloc_new wb (.cells #[.slice BA (begunP cs).length bc] 123)) j u hu)⟩⟩ (by simp [Value.oneCell']) (by simp only [maxLen]; omega) (by omega) (by rw [World.size_alloc]; omega) ?_)
                 intro v1 w1 hown1 hg1 hat1
                 have hbwb := Hemb.out.lt
                 have hrowb := Hrgb.out.row.alloc (.cells #[.slice BA (begunP cs).length bc] 123)
                 have hob := own_base hrowb
                 have hrga := Hrgb.out.below ((Below.refl wb.heap.size wb).alloc (Nat.le_refl _) (.cells #[.slice BA (begunP cs).length bc] 123))
                 have hvb : (wb.alloc (.cells #[.slice BA (begunP cs).length bc] 123)).ownsRow (b + 1) 189 2 (.slice BA (begunP cs).length bc) (begunP cs).length (pCells (begunP cs)) := (own_lower Hownb.out (by omega)).alloc _
                 have Hrg1 := Lib.hid (hrga.app hg1 (.slice BA (begunP cs).length bc) (begunP cs) hvb hown1)
                 have Hem1 : Hid (EMap w1 (b + 1) b E3 f3) := Lib.hid ((Hemb.out.below ((Below.refl wb.heap.size wb).alloc (Nat.le_refl _) (.cells #[.slice BA (begunP cs).length bc] 123))).grown hg1 (fun g hg => by
                   obtain ⟨xs, i, hx⟩ := own_type hrowb g hg
                   exact ⟨xs, _, i, hx, by decide⟩))
                 have Hb1 : Hid (Below b w2 w1) := Lib.hid ((Hbb.out.alloc (by omega) _).grown hg1 (by simp; omega) (fun g hg => by have := hob g hg; omega))
                 have hs1w := hg1.size
                 rw [World.size_alloc] at hs1w
                 clear hown1 hg1 hat1 hrowb hob hrga hvb)
              | fail)
            go_roundw
            case rel => exact ⟨k + 1, E3, f3, R3, rs ++ [(.slice BA (begunP cs).length bc, begunP cs)], by omega, by go_num, Hem1.out, Hrem3, Hbal3, Lib.hid ⟨Hsub3.out, Hclo3.out, by simp; omega⟩, Hrg1.out, Hb1.out, Lib.hid (by rw [← Hout.out, Hdr.out, ringsF, if_pos Hin.out, Hfol.out]; simp), Lib.hid hsf', by omega⟩
            case measure => simp [intOf]; omega
          · have Hin := Lib.hid hqR
            have hd : decide (q ∈ f2 (frOf q)) = false := decide_eq_false hqR
            rw [hd]
            clear hqR hd
            go_wp2_with fail
            go_roundw
            case rel => exact ⟨k + 1, E2, f2, R, rs, by omega, by go_num, Hem9.out, Hrem2, Hbal2, Lib.hid ⟨Hsub.out, Hcl2.out, by omega⟩, Hrg9.out, Hbr9.out, Lib.hid (by rw [← Hout.out, Hdr.out, ringsF, if_neg Hin.out]), Hs2, by omega⟩
            case measure => simp [intOf]; omega
        · obtain rfl : k = es.length := by omega
          have hkn' : ¬ (es.length : Int) < (es.length : Int) := by omega
          have Hfin : Hid (rs.map (·.2) = ringsF es.length es f0) := Lib.hid (by have h := Hout.out; rw [List.drop_length] at h; simpa [ringsF] using h)
          obtain ⟨cs, hq, hrings, hne⟩ := Hga.out f0 (by rw [hf0]; exact Hrem.out)
          rw [hq] at Hfin
          have Hrings := Lib.hid hrings
          have Hlen : Hid (rs.length = cs.length) := Lib.hid (by have := congrArg List.length Hfin.out; simpa using this)
          have Hne : Hid (∀ x ∈ rs, x.2 ≠ []) := Lib.hid fun x hx => hne x.2 (by rw [← Hfin.out]; exact List.mem_map.2 ⟨x, hx, rfl⟩)
          have Hlong : Hid ((rs.any fun x => decide (400 < x.2.length)) = true ↔ ∃ r ∈ cs.map ringOf, 400 < r.length) := Lib.hid (by
            rw [← Hfin.out, List.any_eq_true]
            constructor
            · rintro ⟨x, hx, h⟩
              exact ⟨x.2, List.mem_map.2 ⟨x, hx, rfl⟩, by simpa using h⟩
            · rintro ⟨r, hr, h⟩
              obtain ⟨x, hx, rfl⟩ := List.mem_map.1 hr
              exact ⟨x, hx, by simpa using h⟩)
          have Hbw : Hid (Below w.heap.size w wr) := Lib.hid (Hb2.out.trans (Hbr2.out.mono (by omega)))
          have hwr := Hbw.out.size
          clear hq hrings hne hbr2 Hout Hs2 Hem2 Hrem2 Hbal2 hf0 Hga
          by_cases h60 : 60 < rs.length
          · have h60' : (60 : Int) < (rs.length : Int) := by omega
            have Hr : Hid (RgRes l [] 1) := Lib.hid (Hres.out [] 1 ⟨cs, Hrings.out, .inl ⟨.inl (by rw [← Hlen.out]; exact h60), rfl, rfl⟩⟩)
            go_wp2_with fail
            refine bodyPost_ret (v := .tuple #[.slice none 0 0, .int .i64 1]) (by simp [results, Tryz.results60, go_sem, *]) rfl ?_
            exact ⟨_, [], 1, rfl, RgAt.nil _ _, Hbw.out, Hr.out⟩
          · have h60' : ¬ (60 : Int) < (rs.length : Int) := by omega
            have HLo := Lib.hid (longRg_own wr Hrg.out (by omega))
            cases hany : rs.any fun x => decide (400 < x.2.length) with
            | true =>
              rw [hany] at HLo
              have Hr : Hid (RgRes l [] 1) := Lib.hid (Hres.out [] 1 ⟨cs, Hrings.out, .inl ⟨.inr (Hlong.out.1 hany), rfl, rfl⟩⟩)
              clear hany
              go_wp2_with (first
                | (go_at_call 147
                   refine HLo.out.mono ?_
                   rintro e w4 ⟨rfl, hb4⟩
                   have Hb4 : Hid (Below w.heap.size w w4) := Lib.hid (Hbw.out.trans (hb4.mono hwr))
                   clear hb4)
                | fail)
              refine bodyPost_ret (v := .tuple #[.slice none 0 0, .int .i64 1]) (by simp [results, Tryz.results60, go_sem, *]) rfl ?_
              exact ⟨_, [], 1, rfl, RgAt.nil _ _, Hb4.out, Hr.out⟩
            | false =>
              rw [hany] at HLo
              have Hnb : Hid (¬ bigR cs) := Lib.hid fun hb => by
                rcases hb with hb | hb
                · rw [← Hlen.out] at hb; exact h60 hb
                · rw [Hlong.out.2 hb] at hany; cases hany
              clear hany
              go_wp2_with (first
                | (go_at_call 147
                   refine HLo.out.mono ?_
                   rintro e w4 ⟨rfl, hb4⟩
                   have Hb4 : Hid (Below w.heap.size w w4) := Lib.hid (Hbw.out.trans (hb4.mono hwr))
                   have Hrg4 := Lib.hid (Hrg.out.below hb4)
                   have hw4 := Hb4.out.size
                   have HSo := Lib.hid (sortRg_own w4 Hrg4.out Hne.out (by omega))
                   clear hb4)
                | (go_at_call 149
                   refine HSo.out.mono ?_
                   rintro e w5 ⟨rfl, ss, hperm, hsort, hrg5, hg5⟩
                   have Hrg5 := Lib.hid hrg5
                   have hss := hperm.length_eq
                   have hob := own_base Hrg4.out.row
                   have Hb5 : Hid (Below w.heap.size w w5) := Lib.hid (Hb4.out.grown hg5 (by omega) (fun g hg => by have := hob g hg; omega))
                   have Hr : Hid (RgRes l (ss.map (·.2)) 0) := Lib.hid (Hres.out _ 0 ⟨cs, Hrings.out, .inr ⟨Hnb.out, rfl, by rw [← Hfin.out]; exact hperm.map _, List.pairwise_map.2 hsort⟩⟩)
                   clear hperm hsort hrg5 hg5 hob)
                | fail)
              refine bodyPost_ret (v := .tuple #[.slice CV rs.length cc, .int .i64 0]) (by simp [results, Tryz.results60, go_sem, *]) rfl ?_
              exact ⟨_, ss, 0, rfl, Hrg5.out.lower (by omega), Hb5.out, Hr.out⟩
theorem rings_any (A : Option Addr) (n c : Nat) (l : List R4) (w : World) (hA : SlR w A n c l) (hE : (edgesP l).length ≤ 100000) :
    Calls Tryz.prog 60 #[.agg #[.slice A n c]] w (RgPost w l) := by
  cases hv : validP l with
  | true => exact rings_good A n c l w hA hv hE
  | false => exact rings_bad A n c l w hA hv
end Go.Proofs.YtfmkmhhghmdakaaGreatDoor
namespace Go.Proofs.YtfmkmhhghmdakaaGreatDoor
set_option maxHeartbeats 64000000
set_option maxRecDepth 100000
open Go.RowKit Go.Shelf
set_option linter.unusedVariables false
set_option linter.unusedSimpArgs false
variable {P : Sq} {es es' : List R4}
theorem befR_of {a b : List Pt} (h : befR b a = false) (hne : hdP a ≠ hdP b) : befR a b = true := by
  rw [befR_iff]
  rw [befR_not] at h
  have : ¬ ((hdP a).1 = (hdP b).1 ∧ (hdP a).2 = (hdP b).2) := fun e => hne (Prod.ext e.1 e.2)
  omega
theorem hd_ring {c : R4 × List R4} {y : PD} {m : List PD} (e : begD (crn c) = y :: m) : hdP (ringOf c) = y.1 := by
  rw [ringOf_eq, e]
  rfl
theorem rings_diff (h : ESet P es) {cs : List (R4 × List R4)} (hr : Rings P es cs) : (cs.map ringOf).Pairwise fun a b => hdP a ≠ hdP b := by
  rw [List.pairwise_map]
  refine (rings_heads h hr).imp_of_mem fun {c k} hc hk hd => ?_
  obtain ⟨y, m, e1, _⟩ := crn_ring h (hr.ring c hc)
  obtain ⟨y', m', e2, _⟩ := crn_ring h (hr.ring k hk)
  rw [hd_ring e1, hd_ring e2]
  exact hd y m y' m' e1 e2
theorem rings_strict (h : ESet P es) {cs : List (R4 × List R4)} (hr : Rings P es cs) {rs : List (List Pt)} (hp : rs.Perm (cs.map ringOf)) (hs : rs.Pairwise fun a b => befR b a = false) : rs.Pairwise fun a b => befR a b = true := by
  have hd := (hp.pairwise_iff (R := fun a b => hdP a ≠ hdP b) (fun h e => h e.symm)).2 (rings_diff h hr)
  exact (hs.and hd).imp fun ⟨a, b⟩ => befR_of a b
theorem rings_nodup (h : ESet P es) {cs : List (R4 × List R4)} (hr : Rings P es cs) : (cs.map ringOf).Nodup := (rings_diff h hr).imp fun {a b} hab e => hab (by rw [e])
theorem rings_perm2 (h : ESet P es) (h' : ESet P es') {cs cs' : List (R4 × List R4)} (hr : Rings P es cs) (hr' : Rings P es' cs') : (cs.map ringOf).Perm (cs'.map ringOf) := by
  rw [List.perm_ext_iff_of_nodup (rings_nodup h hr) (rings_nodup h' hr')]
  intro r
  constructor
  · intro hm
    obtain ⟨c, hc, rfl⟩ := List.mem_map.1 hm
    obtain ⟨k, hk, e⟩ := same_rings h h' hr hr' c hc
    exact List.mem_map.2 ⟨k, hk, by rw [ringOf_eq, ringOf_eq, e]⟩
  · intro hm
    obtain ⟨c, hc, rfl⟩ := List.mem_map.1 hm
    obtain ⟨k, hk, e⟩ := same_rings h' h hr' hr c hc
    exact List.mem_map.2 ⟨k, hk, by rw [ringOf_eq, ringOf_eq, e]⟩
theorem sorted_uniq {rs rs' : List (List Pt)} (hp : rs.Perm rs') (h1 : rs.Pairwise fun a b => befR a b = true) (h2 : rs'.Pairwise fun a b => befR a b = true) : rs = rs' :=
  List.Perm.eq_of_pairwise (le := fun a b => befR a b = true) (fun a b _ _ x y => by
    rw [befR_iff] at x y
    omega) h1 h2 hp
theorem bigR_perm {cs cs' : List (R4 × List R4)} (hp : (cs.map ringOf).Perm (cs'.map ringOf)) : bigR cs ↔ bigR cs' := by
  unfold bigR
  have h1 := hp.length_eq
  rw [List.length_map, List.length_map] at h1
  rw [h1]
  constructor
  · rintro (h | ⟨r, hr, h⟩)
    · exact .inl h
    · exact .inr ⟨r, hp.mem_iff.1 hr, h⟩
  · rintro (h | ⟨r, hr, h⟩)
    · exact .inl h
    · exact .inr ⟨r, hp.mem_iff.2 hr, h⟩
end Go.Proofs.YtfmkmhhghmdakaaGreatDoor
namespace Go.Proofs.YtfmkmhhghmdakaaGreatDoor
open Go.RowKit Go.Shelf
set_option linter.unusedVariables false
set_option linter.unusedSimpArgs false
set_option maxHeartbeats 64000000
set_option maxRecDepth 100000
end Go.Proofs.YtfmkmhhghmdakaaGreatDoor
