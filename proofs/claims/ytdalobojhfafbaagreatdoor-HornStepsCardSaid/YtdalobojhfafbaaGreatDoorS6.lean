/- slices.SortFunc of names, out of the shelf's contract. -/
import Derived.Test.YtdalobojhfafbaaGreatDoorN4
import Derived.Test.YtdalobojhfafbaaGreatDoorW2
import Derived.Shelf.SlSortCmp.NoneTotal
set_option maxRecDepth 100000
set_option linter.unusedVariables false
namespace Go.Proofs.YtdalobojhfafbaaGreatDoor
open Go Go.V Go.Sort Go.Shelf Go.Proofs
def renS : Go.Shelf.Ren := ⟨fun | 6 => 151 | 14 => 185 | 15 => 186 | 20 => 197 | 21 => 198 | 22 => 199 | 23 => 200 | 24 => 201 | 25 => 202 | 26 => 203 | 27 => 204 | 28 => 205 | 29 => 206 | 46 => 217 | 47 => 218 | 48 => 219 | 49 => 220 | 50 => 221 | 57 => 223 | x => x, fun | 0 => 0 | 3 => 3 | 4 => 4 | 5 => 5 | 9 => 9 | 22 => 23 | 24 => 68 | 25 => 202 | 39 => 239 | 45 => 252 | 46 => 253 | 50 => 257 | 53 => 260 | 55 => 243 | 66 => 274 | 70 => 278 | 76 => 282 | 77 => 83 | x => x, fun x => x⟩
theorem laysS : SlLaysF0.n6 pr renS where
  mixed := by kernel_rfl
  f6 := ⟨"slices.SortFunc[[]ashlar/api.Assign,ashlar/api.Assign]", by decide, by kernel_rfl⟩
  f14 := ⟨"slices.pdqsortCmpFunc[ashlar/api.Assign]", by decide, by kernel_rfl⟩
  f15 := by kernel_rfl
  f20 := ⟨"slices.insertionSortCmpFunc[ashlar/api.Assign]", by decide, by kernel_rfl⟩
  f21 := ⟨"slices.heapSortCmpFunc[ashlar/api.Assign]", by decide, by kernel_rfl⟩
  f22 := ⟨"slices.breakPatternsCmpFunc[ashlar/api.Assign]", by decide, by kernel_rfl⟩
  f23 := ⟨"slices.choosePivotCmpFunc[ashlar/api.Assign]", by decide, by kernel_rfl⟩
  f24 := ⟨"slices.reverseRangeCmpFunc[ashlar/api.Assign]", by decide, by kernel_rfl⟩
  f25 := ⟨"slices.partialInsertionSortCmpFunc[ashlar/api.Assign]", by decide, by kernel_rfl⟩
  f26 := ⟨"slices.partitionEqualCmpFunc[ashlar/api.Assign]", by decide, by kernel_rfl⟩
  f27 := ⟨"slices.partitionCmpFunc[ashlar/api.Assign]", by decide, by kernel_rfl⟩
  f28 := by kernel_rfl
  f29 := by kernel_rfl
  f46 := ⟨"slices.siftDownCmpFunc[ashlar/api.Assign]", by decide, by kernel_rfl⟩
  f47 := by kernel_rfl
  f48 := by kernel_rfl
  f49 := ⟨"slices.medianAdjacentCmpFunc[ashlar/api.Assign]", by decide, by kernel_rfl⟩
  f50 := ⟨"slices.medianCmpFunc[ashlar/api.Assign]", by decide, by kernel_rfl⟩
  f57 := ⟨"slices.order2CmpFunc[ashlar/api.Assign]", by decide, by kernel_rfl⟩
  t0 := by kernel_rfl
  a0 := fun w => by kernel_rfl
  z0 := fun w => by kernel_rfl
  v0 := fun w => by kernel_rfl
  t3 := by kernel_rfl
  a3 := fun w => by kernel_rfl
  z3 := fun w => by kernel_rfl
  v3 := fun w => by kernel_rfl
  t4 := by kernel_rfl
  a4 := fun w => by kernel_rfl
  z4 := fun w => by kernel_rfl
  v4 := fun w => by kernel_rfl
  t5 := by kernel_rfl
  a5 := fun w => by kernel_rfl
  z5 := fun w => by kernel_rfl
  v5 := fun w => by kernel_rfl
  t9 := by kernel_rfl
  a9 := fun w => by kernel_rfl
  z9 := fun w => by kernel_rfl
  v9 := fun w => by kernel_rfl
  t22 := by kernel_rfl
  a22 := fun w => by kernel_rfl
  z22 := fun w => by kernel_rfl
  v22 := fun w => by kernel_rfl
  t25 := by kernel_rfl
  a25 := fun w => by kernel_rfl
  z25 := fun w => by kernel_rfl
  v25 := fun w => by kernel_rfl
  t39 := by kernel_rfl
  a39 := fun w => by kernel_rfl
  z39 := fun w => by kernel_rfl
  v39 := fun w => by kernel_rfl
  t45 := by kernel_rfl
  a45 := fun w => by kernel_rfl
  z45 := fun w => by kernel_rfl
  v45 := fun w => by kernel_rfl
  t46 := by kernel_rfl
  a46 := fun w => by kernel_rfl
  z46 := fun w => by kernel_rfl
  v46 := fun w => by kernel_rfl
  t50 := by kernel_rfl
  a50 := fun w => by kernel_rfl
  z50 := fun w => by kernel_rfl
  v50 := fun w => by kernel_rfl
  t53 := by kernel_rfl
  a53 := fun w => by kernel_rfl
  z53 := fun w => by kernel_rfl
  v53 := fun w => by kernel_rfl
  t55 := by kernel_rfl
  a55 := fun w => by kernel_rfl
  z55 := fun w => by kernel_rfl
  v55 := fun w => by kernel_rfl
  t66 := by kernel_rfl
  a66 := fun w => by kernel_rfl
  z66 := fun w => by kernel_rfl
  v66 := fun w => by kernel_rfl
  t70 := by kernel_rfl
  a70 := fun w => by kernel_rfl
  z70 := fun w => by kernel_rfl
  v70 := fun w => by kernel_rfl
  t76 := by kernel_rfl
  a76 := fun w => by kernel_rfl
  z76 := fun w => by kernel_rfl
  v76 := fun w => by kernel_rfl
  t77 := by kernel_rfl
  a77 := fun w => by kernel_rfl
  z77 := fun w => by kernel_rfl
  v77 := fun w => by kernel_rfl


theorem flat_get {α β : Type} {f : α → List β} {k : Nat} (hk : ∀ x, (f x).length = k) : ∀ (l : List α) (t : Nat) (h : t < l.length * k), ∃ x, l[t / k]? = some x ∧ (l.map f).flatten[t]? = (f x)[t % k]?
  | [], t, h => by simp at h
  | x :: r, t, h => by
    have hk0 : 0 < k := by
      rcases Nat.eq_zero_or_pos k with h0 | h0
      · subst h0; simp at h
      · exact h0
    rw [List.map_cons, List.flatten_cons]
    by_cases ht : t < k
    · refine ⟨x, by rw [Nat.div_eq_of_lt ht]; rfl, ?_⟩
      rw [List.getElem?_append_left (by rw [hk]; exact ht), Nat.mod_eq_of_lt ht]
    · have h' : t - k < r.length * k := by rw [List.length_cons, Nat.succ_mul] at h; omega
      obtain ⟨y, h1, h2⟩ := flat_get hk r (t - k) h'
      have e1 : t / k = (t - k) / k + 1 := by
        have := Nat.sub_add_cancel (show k ≤ t by omega)
        conv => lhs; rw [← this]
        rw [Nat.add_div_right _ hk0]
      have e2 : t % k = (t - k) % k := by
        conv => lhs; rw [← Nat.sub_add_cancel (show k ≤ t by omega)]
        rw [Nat.add_mod_right]
      refine ⟨y, by rw [e1]; exact h1, ?_⟩
      rw [List.getElem?_append_right (by rw [hk]; omega), hk, h2, e2]
abbrev NmP (x : Nm) : Prop := x.1.length ≤ 9223372036854775807 ∧ -9223372036854775808 ≤ x.2 ∧ x.2 ≤ 9223372036854775807
abbrev NmS := {x : Nm // NmP x}
instance : Inhabited NmS := ⟨⟨default, by first | decide | simp [default]⟩⟩
def encV (x : Nm) : List Value := [.string (str x.1), .int .i64 x.2, .string (str x.1), .int .i64 0, .slice none 0 0]
def encN (x : NmS) : List Value := encV x.1
theorem names_vals {F : Nat → Prop} {w : World} : ∀ {l : List Nm} {us : List Value}, Reps F w (l.map Nm.cs).flatten us → us = (l.map encV).flatten ∧ ∀ x ∈ l, NmP x
  | [], us, h => by rw [List.map_nil, List.flatten_nil, Reps] at h; exact ⟨h, fun x hx => by cases hx⟩
  | x :: l, us, h => by
    rw [List.map_cons, List.flatten_cons] at h
    unfold Nm.cs at h
    simp only [List.cons_append, List.nil_append] at h
    rw [Reps] at h; obtain ⟨v1, r1, rfl, g1, h⟩ := h
    rw [Reps] at h; obtain ⟨v2, r2, rfl, g2, h⟩ := h
    rw [Reps] at h; obtain ⟨v3, r3, rfl, g3, h⟩ := h
    rw [Reps] at h; obtain ⟨v4, r4, rfl, g4, h⟩ := h
    rw [Reps] at h; obtain ⟨v5, r5, rfl, g5, h⟩ := h
    obtain ⟨e, hb⟩ := names_vals (l := l) h
    obtain ⟨q1, o1⟩ := rep_val_iff.1 g1
    obtain ⟨q2, o2⟩ := rep_val_iff.1 g2
    have q3 := (rep_val_iff.1 g3).1
    have q4 := (rep_val_iff.1 g4).1
    have q5 := (rep_val_iff.1 g5).1
    subst q1; subst q2; subst q3; subst q4; subst q5; subst e
    refine ⟨rfl, fun y hy => ?_⟩
    rcases List.mem_cons.1 hy with rfl | hy
    · have : (str y.1).size ≤ 9223372036854775807 := o1
      rw [str_size] at this
      simp only [Okv, loN, hiN] at o2
      exact ⟨this, by omega, by omega⟩
    · exact hb y hy
theorem one_rep {F : Nat → Prop} {w : World} {x : Nm} (h' : NmP x) : Reps F w (Nm.cs x) (encV x) :=
  have h := h'.1
  reps_cons (rep_val (show (str x.1).size ≤ _ by rw [str_size]; exact h)) (reps_cons (rep_val (by simp only [Okv, loN, hiN]; have := h'.2; omega)) (reps_cons (rep_val (show (str x.1).size ≤ _ by rw [str_size]; exact h)) (reps_cons (rep_val (by simp only [Okv, loN, hiN]; omega)) (reps_cons (rep_val ⟨Nat.le_refl _, Nat.zero_le _⟩) reps_nil))))
theorem names_reps {F : Nat → Prop} {w : World} : ∀ {l : List Nm}, (∀ x ∈ l, NmP x) → Reps F w (l.map Nm.cs).flatten (l.map encV).flatten
  | [], _ => reps_nil
  | x :: l, h => by
    rw [List.map_cons, List.map_cons, List.flatten_cons, List.flatten_cons]
    exact (one_rep (h x (by simp))).append (names_reps fun y hy => h y (by simp [hy]))
theorem swoN : SWO (ltOf fun x y : NmS => cmpN x.1 y.1) where
  irrefl x := by unfold ltOf; rw [cmpN_lt]; exact ltN_irrefl _
  trans x y z h1 h2 := by unfold ltOf at *; rw [cmpN_lt] at *; exact ltN_trans h1 h2
  ntrans x y z h1 h2 := by unfold ltOf at *; rw [cmpN_lt] at *; exact ltN_ntrans h1 h2
theorem grow_of {F : Nat → Prop} {w w' : World} {F' : Nat → Prop} {L' : List Bx} (e : Ev F [] w F' L' w') : ∃ q os', w' = grow (w.drewN q) os' := by
  refine ⟨w'.drawn - w.drawn, w'.heap.extract w.heap.size w'.heap.size, ?_⟩
  have hh : w'.heap = w.heap ++ w'.heap.extract w.heap.size w'.heap.size := by
    have hs := e.size
    apply Array.ext
    · simp; omega
    · intro i h1 h2
      by_cases hi : i < w.heap.size
      · rw [Array.getElem_append_left hi]
        have := e.block i hi fun x hx => by cases hx
        rw [Array.getElem?_eq_getElem h1, Array.getElem?_eq_getElem hi] at this
        exact Option.some.inj this
      · rw [Array.getElem_append_right (by omega)]
        simp only [Array.getElem_extract]
        congr 1; omega
  have ho := e.os
  have ht := e.tape
  have hp := e.output
  have hd := e.drawn
  cases w'; cases w
  simp only at hh ho ht hp hd
  simp only [grow, World.drewN, World.mk.injEq]
  exact ⟨hh, ht, by omega, ho, hp⟩
theorem cmpLays_of {g : FuncId} (hen : V.Enters pr g) (hcmp : ∀ x y : NmS, AFn pr g [.agg (Nm.cs x.1), .agg (Nm.cs y.1)] [] (.ret (.i (cmpN x.1 y.1)))) (blk off size : Nat) (w : World) :
    CmpLays pr g #[] encN 5 (fun x y : NmS => cmpN x.1 y.1) blk off size w := by
  intro m os dk hdk x y
  have aw : AW (fun _ => False) [] (sortWorldK encN 5 w blk off m dk os) := ⟨fun x hx => (by cases hx), List.nodup_nil, fun x hx => (by cases hx), fun _ h => h.elim⟩
  have hr : Reps (fun _ => False) (sortWorldK encN 5 w blk off m dk os) [.agg (Nm.cs x.1), .agg (Nm.cs y.1)] [.agg (encN x).toArray, .agg (encN y).toArray] := by
    refine reps_cons ?_ (reps_cons ?_ reps_nil)
    · rw [Rep]; exact ⟨_, rfl, one_rep x.2⟩
    · rw [Rep]; exact ⟨_, rfl, one_rep y.2⟩
  refine ((hcmp x y _ _ _ aw hr).calls hen).mono ?_
  rintro e w' ⟨ae, F', L', h1, h2, h3, rfl, rfl⟩
  obtain ⟨v, rfl, h4⟩ := h3
  have h5 := (rep_val_iff.1 h4).1
  subst h5
  exact ⟨rfl, grow_of h1⟩
theorem sort_names {g b c cap e : Nat} {l : List Nm} (hcmp : ∀ x y : NmS, AFn pr g [.agg (Nm.cs x.1), .agg (Nm.cs y.1)] [] (.ret (.i (cmpN x.1 y.1)))) (henter : V.Enters pr g) (hl : l.length ≤ 1000000) :
    AUp pr 151 [.sl b 0 l.length c, .fn g [] []] [⟨b, (l.map Nm.cs).flatten, .row e 5 cap⟩] (.ret (.tuple [])) [⟨b, ((sortN l).map Nm.cs).flatten, .row e 5 cap⟩] := by
  intro F w vs aw hr
  obtain ⟨cc, t, us, h1, h2, h3, h4⟩ := (aw.at (i := 0) rfl).row (fun _ hh => by cases hh)
  simp only at h1 h2 h3 h4
  obtain ⟨hus, hall⟩ := names_vals h2
  obtain rfl : vs = [.slice (some ⟨b, 0, none⟩) l.length c, .func (.func g) #[] #[]] := by
    rw [Reps] at hr
    obtain ⟨v1, r1, rfl, g1, hr⟩ := hr
    obtain ⟨v2, rfl, g2⟩ := hr.one
    rw [(rep_val_iff.1 g1).1]
    rw [Rep] at g2
    obtain ⟨xs, ds, rfl, ga, gc⟩ := g2
    rw [Reps] at ga gc
    rw [ga, gc]
  obtain ⟨l', hl'⟩ : ∃ l' : List NmS, l'.map Subtype.val = l := ⟨l.pmap Subtype.mk hall, by simp [List.map_pmap]⟩
  have hlen : l'.length = l.length := by rw [← hl', List.length_map]
  have hmap : (l.map encV).flatten = (l'.map encN).flatten := by rw [← hl', List.map_map]; rfl
  have hblk : b < w.heap.size := (Array.getElem?_eq_some_iff.1 h1).1
  have hul : us.length = l.length * 5 := by rw [h2.length, V.flat_len Nm.cs_len]
  have hcs : l.length * 5 ≤ cc.size := by
    have := congrArg List.length h3
    have e0 : cc.toList.length = cc.size := Array.length_toList
    rw [List.length_take, V.flat_len Nm.cs_len] at this
    omega
  have hflat : ∀ (q : List NmS) (j : Nat), j < q.length * 5 → (flatK encN 5 q.toArray)[j]? = (q.map encN).flatten[j]? := by
    intro q j hj
    obtain ⟨x, e1, e2⟩ := flat_get (f := encN) (k := 5) (fun _ => rfl) q j hj
    have hg := get_flatK encN 5 q.toArray j (by simpa using hj)
    have hsz : j < (flatK encN 5 q.toArray).size := by rw [size_flatK]; simpa using hj
    rw [getElem!_pos _ j hsz] at hg
    rw [Array.getElem?_eq_getElem hsz, hg, e2]
    have e3 : (q.toArray)[j / 5]! = x := by
      rw [List.getElem!_toArray, List.getElem!_eq_getElem?_getD, e1]; rfl
    have hm : j % 5 < (encN x).length := Nat.mod_lt _ (by decide)
    rw [e3, List.getElem?_eq_getElem hm, getElem!_pos (encN x) (j % 5) hm]
  have hH : HoldsK encN 5 w b 0 l'.toArray := by
    intro j hj
    rw [size_flatK] at hj
    have hj' : j < l'.length * 5 := by simpa using hj
    have hf := hflat l' j hj'
    have hsz : j < (flatK encN 5 l'.toArray).size := by rw [size_flatK]; exact hj
    rw [Array.getElem?_eq_getElem hsz, ← hmap, ← hus, h3, List.getElem?_take, if_pos (by rw [V.flat_len Nm.cs_len]; omega), Array.getElem?_toList] at hf
    rw [getElem!_pos _ j hsz, Nat.zero_add]
    refine ⟨?_, ?_⟩
    · simp only [World.cell?, h1, Option.isSome_none, Bool.false_eq_true, if_false]
      exact hf.symm
    · simp only [World.frozen?, h1]; simp
  have hcon := AnyQ.slices_SortFunc_total laysS 5 (fun w => by kernel_rfl) (fun w => by kernel_rfl) encN (fun _ => rfl) (fun x v hv => by
      simp only [encN, encV, List.mem_cons, List.not_mem_nil, or_false] at hv
      rcases hv with rfl | rfl | rfl | rfl | rfl <;> rfl) (fun x y : NmS => cmpN x.1 y.1) swoN g #[] b 0 c l'.toArray w
      (fun args w => run_enter henter args w) (cmpLays_of henter hcmp b 0 _ w) hH hblk (by simp; omega) (fun x y hx hy => by
        unfold ltOf at hx hy
        rw [cmpN_lt] at hx hy
        exact Subtype.ext (ltN_tri hx hy))
  have hs6 : V.Enters pr 151 := ⟨_, Tryz.func151, by kernel_rfl, by decide⟩
  refine .inl ⟨hs6, ?_⟩
  have hsz : (l'.toArray).size = l.length := by simp [hlen]
  rw [hsz] at hcon
  refine Calls.mono (show Calls pr 151 _ _ _ from hcon) ?_
  rintro ev w' ⟨rfl, n, os, rfl⟩
  generalize hd : (l'.toArray.toList.mergeSort fun x y => !(ltOf fun x y : NmS => cmpN x.1 y.1) y x) = d'
  have hdl : d'.length = l.length := by rw [← hd, List.length_mergeSort]; simp [hlen]
  have hdm : d'.map Subtype.val = sortN l := by
    rw [← hd]
    unfold sortN
    rw [← hl']
    refine List.map_mergeSort fun x _ y _ => ?_
    show (!(decide (cmpN y.1 x.1 < 0))) = !ltN y.1 x.1
    rw [cmpN_lt]
  have hsl : (sortN l).length = l.length := by rw [← hdm, List.length_map, hdl]
  have hcell : (sortWorldK encN 5 w b 0 n d'.toArray os).heap[b]? = some (.cells (putCells id 0 (flatK encN 5 d'.toArray) cc) t (0, 0)) := by
    unfold sortWorldK grow putRowK putRow mapBlock
    simp only [heap_ahead]
    rw [Array.getElem?_append_left (by simpa using hblk), Array.getElem?_modify, if_pos rfl, h1]
    rfl
  have hput : (putCells id 0 (flatK encN 5 d'.toArray) cc).toList.take (l.length * 5) = ((sortN l).map encV).flatten := by
    have hm2 : ((sortN l).map encV).flatten = (d'.map encN).flatten := by rw [← hdm, List.map_map]; rfl
    rw [hm2]
    apply List.ext_getElem?
    intro j
    rw [List.getElem?_take]
    split
    · next hj =>
      rw [← hflat d' j (by rw [hdl]; exact hj)]
      unfold putCells
      rw [Array.getElem?_toList, Array.getElem?_mapIdx]
      have hsz : j < (flatK encN 5 d'.toArray).size := by rw [size_flatK]; simp [hdl]; omega
      rw [Array.getElem?_eq_getElem (show j < cc.size by omega), Option.map_some, if_pos ⟨Nat.zero_le _, by rw [Nat.zero_add]; exact hsz⟩, Nat.sub_zero, getElem!_pos _ j hsz, Array.getElem?_eq_getElem hsz]
      rfl
    · next hj =>
      rw [List.getElem?_eq_none]
      rw [← hm2]
      have : ((sortN l).map encV).flatten.length = l.length * 5 := by
        have hgen : ∀ q : List Nm, (q.map encV).flatten.length = q.length * 5 := fun q => by
          induction q with
          | nil => rfl
          | cons x r ih => rw [List.map_cons, List.flatten_cons, List.length_append, ih, List.length_cons, Nat.succ_mul]; show 5 + _ = _; omega
        rw [hgen, hsl]
      omega
  have hoth : ∀ k, k < w.heap.size → k ≠ b → (sortWorldK encN 5 w b 0 n d'.toArray os).heap[k]? = w.heap[k]? := by
    intro k hk hne
    unfold sortWorldK grow putRowK putRow mapBlock
    simp only [heap_ahead]
    rw [Array.getElem?_append_left (by simpa using hk), Array.getElem?_modify, if_neg (Ne.symm hne)]
  have hsize : w.heap.size ≤ (sortWorldK encN 5 w b 0 n d'.toArray os).heap.size := by
    unfold sortWorldK grow putRowK putRow mapBlock
    simp
  have oy : BxOk F (sortWorldK encN 5 w b 0 n d'.toArray os) ⟨b, ((sortN l).map Nm.cs).flatten, .row e 5 cap⟩ := by
    refine BxOk.mk (.inr ⟨_, t, _, hcell, names_reps fun x hx => hall x ((sortN_mem l x).1 hx), ?_, ?_⟩)
    · rw [V.flat_len Nm.cs_len, hsl]; exact hput.symm
    · obtain ⟨q1, q2, q3, q4⟩ := h4
      refine ⟨q1, ?_, q3, l.length, by rw [V.flat_len Nm.cs_len, hsl]⟩
      rw [← q2]; unfold putCells; simp
  obtain ⟨a', e'⟩ := aw.swap (i := 0) (y := ⟨b, ((sortN l).map Nm.cs).flatten, .row e 5 cap⟩) rfl hsize ⟨rfl, rfl, rfl, Nat.le_add_right _ _⟩ hoth (.inl rfl) oy
  exact ⟨.ret (.tuple []), F, _, e', a', ⟨_, rfl, by rw [Rep]; exact ⟨[], rfl, reps_nil⟩⟩, rfl, rfl⟩
theorem sort_nil {g : FuncId} : AFn pr 151 [.nil, .fn g [] []] [] (.ret (.tuple [])) := by
  intro F w vs aw hr
  obtain rfl : vs = [.slice none 0 0, .func (.func g) #[] #[]] := by
    rw [Reps] at hr
    obtain ⟨v1, r1, rfl, g1, hr⟩ := hr
    obtain ⟨v2, rfl, g2⟩ := hr.one
    rw [(rep_val_iff.1 g1).1]
    rw [Rep] at g2
    obtain ⟨xs, ds, rfl, ga, gc⟩ := g2
    rw [Reps] at ga gc
    rw [ga, gc]
  refine .inl ⟨⟨_, Tryz.func151, by kernel_rfl, by decide⟩, ?_⟩
  have hcon : Calls pr 151 #[.slice none 0 0, .func (.func g) #[] #[]] w _ := AnyF.slices_SortFunc_none laysS none 0 (.func (.func g) #[] #[]) w
  refine hcon.mono ?_
  rintro e w' ⟨rfl, rfl⟩
  exact ⟨.ret (.tuple []), F, [], Ev.refl .., aw, ⟨_, rfl, by rw [Rep]; exact ⟨[], rfl, reps_nil⟩⟩, rfl, rfl⟩
end Go.Proofs.YtdalobojhfafbaaGreatDoor
