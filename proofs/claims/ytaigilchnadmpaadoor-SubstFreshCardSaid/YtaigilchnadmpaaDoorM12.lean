/- Laws of what is put: nothing, names for themselves, numbers for names, twice. -/
import Derived.Test.YtaigilchnadmpaaDoorM11
import Derived.Test.YtaigilchnadmpaaDoorN4
set_option linter.unusedVariables false
namespace Go.V
open Go
/-- a right name, alone -/
theorem named_self {t : Tm} {s : Int} (h : rightT t s = true) (hn : (shpAt t.op).name = true) : t = Nm.tm (t.nm.data.toList, t.op) ∧ t.nm ≠ ⟨#[]⟩ ∧ t.a = [] ∧ collT t = [(t.nm.data.toList, t.op)] := by
  have r := (right_iff t s).1 h
  have ho := (named_iff h).1 hn
  obtain ⟨ha, hc⟩ := right_named h ho
  obtain ⟨h1, _, _⟩ := shp_name r.op1 r.op2 hn
  have hnum := r.num h1
  refine ⟨?_, fun e => ?_, ha, hc⟩
  · cases t with | mk op nm n a =>
    simp only [Tm.n, Tm.a, Tm.nm, Tm.op] at hnum ha ⊢
    subst hnum ha
    unfold Nm.tm
    simp only
    rw [← str_of]
  · have := r.nm1 hn
    rw [e] at this
    cases this
theorem named_pick {l : List As} {t : Tm} {s : Int} (h : rightT t s = true) (hn : (shpAt t.op).name = true) : pickT l t = pickA l t.nm (shpAt t.op).sort := by
  unfold pickT; rw [if_neg (named_self h hn).2.1]
theorem bare_pick {l : List As} {t : Tm} {s : Int} (h : rightT t s = true) (hn : (shpAt t.op).name = false) : pickT l t = none := by
  unfold pickT; rw [if_pos (((right_iff t s).1 h).nm2 hn)]
theorem pt_bare {l : List As} {t : Tm} {s : Int} (h : rightT t s = true) (hn : (shpAt t.op).name = false) : ptT (pickT l) t = .mk t.op t.nm t.n (t.a.map (ptT (pickT l))) := ptT_none (bare_pick h hn)
theorem pt_name {l : List As} {t : Tm} {s : Int} (h : rightT t s = true) (hn : (shpAt t.op).name = true) : ptT (pickT l) t = (pickA l t.nm (shpAt t.op).sort).getD t := by
  rw [ptT_eq, named_pick h hn]
  obtain ⟨_, _, ha, _⟩ := named_self h hn
  rw [ha]
  have : Tm.mk t.op t.nm t.n ([].map (ptT (pickT l))) = t := by rw [List.map_nil, ← ha]; cases t; rfl
  rw [this]
/-- who puts names for themselves changes nothing -/
theorem pt_id {l : List As} (t : Tm) : ∀ {s : Int}, rightT t s = true → (∀ x ∈ collT t, ∀ u, pickA l (str x.1) (shpAt x.2).sort = some u → u = Nm.tm x) → ptT (pickT l) t = t := by
  induction t using Tm.ind' with
  | h t ih =>
    intro s h hc
    have r := (right_iff t s).1 h
    cases hn : (shpAt t.op).name with
    | true =>
      obtain ⟨e1, _, _, e4⟩ := named_self h hn
      rw [pt_name h hn]
      have hx := hc _ (by rw [e4]; exact List.mem_singleton.2 rfl)
      simp only at hx
      rw [← str_of] at hx
      cases hp : pickA l t.nm (shpAt t.op).sort with
      | none => rfl
      | some u => rw [hx u hp]; exact e1.symm
    | false =>
      rw [pt_bare h hn]
      rw [collT_eq, if_pos (r.nm2 hn)] at hc
      have : t.a.map (ptT (pickT l)) = t.a := by
        conv => rhs; rw [← List.map_id t.a]
        refine List.map_congr_left fun x hx => ?_
        obtain ⟨i, hi, rfl⟩ := List.mem_iff_getElem.1 hx
        exact ih _ hx (r.kids i hi) fun z hz => hc z (by rw [List.nil_append]; exact collL_mem.2 ⟨_, hx, hz⟩)
      rw [this]; cases t; rfl
theorem name_ops {op op' : Int} (h1 : 1 ≤ op) (h2 : op ≤ 28) (h1' : 1 ≤ op') (h2' : op' ≤ 28) (hn : (shpAt op).name = true) (hn' : (shpAt op').name = true) (hs : (shpAt op).sort = (shpAt op').sort) : op = op' := by
  have : ∀ i j : Fin 29, 1 ≤ i.1 → 1 ≤ j.1 → (shpAt (i.1 : Int)).name = true → (shpAt (j.1 : Int)).name = true → (shpAt (i.1 : Int)).sort = (shpAt (j.1 : Int)).sort → i = j := by decide
  have h := this ⟨op.toNat, by omega⟩ ⟨op'.toNat, by omega⟩ (by simp only; omega) (by simp only; omega)
  simp only [Int.toNat_of_nonneg (show 0 ≤ op by omega), Int.toNat_of_nonneg (show 0 ≤ op' by omega)] at h
  have h := congrArg Fin.val (h hn hn' hs)
  simp only at h
  omega
/-- a name of a right term is that of an operation that takes one -/
theorem coll_named {t : Tm} {s : Int} (h : rightT t s = true) {x : Nm} (hx : x ∈ collT t) : 1 ≤ x.2 ∧ x.2 ≤ 28 ∧ (shpAt x.2).name = true ∧ rightT (Nm.tm x) 0 = true := by
  obtain ⟨hnm, hr⟩ := coll_right t h x hx
  have r := (right_iff _ _).1 hr
  refine ⟨r.op1, r.op2, ?_, hr⟩
  cases hn : (shpAt x.2).name
  · have := r.nm2 hn
    have e : (Nm.tm x).nm = str x.1 := rfl
    rw [e] at this
    have : x.1 = [] := by
      have := congrArg (fun b : ByteArray => b.data.toList) this
      simpa [str] using this
    rw [this] at hnm
    cases hnm
  · rfl
theorem Nm.sort {x : Nm} (hr : rightT (Nm.tm x) 0 = true) : sortF (Nm.tm x) = ((shpAt x.2).sort, 0) := by
  rw [sortF_eq, if_neg (by rw [Nm.tm_size, Nm.tm_dep]; omega), if_pos hr]; rfl
theorem put_own {t : Tm} (h : (sortF t).2 = 0) : PutF t ((NamesF t).map Nm.as) = (t, 0) := by
  obtain ⟨_, _, hr, _⟩ := sortF_ok h
  have hN : NamesF t = namesT t := by unfold NamesF; rw [if_neg (by omega)]
  have hall : ∀ x ∈ NamesF t, 1 ≤ x.2 ∧ x.2 ≤ 28 ∧ (shpAt x.2).name = true ∧ rightT (Nm.tm x) 0 = true := fun x hx => coll_named hr ((namesT_mem t x).1 (by rwa [hN] at hx))
  have hid : ptT (pickT ((NamesF t).map Nm.as)) t = t := by
    refine pt_id t hr fun x hx u hu => ?_
    obtain ⟨z, hz, e1, e2, e3⟩ := pickA_mem hu
    obtain ⟨y, hy, rfl⟩ := List.mem_map.1 hz
    obtain ⟨y1, y2, y3, y4⟩ := hall y hy
    obtain ⟨x1, x2, x3, x4⟩ := coll_named hr hx
    have e1 : str y.1 = str x.1 := e1
    have e2 : Nm.tm y = u := e2
    rw [← e2, Nm.sort y4] at e3
    have e3 := congrArg Prod.fst e3
    have e4 := name_ops y1 y2 x1 x2 y3 x3 e3
    have e5 : y.1 = x.1 := by
      have := congrArg (fun b : ByteArray => b.data.toList) e1
      simpa [str] using this
    rw [← e2]
    congr 1
    exact Prod.ext e5 e4
  rw [PutF_mk h fun x hx => ?_, hid]
  · unfold outF; rw [if_neg (by omega)]
  · obtain ⟨y, hy, rfl⟩ := List.mem_map.1 hx
    show (sortF (Nm.tm y)).2 = 0
    rw [Nm.sort (hall y hy).2.2.2]
/-- is a text one of a term's names? -/
def freeF (t : Tm) (s : ByteArray) : Bool := (NamesF t).any fun x => decide (str x.1 = s)
theorem freeF_iff {t : Tm} (h : (sortF t).2 = 0) (s : ByteArray) : freeF t s = true ↔ ∃ x ∈ collT t, str x.1 = s := by
  have hN : NamesF t = namesT t := by unfold NamesF; rw [if_neg (by omega)]
  unfold freeF
  rw [hN, List.any_eq_true]
  constructor
  · rintro ⟨x, hx, e⟩; exact ⟨x, (namesT_mem t x).1 hx, by simpa using e⟩
  · rintro ⟨x, hx, e⟩; exact ⟨x, (namesT_mem t x).2 hx, by simpa using e⟩
/-- who puts for a name that is not there changes nothing -/
theorem put_none {t : Tm} {l : List As} (h : (sortF t).2 = 0) (hl : ∀ x ∈ l, (sortF x.to).2 = 0) (hf : ∀ x ∈ l, freeF t x.nm = false) : PutF t l = (t, 0) := by
  obtain ⟨_, _, hr, _⟩ := sortF_ok h
  have hid : ptT (pickT l) t = t := by
    refine pt_id t hr fun x hx u hu => ?_
    obtain ⟨z, hz, e1, _, _⟩ := pickA_mem hu
    have := (freeF_iff h z.nm).2 ⟨x, hx, e1.symm⟩
    rw [hf z hz] at this
    cases this
  rw [PutF_mk h hl, hid]
  unfold outF; rw [if_neg (by omega)]
/-! ### an int, a set and a bool for a name -/
def oneL (nm : ByteArray) (n : Int) : List As := [⟨nm, .mk 1 ⟨#[]⟩ n []⟩, ⟨nm, mk 9 []⟩, ⟨nm, mk 17 []⟩]
theorem sort_num (n : Int) : sortF (.mk 1 ⟨#[]⟩ n []) = (1, 0) := by
  rw [sortF_eq, if_neg (by rw [Tm.size_mk, Tm.dep_mk, Tm.sizeL_nil, Tm.depL_nil]; omega), if_pos]
  · rfl
  · rw [right_iff]
    exact ⟨show (1 : Int) ≤ 1 by decide, show (1 : Int) ≤ 28 by decide, .inl rfl, fun h => (by cases h), fun _ => rfl, fun h => (by cases h), fun _ => rfl, fun i hi => absurd hi (Nat.not_lt_zero _)⟩
theorem sort_all : sortF (mk 9 []) = (2, 0) := by decide +kernel
theorem sort_false : sortF (mk 17 []) = (4, 0) := by decide +kernel
theorem one_pick (nm nm' : ByteArray) (n s : Int) : pickA (oneL nm n) nm' s = if nm = nm' then (if s = 1 then some (.mk 1 ⟨#[]⟩ n []) else if s = 2 then some (mk 9 []) else if s = 4 then some (mk 17 []) else none) else none := by
  unfold pickA oneL
  simp only [List.find?_cons, List.find?_nil, sort_num, sort_all, sort_false, Prod.mk.injEq, and_true]
  by_cases h : nm = nm'
  · subst h
    simp only [decide_true, Bool.true_and, if_true]
    by_cases h1 : s = 1
    · subst h1; rfl
    · rw [if_neg h1, decide_eq_false (fun e : (1 : Int) = s => h1 e.symm)]
      by_cases h2 : s = 2
      · subst h2; rfl
      · rw [if_neg h2, decide_eq_false (fun e : (2 : Int) = s => h2 e.symm)]
        by_cases h4 : s = 4
        · subst h4; rfl
        · rw [if_neg h4, decide_eq_false (fun e : (4 : Int) = s => h4 e.symm)]; rfl
  · simp only [decide_eq_false h, Bool.false_and, if_neg h]; rfl
structure OneSays (nm : ByteArray) (t u : Tm) : Prop where
  size : u.size = t.size
  dep : u.dep = t.dep
  coll : ∀ x : Nm, x ∈ collT u ↔ x ∈ collT t ∧ ¬ (str x.1 = nm ∧ x.2 ≠ 14)
theorem map_size {f : Tm → Tm} : ∀ {a : List Tm}, (∀ x ∈ a, (f x).size = x.size) → Tm.sizeL (a.map f) = Tm.sizeL a
  | [], _ => rfl
  | x :: r, h => by rw [List.map_cons, Tm.sizeL_cons, Tm.sizeL_cons, h x (by simp), map_size fun y hy => h y (by simp [hy])]
theorem map_dep {f : Tm → Tm} : ∀ {a : List Tm}, (∀ x ∈ a, (f x).dep = x.dep) → Tm.depL (a.map f) = Tm.depL a
  | [], _ => rfl
  | x :: r, h => by rw [List.map_cons, Tm.depL_cons, Tm.depL_cons, h x (by simp), map_dep fun y hy => h y (by simp [hy])]
theorem name_sort {op : Int} (h : op = 2 ∨ op = 7 ∨ op = 14 ∨ op = 15) : ((shpAt op).sort = 1 ∨ (shpAt op).sort = 2 ∨ (shpAt op).sort = 4) ↔ op ≠ 14 := by
  rcases h with rfl | rfl | rfl | rfl <;> decide
theorem one_says (nm : ByteArray) (n : Int) (t : Tm) : ∀ {s : Int}, rightT t s = true → OneSays nm t (ptT (pickT (oneL nm n)) t) := by
  induction t using Tm.ind' with
  | h t ih =>
    intro s h
    have r := (right_iff t s).1 h
    cases hn : (shpAt t.op).name with
    | true =>
      obtain ⟨e1, e2, e3, e4⟩ := named_self h hn
      have ho := (named_iff h).1 hn
      rw [pt_name h hn, one_pick]
      have hs : t.size = 1 := by rw [Tm.size_eq, e3, Tm.sizeL_nil]
      have hd : t.dep = 1 := by rw [Tm.dep_eq, e3, Tm.depL_nil]
      have same : (¬ (nm = t.nm ∧ t.op ≠ 14)) → OneSays nm t t := fun hne => ⟨rfl, rfl, fun x => by
        refine ⟨fun hx => ⟨hx, ?_⟩, fun hx => hx.1⟩
        rw [e4, List.mem_singleton] at hx
        subst hx
        rintro ⟨g1, g2⟩
        simp only at g1 g2
        rw [← str_of] at g1
        exact hne ⟨g1.symm, g2⟩⟩
      have gone : ∀ u : Tm, u.size = 1 → u.dep = 1 → collT u = [] → nm = t.nm → t.op ≠ 14 → OneSays nm t u := fun u hu1 hu2 hu3 g1 g2 => ⟨by omega, by omega, fun x => by
        rw [hu3, e4, List.mem_singleton]
        refine ⟨fun hx => (by cases hx), ?_⟩
        rintro ⟨rfl, hx⟩
        exact absurd ⟨by simp only; rw [← str_of, g1], g2⟩ hx⟩
      split
      · next hnm =>
        split
        · next h1 => exact gone _ (by rw [Option.getD_some, Tm.size_mk, Tm.sizeL_nil]) rfl rfl hnm ((name_sort ho).1 (.inl h1))
        · next h1 =>
          split
          · next h2 => exact gone _ rfl rfl rfl hnm ((name_sort ho).1 (.inr (.inl h2)))
          · next h2 =>
            split
            · next h4 => exact gone _ rfl rfl rfl hnm ((name_sort ho).1 (.inr (.inr h4)))
            · next h4 => exact same fun hh => ((name_sort ho).2 hh.2).elim h1 fun g => g.elim h2 h4
      · next hnm => exact same fun hh => hnm hh.1
    | false =>
      rw [pt_bare h hn]
      have hk : ∀ x ∈ t.a, OneSays nm x (ptT (pickT (oneL nm n)) x) := fun x hx => by
        obtain ⟨i, hi, rfl⟩ := List.mem_iff_getElem.1 hx
        exact ih _ hx (r.kids i hi)
      refine ⟨?_, ?_, fun x => ?_⟩
      · rw [Tm.size_mk, Tm.size_eq, map_size fun x hx => (hk x hx).size]
      · rw [Tm.dep_mk, Tm.dep_eq, map_dep fun x hx => (hk x hx).dep]
      · rw [collT, if_pos (r.nm2 hn), collT_eq t, if_pos (r.nm2 hn)]
        rw [List.nil_append, List.nil_append, collL_mem, collL_mem]
        constructor
        · rintro ⟨u, hu, hx⟩
          obtain ⟨v, hv, rfl⟩ := List.mem_map.1 hu
          obtain ⟨k1, k2⟩ := ((hk v hv).coll x).1 hx
          exact ⟨⟨v, hv, k1⟩, k2⟩
        · rintro ⟨⟨v, hv, k1⟩, k2⟩
          exact ⟨_, List.mem_map_of_mem hv, ((hk v hv).coll x).2 ⟨k1, k2⟩⟩
theorem put_one {t : Tm} (nm : ByteArray) (n : Int) (h : (sortF t).2 = 0) : PutF t (oneL nm n) = (ptT (pickT (oneL nm n)) t, 0) ∧ OneSays nm t (ptT (pickT (oneL nm n)) t) := by
  obtain ⟨h1, h2, hr, h3⟩ := sortF_ok h
  have k := one_says nm n t hr
  refine ⟨?_, k⟩
  rw [PutF_mk h fun x hx => ?_]
  · have : sortF (ptT (pickT (oneL nm n)) t) = ((shpAt (ptT (pickT (oneL nm n)) t).op).sort, 0) := by
      rw [sortF_eq, if_neg (by rw [k.size, k.dep]; omega), if_pos (pt_right _ t hr)]
    exact outF_of this
  · unfold oneL at hx
    simp only [List.mem_cons, List.not_mem_nil, or_false] at hx
    rcases hx with rfl | rfl | rfl
    · show (sortF _).2 = 0; rw [sort_num]
    · show (sortF _).2 = 0; rw [sort_all]
    · show (sortF _).2 = 0; rw [sort_false]
theorem one_free {t : Tm} (nm : ByteArray) (n : Int) (h : (sortF t).2 = 0) : freeF (PutF t (oneL nm n)).1 nm = (NamesF t).any fun x => decide (x.2 = 14) && decide (str x.1 = nm) := by
  obtain ⟨e, k⟩ := put_one nm n h
  have hok : (sortF (PutF t (oneL nm n)).1).2 = 0 := by
    have := (PutF_ok (t := t) (l := oneL nm n) (by rw [e])).2.2.1
    rw [e]; exact this
  have hN : NamesF t = namesT t := by unfold NamesF; rw [if_neg (by omega)]
  rw [Bool.eq_iff_iff, freeF_iff hok, e, List.any_eq_true, hN]
  simp only [Bool.and_eq_true, decide_eq_true_eq]
  constructor
  · rintro ⟨x, hx, hs⟩
    obtain ⟨k1, k2⟩ := (k.coll x).1 hx
    refine ⟨x, (namesT_mem t x).2 k1, Classical.byContradiction fun h14 => ?_⟩
    exact k2 ⟨hs, fun h => h14 ⟨h, hs⟩⟩
  · rintro ⟨x, hx, h14, hs⟩
    exact ⟨x, (k.coll x).2 ⟨(namesT_mem t x).1 hx, fun hh => hh.2 h14⟩, hs⟩
/-! ### twice -/
theorem pick1 (nm nm' : ByteArray) (u : Tm) (s s' : Int) (h : sortF u = (s, 0)) : pickA [⟨nm, u⟩] nm' s' = if nm = nm' ∧ s = s' then some u else none := by
  unfold pickA
  simp only [List.find?_cons, List.find?_nil, h, Prod.mk.injEq, and_true]
  by_cases h1 : nm = nm' <;> by_cases h2 : s = s' <;> simp [h1, h2]
theorem pick2 (nm nm2 nm' : ByteArray) (u v : Tm) (s s' : Int) (h : sortF u = (s, 0)) (h2 : sortF v = (s, 0)) (hne : nm ≠ nm2) : pickA [⟨nm, u⟩, ⟨nm2, v⟩] nm' s' = if nm = nm' ∧ s = s' then some u else if nm2 = nm' ∧ s = s' then some v else none := by
  unfold pickA
  simp only [List.find?_cons, List.find?_nil, h, h2, Prod.mk.injEq, and_true]
  by_cases h1 : nm = nm' <;> by_cases h2 : s = s' <;> by_cases h3 : nm2 = nm' <;> simp [h1, h2, h3]
theorem pt_twice {x y : ByteArray} {a b : Tm} {k : Int} (hne : x ≠ y) (ha : sortF a = (k, 0)) (hb : sortF b = (k, 0)) (hg : sortF (ptT (pickT [⟨y, b⟩]) a) = (k, 0)) (t : Tm) : ∀ {s : Int}, rightT t s = true →
    ptT (pickT [⟨y, b⟩]) (ptT (pickT [⟨x, a⟩]) t) = ptT (pickT [⟨x, ptT (pickT [⟨y, b⟩]) a⟩, ⟨y, b⟩]) t := by
  induction t using Tm.ind' with
  | h t ih =>
    intro s h
    have r := (right_iff t s).1 h
    cases hn : (shpAt t.op).name with
    | true =>
      rw [pt_name h hn, pt_name h hn, pick1 _ _ _ _ _ ha, pick2 _ _ _ _ _ _ _ hg hb hne]
      by_cases h1 : x = t.nm ∧ k = (shpAt t.op).sort
      · rw [if_pos h1, if_pos h1]; rfl
      · rw [if_neg h1, if_neg h1]
        show ptT _ t = _
        rw [pt_name h hn, pick1 _ _ _ _ _ hb]
    | false =>
      rw [pt_bare h hn, pt_bare h hn]
      have hr' : rightT (Tm.mk t.op t.nm t.n (t.a.map (ptT (pickT [⟨x, a⟩])))) s = true := by
        have := pt_right [⟨x, a⟩] t h
        rwa [pt_bare h hn] at this
      rw [pt_bare hr' hn]
      show Tm.mk t.op t.nm t.n ((t.a.map _).map _) = _
      rw [List.map_map]
      congr 1
      refine List.map_congr_left fun z hz => ?_
      obtain ⟨i, hi, rfl⟩ := List.mem_iff_getElem.1 hz
      exact ih _ hz (r.kids i hi)
end Go.V
