/- What is put in the place of names: the plain function, and the one that counts as it goes. -/
import Derived.Test.YtokpeggkofjclaaGreatDoorN4
set_option linter.unusedVariables false
namespace Go.V
open Go
/-- a name that becomes a term -/
structure As where
  nm : ByteArray
  to : Tm
def As.cr (x : As) : List D := .s x.nm :: x.to.cs
theorem As.cr_len (x : As) : x.cr.length = 5 := rfl
theorem As.cr_one (x : As) : x.cr.all D.one = true := rfl
def Nm.as (x : Nm) : As := ⟨str x.1, Nm.tm x⟩
theorem Nm.as_cr (x : Nm) : (Nm.as x).cr = Nm.cr x := rfl
theorem names_as (l : List Nm) : l.map Nm.cr = (l.map Nm.as).map As.cr := by rw [List.map_map]; rfl
mutual
def ptT (g : Tm → Option Tm) : Tm → Tm
  | .mk op nm n a => (g (.mk op nm n a)).getD (.mk op nm n (ptL g a))
def ptL (g : Tm → Option Tm) : List Tm → List Tm
  | [] => []
  | x :: r => ptT g x :: ptL g r
end
mutual
def cp0 : Tm → Int → Tm × Int
  | .mk op nm n a, c => (.mk op nm n (cp0L a (c + 1)).1, (cp0L a (c + 1)).2)
def cp0L : List Tm → Int → List Tm × Int
  | [], c => ([], c)
  | x :: r, c => if c > 2000 then ([], c) else ((cp0 x c).1 :: (cp0L r (cp0 x c).2).1, (cp0L r (cp0 x c).2).2)
end
mutual
def cpT (g : Tm → Option Tm) : Tm → Int → Tm × Int
  | .mk op nm n a, c => match g (.mk op nm n a) with
    | some u => cp0 u c
    | none => (.mk op nm n (cpL g a (c + 1)).1, (cpL g a (c + 1)).2)
def cpL (g : Tm → Option Tm) : List Tm → Int → List Tm × Int
  | [], c => ([], c)
  | x :: r, c => if c > 2000 then ([], c) else ((cpT g x c).1 :: (cpL g r (cpT g x c).2).1, (cpL g r (cpT g x c).2).2)
end
theorem ptL_map (g : Tm → Option Tm) : ∀ a, ptL g a = a.map (ptT g)
  | [] => by rw [ptL]; rfl
  | x :: r => by rw [ptL, ptL_map g r]; rfl
theorem ptT_eq (g : Tm → Option Tm) (t : Tm) : ptT g t = (g t).getD (.mk t.op t.nm t.n (t.a.map (ptT g))) := by
  cases t; rw [ptT, ptL_map]; rfl
theorem ptT_some {g : Tm → Option Tm} {t u : Tm} (h : g t = some u) : ptT g t = u := by rw [ptT_eq, h]; rfl
theorem ptT_none {g : Tm → Option Tm} {t : Tm} (h : g t = none) : ptT g t = .mk t.op t.nm t.n (t.a.map (ptT g)) := by rw [ptT_eq, h]; rfl
theorem cpT_eq (g : Tm → Option Tm) (t : Tm) (c : Int) : cpT g t c = match g t with
    | some u => cp0 u c
    | none => (.mk t.op t.nm t.n (cpL g t.a (c + 1)).1, (cpL g t.a (c + 1)).2) := by cases t; rw [cpT]; rfl
mutual
theorem cp0_eq : ∀ (t : Tm) (c : Int), cp0 t c = cpT (fun _ => none) t c
  | .mk op nm n a, c => by rw [cp0, cpT, cp0L_eq a]
theorem cp0L_eq : ∀ (a : List Tm) (c : Int), cp0L a c = cpL (fun _ => none) a c
  | [], c => by rw [cp0L, cpL]
  | x :: r, c => by rw [cp0L, cpL, cp0_eq x, cp0L_eq r]
end
theorem pt0 (t : Tm) : ptT (fun _ => none) t = t := by
  induction t using Tm.ind' with
  | h t ih =>
    rw [ptT_none rfl]
    have : t.a.map (ptT fun _ => none) = t.a := by
      conv => rhs; rw [← List.map_id t.a]
      exact List.map_congr_left ih
    rw [this]; cases t; rfl
structure CpSays (p : Tm) (c : Int) (r : Tm × Int) : Prop where
  size : r.2 = c + r.1.size
  most : r.2 ≤ 2001
  small : r.2 ≤ 2000 → r.1 = p
  large : 2000 < r.2 → 2000 < c + p.size
theorem cpL_says {g : Tm → Option Tm} : ∀ (a : List Tm), (∀ x ∈ a, ∀ c : Int, 0 ≤ c → c ≤ 2000 → CpSays (ptT g x) c (cpT g x c)) → ∀ c : Int, 0 ≤ c → c ≤ 2001 →
    (cpL g a c).2 = c + Tm.sizeL (cpL g a c).1 ∧ (cpL g a c).2 ≤ 2001 ∧ ((cpL g a c).2 ≤ 2000 → (cpL g a c).1 = a.map (ptT g)) ∧ (2000 < (cpL g a c).2 → 2000 < c + Tm.sizeL (a.map (ptT g)))
  | [], _, c, h0, h1 => by rw [cpL]; simp only [Tm.sizeL_nil, List.map_nil]; exact ⟨by omega, h1, fun _ => trivial, fun h => by omega⟩
  | x :: r, ih, c, h0, h1 => by
    rw [cpL]
    split
    · next hc =>
      simp only [Tm.sizeL_nil]
      exact ⟨by omega, h1, fun h => by omega, fun h => by omega⟩
    · next hc =>
      obtain ⟨k1, k2, k3, k4⟩ := ih x (by simp) c h0 (by omega)
      have hp := Tm.size_pos (cpT g x c).1
      obtain ⟨j1, j2, j3, j4⟩ := cpL_says r (fun y hy => ih y (by simp [hy])) (cpT g x c).2 (by omega) k2
      simp only [Tm.sizeL_cons, List.map_cons]
      refine ⟨by omega, j2, fun h => ?_, fun h => ?_⟩
      · rw [j3 h, k3 (by omega)]
      · rcases (by omega : 2000 < (cpT g x c).2 ∨ (cpT g x c).2 ≤ 2000) with h' | h'
        · have := k4 h'; omega
        · rw [← k3 h']; have := j4 h; omega
theorem cpN_says {g : Tm → Option Tm} {t : Tm} (hg : g t = none) (ih : ∀ x ∈ t.a, ∀ c : Int, 0 ≤ c → c ≤ 2000 → CpSays (ptT g x) c (cpT g x c)) (c : Int) (h0 : 0 ≤ c) (h1 : c ≤ 2000) : CpSays (ptT g t) c (cpT g t c) := by
  rw [cpT_eq, hg, ptT_none hg]
  obtain ⟨k1, k2, k3, k4⟩ := cpL_says t.a ih (c + 1) (by omega) (by omega)
  refine ⟨?_, k2, fun h => ?_, fun h => ?_⟩
  · show (cpL g t.a (c + 1)).2 = _
    rw [Tm.size_mk]; omega
  · show Tm.mk _ _ _ _ = _
    rw [k3 h]
  · rw [Tm.size_mk]
    have := k4 h; omega
theorem cp0_says (t : Tm) : ∀ c : Int, 0 ≤ c → c ≤ 2000 → CpSays t c (cp0 t c) := by
  have : ∀ c : Int, 0 ≤ c → c ≤ 2000 → CpSays (ptT (fun _ => none) t) c (cpT (fun _ => none) t c) := by
    induction t using Tm.ind' with
    | h t ih => exact cpN_says rfl ih
  intro c h0 h1
  rw [cp0_eq]
  have h := this c h0 h1
  rwa [pt0] at h
theorem cpT_says (g : Tm → Option Tm) (t : Tm) : ∀ c : Int, 0 ≤ c → c ≤ 2000 → CpSays (ptT g t) c (cpT g t c) := by
  induction t using Tm.ind' with
  | h t ih =>
    intro c h0 h1
    cases hg : g t with
    | none => exact cpN_says hg ih c h0 h1
    | some u => rw [cpT_eq, hg, ptT_some hg]; exact cp0_says u c h0 h1
/-- what a name becomes: the first of its sort -/
def pickA (l : List As) (nm : ByteArray) (s : Int) : Option Tm := (l.find? fun x => decide (x.nm = nm) && decide (sortF x.to = (s, 0))).map As.to
def pickT (l : List As) (t : Tm) : Option Tm := if t.nm = ⟨#[]⟩ then none else pickA l t.nm (shpAt t.op).sort
/-- the first error -/
def badA : List As → Int
  | [] => 0
  | x :: r => if (sortF x.to).2 ≠ 0 then (sortF x.to).2 else badA r
def outF (u : Tm) : Tm × Int := if (sortF u).2 ≠ 0 then (mk 0 [], (sortF u).2) else (u, 0)
def PutF (t : Tm) (l : List As) : Tm × Int :=
  if (sortF t).2 ≠ 0 then (mk 0 [], (sortF t).2) else if badA l ≠ 0 then (mk 0 [], badA l) else outF (ptT (pickT l) t)
theorem sort_big {t : Tm} (h : 2000 < t.size) : sortF t = (0, 7) := by rw [sortF_eq, if_pos (.inl h)]
/-- who counts as he goes says the same in the end -/
theorem out_count (g : Tm → Option Tm) (t : Tm) : outF (cpT g t 0).1 = outF (ptT g t) := by
  obtain ⟨k1, k2, k3, k4⟩ := cpT_says g t 0 (by omega) (by omega)
  rcases (by omega : 2000 < (cpT g t 0).2 ∨ (cpT g t 0).2 ≤ 2000) with h | h
  · unfold outF
    rw [sort_big (t := (cpT g t 0).1) (by omega), sort_big (t := ptT g t) (by have := k4 h; omega)]
    rfl
  · rw [k3 h]
theorem badA_ok : ∀ {l : List As}, badA l = 0 ↔ ∀ x ∈ l, (sortF x.to).2 = 0
  | [] => by simp [badA]
  | x :: r => by
    rw [badA]
    split
    · next h => exact ⟨fun h' => absurd h' h, fun h' => absurd (h' x (by simp)) h⟩
    · next h =>
      rw [badA_ok]
      simp only [List.mem_cons, forall_eq_or_imp]
      exact ⟨fun h' => ⟨by omega, h'⟩, fun h' => h'.2⟩
theorem outF_dep (u : Tm) : (outF u).1.dep ≤ 100 := by
  unfold outF
  split
  · exact (by decide : (mk 0 []).dep ≤ 100)
  · next h => exact (sortF_ok (Classical.not_not.1 h)).2.1
theorem PutF_dep (t : Tm) (l : List As) : (PutF t l).1.dep ≤ 100 := by
  unfold PutF
  split
  · exact (by decide : (mk 0 []).dep ≤ 100)
  split
  · exact (by decide : (mk 0 []).dep ≤ 100)
  exact outF_dep _
theorem PutF_ok {t : Tm} {l : List As} (h : (PutF t l).2 = 0) : (sortF t).2 = 0 ∧ (∀ x ∈ l, (sortF x.to).2 = 0) ∧ (sortF (ptT (pickT l) t)).2 = 0 ∧ (PutF t l).1 = ptT (pickT l) t := by
  unfold PutF at h ⊢
  split at h
  · next h1 => exact absurd h h1
  · next h1 =>
    rw [if_neg h1]
    split at h
    · next h2 => exact absurd h h2
    · next h2 =>
      rw [if_neg h2]
      unfold outF at h ⊢
      split at h
      · next h3 => exact absurd h h3
      · next h3 => rw [if_neg h3]; exact ⟨by omega, badA_ok.1 (by omega), by omega, rfl⟩
theorem PutF_mk {t : Tm} {l : List As} (h1 : (sortF t).2 = 0) (h2 : ∀ x ∈ l, (sortF x.to).2 = 0) : PutF t l = outF (ptT (pickT l) t) := by
  unfold PutF
  rw [if_neg (by omega), if_neg (by have := badA_ok.2 h2; omega)]
theorem outF_of {u : Tm} {s : Int} (h : sortF u = (s, 0)) : outF u = (u, 0) := by unfold outF; rw [h]; rfl
theorem pickA_cons (x : As) (l : List As) (nm : ByteArray) (s : Int) : pickA (x :: l) nm s = if x.nm = nm ∧ sortF x.to = (s, 0) then some x.to else pickA l nm s := by
  unfold pickA
  rw [List.find?_cons]
  by_cases h1 : x.nm = nm <;> by_cases h2 : sortF x.to = (s, 0) <;> simp [h1, h2]
theorem pickA_mem {l : List As} {nm : ByteArray} {s : Int} {u : Tm} (h : pickA l nm s = some u) : ∃ x ∈ l, x.nm = nm ∧ x.to = u ∧ sortF u = (s, 0) := by
  unfold pickA at h
  obtain ⟨x, hx, rfl⟩ := Option.map_eq_some_iff.1 h
  have h1 := List.mem_of_find?_eq_some hx
  have h2 := List.find?_some hx
  simp only [Bool.and_eq_true, decide_eq_true_eq] at h2
  exact ⟨x, h1, h2.1, rfl, h2.2⟩
/-- of a right term: a name alone is put for -/
theorem pick_named {l : List As} {t u : Tm} {s : Int} (h : rightT t s = true) (hp : pickT l t = some u) : (shpAt t.op).name = true ∧ pickA l t.nm (shpAt t.op).sort = some u := by
  unfold pickT at hp
  split at hp
  · cases hp
  · next hn =>
    have r := (right_iff t s).1 h
    refine ⟨?_, hp⟩
    cases e : (shpAt t.op).name
    · exact absurd (r.nm2 e) hn
    · rfl
/-- what is put keeps the sort -/
theorem pt_right (l : List As) (t : Tm) : ∀ {s : Int}, rightT t s = true → rightT (ptT (pickT l) t) s = true := by
  induction t using Tm.ind' with
  | h t ih =>
    intro s h
    cases hp : pickT l t with
    | some u =>
      rw [ptT_some hp]
      obtain ⟨_, h2⟩ := pick_named h hp
      obtain ⟨x, _, _, _, hs⟩ := pickA_mem h2
      obtain ⟨_, _, h5, h6⟩ := sortF_ok (by rw [hs])
      rw [hs] at h6
      have r := (right_iff t s).1 h
      rcases r.sort with rfl | e
      · exact right_any h5
      · exact right_of h5 (by rw [← h6]; exact e)
    | none =>
      rw [ptT_none hp, right_iff]
      have r := (right_iff t s).1 h
      refine ⟨r.op1, r.op2, r.sort, r.nm1, r.nm2, r.num, fun hm => ?_, fun i hi => ?_⟩
      · show (t.a.map _).length = _
        rw [List.length_map]; exact r.len hm
      · have hi' : i < t.a.length := by
          have : i < (t.a.map (ptT (pickT l))).length := hi
          rwa [List.length_map] at this
        have e : (t.a.map (ptT (pickT l)))[i]'(by rw [List.length_map]; exact hi') = ptT (pickT l) t.a[i] := List.getElem_map ..
        show rightT ((t.a.map (ptT (pickT l)))[i]'(by rw [List.length_map]; exact hi')) _ = true
        rw [e]
        exact ih _ (List.getElem_mem hi') (r.kids i hi')
/-- what is made of right terms is right, or too large -/
theorem outF_err {l : List As} {t : Tm} {s : Int} (h : rightT t s = true) (he : (outF (ptT (pickT l) t)).2 ≠ 0) : (outF (ptT (pickT l) t)).2 = 7 := by
  have hr := right_any (pt_right l t h)
  unfold outF at he ⊢
  by_cases h2 : (ptT (pickT l) t).size > 2000 ∨ (ptT (pickT l) t).dep > 100
  · rw [sortF_eq, if_pos h2]; rfl
  · rw [sortF_eq, if_neg h2, if_pos hr] at he
    exact absurd rfl he
end Go.V
/- Laws of what is put: nothing, names for themselves, numbers for names, twice. -/
set_option linter.unusedVariables false
namespace Go.V
open Go
/-- a right name, alone -/
theorem named_self {t : Tm} {s : Int} (h : rightT t s = true) (hn : (shpAt t.op).name = true) : t = Nm.tm (t.nm.data.toList, t.op) ∧ t.nm ≠ ⟨#[]⟩ ∧ t.a = [] ∧ collT t = [(t.nm.data.toList, t.op)] := by
  have r := (right_iff t s).1 h
  have ho := (named_iff h).1 hn
  obtain ⟨ha, hc⟩ := right_named h ho
  obtain ⟨h1, _, _⟩ := shp_name r.op1 r.op2 hn
  have hnum := r.num h1
  refine ⟨?_, fun e => ?_, ha, hc⟩
  · cases t with | mk op nm n a =>
    simp only [Tm.n, Tm.a, Tm.nm, Tm.op] at hnum ha ⊢
    subst hnum ha
    unfold Nm.tm
    simp only
    rw [← str_of]
  · have := r.nm1 hn
    rw [e] at this
    cases this
theorem named_pick {l : List As} {t : Tm} {s : Int} (h : rightT t s = true) (hn : (shpAt t.op).name = true) : pickT l t = pickA l t.nm (shpAt t.op).sort := by
  unfold pickT; rw [if_neg (named_self h hn).2.1]
theorem bare_pick {l : List As} {t : Tm} {s : Int} (h : rightT t s = true) (hn : (shpAt t.op).name = false) : pickT l t = none := by
  unfold pickT; rw [if_pos (((right_iff t s).1 h).nm2 hn)]
theorem pt_bare {l : List As} {t : Tm} {s : Int} (h : rightT t s = true) (hn : (shpAt t.op).name = false) : ptT (pickT l) t = .mk t.op t.nm t.n (t.a.map (ptT (pickT l))) := ptT_none (bare_pick h hn)
theorem pt_name {l : List As} {t : Tm} {s : Int} (h : rightT t s = true) (hn : (shpAt t.op).name = true) : ptT (pickT l) t = (pickA l t.nm (shpAt t.op).sort).getD t := by
  rw [ptT_eq, named_pick h hn]
  obtain ⟨_, _, ha, _⟩ := named_self h hn
  rw [ha]
  have : Tm.mk t.op t.nm t.n ([].map (ptT (pickT l))) = t := by rw [List.map_nil, ← ha]; cases t; rfl
  rw [this]
/-- who puts names for themselves changes nothing -/
theorem pt_id {l : List As} (t : Tm) : ∀ {s : Int}, rightT t s = true → (∀ x ∈ collT t, ∀ u, pickA l (str x.1) (shpAt x.2).sort = some u → u = Nm.tm x) → ptT (pickT l) t = t := by
  induction t using Tm.ind' with
  | h t ih =>
    intro s h hc
    have r := (right_iff t s).1 h
    cases hn : (shpAt t.op).name with
    | true =>
      obtain ⟨e1, _, _, e4⟩ := named_self h hn
      rw [pt_name h hn]
      have hx := hc _ (by rw [e4]; exact List.mem_singleton.2 rfl)
      simp only at hx
      rw [← str_of] at hx
      cases hp : pickA l t.nm (shpAt t.op).sort with
      | none => rfl
      | some u => rw [hx u hp]; exact e1.symm
    | false =>
      rw [pt_bare h hn]
      rw [collT_eq, if_pos (r.nm2 hn)] at hc
      have : t.a.map (ptT (pickT l)) = t.a := by
        conv => rhs; rw [← List.map_id t.a]
        refine List.map_congr_left fun x hx => ?_
        obtain ⟨i, hi, rfl⟩ := List.mem_iff_getElem.1 hx
        exact ih _ hx (r.kids i hi) fun z hz => hc z (by rw [List.nil_append]; exact collL_mem.2 ⟨_, hx, hz⟩)
      rw [this]; cases t; rfl
theorem name_ops {op op' : Int} (h1 : 1 ≤ op) (h2 : op ≤ 28) (h1' : 1 ≤ op') (h2' : op' ≤ 28) (hn : (shpAt op).name = true) (hn' : (shpAt op').name = true) (hs : (shpAt op).sort = (shpAt op').sort) : op = op' := by
  have : ∀ i j : Fin 29, 1 ≤ i.1 → 1 ≤ j.1 → (shpAt (i.1 : Int)).name = true → (shpAt (j.1 : Int)).name = true → (shpAt (i.1 : Int)).sort = (shpAt (j.1 : Int)).sort → i = j := by decide
  have h := this ⟨op.toNat, by omega⟩ ⟨op'.toNat, by omega⟩ (by simp only; omega) (by simp only; omega)
  simp only [Int.toNat_of_nonneg (show 0 ≤ op by omega), Int.toNat_of_nonneg (show 0 ≤ op' by omega)] at h
  have h := congrArg Fin.val (h hn hn' hs)
  simp only at h
  omega
/-- a name of a right term is that of an operation that takes one -/
theorem coll_named {t : Tm} {s : Int} (h : rightT t s = true) {x : Nm} (hx : x ∈ collT t) : 1 ≤ x.2 ∧ x.2 ≤ 28 ∧ (shpAt x.2).name = true ∧ rightT (Nm.tm x) 0 = true := by
  obtain ⟨hnm, hr⟩ := coll_right t h x hx
  have r := (right_iff _ _).1 hr
  refine ⟨r.op1, r.op2, ?_, hr⟩
  cases hn : (shpAt x.2).name
  · have := r.nm2 hn
    have e : (Nm.tm x).nm = str x.1 := rfl
    rw [e] at this
    have : x.1 = [] := by
      have := congrArg (fun b : ByteArray => b.data.toList) this
      simpa [str] using this
    rw [this] at hnm
    cases hnm
  · rfl
theorem Nm.sort {x : Nm} (hr : rightT (Nm.tm x) 0 = true) : sortF (Nm.tm x) = ((shpAt x.2).sort, 0) := by
  rw [sortF_eq, if_neg (by rw [Nm.tm_size, Nm.tm_dep]; omega), if_pos hr]; rfl
theorem put_own {t : Tm} (h : (sortF t).2 = 0) : PutF t ((NamesF t).map Nm.as) = (t, 0) := by
  obtain ⟨_, _, hr, _⟩ := sortF_ok h
  have hN : NamesF t = namesT t := by unfold NamesF; rw [if_neg (by omega)]
  have hall : ∀ x ∈ NamesF t, 1 ≤ x.2 ∧ x.2 ≤ 28 ∧ (shpAt x.2).name = true ∧ rightT (Nm.tm x) 0 = true := fun x hx => coll_named hr ((namesT_mem t x).1 (by rwa [hN] at hx))
  have hid : ptT (pickT ((NamesF t).map Nm.as)) t = t := by
    refine pt_id t hr fun x hx u hu => ?_
    obtain ⟨z, hz, e1, e2, e3⟩ := pickA_mem hu
    obtain ⟨y, hy, rfl⟩ := List.mem_map.1 hz
    obtain ⟨y1, y2, y3, y4⟩ := hall y hy
    obtain ⟨x1, x2, x3, x4⟩ := coll_named hr hx
    have e1 : str y.1 = str x.1 := e1
    have e2 : Nm.tm y = u := e2
    rw [← e2, Nm.sort y4] at e3
    have e3 := congrArg Prod.fst e3
    have e4 := name_ops y1 y2 x1 x2 y3 x3 e3
    have e5 : y.1 = x.1 := by
      have := congrArg (fun b : ByteArray => b.data.toList) e1
      simpa [str] using this
    rw [← e2]
    congr 1
    exact Prod.ext e5 e4
  rw [PutF_mk h fun x hx => ?_, hid]
  · unfold outF; rw [if_neg (by omega)]
  · obtain ⟨y, hy, rfl⟩ := List.mem_map.1 hx
    show (sortF (Nm.tm y)).2 = 0
    rw [Nm.sort (hall y hy).2.2.2]
/-- is a text one of a term's names? -/
def freeF (t : Tm) (s : ByteArray) : Bool := (NamesF t).any fun x => decide (str x.1 = s)
theorem freeF_iff {t : Tm} (h : (sortF t).2 = 0) (s : ByteArray) : freeF t s = true ↔ ∃ x ∈ collT t, str x.1 = s := by
  have hN : NamesF t = namesT t := by unfold NamesF; rw [if_neg (by omega)]
  unfold freeF
  rw [hN, List.any_eq_true]
  constructor
  · rintro ⟨x, hx, e⟩; exact ⟨x, (namesT_mem t x).1 hx, by simpa using e⟩
  · rintro ⟨x, hx, e⟩; exact ⟨x, (namesT_mem t x).2 hx, by simpa using e⟩
/-- who puts for a name that is not there changes nothing -/
theorem put_none {t : Tm} {l : List As} (h : (sortF t).2 = 0) (hl : ∀ x ∈ l, (sortF x.to).2 = 0) (hf : ∀ x ∈ l, freeF t x.nm = false) : PutF t l = (t, 0) := by
  obtain ⟨_, _, hr, _⟩ := sortF_ok h
  have hid : ptT (pickT l) t = t := by
    refine pt_id t hr fun x hx u hu => ?_
    obtain ⟨z, hz, e1, _, _⟩ := pickA_mem hu
    have := (freeF_iff h z.nm).2 ⟨x, hx, e1.symm⟩
    rw [hf z hz] at this
    cases this
  rw [PutF_mk h hl, hid]
  unfold outF; rw [if_neg (by omega)]
/-! ### an int, a set and a bool for a name -/
def oneL (nm : ByteArray) (n : Int) : List As := [⟨nm, .mk 1 ⟨#[]⟩ n []⟩, ⟨nm, mk 9 []⟩, ⟨nm, mk 17 []⟩]
theorem sort_num (n : Int) : sortF (.mk 1 ⟨#[]⟩ n []) = (1, 0) := by
  rw [sortF_eq, if_neg (by rw [Tm.size_mk, Tm.dep_mk, Tm.sizeL_nil, Tm.depL_nil]; omega), if_pos]
  · rfl
  · rw [right_iff]
    exact ⟨show (1 : Int) ≤ 1 by decide, show (1 : Int) ≤ 28 by decide, .inl rfl, fun h => (by cases h), fun _ => rfl, fun h => (by cases h), fun _ => rfl, fun i hi => absurd hi (Nat.not_lt_zero _)⟩
theorem sort_all : sortF (mk 9 []) = (2, 0) := by decide +kernel
theorem sort_false : sortF (mk 17 []) = (4, 0) := by decide +kernel
theorem one_pick (nm nm' : ByteArray) (n s : Int) : pickA (oneL nm n) nm' s = if nm = nm' then (if s = 1 then some (.mk 1 ⟨#[]⟩ n []) else if s = 2 then some (mk 9 []) else if s = 4 then some (mk 17 []) else none) else none := by
  unfold pickA oneL
  simp only [List.find?_cons, List.find?_nil, sort_num, sort_all, sort_false, Prod.mk.injEq, and_true]
  by_cases h : nm = nm'
  · subst h
    simp only [decide_true, Bool.true_and, if_true]
    by_cases h1 : s = 1
    · subst h1; rfl
    · rw [if_neg h1, decide_eq_false (fun e : (1 : Int) = s => h1 e.symm)]
      by_cases h2 : s = 2
      · subst h2; rfl
      · rw [if_neg h2, decide_eq_false (fun e : (2 : Int) = s => h2 e.symm)]
        by_cases h4 : s = 4
        · subst h4; rfl
        · rw [if_neg h4, decide_eq_false (fun e : (4 : Int) = s => h4 e.symm)]; rfl
  · simp only [decide_eq_false h, Bool.false_and, if_neg h]; rfl
structure OneSays (nm : ByteArray) (t u : Tm) : Prop where
  size : u.size = t.size
  dep : u.dep = t.dep
  coll : ∀ x : Nm, x ∈ collT u ↔ x ∈ collT t ∧ ¬ (str x.1 = nm ∧ x.2 ≠ 14)
theorem map_size {f : Tm → Tm} : ∀ {a : List Tm}, (∀ x ∈ a, (f x).size = x.size) → Tm.sizeL (a.map f) = Tm.sizeL a
  | [], _ => rfl
  | x :: r, h => by rw [List.map_cons, Tm.sizeL_cons, Tm.sizeL_cons, h x (by simp), map_size fun y hy => h y (by simp [hy])]
theorem map_dep {f : Tm → Tm} : ∀ {a : List Tm}, (∀ x ∈ a, (f x).dep = x.dep) → Tm.depL (a.map f) = Tm.depL a
  | [], _ => rfl
  | x :: r, h => by rw [List.map_cons, Tm.depL_cons, Tm.depL_cons, h x (by simp), map_dep fun y hy => h y (by simp [hy])]
theorem name_sort {op : Int} (h : op = 2 ∨ op = 7 ∨ op = 14 ∨ op = 15) : ((shpAt op).sort = 1 ∨ (shpAt op).sort = 2 ∨ (shpAt op).sort = 4) ↔ op ≠ 14 := by
  rcases h with rfl | rfl | rfl | rfl <;> decide
theorem one_says (nm : ByteArray) (n : Int) (t : Tm) : ∀ {s : Int}, rightT t s = true → OneSays nm t (ptT (pickT (oneL nm n)) t) := by
  induction t using Tm.ind' with
  | h t ih =>
    intro s h
    have r := (right_iff t s).1 h
    cases hn : (shpAt t.op).name with
    | true =>
      obtain ⟨e1, e2, e3, e4⟩ := named_self h hn
      have ho := (named_iff h).1 hn
      rw [pt_name h hn, one_pick]
      have hs : t.size = 1 := by rw [Tm.size_eq, e3, Tm.sizeL_nil]
      have hd : t.dep = 1 := by rw [Tm.dep_eq, e3, Tm.depL_nil]
      have same : (¬ (nm = t.nm ∧ t.op ≠ 14)) → OneSays nm t t := fun hne => ⟨rfl, rfl, fun x => by
        refine ⟨fun hx => ⟨hx, ?_⟩, fun hx => hx.1⟩
        rw [e4, List.mem_singleton] at hx
        subst hx
        rintro ⟨g1, g2⟩
        simp only at g1 g2
        rw [← str_of] at g1
        exact hne ⟨g1.symm, g2⟩⟩
      have gone : ∀ u : Tm, u.size = 1 → u.dep = 1 → collT u = [] → nm = t.nm → t.op ≠ 14 → OneSays nm t u := fun u hu1 hu2 hu3 g1 g2 => ⟨by omega, by omega, fun x => by
        rw [hu3, e4, List.mem_singleton]
        refine ⟨fun hx => (by cases hx), ?_⟩
        rintro ⟨rfl, hx⟩
        exact absurd ⟨by simp only; rw [← str_of, g1], g2⟩ hx⟩
      split
      · next hnm =>
        split
        · next h1 => exact gone _ (by rw [Option.getD_some, Tm.size_mk, Tm.sizeL_nil]) rfl rfl hnm ((name_sort ho).1 (.inl h1))
        · next h1 =>
          split
          · next h2 => exact gone _ rfl rfl rfl hnm ((name_sort ho).1 (.inr (.inl h2)))
          · next h2 =>
            split
            · next h4 => exact gone _ rfl rfl rfl hnm ((name_sort ho).1 (.inr (.inr h4)))
            · next h4 => exact same fun hh => ((name_sort ho).2 hh.2).elim h1 fun g => g.elim h2 h4
      · next hnm => exact same fun hh => hnm hh.1
    | false =>
      rw [pt_bare h hn]
      have hk : ∀ x ∈ t.a, OneSays nm x (ptT (pickT (oneL nm n)) x) := fun x hx => by
        obtain ⟨i, hi, rfl⟩ := List.mem_iff_getElem.1 hx
        exact ih _ hx (r.kids i hi)
      refine ⟨?_, ?_, fun x => ?_⟩
      · rw [Tm.size_mk, Tm.size_eq, map_size fun x hx => (hk x hx).size]
      · rw [Tm.dep_mk, Tm.dep_eq, map_dep fun x hx => (hk x hx).dep]
      · rw [collT, if_pos (r.nm2 hn), collT_eq t, if_pos (r.nm2 hn)]
        rw [List.nil_append, List.nil_append, collL_mem, collL_mem]
        constructor
        · rintro ⟨u, hu, hx⟩
          obtain ⟨v, hv, rfl⟩ := List.mem_map.1 hu
          obtain ⟨k1, k2⟩ := ((hk v hv).coll x).1 hx
          exact ⟨⟨v, hv, k1⟩, k2⟩
        · rintro ⟨⟨v, hv, k1⟩, k2⟩
          exact ⟨_, List.mem_map_of_mem hv, ((hk v hv).coll x).2 ⟨k1, k2⟩⟩
theorem put_one {t : Tm} (nm : ByteArray) (n : Int) (h : (sortF t).2 = 0) : PutF t (oneL nm n) = (ptT (pickT (oneL nm n)) t, 0) ∧ OneSays nm t (ptT (pickT (oneL nm n)) t) := by
  obtain ⟨h1, h2, hr, h3⟩ := sortF_ok h
  have k := one_says nm n t hr
  refine ⟨?_, k⟩
  rw [PutF_mk h fun x hx => ?_]
  · have : sortF (ptT (pickT (oneL nm n)) t) = ((shpAt (ptT (pickT (oneL nm n)) t).op).sort, 0) := by
      rw [sortF_eq, if_neg (by rw [k.size, k.dep]; omega), if_pos (pt_right _ t hr)]
    exact outF_of this
  · unfold oneL at hx
    simp only [List.mem_cons, List.not_mem_nil, or_false] at hx
    rcases hx with rfl | rfl | rfl
    · show (sortF _).2 = 0; rw [sort_num]
    · show (sortF _).2 = 0; rw [sort_all]
    · show (sortF _).2 = 0; rw [sort_false]
theorem one_free {t : Tm} (nm : ByteArray) (n : Int) (h : (sortF t).2 = 0) : freeF (PutF t (oneL nm n)).1 nm = (NamesF t).any fun x => decide (x.2 = 14) && decide (str x.1 = nm) := by
  obtain ⟨e, k⟩ := put_one nm n h
  have hok : (sortF (PutF t (oneL nm n)).1).2 = 0 := by
    have := (PutF_ok (t := t) (l := oneL nm n) (by rw [e])).2.2.1
    rw [e]; exact this
  have hN : NamesF t = namesT t := by unfold NamesF; rw [if_neg (by omega)]
  rw [Bool.eq_iff_iff, freeF_iff hok, e, List.any_eq_true, hN]
  simp only [Bool.and_eq_true, decide_eq_true_eq]
  constructor
  · rintro ⟨x, hx, hs⟩
    obtain ⟨k1, k2⟩ := (k.coll x).1 hx
    refine ⟨x, (namesT_mem t x).2 k1, Classical.byContradiction fun h14 => ?_⟩
    exact k2 ⟨hs, fun h => h14 ⟨h, hs⟩⟩
  · rintro ⟨x, hx, h14, hs⟩
    exact ⟨x, (k.coll x).2 ⟨(namesT_mem t x).1 hx, fun hh => hh.2 h14⟩, hs⟩
/-! ### twice -/
theorem pick1 (nm nm' : ByteArray) (u : Tm) (s s' : Int) (h : sortF u = (s, 0)) : pickA [⟨nm, u⟩] nm' s' = if nm = nm' ∧ s = s' then some u else none := by
  unfold pickA
  simp only [List.find?_cons, List.find?_nil, h, Prod.mk.injEq, and_true]
  by_cases h1 : nm = nm' <;> by_cases h2 : s = s' <;> simp [h1, h2]
theorem pick2 (nm nm2 nm' : ByteArray) (u v : Tm) (s s' : Int) (h : sortF u = (s, 0)) (h2 : sortF v = (s, 0)) (hne : nm ≠ nm2) : pickA [⟨nm, u⟩, ⟨nm2, v⟩] nm' s' = if nm = nm' ∧ s = s' then some u else if nm2 = nm' ∧ s = s' then some v else none := by
  unfold pickA
  simp only [List.find?_cons, List.find?_nil, h, h2, Prod.mk.injEq, and_true]
  by_cases h1 : nm = nm' <;> by_cases h2 : s = s' <;> by_cases h3 : nm2 = nm' <;> simp [h1, h2, h3]
theorem pt_twice {x y : ByteArray} {a b : Tm} {k : Int} (hne : x ≠ y) (ha : sortF a = (k, 0)) (hb : sortF b = (k, 0)) (hg : sortF (ptT (pickT [⟨y, b⟩]) a) = (k, 0)) (t : Tm) : ∀ {s : Int}, rightT t s = true →
    ptT (pickT [⟨y, b⟩]) (ptT (pickT [⟨x, a⟩]) t) = ptT (pickT [⟨x, ptT (pickT [⟨y, b⟩]) a⟩, ⟨y, b⟩]) t := by
  induction t using Tm.ind' with
  | h t ih =>
    intro s h
    have r := (right_iff t s).1 h
    cases hn : (shpAt t.op).name with
    | true =>
      rw [pt_name h hn, pt_name h hn, pick1 _ _ _ _ _ ha, pick2 _ _ _ _ _ _ _ hg hb hne]
      by_cases h1 : x = t.nm ∧ k = (shpAt t.op).sort
      · rw [if_pos h1, if_pos h1]; rfl
      · rw [if_neg h1, if_neg h1]
        show ptT _ t = _
        rw [pt_name h hn, pick1 _ _ _ _ _ hb]
    | false =>
      rw [pt_bare h hn, pt_bare h hn]
      have hr' : rightT (Tm.mk t.op t.nm t.n (t.a.map (ptT (pickT [⟨x, a⟩])))) s = true := by
        have := pt_right [⟨x, a⟩] t h
        rwa [pt_bare h hn] at this
      rw [pt_bare hr' hn]
      show Tm.mk t.op t.nm t.n ((t.a.map _).map _) = _
      rw [List.map_map]
      congr 1
      refine List.map_congr_left fun z hz => ?_
      obtain ⟨i, hi, rfl⟩ := List.mem_iff_getElem.1 hz
      exact ih _ hz (r.kids i hi)
end Go.V
/- Fresh names. -/
set_option linter.unusedVariables false
namespace Go.V
open Go
def digL (k : Nat) : List UInt8 := if k < 10 then [UInt8.ofNat (48 + k)] else [UInt8.ofNat (48 + k / 10), UInt8.ofNat (48 + k % 10)]
def tryL (l : List UInt8) (k : Nat) : List UInt8 := l.take 13 ++ [95] ++ digL k
def baseL (l : List UInt8) : List UInt8 := if nameF l = true then l else [120]
def takenF (ts : List Tm) (l : List UInt8) : Bool := ts.any fun t => freeF t (str l)
def freshG (tk : List UInt8 → Bool) (l : List UInt8) : Nat → Nat → List UInt8
  | k, 0 => tryL l k
  | k, n + 1 => if tk (tryL l k) then freshG tk l (k + 1) n else tryL l k
def freshL (ts : List Tm) (l : List UInt8) : List UInt8 := if takenF ts (baseL l) then freshG (takenF ts) (baseL l) 0 99 else baseL l
theorem digL_len (k : Nat) : (digL k).length ≤ 2 ∧ 1 ≤ (digL k).length := by unfold digL; split <;> simp
theorem digL_chars {k : Nat} (h : k < 100) : ∀ x ∈ digL k, inS chars x = true := by
  have : ∀ i : Fin 100, ∀ x ∈ digL i.1, inS chars x = true := by decide +kernel
  exact this ⟨k, h⟩
theorem digL_inj {i j : Nat} (hi : i < 100) (hj : j < 100) (h : digL i = digL j) : i = j := by
  have : ∀ i j : Fin 100, digL i.1 = digL j.1 → i = j := by decide +kernel
  exact congrArg Fin.val (this ⟨i, hi⟩ ⟨j, hj⟩ h)
theorem tryL_inj {l : List UInt8} {i j : Nat} (hi : i < 100) (hj : j < 100) (h : tryL l i = tryL l j) : i = j := digL_inj hi hj (List.append_cancel_left h)
theorem name_iff {l : List UInt8} : nameF l = true ↔ ∃ x r, l = x :: r ∧ l.length ≤ 16 ∧ 0 ≤ Lib.indexByte letters x ∧ ∀ y ∈ l, inS chars y = true := by
  cases l with
  | nil => exact ⟨fun h => (by cases h), fun ⟨_, _, h, _⟩ => (by cases h)⟩
  | cons x r =>
    unfold nameF
    simp only [Bool.and_eq_true, decide_eq_true_eq, trim_nil]
    constructor
    · rintro ⟨⟨h1, h2⟩, h3⟩; exact ⟨x, r, rfl, h1, h2, h3⟩
    · rintro ⟨y, s, e, h1, h2, h3⟩
      cases e
      exact ⟨⟨h1, h2⟩, h3⟩
theorem base_name (l : List UInt8) : nameF (baseL l) = true := by
  unfold baseL
  split
  · assumption
  · decide +kernel
theorem try_name {l : List UInt8} {k : Nat} (h : nameF l = true) (hk : k < 100) : nameF (tryL l k) = true := by
  obtain ⟨x, r, rfl, h1, h2, h3⟩ := name_iff.1 h
  refine name_iff.2 ⟨x, r.take 12 ++ [95] ++ digL k, by unfold tryL; rfl, ?_, h2, ?_⟩
  · unfold tryL
    have := digL_len k
    simp only [List.length_append, List.length_take, List.length_cons, List.length_nil]
    omega
  · intro y hy
    unfold tryL at hy
    rw [List.mem_append, List.mem_append] at hy
    rcases hy with (hy | hy) | hy
    · exact h3 y (List.mem_of_mem_take hy)
    · rw [List.mem_singleton] at hy; subst hy; decide +kernel
    · exact digL_chars hk y hy
theorem freshG_try (tk : List UInt8 → Bool) (l : List UInt8) : ∀ n k, ∃ j, k ≤ j ∧ j ≤ k + n ∧ freshG tk l k n = tryL l j
  | 0, k => ⟨k, Nat.le_refl _, Nat.le_refl _, rfl⟩
  | n + 1, k => by
    rw [freshG]
    split
    · obtain ⟨j, h1, h2, h3⟩ := freshG_try tk l n (k + 1)
      exact ⟨j, by omega, by omega, h3⟩
    · exact ⟨k, Nat.le_refl _, by omega, rfl⟩
theorem freshG_free (tk : List UInt8 → Bool) (l : List UInt8) : ∀ n k, (∃ j, k ≤ j ∧ j ≤ k + n ∧ tk (tryL l j) = false) → tk (freshG tk l k n) = false
  | 0, k, h => by
    obtain ⟨j, h1, h2, h3⟩ := h
    obtain rfl : j = k := by omega
    exact h3
  | n + 1, k, h => by
    rw [freshG]
    split
    · next hk =>
      obtain ⟨j, h1, h2, h3⟩ := h
      refine freshG_free tk l n (k + 1) ⟨j, ?_, by omega, h3⟩
      rcases Nat.eq_or_lt_of_le h1 with rfl | h1
      · rw [hk] at h3; cases h3
      · exact h1
    · next hk => simpa using hk
theorem fresh_name (ts : List Tm) (l : List UInt8) : nameF (freshL ts l) = true := by
  unfold freshL
  split
  · obtain ⟨j, _, h2, h3⟩ := freshG_try (takenF ts) (baseL l) 99 0
    rw [h3]
    exact try_name (base_name l) (by omega)
  · exact base_name l
theorem take_try (l : List UInt8) (k : Nat) : (tryL l k).take (min l.length 13) = l.take (min l.length 13) := by
  unfold tryL
  rw [List.append_assoc, List.take_append_of_le_length (by rw [List.length_take]; omega), List.take_take]
  congr 1
  omega
theorem fresh_take (ts : List Tm) (l : List UInt8) : min (baseL l).length 13 ≤ (freshL ts l).length ∧ (freshL ts l).take (min (baseL l).length 13) = (baseL l).take (min (baseL l).length 13) := by
  unfold freshL
  split
  · obtain ⟨j, _, h2, h3⟩ := freshG_try (takenF ts) (baseL l) 99 0
    rw [h3]
    refine ⟨?_, take_try _ _⟩
    unfold tryL
    simp only [List.length_append, List.length_take]
    omega
  · exact ⟨by omega, rfl⟩
theorem nodup_sub {α : Type} [DecidableEq α] : ∀ {l m : List α}, l.Nodup → (∀ x ∈ l, x ∈ m) → l.length ≤ m.length
  | [], _, _, _ => Nat.zero_le _
  | x :: l, m, h, hs => by
    rw [List.nodup_cons] at h
    have hx := hs x (by simp)
    have := nodup_sub (l := l) (m := m.erase x) h.2 fun y hy => (List.mem_erase_of_ne (fun (e : y = x) => h.1 (by rw [← e]; exact hy))).2 (hs y (by simp [hy]))
    rw [List.length_erase_of_mem hx] at this
    have := List.length_pos_of_mem hx
    rw [List.length_cons]; omega
def namesN (ts : List Tm) : Nat := match ts with | [] => 0 | t :: r => (NamesF t).length + namesN r
theorem namesN_flat (ts : List Tm) : (ts.flatMap fun t => (NamesF t).map Prod.fst).length = namesN ts := by
  induction ts with
  | nil => rfl
  | cons t r ih => rw [List.flatMap_cons, List.length_append, ih, List.length_map]; rfl
theorem fresh_free {ts : List Tm} (l : List UInt8) (h : namesN ts < 100) : takenF ts (freshL ts l) = false := by
  unfold freshL
  split
  · refine freshG_free _ _ 99 0 (Classical.byContradiction fun hn => ?_)
    have hall : ∀ j, j < 100 → takenF ts (tryL (baseL l) j) = true := fun j hj => by
      cases e : takenF ts (tryL (baseL l) j)
      · exact absurd ⟨j, Nat.zero_le _, by omega, e⟩ hn
      · rfl
    have hnd : ((List.range 100).map (tryL (baseL l))).Nodup := by
      rw [List.Nodup, List.pairwise_map]
      refine List.Pairwise.imp_of_mem ?_ (List.nodup_range (n := 100))
      intro i j hi hj hne he
      rw [List.mem_range] at hi hj
      exact hne (tryL_inj hi hj he)
    have := nodup_sub (m := ts.flatMap fun t => (NamesF t).map Prod.fst) hnd fun x hx => by
      obtain ⟨j, hj, rfl⟩ := List.mem_map.1 hx
      have := hall j (List.mem_range.1 hj)
      unfold takenF at this
      rw [List.any_eq_true] at this
      obtain ⟨t, ht, hf⟩ := this
      unfold freeF at hf
      rw [List.any_eq_true] at hf
      obtain ⟨y, hy, he⟩ := hf
      have he : str y.1 = str (tryL (baseL l) j) := by simpa using he
      exact List.mem_flatMap.2 ⟨t, ht, List.mem_map.2 ⟨y, hy, str_inj he⟩⟩
    rw [List.length_map, List.length_range, namesN_flat] at this
    omega
  · next hk => simpa using hk
end Go.V
