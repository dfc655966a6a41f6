/- What is put in the place of names: the plain function, and the one that counts as it goes. -/
import Derived.Test.YtaigilchnadmpaaDoorN1
set_option linter.unusedVariables false
namespace Go.V
open Go
/-- a name that becomes a term -/
structure As where
  nm : ByteArray
  to : Tm
def As.cr (x : As) : List D := .s x.nm :: x.to.cs
theorem As.cr_len (x : As) : x.cr.length = 5 := rfl
theorem As.cr_one (x : As) : x.cr.all D.one = true := rfl
def Nm.as (x : Nm) : As := ⟨str x.1, Nm.tm x⟩
theorem Nm.as_cr (x : Nm) : (Nm.as x).cr = Nm.cr x := rfl
theorem names_as (l : List Nm) : l.map Nm.cr = (l.map Nm.as).map As.cr := by rw [List.map_map]; rfl
mutual
def ptT (g : Tm → Option Tm) : Tm → Tm
  | .mk op nm n a => (g (.mk op nm n a)).getD (.mk op nm n (ptL g a))
def ptL (g : Tm → Option Tm) : List Tm → List Tm
  | [] => []
  | x :: r => ptT g x :: ptL g r
end
mutual
def cp0 : Tm → Int → Tm × Int
  | .mk op nm n a, c => (.mk op nm n (cp0L a (c + 1)).1, (cp0L a (c + 1)).2)
def cp0L : List Tm → Int → List Tm × Int
  | [], c => ([], c)
  | x :: r, c => if c > 2000 then ([], c) else ((cp0 x c).1 :: (cp0L r (cp0 x c).2).1, (cp0L r (cp0 x c).2).2)
end
mutual
def cpT (g : Tm → Option Tm) : Tm → Int → Tm × Int
  | .mk op nm n a, c => match g (.mk op nm n a) with
    | some u => cp0 u c
    | none => (.mk op nm n (cpL g a (c + 1)).1, (cpL g a (c + 1)).2)
def cpL (g : Tm → Option Tm) : List Tm → Int → List Tm × Int
  | [], c => ([], c)
  | x :: r, c => if c > 2000 then ([], c) else ((cpT g x c).1 :: (cpL g r (cpT g x c).2).1, (cpL g r (cpT g x c).2).2)
end
theorem ptL_map (g : Tm → Option Tm) : ∀ a, ptL g a = a.map (ptT g)
  | [] => by rw [ptL]; rfl
  | x :: r => by rw [ptL, ptL_map g r]; rfl
theorem ptT_eq (g : Tm → Option Tm) (t : Tm) : ptT g t = (g t).getD (.mk t.op t.nm t.n (t.a.map (ptT g))) := by
  cases t; rw [ptT, ptL_map]; rfl
theorem ptT_some {g : Tm → Option Tm} {t u : Tm} (h : g t = some u) : ptT g t = u := by rw [ptT_eq, h]; rfl
theorem ptT_none {g : Tm → Option Tm} {t : Tm} (h : g t = none) : ptT g t = .mk t.op t.nm t.n (t.a.map (ptT g)) := by rw [ptT_eq, h]; rfl
theorem cpT_eq (g : Tm → Option Tm) (t : Tm) (c : Int) : cpT g t c = match g t with
    | some u => cp0 u c
    | none => (.mk t.op t.nm t.n (cpL g t.a (c + 1)).1, (cpL g t.a (c + 1)).2) := by cases t; rw [cpT]; rfl
mutual
theorem cp0_eq : ∀ (t : Tm) (c : Int), cp0 t c = cpT (fun _ => none) t c
  | .mk op nm n a, c => by rw [cp0, cpT, cp0L_eq a]
theorem cp0L_eq : ∀ (a : List Tm) (c : Int), cp0L a c = cpL (fun _ => none) a c
  | [], c => by rw [cp0L, cpL]
  | x :: r, c => by rw [cp0L, cpL, cp0_eq x, cp0L_eq r]
end
theorem pt0 (t : Tm) : ptT (fun _ => none) t = t := by
  induction t using Tm.ind' with
  | h t ih =>
    rw [ptT_none rfl]
    have : t.a.map (ptT fun _ => none) = t.a := by
      conv => rhs; rw [← List.map_id t.a]
      exact List.map_congr_left ih
    rw [this]; cases t; rfl
structure CpSays (p : Tm) (c : Int) (r : Tm × Int) : Prop where
  size : r.2 = c + r.1.size
  most : r.2 ≤ 2001
  small : r.2 ≤ 2000 → r.1 = p
  large : 2000 < r.2 → 2000 < c + p.size
theorem cpL_says {g : Tm → Option Tm} : ∀ (a : List Tm), (∀ x ∈ a, ∀ c : Int, 0 ≤ c → c ≤ 2000 → CpSays (ptT g x) c (cpT g x c)) → ∀ c : Int, 0 ≤ c → c ≤ 2001 →
    (cpL g a c).2 = c + Tm.sizeL (cpL g a c).1 ∧ (cpL g a c).2 ≤ 2001 ∧ ((cpL g a c).2 ≤ 2000 → (cpL g a c).1 = a.map (ptT g)) ∧ (2000 < (cpL g a c).2 → 2000 < c + Tm.sizeL (a.map (ptT g)))
  | [], _, c, h0, h1 => by rw [cpL]; simp only [Tm.sizeL_nil, List.map_nil]; exact ⟨by omega, h1, fun _ => trivial, fun h => by omega⟩
  | x :: r, ih, c, h0, h1 => by
    rw [cpL]
    split
    · next hc =>
      simp only [Tm.sizeL_nil]
      exact ⟨by omega, h1, fun h => by omega, fun h => by omega⟩
    · next hc =>
      obtain ⟨k1, k2, k3, k4⟩ := ih x (by simp) c h0 (by omega)
      have hp := Tm.size_pos (cpT g x c).1
      obtain ⟨j1, j2, j3, j4⟩ := cpL_says r (fun y hy => ih y (by simp [hy])) (cpT g x c).2 (by omega) k2
      simp only [Tm.sizeL_cons, List.map_cons]
      refine ⟨by omega, j2, fun h => ?_, fun h => ?_⟩
      · rw [j3 h, k3 (by omega)]
      · rcases (by omega : 2000 < (cpT g x c).2 ∨ (cpT g x c).2 ≤ 2000) with h' | h'
        · have := k4 h'; omega
        · rw [← k3 h']; have := j4 h; omega
theorem cpN_says {g : Tm → Option Tm} {t : Tm} (hg : g t = none) (ih : ∀ x ∈ t.a, ∀ c : Int, 0 ≤ c → c ≤ 2000 → CpSays (ptT g x) c (cpT g x c)) (c : Int) (h0 : 0 ≤ c) (h1 : c ≤ 2000) : CpSays (ptT g t) c (cpT g t c) := by
  rw [cpT_eq, hg, ptT_none hg]
  obtain ⟨k1, k2, k3, k4⟩ := cpL_says t.a ih (c + 1) (by omega) (by omega)
  refine ⟨?_, k2, fun h => ?_, fun h => ?_⟩
  · show (cpL g t.a (c + 1)).2 = _
    rw [Tm.size_mk]; omega
  · show Tm.mk _ _ _ _ = _
    rw [k3 h]
  · rw [Tm.size_mk]
    have := k4 h; omega
theorem cp0_says (t : Tm) : ∀ c : Int, 0 ≤ c → c ≤ 2000 → CpSays t c (cp0 t c) := by
  have : ∀ c : Int, 0 ≤ c → c ≤ 2000 → CpSays (ptT (fun _ => none) t) c (cpT (fun _ => none) t c) := by
    induction t using Tm.ind' with
    | h t ih => exact cpN_says rfl ih
  intro c h0 h1
  rw [cp0_eq]
  have h := this c h0 h1
  rwa [pt0] at h
theorem cpT_says (g : Tm → Option Tm) (t : Tm) : ∀ c : Int, 0 ≤ c → c ≤ 2000 → CpSays (ptT g t) c (cpT g t c) := by
  induction t using Tm.ind' with
  | h t ih =>
    intro c h0 h1
    cases hg : g t with
    | none => exact cpN_says hg ih c h0 h1
    | some u => rw [cpT_eq, hg, ptT_some hg]; exact cp0_says u c h0 h1
/-- what a name becomes: the first of its sort -/
def pickA (l : List As) (nm : ByteArray) (s : Int) : Option Tm := (l.find? fun x => decide (x.nm = nm) && decide (sortF x.to = (s, 0))).map As.to
def pickT (l : List As) (t : Tm) : Option Tm := if t.nm = ⟨#[]⟩ then none else pickA l t.nm (shpAt t.op).sort
/-- the first error -/
def badA : List As → Int
  | [] => 0
  | x :: r => if (sortF x.to).2 ≠ 0 then (sortF x.to).2 else badA r
def outF (u : Tm) : Tm × Int := if (sortF u).2 ≠ 0 then (mk 0 [], (sortF u).2) else (u, 0)
def PutF (t : Tm) (l : List As) : Tm × Int :=
  if (sortF t).2 ≠ 0 then (mk 0 [], (sortF t).2) else if badA l ≠ 0 then (mk 0 [], badA l) else outF (ptT (pickT l) t)
theorem sort_big {t : Tm} (h : 2000 < t.size) : sortF t = (0, 7) := by rw [sortF_eq, if_pos (.inl h)]
/-- who counts as he goes says the same in the end -/
theorem out_count (g : Tm → Option Tm) (t : Tm) : outF (cpT g t 0).1 = outF (ptT g t) := by
  obtain ⟨k1, k2, k3, k4⟩ := cpT_says g t 0 (by omega) (by omega)
  rcases (by omega : 2000 < (cpT g t 0).2 ∨ (cpT g t 0).2 ≤ 2000) with h | h
  · unfold outF
    rw [sort_big (t := (cpT g t 0).1) (by omega), sort_big (t := ptT g t) (by have := k4 h; omega)]
    rfl
  · rw [k3 h]
theorem badA_ok : ∀ {l : List As}, badA l = 0 ↔ ∀ x ∈ l, (sortF x.to).2 = 0
  | [] => by simp [badA]
  | x :: r => by
    rw [badA]
    split
    · next h => exact ⟨fun h' => absurd h' h, fun h' => absurd (h' x (by simp)) h⟩
    · next h =>
      rw [badA_ok]
      simp only [List.mem_cons, forall_eq_or_imp]
      exact ⟨fun h' => ⟨by omega, h'⟩, fun h' => h'.2⟩
theorem outF_dep (u : Tm) : (outF u).1.dep ≤ 100 := by
  unfold outF
  split
  · exact (by decide : (mk 0 []).dep ≤ 100)
  · next h => exact (sortF_ok (Classical.not_not.1 h)).2.1
theorem PutF_dep (t : Tm) (l : List As) : (PutF t l).1.dep ≤ 100 := by
  unfold PutF
  split
  · exact (by decide : (mk 0 []).dep ≤ 100)
  split
  · exact (by decide : (mk 0 []).dep ≤ 100)
  exact outF_dep _
theorem PutF_ok {t : Tm} {l : List As} (h : (PutF t l).2 = 0) : (sortF t).2 = 0 ∧ (∀ x ∈ l, (sortF x.to).2 = 0) ∧ (sortF (ptT (pickT l) t)).2 = 0 ∧ (PutF t l).1 = ptT (pickT l) t := by
  unfold PutF at h ⊢
  split at h
  · next h1 => exact absurd h h1
  · next h1 =>
    rw [if_neg h1]
    split at h
    · next h2 => exact absurd h h2
    · next h2 =>
      rw [if_neg h2]
      unfold outF at h ⊢
      split at h
      · next h3 => exact absurd h h3
      · next h3 => rw [if_neg h3]; exact ⟨by omega, badA_ok.1 (by omega), by omega, rfl⟩
theorem PutF_mk {t : Tm} {l : List As} (h1 : (sortF t).2 = 0) (h2 : ∀ x ∈ l, (sortF x.to).2 = 0) : PutF t l = outF (ptT (pickT l) t) := by
  unfold PutF
  rw [if_neg (by omega), if_neg (by have := badA_ok.2 h2; omega)]
theorem outF_of {u : Tm} {s : Int} (h : sortF u = (s, 0)) : outF u = (u, 0) := by unfold outF; rw [h]; rfl
theorem pickA_mem {l : List As} {nm : ByteArray} {s : Int} {u : Tm} (h : pickA l nm s = some u) : ∃ x ∈ l, x.nm = nm ∧ x.to = u ∧ sortF u = (s, 0) := by
  unfold pickA at h
  obtain ⟨x, hx, rfl⟩ := Option.map_eq_some_iff.1 h
  have h1 := List.mem_of_find?_eq_some hx
  have h2 := List.find?_some hx
  simp only [Bool.and_eq_true, decide_eq_true_eq] at h2
  exact ⟨x, h1, h2.1, rfl, h2.2⟩
/-- of a right term: a name alone is put for -/
theorem pick_named {l : List As} {t u : Tm} {s : Int} (h : rightT t s = true) (hp : pickT l t = some u) : (shpAt t.op).name = true ∧ pickA l t.nm (shpAt t.op).sort = some u := by
  unfold pickT at hp
  split at hp
  · cases hp
  · next hn =>
    have r := (right_iff t s).1 h
    refine ⟨?_, hp⟩
    cases e : (shpAt t.op).name
    · exact absurd (r.nm2 e) hn
    · rfl
/-- what is put keeps the sort -/
theorem pt_right (l : List As) (t : Tm) : ∀ {s : Int}, rightT t s = true → rightT (ptT (pickT l) t) s = true := by
  induction t using Tm.ind' with
  | h t ih =>
    intro s h
    cases hp : pickT l t with
    | some u =>
      rw [ptT_some hp]
      obtain ⟨_, h2⟩ := pick_named h hp
      obtain ⟨x, _, _, _, hs⟩ := pickA_mem h2
      obtain ⟨_, _, h5, h6⟩ := sortF_ok (by rw [hs])
      rw [hs] at h6
      have r := (right_iff t s).1 h
      rcases r.sort with rfl | e
      · exact right_any h5
      · exact right_of h5 (by rw [← h6]; exact e)
    | none =>
      rw [ptT_none hp, right_iff]
      have r := (right_iff t s).1 h
      refine ⟨r.op1, r.op2, r.sort, r.nm1, r.nm2, r.num, fun hm => ?_, fun i hi => ?_⟩
      · show (t.a.map _).length = _
        rw [List.length_map]; exact r.len hm
      · have hi' : i < t.a.length := by
          have : i < (t.a.map (ptT (pickT l))).length := hi
          rwa [List.length_map] at this
        have e : (t.a.map (ptT (pickT l)))[i]'(by rw [List.length_map]; exact hi') = ptT (pickT l) t.a[i] := List.getElem_map ..
        show rightT ((t.a.map (ptT (pickT l)))[i]'(by rw [List.length_map]; exact hi')) _ = true
        rw [e]
        exact ih _ (List.getElem_mem hi') (r.kids i hi')
/-- what is made of right terms is right, or too large -/
theorem outF_err {l : List As} {t : Tm} {s : Int} (h : rightT t s = true) (he : (outF (ptT (pickT l) t)).2 ≠ 0) : (outF (ptT (pickT l) t)).2 = 7 := by
  have hr := right_any (pt_right l t h)
  unfold outF at he ⊢
  by_cases h2 : (ptT (pickT l) t).size > 2000 ∨ (ptT (pickT l) t).dep > 100
  · rw [sortF_eq, if_pos h2]; rfl
  · rw [sortF_eq, if_neg h2, if_pos hr] at he
    exact absurd rfl he
end Go.V
