/- What is put in the place of names: the plain function, and the one that counts as it goes. -/
import Derived.Test.YtdalobojhfafbaaGreatDoorN4
set_option linter.unusedVariables false
namespace Go.V
open Go
structure As where
  nm : ByteArray
  to : Tm
def As.cr (x : As) : List D := .s x.nm :: x.to.cs
theorem As.cr_len (x : As) : x.cr.length = 5 := rfl
theorem As.cr_one (x : As) : x.cr.all D.one = true := rfl
def Nm.as (x : Nm) : As := ⟨str x.1, Nm.tm x⟩
mutual
def ptT (g : Tm → Option Tm) : Tm → Tm
  | .mk op nm n a => (g (.mk op nm n a)).getD (.mk op nm n (ptL g a))
def ptL (g : Tm → Option Tm) : List Tm → List Tm
  | [] => []
  | x :: r => ptT g x :: ptL g r
end
mutual
def cp0 : Tm → Int → Tm × Int
  | .mk op nm n a, c => (.mk op nm n (cp0L a (c + 1)).1, (cp0L a (c + 1)).2)
def cp0L : List Tm → Int → List Tm × Int
  | [], c => ([], c)
  | x :: r, c => if c > 2000 then ([], c) else ((cp0 x c).1 :: (cp0L r (cp0 x c).2).1, (cp0L r (cp0 x c).2).2)
end
mutual
def cpT (g : Tm → Option Tm) : Tm → Int → Tm × Int
  | .mk op nm n a, c => match g (.mk op nm n a) with
    | some u => cp0 u c
    | none => (.mk op nm n (cpL g a (c + 1)).1, (cpL g a (c + 1)).2)
def cpL (g : Tm → Option Tm) : List Tm → Int → List Tm × Int
  | [], c => ([], c)
  | x :: r, c => if c > 2000 then ([], c) else ((cpT g x c).1 :: (cpL g r (cpT g x c).2).1, (cpL g r (cpT g x c).2).2)
end
theorem ptL_map (g : Tm → Option Tm) : ∀ a, ptL g a = a.map (ptT g)
  | [] => by rw [ptL]; rfl
  | x :: r => by rw [ptL, ptL_map g r]; rfl
theorem ptT_eq (g : Tm → Option Tm) (t : Tm) : ptT g t = (g t).getD (.mk t.op t.nm t.n (t.a.map (ptT g))) := by
  cases t; rw [ptT, ptL_map]; rfl
theorem ptT_some {g : Tm → Option Tm} {t u : Tm} (h : g t = some u) : ptT g t = u := by rw [ptT_eq, h]; rfl
theorem ptT_none {g : Tm → Option Tm} {t : Tm} (h : g t = none) : ptT g t = .mk t.op t.nm t.n (t.a.map (ptT g)) := by rw [ptT_eq, h]; rfl
theorem cpT_eq (g : Tm → Option Tm) (t : Tm) (c : Int) : cpT g t c = match g t with
    | some u => cp0 u c
    | none => (.mk t.op t.nm t.n (cpL g t.a (c + 1)).1, (cpL g t.a (c + 1)).2) := by cases t; rw [cpT]; rfl
mutual
theorem cp0_eq : ∀ (t : Tm) (c : Int), cp0 t c = cpT (fun _ => none) t c
  | .mk op nm n a, c => by rw [cp0, cpT, cp0L_eq a]
theorem cp0L_eq : ∀ (a : List Tm) (c : Int), cp0L a c = cpL (fun _ => none) a c
  | [], c => by rw [cp0L, cpL]
  | x :: r, c => by rw [cp0L, cpL, cp0_eq x, cp0L_eq r]
end
theorem pt0 (t : Tm) : ptT (fun _ => none) t = t := by
  induction t using Tm.ind' with
  | h t ih =>
    rw [ptT_none rfl]
    have : t.a.map (ptT fun _ => none) = t.a := by
      conv => rhs; rw [← List.map_id t.a]
      exact List.map_congr_left ih
    rw [this]; cases t; rfl
structure CpSays (p : Tm) (c : Int) (r : Tm × Int) : Prop where
  size : r.2 = c + r.1.size
  most : r.2 ≤ 2001
  small : r.2 ≤ 2000 → r.1 = p
  large : 2000 < r.2 → 2000 < c + p.size
theorem cpL_says {g : Tm → Option Tm} : ∀ (a : List Tm), (∀ x ∈ a, ∀ c : Int, 0 ≤ c → c ≤ 2000 → CpSays (ptT g x) c (cpT g x c)) → ∀ c : Int, 0 ≤ c → c ≤ 2001 →
    (cpL g a c).2 = c + Tm.sizeL (cpL g a c).1 ∧ (cpL g a c).2 ≤ 2001 ∧ ((cpL g a c).2 ≤ 2000 → (cpL g a c).1 = a.map (ptT g)) ∧ (2000 < (cpL g a c).2 → 2000 < c + Tm.sizeL (a.map (ptT g)))
  | [], _, c, h0, h1 => by rw [cpL]; simp only [Tm.sizeL_nil, List.map_nil]; exact ⟨by omega, h1, fun _ => trivial, fun h => by omega⟩
  | x :: r, ih, c, h0, h1 => by
    rw [cpL]
    split
    · next hc =>
      simp only [Tm.sizeL_nil]
      exact ⟨by omega, h1, fun h => by omega, fun h => by omega⟩
    · next hc =>
      obtain ⟨k1, k2, k3, k4⟩ := ih x (by simp) c h0 (by omega)
      have hp := Tm.size_pos (cpT g x c).1
      obtain ⟨j1, j2, j3, j4⟩ := cpL_says r (fun y hy => ih y (by simp [hy])) (cpT g x c).2 (by omega) k2
      simp only [Tm.sizeL_cons, List.map_cons]
      refine ⟨by omega, j2, fun h => ?_, fun h => ?_⟩
      · rw [j3 h, k3 (by omega)]
      · rcases (by omega : 2000 < (cpT g x c).2 ∨ (cpT g x c).2 ≤ 2000) with h' | h'
        · have := k4 h'; omega
        · rw [← k3 h']; have := j4 h; omega
theorem cpN_says {g : Tm → Option Tm} {t : Tm} (hg : g t = none) (ih : ∀ x ∈ t.a, ∀ c : Int, 0 ≤ c → c ≤ 2000 → CpSays (ptT g x) c (cpT g x c)) (c : Int) (h0 : 0 ≤ c) (h1 : c ≤ 2000) : CpSays (ptT g t) c (cpT g t c) := by
  rw [cpT_eq, hg, ptT_none hg]
  obtain ⟨k1, k2, k3, k4⟩ := cpL_says t.a ih (c + 1) (by omega) (by omega)
  refine ⟨?_, k2, fun h => ?_, fun h => ?_⟩
  · show (cpL g t.a (c + 1)).2 = _
    rw [Tm.size_mk]; omega
  · show Tm.mk _ _ _ _ = _
    rw [k3 h]
  · rw [Tm.size_mk]
    have := k4 h; omega
theorem cp0_says (t : Tm) : ∀ c : Int, 0 ≤ c → c ≤ 2000 → CpSays t c (cp0 t c) := by
  have : ∀ c : Int, 0 ≤ c → c ≤ 2000 → CpSays (ptT (fun _ => none) t) c (cpT (fun _ => none) t c) := by
    induction t using Tm.ind' with
    | h t ih => exact cpN_says rfl ih
  intro c h0 h1
  rw [cp0_eq]
  have h := this c h0 h1
  rwa [pt0] at h
theorem cpT_says (g : Tm → Option Tm) (t : Tm) : ∀ c : Int, 0 ≤ c → c ≤ 2000 → CpSays (ptT g t) c (cpT g t c) := by
  induction t using Tm.ind' with
  | h t ih =>
    intro c h0 h1
    cases hg : g t with
    | none => exact cpN_says hg ih c h0 h1
    | some u => rw [cpT_eq, hg, ptT_some hg]; exact cp0_says u c h0 h1
def pickA (l : List As) (nm : ByteArray) (s : Int) : Option Tm := (l.find? fun x => decide (x.nm = nm) && decide (sortF x.to = (s, 0))).map As.to
def pickT (l : List As) (t : Tm) : Option Tm := if t.nm = ⟨#[]⟩ then none else pickA l t.nm (shpAt t.op).sort
def badA : List As → Int
  | [] => 0
  | x :: r => if (sortF x.to).2 ≠ 0 then (sortF x.to).2 else badA r
def outF (u : Tm) : Tm × Int := if (sortF u).2 ≠ 0 then (mk 0 [], (sortF u).2) else (u, 0)
def PutF (t : Tm) (l : List As) : Tm × Int :=
  if (sortF t).2 ≠ 0 then (mk 0 [], (sortF t).2) else if badA l ≠ 0 then (mk 0 [], badA l) else outF (ptT (pickT l) t)
theorem sort_big {t : Tm} (h : 2000 < t.size) : sortF t = (0, 7) := by rw [sortF_eq, if_pos (.inl h)]
theorem out_count (g : Tm → Option Tm) (t : Tm) : outF (cpT g t 0).1 = outF (ptT g t) := by
  obtain ⟨k1, k2, k3, k4⟩ := cpT_says g t 0 (by omega) (by omega)
  rcases (by omega : 2000 < (cpT g t 0).2 ∨ (cpT g t 0).2 ≤ 2000) with h | h
  · unfold outF
    rw [sort_big (t := (cpT g t 0).1) (by omega), sort_big (t := ptT g t) (by have := k4 h; omega)]
    rfl
  · rw [k3 h]
theorem badA_ok : ∀ {l : List As}, badA l = 0 ↔ ∀ x ∈ l, (sortF x.to).2 = 0
  | [] => by simp [badA]
  | x :: r => by
    rw [badA]
    split
    · next h => exact ⟨fun h' => absurd h' h, fun h' => absurd (h' x (by simp)) h⟩
    · next h =>
      rw [badA_ok]
      simp only [List.mem_cons, forall_eq_or_imp]
      exact ⟨fun h' => ⟨by omega, h'⟩, fun h' => h'.2⟩
theorem PutF_mk {t : Tm} {l : List As} (h1 : (sortF t).2 = 0) (h2 : ∀ x ∈ l, (sortF x.to).2 = 0) : PutF t l = outF (ptT (pickT l) t) := by
  unfold PutF
  rw [if_neg (by omega), if_neg (by have := badA_ok.2 h2; omega)]
theorem pickA_cons (x : As) (l : List As) (nm : ByteArray) (s : Int) : pickA (x :: l) nm s = if x.nm = nm ∧ sortF x.to = (s, 0) then some x.to else pickA l nm s := by
  unfold pickA
  rw [List.find?_cons]
  by_cases h1 : x.nm = nm <;> by_cases h2 : sortF x.to = (s, 0) <;> simp [h1, h2]
theorem pickA_mem {l : List As} {nm : ByteArray} {s : Int} {u : Tm} (h : pickA l nm s = some u) : ∃ x ∈ l, x.nm = nm ∧ x.to = u ∧ sortF u = (s, 0) := by
  unfold pickA at h
  obtain ⟨x, hx, rfl⟩ := Option.map_eq_some_iff.1 h
  have h1 := List.mem_of_find?_eq_some hx
  have h2 := List.find?_some hx
  simp only [Bool.and_eq_true, decide_eq_true_eq] at h2
  exact ⟨x, h1, h2.1, rfl, h2.2⟩
end Go.V
set_option linter.unusedVariables false
namespace Go.V
open Go
theorem named_self {t : Tm} {s : Int} (h : rightT t s = true) (hn : (shpAt t.op).name = true) : t = Nm.tm (t.nm.data.toList, t.op) ∧ t.nm ≠ ⟨#[]⟩ ∧ t.a = [] ∧ collT t = [(t.nm.data.toList, t.op)] := by
  have r := (right_iff t s).1 h
  have ho := (named_iff h).1 hn
  obtain ⟨ha, hc⟩ := right_named h ho
  obtain ⟨h1, _, _⟩ := shp_name r.op1 r.op2 hn
  have hnum := r.num h1
  refine ⟨?_, fun e => ?_, ha, hc⟩
  · cases t with | mk op nm n a =>
    simp only [Tm.n, Tm.a, Tm.nm, Tm.op] at hnum ha ⊢
    subst hnum ha
    unfold Nm.tm
    simp only
    rw [← str_of]
  · have := r.nm1 hn
    rw [e] at this
    cases this
theorem named_pick {l : List As} {t : Tm} {s : Int} (h : rightT t s = true) (hn : (shpAt t.op).name = true) : pickT l t = pickA l t.nm (shpAt t.op).sort := by
  unfold pickT; rw [if_neg (named_self h hn).2.1]
theorem bare_pick {l : List As} {t : Tm} {s : Int} (h : rightT t s = true) (hn : (shpAt t.op).name = false) : pickT l t = none := by
  unfold pickT; rw [if_pos (((right_iff t s).1 h).nm2 hn)]
theorem pt_bare {l : List As} {t : Tm} {s : Int} (h : rightT t s = true) (hn : (shpAt t.op).name = false) : ptT (pickT l) t = .mk t.op t.nm t.n (t.a.map (ptT (pickT l))) := ptT_none (bare_pick h hn)
theorem pt_name {l : List As} {t : Tm} {s : Int} (h : rightT t s = true) (hn : (shpAt t.op).name = true) : ptT (pickT l) t = (pickA l t.nm (shpAt t.op).sort).getD t := by
  rw [ptT_eq, named_pick h hn]
  obtain ⟨_, _, ha, _⟩ := named_self h hn
  rw [ha]
  have : Tm.mk t.op t.nm t.n ([].map (ptT (pickT l))) = t := by rw [List.map_nil, ← ha]; cases t; rfl
  rw [this]
theorem coll_named {t : Tm} {s : Int} (h : rightT t s = true) {x : Nm} (hx : x ∈ collT t) : 1 ≤ x.2 ∧ x.2 ≤ 28 ∧ (shpAt x.2).name = true ∧ rightT (Nm.tm x) 0 = true := by
  obtain ⟨hnm, hr⟩ := coll_right t h x hx
  have r := (right_iff _ _).1 hr
  refine ⟨r.op1, r.op2, ?_, hr⟩
  cases hn : (shpAt x.2).name
  · have := r.nm2 hn
    have e : (Nm.tm x).nm = str x.1 := rfl
    rw [e] at this
    have : x.1 = [] := by
      have := congrArg (fun b : ByteArray => b.data.toList) this
      simpa [str] using this
    rw [this] at hnm
    cases hnm
  · rfl
theorem Nm.sort {x : Nm} (hr : rightT (Nm.tm x) 0 = true) : sortF (Nm.tm x) = ((shpAt x.2).sort, 0) := by
  rw [sortF_eq, if_neg (by rw [Nm.tm_size, Nm.tm_dep]; omega), if_pos hr]; rfl
structure OneSays (nm : ByteArray) (t u : Tm) : Prop where
  size : u.size = t.size
  dep : u.dep = t.dep
  coll : ∀ x : Nm, x ∈ collT u ↔ x ∈ collT t ∧ ¬ (str x.1 = nm ∧ x.2 ≠ 14)
end Go.V
set_option linter.unusedVariables false
namespace Go.V
open Go
end Go.V
