/- Circles, regions, rows: what layer 13 reckons with. -/
import Derived.Test.YtokpeggkofjclaaGreatDoorM13
import Derived.Test.YtokpeggkofjclaaGreatDoorM6
import Derived.Test.YtokpeggkofjclaaGreatDoorT3
set_option linter.unusedVariables false
namespace Go.V
open Go
def sD (l : List ByteArray) : List (List D) := l.map fun s => [.s s]
def nD (l : List Int) : List (List D) := l.map fun n => [.i n]
structure Pl where
  sets : List ByteArray
  nodes : List ByteArray
  ints : List ByteArray
def Pl.cs (p : Pl) : List D := [.row 1 (sD p.sets), .row 1 (sD p.nodes), .row 1 (sD p.ints)]
def Pl.d (p : Pl) : D := .agg p.cs
theorem Pl.cs_len (p : Pl) : p.cs.length = 3 := rfl
theorem Pl.cs_one (p : Pl) : p.cs.all D.one = true := rfl
def Pl.circ (p : Pl) : Nat := p.sets.length + p.nodes.length
def Pl.reg (p : Pl) : Nat := 2 ^ min p.circ 6
def Pl.unk (p : Pl) : Nat := p.reg + p.ints.length
theorem Pl.reg_pos (p : Pl) : 1 ≤ p.reg ∧ p.reg ≤ 64 := by
  unfold Pl.reg
  have : ∀ k : Fin 7, 1 ≤ 2 ^ k.1 ∧ 2 ^ k.1 ≤ 64 := by decide
  exact this ⟨min p.circ 6, by omega⟩
structure Rw where
  c : List Int
  k : Int
def Rw.cs (r : Rw) : List D := [.row 1 (nD r.c), .i r.k]
def Rw.d (r : Rw) : D := .agg r.cs
theorem Rw.cs_len (r : Rw) : r.cs.length = 2 := rfl
theorem Rw.cs_one (r : Rw) : r.cs.all D.one = true := rfl
def inB (r c : Nat) : Bool := decide (r / 2 ^ c % 2 = 1)
def atS (s : ByteArray) : List ByteArray → Nat → Int
  | [], _ => -1
  | x :: r, i => if x = s then (i : Int) else atS s r (i + 1)
theorem atS_cases (s : ByteArray) : ∀ (l : List ByteArray) (i : Nat), (atS s l i = -1 ∧ s ∉ l) ∨ ∃ j, atS s l i = ((i + j : Nat) : Int) ∧ l[j]? = some s
  | [], i => .inl ⟨rfl, by simp⟩
  | x :: r, i => by
    rw [atS]
    by_cases h : x = s
    · rw [if_pos h]; exact .inr ⟨0, rfl, by rw [h]; rfl⟩
    · rw [if_neg h]
      rcases atS_cases s r (i + 1) with ⟨h1, h2⟩ | ⟨j, h1, h2⟩
      · exact .inl ⟨h1, by simp only [List.mem_cons, not_or]; exact ⟨fun e => h e.symm, h2⟩⟩
      · exact .inr ⟨j + 1, by rw [h1]; congr 1; omega, h2⟩
theorem atS_rng (s : ByteArray) (l : List ByteArray) : -1 ≤ atS s l 0 ∧ atS s l 0 < l.length := by
  rcases atS_cases s l 0 with ⟨h, _⟩ | ⟨j, h, hj⟩
  · omega
  · have := (List.getElem?_eq_some_iff.1 hj).1
    omega
/-- a name's place, or the error -/
def plcE (l : List ByteArray) (s : ByteArray) : Except Int Nat := if atS s l 0 < 0 then .error 4 else .ok (atS s l 0).toNat
theorem plcE_ok {l : List ByteArray} {s : ByteArray} {i : Nat} (h : plcE l s = .ok i) : l[i]? = some s ∧ i < l.length := by
  unfold plcE at h
  split at h
  · cases h
  · injection h with h
    subst h
    rcases atS_cases s l 0 with ⟨h, _⟩ | ⟨j, h, hj⟩
    · omega
    · rw [h, Nat.zero_add, Int.toNat_natCast]
      exact ⟨hj, (List.getElem?_eq_some_iff.1 hj).1⟩
theorem plcE_err {l : List ByteArray} {s : ByteArray} {e : Int} (h : plcE l s = .error e) : e = 4 ∧ s ∉ l := by
  unfold plcE at h
  split at h
  · injection h with h
    rcases atS_cases s l 0 with ⟨_, h2⟩ | ⟨j, h2, hj⟩
    · exact ⟨h.symm, h2⟩
    · omega
  · cases h
/-- so many of each region for which something holds -/
def rowF (p : Pl) (c k : Int) (f : Nat → Bool) : Rw := ⟨(List.range p.unk).map fun i => if (decide (i < p.reg) && f i) = true then c else 0, k⟩
/-- of two rows a third one -/
def joinE (f : Int → Int → Int × Bool) (a b : Rw) : Except Int Rw :=
  if ((a.c.zip b.c).all fun x => (f x.1 x.2).2) && (f a.k b.k).2 then .ok ⟨(a.c.zip b.c).map fun x => (f x.1 x.2).1, (f a.k b.k).1⟩ else .error 5
def plcN (l : List ByteArray) (s : ByteArray) : Nat := (atS s l 0).toNat
theorem plcE_eq (l : List ByteArray) (s : ByteArray) : plcE l s = if atS s l 0 < 0 then .error 4 else .ok (plcN l s) := rfl
theorem plcN_lt {l : List ByteArray} {s : ByteArray} (h : plcE l s = .ok (plcN l s)) : plcN l s < l.length := (plcE_ok h).2
def combS (op : Int) (a b : Bool) : Bool := if op = 11 then a || b else if op = 12 then a && b else a && !b
mutual
/-- is a region in a set? -/
def regT (p : Pl) : Tm → Nat → Bool
  | .mk op nm _ a, r => if op = 7 then inB r (plcN p.sets nm) else if op = 10 then inB r (p.sets.length + plcN p.nodes (a.headD (.mk 0 ⟨#[]⟩ 0 [])).nm) else if op = 8 ∨ op = 9 then decide (op = 9) else
      match regL p a r with
      | x :: y :: _ => combS op x y
      | _ => false
def regL (p : Pl) : List Tm → Nat → List Bool
  | [], _ => []
  | x :: l, r => regT p x r :: regL p l r
end
theorem right_set {t : Tm} (h : rightT t 2 = true) : t.op = 7 ∨ t.op = 8 ∨ t.op = 9 ∨ t.op = 10 ∨ t.op = 11 ∨ t.op = 12 ∨ t.op = 13 := by
  have hs := right_sort h (by decide)
  have r := (right_iff t 2).1 h
  have : ∀ k : Fin 29, (shpAt (k.1 : Int)).sort = 2 → ((k.1 : Int) = 7 ∨ (k.1 : Int) = 8 ∨ (k.1 : Int) = 9 ∨ (k.1 : Int) = 10 ∨ (k.1 : Int) = 11 ∨ (k.1 : Int) = 12 ∨ (k.1 : Int) = 13) := by decide
  have h2 := this ⟨t.op.toNat, by have := r.op1; have := r.op2; omega⟩
  have h1 := r.op1
  simp only [Int.toNat_of_nonneg (show 0 ≤ t.op by omega)] at h2
  exact h2 hs
mutual
/-- is one of a set's names not there? -/
def badS (p : Pl) : Tm → Bool
  | .mk op nm _ a => if op = 7 then decide (atS nm p.sets 0 < 0) else if op = 10 then decide (atS (a.headD (.mk 0 ⟨#[]⟩ 0 [])).nm p.nodes 0 < 0) else if op = 8 ∨ op = 9 then false else badSL p a
def badSL (p : Pl) : List Tm → Bool
  | [] => false
  | x :: l => badS p x || badSL p l
end
def addJ (x y : Int) : Int × Bool := (fitI (x + y), inI (x + y))
def subJ (x y : Int) : Int × Bool := (fitI (x - y), inI (x - y))
def mulJ (x y : Int) : Int × Bool := (fitI (x * y), inI (x * y))
mutual
/-- an int as a row -/
def lineE (p : Pl) : Tm → Except Int Rw
  | .mk op nm n a => if op = 1 then .ok (rowF p 0 n fun _ => false)
      else if op = 2 then (plcE p.ints nm).map fun i => ⟨(List.replicate p.unk 0).set (p.reg + i) 1, 0⟩
      else if op = 3 then (if badS p (a.headD (.mk 0 ⟨#[]⟩ 0 [])) then .error 4 else .ok (rowF p 1 0 (regT p (a.headD (.mk 0 ⟨#[]⟩ 0 [])))))
      else match lineL p a with
      | [] => .error 0
      | x :: r => if op = 6 then x.bind fun u => joinE (fun y _ => mulJ n y) u u else match r with
        | y :: _ => x.bind fun u => y.bind fun v => joinE (if op = 4 then addJ else subJ) u v
        | [] => .error 0
def lineL (p : Pl) : List Tm → List (Except Int Rw)
  | [] => []
  | x :: l => lineE p x :: lineL p l
end
theorem right_int {t : Tm} (h : rightT t 1 = true) : t.op = 1 ∨ t.op = 2 ∨ t.op = 3 ∨ t.op = 4 ∨ t.op = 5 ∨ t.op = 6 := by
  have hs := right_sort h (by decide)
  have r := (right_iff t 1).1 h
  have : ∀ k : Fin 29, (shpAt (k.1 : Int)).sort = 1 → ((k.1 : Int) = 1 ∨ (k.1 : Int) = 2 ∨ (k.1 : Int) = 3 ∨ (k.1 : Int) = 4 ∨ (k.1 : Int) = 5 ∨ (k.1 : Int) = 6) := by decide
  have h2 := this ⟨t.op.toNat, by have := r.op1; have := r.op2; omega⟩
  have h1 := r.op1
  simp only [Int.toNat_of_nonneg (show 0 ≤ t.op by omega)] at h2
  exact h2 hs
theorem rowF_len (p : Pl) (c k : Int) (f : Nat → Bool) : (rowF p c k f).c.length = p.unk := by unfold rowF; simp
theorem joinE_len {f : Int → Int → Int × Bool} {a b r : Rw} (hab : a.c.length = b.c.length) (h : joinE f a b = .ok r) : r.c.length = a.c.length := by
  unfold joinE at h
  split at h
  · injection h with h
    subst h
    rw [List.length_map, List.length_zip]; omega
  · cases h
/-- its row has as many numbers as there are unknowns -/
theorem line_len {p : Pl} (t : Tm) : rightT t 1 = true → ∀ r, lineE p t = .ok r → r.c.length = p.unk := by
  induction t using Tm.ind' with
  | h t ih =>
    intro h r hr
    have ho := right_int h
    cases t with | mk op nm n a =>
    simp only [Tm.op] at ho
    rw [lineE] at hr
    rcases ho with e | e | e | e | e | e
    · subst e
      injection hr with hr
      subst hr
      exact rowF_len ..
    · subst e
      rw [if_neg (by decide), if_pos rfl] at hr
      cases hq : plcE p.ints nm with
      | error e => rw [hq] at hr; cases hr
      | ok i => rw [hq] at hr; injection hr with hr; subst hr; simp
    · subst e
      rw [if_neg (by decide), if_neg (by decide), if_pos rfl] at hr
      split at hr
      · cases hr
      · injection hr with hr; subst hr; exact rowF_len ..
    · subst e
      obtain ⟨x, y, rfl, hx, hy⟩ := right2 h (s1 := 1) (s2 := 1) rfl rfl
      rw [if_neg (by decide), if_neg (by decide), if_neg (by decide), lineL, lineL, lineL] at hr
      simp only at hr
      rw [if_neg (by decide)] at hr
      cases hu : lineE p x with
      | error e => rw [hu] at hr; cases hr
      | ok u =>
        cases hv : lineE p y with
        | error e => rw [hu, hv] at hr; cases hr
        | ok v =>
          rw [hu, hv] at hr
          have l1 := ih x (by simp [Tm.a]) hx u hu
          have l2 := ih y (by simp [Tm.a]) hy v hv
          rw [joinE_len (by omega) hr]; exact l1
    · subst e
      obtain ⟨x, y, rfl, hx, hy⟩ := right2 h (s1 := 1) (s2 := 1) rfl rfl
      rw [if_neg (by decide), if_neg (by decide), if_neg (by decide), lineL, lineL, lineL] at hr
      simp only at hr
      rw [if_neg (by decide)] at hr
      cases hu : lineE p x with
      | error e => rw [hu] at hr; cases hr
      | ok u =>
        cases hv : lineE p y with
        | error e => rw [hu, hv] at hr; cases hr
        | ok v =>
          rw [hu, hv] at hr
          have l1 := ih x (by simp [Tm.a]) hx u hu
          have l2 := ih y (by simp [Tm.a]) hy v hv
          rw [joinE_len (by omega) hr]; exact l1
    · subst e
      obtain ⟨x, rfl, hx⟩ := right1 h (s1 := 1) rfl rfl
      rw [if_neg (by decide), if_neg (by decide), if_neg (by decide), lineL, lineL] at hr
      simp only at hr
      rw [if_pos trivial] at hr
      cases hu : lineE p x with
      | error e => rw [hu] at hr; cases hr
      | ok u =>
        rw [hu] at hr
        have hr : joinE (fun y _ => mulJ n y) u u = .ok r := hr
        have l1 := ih x (by simp [Tm.a]) hx u hu
        rw [joinE_len rfl hr]; exact l1
/-- what an atom says, or does not -/
def RowF (p : Pl) (t : Tm) (holds : Bool) : Rw × Int :=
  if (sortF t).2 ≠ 0 ∨ t.op ≠ 22 then (⟨[], 0⟩, 1) else
    match lineE p (t.at 0) with
    | .error e => (⟨[], 0⟩, e)
    | .ok a => match lineE p (t.at 1) with
      | .error e => (⟨[], 0⟩, e)
      | .ok b => match (if holds then joinE subJ a b else (joinE subJ b a).bind fun c => joinE addJ c (rowF p 0 1 fun _ => false)) with
        | .error e => (⟨[], 0⟩, e)
        | .ok r => (r, 0)
end Go.V
/- A term's plan. -/
set_option linter.unusedVariables false
namespace Go.V
open Go Go.WideShapes Go.MapKept
def IntK (v : Value) : Prop := ∃ n : Int, v = .int .i64 n
theorem mapKey_int {P : Program} {k : TypeId} (hu : P.underlying k = some (.int .i64)) : MapKey P k IntK where
  check w em v h := by
    obtain ⟨n, rfl⟩ := h
    exact run_checkKey hu (d := .int .i64) (k := .int .i64 n) rfl em 9999
  find w x hx es hes := by
    obtain ⟨n, rfl⟩ := hx
    have hks : ∀ x ∈ es, IsKey (.int .i64) x.key := fun x hxm => by
      obtain ⟨m, e⟩ := hes x hxm
      rw [e]; rfl
    rcases findNow_spec (d := .int .i64) (k := .int .i64 n) rfl es 0 hks with ⟨h1, h2⟩ | ⟨j, e0, h1, h2, h3⟩
    · exact Or.inl ⟨run_findKey hu h1, h2⟩
    · exact Or.inr ⟨j, e0, by simpa using run_findKey hu h1, h2, h3⟩
  stays w v h := by
    obtain ⟨n, rfl⟩ := h
    exact run_keyThatStays (d := .int .i64) (k := .int .i64 n) rfl
def ofOp (op : Int) (l : List Nm) : List ByteArray := (l.filter fun x => decide (x.2 = op)).map fun x => str x.1
def planN (l : List Nm) : Pl := ⟨ofOp 7 l, ofOp 14 l, ofOp 2 l⟩
theorem ofOp_snoc (op : Int) (l : List Nm) (x : Nm) : ofOp op (l ++ [x]) = if x.2 = op then ofOp op l ++ [str x.1] else ofOp op l := by
  unfold ofOp
  rw [List.filter_append]
  by_cases h : x.2 = op
  · rw [if_pos h, List.filter_cons, if_pos (by simpa using h)]; simp
  · rw [if_neg h, List.filter_cons, if_neg (by simpa using h)]; simp
theorem ofOp_len (op : Int) (l : List Nm) : (ofOp op l).length ≤ l.length := by
  unfold ofOp; rw [List.length_map]; exact List.length_filter_le _ _
def plan0 : Pl := ⟨[], [], []⟩
def MakeF (t : Tm) : Pl × Int :=
  if (sortF t).2 ≠ 0 then (plan0, (sortF t).2) else
    if 6 < (planN (NamesF t)).circ ∨ 64 < (planN (NamesF t)).circ + (planN (NamesF t)).ints.length then (plan0, 7) else (planN (NamesF t), 0)
theorem MakeF_ok (t : Tm) : (MakeF t).1.circ ≤ 6 ∧ (MakeF t).1.circ + (MakeF t).1.ints.length ≤ 64 := by
  unfold MakeF
  split
  · exact (show plan0.circ ≤ 6 ∧ plan0.circ + plan0.ints.length ≤ 64 by decide)
  · split
    · exact (show plan0.circ ≤ 6 ∧ plan0.circ + plan0.ints.length ≤ 64 by decide)
    · next h => simp only; omega
end Go.V
/- Rows add up; what does not hold is what is left. -/
set_option linter.unusedVariables false
namespace Go.V
open Go
theorem fitI_in {v : Int} (h : inI v = true) : fitI v = v := by unfold fitI; rw [h]; rfl
/-- a row that is joined, number by number -/
structure Joined (f : Int → Int → Int × Bool) (a b r : Rw) : Prop where
  len : r.c.length = a.c.length
  at' : ∀ i (h1 : i < a.c.length) (h2 : i < b.c.length) (h3 : i < r.c.length), r.c[i] = (f a.c[i] b.c[i]).1 ∧ (f a.c[i] b.c[i]).2 = true
  k : r.k = (f a.k b.k).1 ∧ (f a.k b.k).2 = true
theorem joinE_code {f : Int → Int → Int × Bool} {a b : Rw} {e : Int} (h : joinE f a b = .error e) : e = 5 := by
  unfold joinE at h
  split at h
  · cases h
  · injection h with h; exact h.symm
theorem line_code {p : Pl} (t : Tm) : rightT t 1 = true → ∀ e, lineE p t = .error e → e = 4 ∨ e = 5 := by
  induction t using Tm.ind' with
  | h t ih =>
    intro h er hr
    have ho := right_int h
    cases t with | mk op nm n a =>
    simp only [Tm.op] at ho
    have two : (op = 4 ∨ op = 5) → er = 4 ∨ er = 5 := fun hh => by
      obtain ⟨x, y, rfl, hx, hy⟩ := right2 h (s1 := 1) (s2 := 1) (by rcases hh with e | e <;> rw [e] <;> rfl) (by rcases hh with e | e <;> rw [e] <;> rfl)
      rw [lineE, if_neg (by omega), if_neg (by omega), if_neg (by omega), lineL, lineL, lineL] at hr
      simp only at hr
      rw [if_neg (by omega)] at hr
      cases hu : lineE p x with
      | error e => rw [hu] at hr; injection hr with hr; subst hr; exact ih x (by simp [Tm.a]) hx _ hu
      | ok u =>
        cases hv : lineE p y with
        | error e => rw [hu, hv] at hr; injection hr with hr; subst hr; exact ih y (by simp [Tm.a]) hy _ hv
        | ok v => rw [hu, hv] at hr; exact .inr (joinE_code hr)
    rcases ho with e | e | e | e | e | e
    · subst e
      rw [lineE, if_pos rfl] at hr; cases hr
    · subst e
      rw [lineE, if_neg (by decide), if_pos rfl] at hr
      cases hq : plcE p.ints nm with
      | error e => rw [hq] at hr; injection hr with hr; subst hr; exact .inl (plcE_err hq).1
      | ok i => rw [hq] at hr; cases hr
    · subst e
      rw [lineE, if_neg (by decide), if_neg (by decide), if_pos rfl] at hr
      split at hr
      · injection hr with hr; exact .inl hr.symm
      · cases hr
    · exact two (.inl e)
    · exact two (.inr e)
    · subst e
      obtain ⟨x, rfl, hx⟩ := right1 h (s1 := 1) rfl rfl
      rw [lineE, if_neg (by decide), if_neg (by decide), if_neg (by decide), lineL, lineL] at hr
      simp only at hr
      rw [if_pos trivial] at hr
      cases hu : lineE p x with
      | error e => rw [hu] at hr; injection hr with hr; subst hr; exact ih x (by simp [Tm.a]) hx _ hu
      | ok u => rw [hu] at hr; exact .inr (joinE_code (show joinE (fun y _ => mulJ n y) u u = .error er from hr))
end Go.V
/- A term's own plan has its names. -/
set_option linter.unusedVariables false
namespace Go.V
open Go
/-- all names of it are the plan's -/
def InPlan (p : Pl) (l : List Nm) : Prop := ∀ x ∈ l, (x.2 = 2 → str x.1 ∈ p.ints) ∧ (x.2 = 7 → str x.1 ∈ p.sets) ∧ (x.2 = 14 → str x.1 ∈ p.nodes)
theorem InPlan.sub {p : Pl} {l m : List Nm} (h : InPlan p l) (hs : ∀ x ∈ m, x ∈ l) : InPlan p m := fun x hx => h x (hs x hx)
end Go.V
/- What is counted of a world: in which region each node is, how many there are in each. -/
set_option linter.unusedVariables false
namespace Go.V
open Go
/-- one circle's nodes are marked -/
def orS (rg : List Nat) (s : List Bool) (i : Nat) : List Nat := (rg.zip s).map fun x => if x.2 then x.1 ||| 2 ^ i else x.1
def markS (w : Wd) : Nat → List ByteArray → List Nat → Option (List Nat)
  | _, [], rg => some rg
  | i, s :: r, rg => match getF w.names s 2 with
    | none => none
    | some v => markS w (i + 1) r (orS rg v.s i)
def markN (w : Wd) : Nat → List ByteArray → List Nat → Option (List Nat)
  | _, [], rg => some rg
  | i, s :: r, rg => match getF w.names s 3 with
    | none => none
    | some v => markN w (i + 1) r (rg.set v.n.toNat (rg.getD v.n.toNat 0 ||| 2 ^ i))
def tally (l : List Int) : List Nat → List Int
  | [] => l
  | r :: rg => tally (l.set r (l.getD r 0 + 1)) rg
def markI (p : Pl) (w : Wd) : Nat → List ByteArray → List Int → Option (List Int)
  | _, [], l => some l
  | i, s :: r, l => match getF w.names s 1 with
    | none => none
    | some v => markI p w (i + 1) r (l.set (p.reg + i) v.n)
def CountF (p : Pl) (w : Wd) : List Int × Int :=
  if rightW w = false then ([], 1) else
    match markS w 0 p.sets (List.replicate w.nodes.toNat 0) with
    | none => ([], 4)
    | some rg => match markN w p.sets.length p.nodes rg with
      | none => ([], 4)
      | some rg => match markI p w 0 p.ints (tally (List.replicate p.unk 0) rg) with
        | none => ([], 4)
        | some l => (l, 0)
theorem orS_len {rg : List Nat} {s : List Bool} {i : Nat} (h : s.length = rg.length) : (orS rg s i).length = rg.length := by
  unfold orS; rw [List.length_map, List.length_zip]; omega
theorem tally_len : ∀ (rg : List Nat) (l : List Int), (tally l rg).length = l.length
  | [], l => rfl
  | r :: rg, l => by rw [tally, tally_len rg, List.length_set]
end Go.V
