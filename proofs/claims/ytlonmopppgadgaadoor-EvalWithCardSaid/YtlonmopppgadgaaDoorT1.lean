/- Rows of terms that grow; what is given up at a call's end. -/
import Derived.Test.YtlonmopppgadgaaDoorP1
set_option linter.unusedVariables false
namespace Go.V
open Go
section
variable {P : Program} {g : FuncId} {args : List D} {L L' : List Bx} {a : AE}
theorem AFn.ofGe (h : ASpec P g args [] fun a' L' => Ge a' L' a []) : AFn P g args [] a := ASpec.ge h fun a' L' hg => ⟨a, [], hg, rfl, rfl⟩
theorem ge_drop (a : AE) (L : List Bx) : Ge a L a [] := ⟨by cases a <;> trivial, Gl.drop (List.nil_sublist _)⟩
theorem ge_of {a b : AE} (h : a = b) : Ge a L b [] := by subst h; exact ge_drop a L
theorem ge_trans {a b c : AE} {L1 L2 L3 : List Bx} (h : Ge a L1 b L2) (h' : Ge b L2 c L3) : Ge a L1 c L3 :=
  ⟨by cases a <;> cases b <;> cases c <;> first | trivial | exact h.1 | exact h'.1, h.2.trans h'.2⟩
end
def bvT (b c : Nat) : List Tm → D
  | [] => .nil
  | x :: l => .sl b 0 (l.length + 1) c
def bbT (e b c : Nat) : List Tm → List Bx
  | [] => []
  | x :: l => [⟨b, (Tm.rows (x :: l)).flatten, .row e 4 c⟩]
section
variable {L : List Bx} {kl : D → List Bx → Prop} {e b c : Nat}
theorem rows1_src {x : Tm} : asrc 4 (.row 4 (Tm.rows [x])) L 1 x.cs := ⟨rfl, by rw [Tm.rows_len]; rfl, by rw [Tm.rows_cons, Tm.rows_nil]; simp⟩
theorem a_appT0 {x : Tm} (h : ∀ b c, kl (bvT b c [x]) (⟨b, (Tm.rows [x]).flatten, .row e 4 c⟩ :: L)) : aapp e 4 56 .nil (.row 4 (Tm.rows [x])) L kl := by
  refine V.a_app0 1 x.cs rows1_src (Tm.cs_one x) (by omega) (by omega) fun b c => ?_
  have := h b c
  rw [Tm.rows_cons, Tm.rows_nil] at this
  simp only [List.flatten_cons, List.flatten_nil, List.append_nil] at this
  exact this
theorem a_appT1 {x y : Tm} {l : List Tm} (i : Nat) (hi : L[i]? = some ⟨b, (Tm.rows (y :: l)).flatten, .row e 4 c⟩) (hb : (l.length + 2) * 56 ≤ 140737488355328)
    (h : ∀ b' c', kl (bvT b' c' (y :: l ++ [x])) (L.set i ⟨b', (Tm.rows (y :: l ++ [x])).flatten, .row e 4 c'⟩)) : aapp e 4 56 (bvT b c (y :: l)) (.row 4 (Tm.rows [x])) L kl := by
  refine V.a_app i _ 1 x.cs hi (by rw [Tm.flat_len]; rfl) rows1_src (Tm.cs_one x) hb fun b' c' => ?_
  have := h b' c'
  have e1 : (Tm.rows (y :: l ++ [x])).flatten = (Tm.rows (y :: l)).flatten ++ x.cs := by
    rw [Tm.rows_app, List.flatten_append, Tm.rows_cons x, Tm.rows_nil]; simp
  rw [e1] at this
  have e2 : bvT b' c' (y :: l ++ [x]) = .sl b' 0 (l.length + 1 + 1) c' := by
    show D.sl b' 0 ((l ++ [x]).length + 1) c' = _
    rw [List.length_append]; rfl
  rw [e2] at this
  exact this
/-- what has grown is a term's from now on -/
theorem ge_mkT {o : Int} {s : ByteArray} {n : Int} {l : List Tm} (h : l = [] ∨ ∃ i : Nat, L[i]? = some (Bx.mk b (Tm.rows l).flatten (.row e 4 c))) :
    Ge (.ret (.agg [.i o, .s s, .i n, bvT b c l])) L (.ret (Tm.mk o s n l).d) [] := by
  refine ⟨trivial, ?_⟩
  cases l with
  | nil =>
    refine Gl.trans (L1 := L) (Gl.nil 4 (ds' := [(Tm.mk o s n []).d]) ?_ (WkB.refl _ _ _)) (Gl.drop (List.nil_sublist _))
    rw [Tm.d, Tm.mk_d, Tm.rows_nil]
    exact .cons (.agg (.cons (.refl _) (.cons (.refl _) (.cons (.refl _) (.cons .hit .nil))))) .nil
  | cons y l =>
    obtain ⟨i, hi⟩ := h.resolve_left (by simp)
    refine Gl.trans (Gl.fz (n := l.length + 1) (c := c) (ds' := [(Tm.mk o s n (y :: l)).d]) i hi (by rw [Tm.flat_len]; rfl) ?_ (WkB.refl _ _ _)) (Gl.drop (List.nil_sublist _))
    rw [Tm.d, Tm.mk_d, show l.length + 1 = (y :: l).length from rfl, chunk_rows]
    exact .cons (.agg (.cons (.refl _) (.cons (.refl _) (.cons (.refl _) (.cons .hit .nil))))) .nil
end
/-- where the first is such, -1: none is -/
def idxF (f : Tm → Bool) : List Tm → Nat → Int
  | [], _ => -1
  | x :: r, i => if f x then i else idxF f r (i + 1)
theorem idxF_any (f : Tm → Bool) : ∀ (l : List Tm) (i : Nat), decide (idxF f l i ≥ 0) = l.any f
  | [], _ => rfl
  | x :: r, i => by
    rw [idxF, List.any_cons]
    cases h : f x
    · exact idxF_any f r (i + 1)
    · simp
def NormF (t : Tm) : Tm × Int :=
  if (sortF t).2 ≠ 0 then (mk 0 [], (sortF t).2) else if (sortF t).1 ≠ 4 then (mk 0 [], 3) else if (sortF (normT t false)).2 ≠ 0 then (mk 0 [], 7) else (normT t false, 0)
def IsF (t : Tm) : Bool := decide ((sortF t).2 = 0) && decide ((sortF t).1 = 4) && fewT t
theorem sortF_ok {t : Tm} (h : (sortF t).2 = 0) : t.size ≤ 2000 ∧ t.dep ≤ 100 ∧ rightT t 0 = true ∧ (sortF t).1 = (shpAt t.op).sort := by
  rw [sortF_eq] at h ⊢
  split at h
  · cases h
  · next h1 =>
    rw [if_neg h1]
    split at h
    · next h2 => rw [if_pos h2]; exact ⟨by omega, by omega, h2, rfl⟩
    · cases h
theorem sortF_mk {t : Tm} {s : Int} (h1 : t.size ≤ 2000) (h2 : t.dep ≤ 100) (h3 : rightT t s = true) (hs : s ≠ 0) : sortF t = (s, 0) := by
  rw [sortF_eq, if_neg (by omega), if_pos (right_any h3), right_sort h3 hs]
theorem sortF_bool {t : Tm} (h : (sortF t).2 = 0) (h' : (sortF t).1 = 4) : t.size ≤ 2000 ∧ t.dep ≤ 100 ∧ rightT t 4 = true := by
  obtain ⟨h1, h2, h3, h4⟩ := sortF_ok h
  exact ⟨h1, h2, right_of h3 (h4 ▸ h')⟩
end Go.V
