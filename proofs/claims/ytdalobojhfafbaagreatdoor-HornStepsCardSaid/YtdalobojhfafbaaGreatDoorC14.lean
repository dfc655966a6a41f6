/- Contracts: Names. -/
import Derived.Test.YtdalobojhfafbaaGreatDoorC13
import Derived.Test.YtdalobojhfafbaaGreatDoorS6
set_option maxRecDepth 100000
set_option linter.unusedVariables false
namespace Go.Proofs.YtdalobojhfafbaaGreatDoor
open Go Go.V
theorem ge_nilrow (sz : Nat) (L : List Bx) : Ge (.ret .nil) L (.ret (.row sz [])) [] :=
  ⟨trivial, Gl.trans (Gl.nil sz (.cons .hit .nil) (WkB.refl _ _ _)) (Gl.drop (List.nil_sublist _))⟩
theorem ge_names {b c e cp : Nat} {l : List Nm} {L : List Bx} (i : Nat) (hi : L[i]? = some ⟨b, (l.map Nm.cs).flatten, .row e 5 cp⟩) : Ge (.ret (.sl b 0 l.length c)) L (.ret (.row 5 (l.map Nm.cr))) [] := by
  refine ⟨trivial, ?_⟩
  refine Gl.trans (L1 := [⟨b, (l.map Nm.cs).flatten, .row e 5 cp⟩]) (Gl.trans (Gl.perm (perm_erase hi)) (Gl.drop (List.sublist_append_left _ _))) ?_
  refine Gl.trans (L1 := [⟨b, (l.map Nm.cr).flatten, .row e 5 cp⟩]) (Gl.nil 4 (WkL.refl _ _ _) (.cons (wkL_map Nm.wk l) .nil)) ?_
  refine Gl.fz (n := l.length) (c := c) 0 rfl (flat_len Nm.cr_len l) ?_ (WkB.refl _ _ _)
  rw [chunk_flat Nm.cr_len]
  exact .cons .hit .nil
theorem enters_order : V.Enters pr 147 := ⟨_, Tryz.func147, by kernel_rfl, by decide⟩
theorem c100 (t : Tm) : AFn pr 100 [t.d] [] (.ret (.row 5 ((NamesF t).map Nm.cr))) := by
  refine AFn.ofGe (s100 ?_)
  unfold A100
  (refine a_bxv fun z1 => ?_; (apply a_ldA 0; exact rfl; exact rfl); refine a_call0 (c69 _) ?_; (apply a_ext; exact rfl); (apply a_ext; exact rfl); refine a_neq ?_)
  refine a_cnd (fun h1 => ?_) (fun h1 => ?_)
  · have e : NamesF t = [] := by unfold NamesF; rw [if_pos h1]
    rw [e]
    exact ge_nilrow 5 _
  have e : NamesF t = compactN (sortN (collT t)) := by unfold NamesF namesT; rw [if_neg h1]
  rw [e]
  obtain ⟨hsz, _⟩ := sortF_ok (t := t) (by omega)
  have hcl := collT_len t
  have hadd := c146 t (b := 0) (c := 0) (bl := 0) (ba := 0) (l := []) (by simp only [List.length_nil]; omega)
  clear hadd
  (refine a_bx fun z2 => ?_; refine a_bx fun z3 => ?_; (apply a_st 0 _; exact rfl; exact rfl; exact rfl; exact rfl; (try dsimp only [afill, aparts, cl, chunk, List.take, List.drop, List.nil_append, List.cons_append, List.append_nil, List.length_cons, List.length_nil, Nat.zero_add, Nat.reduceAdd, Nat.reduceMul]); try exact rfl); (apply a_ld1 0; exact rfl; exact rfl); (apply a_ldA 2; exact rfl; exact rfl); refine a_cfW ?_)
  refine a_callF (M := [⟨z1, t.cs, .box⟩]) (L1 := gat z2 z3 0 0 []) (List.Perm.refl _) (c146 t (by simp only [List.length_nil]; omega)) ?_
  rintro a L' ⟨rfl, b, c, rfl⟩
  simp only [AE.on]
  rw [List.nil_append]
  generalize collT t = l at hcl ⊢
  cases l with
  | nil =>
    unfold gat
    simp only [gb, gv, List.nil_append]
    (refine a_bx fun z4 => ?_; (apply a_st 0 _; exact rfl; exact rfl; exact rfl; exact rfl; (try dsimp only [afill, aparts, cl, chunk, List.take, List.drop, List.nil_append, List.cons_append, List.append_nil, List.length_cons, List.length_nil, Nat.zero_add, Nat.reduceAdd, Nat.reduceMul]); try exact rfl); (apply a_ld1 2; exact rfl; exact rfl); (apply a_ld1 0; exact rfl; exact rfl); refine a_call0 sort_nil ?_; (apply a_ld1 2; exact rfl; exact rfl); refine a_call0 (c152n) ?_)
    have e2 : compactN (sortN []) = [] := by simp [sortN, compactN]
    rw [e2]
    exact ge_nilrow 5 _
  | cons y l =>
    unfold gat
    simp only [gb, gv, List.cons_append, List.nil_append]
    (refine a_bx fun z4 => ?_; (apply a_st 0 _; exact rfl; exact rfl; exact rfl; exact rfl; (try dsimp only [afill, aparts, cl, chunk, List.take, List.drop, List.nil_append, List.cons_append, List.append_nil, List.length_cons, List.length_nil, Nat.zero_add, Nat.reduceAdd, Nat.reduceMul]); try exact rfl); (apply a_ld1 3; exact rfl; exact rfl); (apply a_ld1 0; exact rfl; exact rfl))
    refine a_callU 1 rfl (sort_names (l := y :: l) (fun x y => c147 x.1 y.1) enters_order (by omega)) ?_
    simp only [AE.on, List.set]
    have hsl : (y :: l).length = (sortN (y :: l)).length := by unfold sortN; rw [List.length_mergeSort]
    have h0 : 0 < (sortN (y :: l)).length := by rw [← hsl]; simp
    rw [show l.length + 1 = (sortN (y :: l)).length from hsl]
    have h6 : (sortN (y :: l)).length ≤ 1000000 := by rw [← hsl]; omega
    generalize sortN (y :: l) = q at h0 h6 ⊢
    ((apply a_ld1 3; exact rfl; exact rfl))
    refine a_callF (M := [⟨z3, [.fn 146 [] [.p z2 0, .p z3 0]], .box⟩, ⟨z2, [.sl b 0 q.length c], .box⟩, ⟨z1, t.cs, .box⟩]) (List.Perm.swap _ _ _) (c152 h0 h6) ?_
    rintro a L' ⟨rfl, rfl⟩
    exact ge_names 0 rfl
end Go.Proofs.YtdalobojhfafbaaGreatDoor
