/- Contracts: the names of a term. -/
import Derived.Test.YtaigilchnadmpaaGreatDoorC12
set_option maxRecDepth 100000
set_option linter.unusedVariables false
namespace Go.Proofs.YtaigilchnadmpaaGreatDoor
open Go Go.V
theorem collT_len (t : Tm) : (collT t).length ≤ t.size := by
  induction t using Tm.ind' with
  | h t ih =>
    rw [collT_eq, Tm.size_eq, List.length_append]
    have key : ∀ a : List Tm, (∀ x ∈ a, (collT x).length ≤ x.size) → (collL a).length ≤ Tm.sizeL a := by
      intro a
      induction a with
      | nil => intro _; rw [collL]; simp
      | cons x r ihr => intro h; rw [collL, List.length_append, Tm.sizeL_cons]; have := h x (by simp); have := ihr fun y hy => h y (by simp [hy]); omega
    have := key t.a ih
    split
    · simp only [List.length_nil]; omega
    · simp only [List.length_singleton]; omega
/-- the own blocks while names are gathered -/
def gat (bl ba b c : Nat) (l : List Nm) : List Bx :=
  gb Nm.cs 32 5 b c l ++ [⟨ba, [.fn 109 [] [.p bl 0, .p ba 0]], .box⟩, ⟨bl, [gv b c l], .box⟩]
theorem c109 (t : Tm) : ∀ {b c bl ba : Nat} {l : List Nm}, l.length + t.size ≤ 1000000 →
    ASpec pr 109 [t.d, .p bl 0, .p ba 0] (gat bl ba b c l) fun a L' => a = .ret (.tuple []) ∧ ∃ b' c', L' = gat bl ba b' c' (l ++ collT t) := by
  induction t using Tm.ind' with
  | h t ih =>
    intro b c bl ba l hsz
    refine ASpec.small fun hsm => ASpec.sub (s109 ?_)
    rw [Smalls] at hsm
    have hs := Tm.small (Tm.small_d hsm.1)
    rw [Tm.size_eq] at hsz
    unfold A109
    refine a_bxv fun z1 => ?_
    generalize hn : (if t.nm = ⟨#[]⟩ then [] else [(t.nm.data.toList, t.op)] : List Nm) = mine
    have hml : mine.length ≤ 1 := by rw [← hn]; split <;> simp
    rw [collT_eq, hn]
    refine a_jn (σ := Nat × Nat) (fun _ => []) (fun x => ⟨z1, t.cs, .box⟩ :: gat bl ba x.1 x.2 (l ++ mine)) (fun _ => True) ?_ fun J hJ => ?_
    · rintro ⟨b1, c1⟩ _
      (refine a_fld ?_; (apply a_ld1 0; exact rfl; exact rfl); refine Tm.a_len ?_)
      refine a_lp3 (σ := Nat) (τ := Nat) (ρ := Nat) (fun i _ _ => [.i i]) (fun i b c => ⟨z1, t.cs, .box⟩ :: gat bl ba b c (l ++ mine ++ collL (t.a.take i))) (fun i _ _ => i ≤ t.a.length) (fun i _ _ => t.a.length - i) 0 b1 c1 (by rw [List.take_zero, collL, List.append_nil]; exact Gl.refl _ _) (Nat.zero_le _) ?_
      rintro i b2 c2 K hi hK
      dsimp only [aix0, aix1, aix2, aix3, aix4, aix5, aix6, aix7, aix8]
      (refine a_lss ?_)
      refine a_cnd (fun h => ?_) (fun h => ?_)
      · have hlt : i < t.a.length := by omega
        refine Tm.a_idx i hlt ?_
        have hcl : (collL (t.a.take i)).length + t.a[i].size ≤ Tm.sizeL t.a := by
          have e : t.a = t.a.take i ++ (t.a[i] :: t.a.drop (i + 1)) := by rw [← List.drop_eq_getElem_cons hlt, List.take_append_drop]
          have happ : ∀ p q : List Tm, Tm.sizeL (p ++ q) = Tm.sizeL p + Tm.sizeL q := fun p q => by
            induction p with
            | nil => rw [Tm.sizeL_nil]; simp
            | cons x r ihr => rw [List.cons_append, Tm.sizeL_cons, Tm.sizeL_cons, ihr]; omega
          have hcc : ∀ p : List Tm, (collL p).length ≤ Tm.sizeL p := fun p => by
            induction p with
            | nil => rw [collL]; simp
            | cons x r ihr => rw [collL, List.length_append, Tm.sizeL_cons]; have := collT_len x; omega
          have h1 := congrArg Tm.sizeL e
          rw [happ, Tm.sizeL_cons] at h1
          have := hcc (t.a.take i)
          omega
        have hih := fun b c => ih _ (List.getElem_mem hlt) (b := b) (c := c) (bl := bl) (ba := ba) (l := l ++ mine ++ collL (t.a.take i)) (by rw [List.length_append, List.length_append]; omega)
        have et : l ++ mine ++ collL (t.a.take i) ++ collT t.a[i] = l ++ mine ++ collL (t.a.take (i + 1)) := by
          rw [List.take_succ_eq_append_getElem hlt, collL_app, collL, collL, List.append_nil, List.append_assoc]
        simp only [et] at hih
        specialize hK (i + 1)
        generalize l ++ mine ++ collL (t.a.take (i + 1)) = l3 at hih hK
        generalize l ++ mine ++ collL (t.a.take i) = l2 at hih ⊢
        have fin : ∀ {x : Tm} {M : List Bx} {b c}, ASpec pr 109 [x.d, .p bl 0, .p ba 0] (gat bl ba b c l2) (fun a L' => a = .ret (.tuple []) ∧ ∃ b' c', L' = gat bl ba b' c' l3) → True := fun _ => trivial
        cases l2 with
        | nil =>
          ((apply a_ldAp; exact rfl); refine a_bx fun z2 => ?_; refine a_stA 0 rfl rfl rfl rfl ?_; (apply a_ld1 2; exact rfl; exact rfl); (apply a_ldA 0; exact rfl; exact rfl); refine a_cfW ?_)
          refine a_callM [⟨z2, t.a[i].cs, .box⟩, ⟨z1, t.cs, .box⟩] rfl (hih 0 0) ?_
          rintro a L' ⟨rfl, b3, c3, rfl⟩
          show aar _ _ _ _
          (refine a_add (by first | omega | assumption | decide) (by first | omega | assumption | decide) ?_)
          exact hK b3 c3 _ _ (by omega) (by omega) (by first | exact Gl.refl _ _ | exact Gl.drop (by repeat (first | exact List.Sublist.refl _ | exact List.Sublist.slnil | apply List.Sublist.cons_cons | apply List.Sublist.cons)))
        | cons y l2 =>
          ((apply a_ldAp; exact rfl); refine a_bx fun z2 => ?_; refine a_stA 0 rfl rfl rfl rfl ?_; (apply a_ld1 3; exact rfl; exact rfl); (apply a_ldA 0; exact rfl; exact rfl); refine a_cfW ?_)
          refine a_callM [⟨z2, t.a[i].cs, .box⟩, ⟨z1, t.cs, .box⟩] rfl (hih b2 c2) ?_
          rintro a L' ⟨rfl, b3, c3, rfl⟩
          show aar _ _ _ _
          (refine a_add (by first | omega | assumption | decide) (by first | omega | assumption | decide) ?_)
          exact hK b3 c3 _ _ (by omega) (by omega) (by first | exact Gl.refl _ _ | exact Gl.drop (by repeat (first | exact List.Sublist.refl _ | exact List.Sublist.slnil | apply List.Sublist.cons_cons | apply List.Sublist.cons)))
      · have hi : i = t.a.length := by omega
        subst hi
        rw [List.take_length]
        exact ⟨gat bl ba b2 c2 (l ++ mine ++ collL t.a), List.sublist_cons_self _ _, rfl, b2, c2, by rw [List.append_assoc]⟩
    · (refine a_fld ?_; (apply a_ld1 0; exact rfl; exact rfl); refine a_neqS ?_)
      refine a_cnd (fun h => ?_) (fun h => ?_)
      · rw [if_neg h] at hn
        obtain ⟨s, hs'⟩ : ∃ s, t.nm = str s := ⟨_, str_of _⟩
        have hx : mine = [(s, t.op)] := by rw [← hn, hs']; simp [str]
        rw [hx] at hJ
        cases l with
        | nil =>
          unfold gat
          simp only [gb, gv, List.nil_append]
          ((apply a_ld1 2; exact rfl; exact rfl); refine a_fld ?_; (apply a_ld1 0; exact rfl; exact rfl); refine a_fld ?_; (apply a_ld1 0; exact rfl; exact rfl); refine a_fld ?_; (apply a_ld1 0; exact rfl; exact rfl); refine a_bld [_, _, _, .nil] rfl rfl ?_; (apply a_bld _; exact rfl; (try dsimp only [afill, aparts, cl, chunk, List.take, List.drop, List.nil_append, List.cons_append, List.append_nil, List.length_cons, List.length_nil, Nat.zero_add, Nat.reduceAdd, Nat.reduceMul]); try exact rfl); (apply a_bldS _; exact rfl; (try dsimp only [afill, aparts, cl, chunk, List.take, List.drop, List.nil_append, List.cons_append, List.append_nil, List.length_cons, List.length_nil, Nat.zero_add, Nat.reduceAdd, Nat.reduceMul]); try exact rfl))
          rw [hs']
          refine a_appG0 (cs := Nm.cs) (x := (s, t.op)) Nm.cs_len Nm.cs_one (by omega) fun b' c' => ?_
          (refine a_stA 3 rfl rfl rfl rfl ?_)
          exact hJ (b', c') _ _ trivial (Gl.perm (List.Perm.swap _ _ _))
        | cons y l =>
          unfold gat
          simp only [gb, List.cons_append, List.nil_append]
          ((apply a_ld1 3; exact rfl; exact rfl); refine a_fld ?_; (apply a_ld1 0; exact rfl; exact rfl); refine a_fld ?_; (apply a_ld1 0; exact rfl; exact rfl); refine a_fld ?_; (apply a_ld1 0; exact rfl; exact rfl); refine a_bld [_, _, _, .nil] rfl rfl ?_; (apply a_bld _; exact rfl; (try dsimp only [afill, aparts, cl, chunk, List.take, List.drop, List.nil_append, List.cons_append, List.append_nil, List.length_cons, List.length_nil, Nat.zero_add, Nat.reduceAdd, Nat.reduceMul]); try exact rfl); (apply a_bldS _; exact rfl; (try dsimp only [afill, aparts, cl, chunk, List.take, List.drop, List.nil_append, List.cons_append, List.append_nil, List.length_cons, List.length_nil, Nat.zero_add, Nat.reduceAdd, Nat.reduceMul]); try exact rfl))
          rw [hs']
          refine a_appG1 (cs := Nm.cs) (x := (s, t.op)) Nm.cs_len Nm.cs_one 1 rfl (by simp only [List.length_cons] at hsz; omega) fun b' c' => ?_
          (refine a_stA 3 rfl rfl rfl rfl ?_)
          exact hJ (b', c') _ _ trivial (by first | exact Gl.refl _ _ | exact Gl.drop (by repeat (first | exact List.Sublist.refl _ | exact List.Sublist.slnil | apply List.Sublist.cons_cons | apply List.Sublist.cons)))
      · have h := Classical.not_not.1 h
        rw [if_pos h] at hn
        subst hn
        rw [List.append_nil] at hJ
        exact hJ (b, c) _ _ trivial (by first | exact Gl.refl _ _ | exact Gl.drop (by repeat (first | exact List.Sublist.refl _ | exact List.Sublist.slnil | apply List.Sublist.cons_cons | apply List.Sublist.cons)))
end Go.Proofs.YtaigilchnadmpaaGreatDoor
