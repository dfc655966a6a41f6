/- Contracts of layer 18: World and Pending, as told. -/
import Derived.Test.YtdalobojhfafbaaGreatDoorC75
import Derived.Test.YtdalobojhfafbaaGreatDoorM33
import Derived.Test.YtdalobojhfafbaaGreatDoorW22
set_option maxRecDepth 100000
set_option linter.unusedVariables false
namespace Go.V
open Go
theorem AFn.ofGeN {P : Program} {g : FuncId} {args : List D} {L : List Bx} {a : AE} (h : ASpec P g args L fun a' L' => Ge a' L' a L) : AFn P g args L a := ASpec.ge h fun a' L' hg => ⟨a, L, hg, rfl, rfl⟩
theorem gvX_cl {α : Type} {b c : Nat} (l : List α) : cl (gv b c l) = [gv b c l] := by cases l <;> rfl
theorem gvX_one {α : Type} {b c : Nat} (l : List α) : [gv b c l].all D.one = true := by cases l <;> rfl
/-- a store into a block that stands anywhere -/
theorem a_stP {n b o : Nat} {l : List D} {v : D} {kd : Kd} {L P : List Bx} {ks : List Bx → Prop} (m : List D) (hP : L.Perm (⟨b, l, kd⟩ :: P)) (hv : (cl v).length = n) (ho : (cl v).all D.one = true) (hl : Nat.ble (o + n) l.length = true) (hm : l.take o ++ cl v ++ l.drop (o + n) = m)
    (h : ∀ L', L'.Perm (⟨b, m, kd⟩ :: P) → ks L') : ast n (.p b o) v L ks := by
  have hmem : (⟨b, l, kd⟩ : Bx) ∈ L := hP.mem_iff.2 List.mem_cons_self
  obtain ⟨X, Y, rfl⟩ := List.append_of_mem hmem
  have hXY : (X ++ Y).Perm P := (List.perm_cons _).1 (List.perm_middle.symm.trans hP)
  refine ⟨X.length, l, kd, m, ?_, hv, ho, Nat.le_of_ble_eq_true hl, hm, ?_⟩
  · rw [List.getElem?_append_right (Nat.le_refl _), Nat.sub_self]; rfl
  · rw [List.set_append_right _ _ (Nat.le_refl _), Nat.sub_self]
    exact h _ (List.perm_middle.trans (hXY.cons _))
end Go.V
namespace Go.Proofs.YtdalobojhfafbaaGreatDoor
open Go Go.V
theorem c20 {bs : Nat} {S : Sm} {pd : D} (hw : smallW S.w) (h64 : S.w.names.length ≤ 64) : AFn pr 20 [.p bs 0] [smB bs S pd] (.ret S.w.d) := by
  refine AFn.ofGeN (s20 ?_)
  unfold A20
  obtain ⟨hs, safe, ⟨nodes, names⟩, l⟩ := S
  dsimp only at hw h64 ⊢
  unfold smB smC
  dsimp only
  (refine a_bx fun z1 => ?_; refine a_nil ?_; refine a_fld ?_; (apply a_ldN 1 _; exact rfl; exact rfl; exact rfl); refine a_bx fun z2 => ?_; refine a_stA 0 rfl rfl rfl rfl ?_; refine a_fld ?_; (apply a_st 0 _; exact rfl; exact rfl; exact rfl; exact rfl; (try dsimp only [afill, aparts, cl, chunk, List.take, List.drop, List.nil_append, List.cons_append, List.append_nil, List.length_cons, List.length_nil, Nat.zero_add, Nat.reduceAdd, Nat.reduceMul]); try exact rfl); refine a_nil ?_; refine a_fld ?_; refine a_fld ?_; (apply a_ld1 2; exact rfl; exact rfl); refine a_lenM ?_)
  refine a_lp (σ := Nat × Nat × Nat) (fun x => [.i x.1]) (fun x => gb Nv.cs 70 5 x.2.1 x.2.2 (names.take x.1) ++ [⟨z2, [.i nodes, gv x.2.1 x.2.2 (names.take x.1)], .box⟩, ⟨z1, [.i 0, .nil], .box⟩, ⟨bs, (ownP hs safe).cs ++ ((Wd.mk nodes names).cs ++ [pd]), .box⟩]) (fun x => x.1 ≤ names.length) (fun x => names.length - x.1) (0, 0, 0) ?_ (Nat.zero_le _) ?_
  · exact Gl.refl _ _
  rintro ⟨i, b, c⟩ K hi hK
  dsimp only at hi hK ⊢
  dsimp only [aix0, aix1, aix2, aix3, aix4, aix5, aix6, aix7, aix8]
  refine a_lss ?_
  refine a_cnd (fun q => ?_) (fun q => ?_)
  · have hlt : i < names.length := by omega
    have hmem := hw _ (List.getElem_mem hlt)
    have h1 := List.take_succ_eq_append_getElem hlt
    refine a_idxM i hlt ?_
    generalize names[i] = x at *
    obtain ⟨nm, ⟨vs, vn, vb, vl⟩⟩ := x
    dsimp only at hmem
    ((apply a_ldAp; exact rfl); refine a_bx fun z3 => ?_; refine a_stA 0 rfl rfl rfl rfl ?_; refine a_fld ?_; refine a_fld ?_; (apply a_ld1 0; exact rfl; exact rfl); refine a_call0 (c49 _ (by first | omega | assumption | decide)) ?_; refine a_fld ?_; refine a_fld ?_; (apply a_st 0 _; exact rfl; exact rfl; exact rfl; exact rfl; (try dsimp only [afill, aparts, cl, chunk, List.take, List.drop, List.nil_append, List.cons_append, List.append_nil, List.length_cons, List.length_nil, Nat.zero_add, Nat.reduceAdd, Nat.reduceMul]); try exact rfl); refine a_fld ?_; (refine a_c1 ?_; apply a_ldr1 0; exact rfl; exact rfl); (apply a_ldA 0; exact rfl; exact rfl); refine a_rowNS1 rfl ?_)
    refine a_appOne (M := [_]) (x := (⟨nm, vs, vn, vb, vl⟩ : Nv)) Nv.cs_len Nv.cs_one (by rw [List.length_take]; omega) rfl fun b' c' L' hL => ?_
    rw [← h1] at hL ⊢
    (refine a_fld ?_)
    refine a_stP [.i nodes, gv b' c' (names.take (i + 1))] (hL.trans List.perm_middle) (by rw [gvX_cl]; rfl) (by rw [gvX_cl]; exact gvX_one _) rfl (by rw [gvX_cl]; rfl) fun L2 hL2 => ?_
    (refine a_add (by first | omega | assumption | decide) (by first | omega | assumption | decide) ?_)
    refine hK (i + 1, b', c') _ _ (by dsimp only; omega) (by dsimp only; omega) ?_
    dsimp only
    exact Gl.trans (Gl.perm (hL2.trans List.perm_middle.symm)) (Gl.drop (List.sublist_cons_self _ _))
  · rw [show i = names.length by omega, List.take_length]
    refine a_ldrA 0 rfl rfl ?_
    refine a_strA 1 rfl rfl rfl (by show (true && [gv b c names].all D.one) = true; rw [gvX_one]; rfl) ?_
    refine a_ldrA 1 rfl rfl ?_
    exact ⟨trivial, Gl.trans (Gl.drop (List.Sublist.append_left (.cons _ (.cons _ (List.Sublist.refl _))) _)) (gl_gvR Nv.cs_len (.cons (.agg (.cons (.refl _) (.cons .hit .nil))) .nil))⟩
theorem pend_row {bs : Nat} {S : Sm} {L : List Bx} (h : SimR bs S L) (hl : S.l.length ≤ 100000) : AFn pr 22 [.p bs 0] L (.ret (.row 2 (S.l.map Pn.cs))) := by
  refine AFn.ofGeN (ASpec.mono (c22 h hl) ?_)
  rintro a L' ⟨pd', M', rfl, rfl, hp⟩
  refine ⟨trivial, ?_⟩
  generalize S.l = l at *
  cases hp with
  | nil => exact Gl.nil 2 (.cons .hit .nil) (WkB.refl _ _ _)
  | row b c =>
    refine Gl.fz (n := l.length) (c := c) 0 rfl (flat_len Pn.cs_len l) ?_ (WkB.refl _ _ _)
    rw [chunk_flat Pn.cs_len]; exact .cons .hit .nil
end Go.Proofs.YtdalobojhfafbaaGreatDoor
/- Contracts of layer 18: what must be in any case; a step; two worlds. -/
set_option maxRecDepth 100000
set_option linter.unusedVariables false
namespace Go.Proofs.YtdalobojhfafbaaGreatDoor
open Go Go.V
theorem same_self (v : Vl) : AFn pr 25 [v.d, v.d] [] (.ret (.b true)) := by
  have h := c25 v v
  have e : (decide (v.sort = v.sort) && decide (v.n = v.n) && decide (v.b = v.b) && decide (v.s = v.s)) = true := by simp
  rw [e] at h; exact h
theorem c19 (w : Wd) (h64 : w.names.length ≤ 64) : AFn pr 19 [w.d, w.d] [] (.ret (.b true)) := by
  refine AFn.ofGe (s19 ?_)
  unfold A19
  refine a_bxv fun z1 => ?_
  refine a_bxv fun z2 => ?_
  refine a_jn (σ := Unit) (fun _ => []) (fun _ => [⟨z2, w.cs, .box⟩, ⟨z1, w.cs, .box⟩]) (fun _ => True) ?_ fun J hJ => ?_
  · intro _ _
    refine a_lp (σ := Nat) (fun i => [.i i]) (fun _ => [⟨z2, w.cs, .box⟩, ⟨z1, w.cs, .box⟩]) (fun i => i ≤ w.names.length) (fun i => w.names.length - i) 0 (by first | exact Gl.refl _ _ | exact Gl.drop (by repeat (first | exact List.Sublist.refl _ | exact List.Sublist.slnil | apply List.Sublist.cons_cons | apply List.Sublist.cons))) (Nat.zero_le _) ?_
    rintro i K hi hK
    dsimp only [aix0, aix1, aix2, aix3, aix4, aix5, aix6, aix7, aix8]
    (refine a_fld ?_; (apply a_ld1 1; exact rfl; exact rfl); refine a_lenM ?_; refine a_lss ?_)
    refine a_cnd (fun q => ?_) (fun q => ?_)
    · have hlt : i < w.names.length := by omega
      have hS := same_self w.names[i].v
      (refine a_fld ?_; (apply a_ld1 1; exact rfl; exact rfl))
      refine a_idxM i hlt ?_
      (refine a_fldp ?_; (apply a_ld1 0; exact rfl; exact rfl))
      refine a_idxM i hlt ?_
      (refine a_fldp ?_; (apply a_ld1p; exact rfl); refine a_neqS ?_)
      refine a_cndbF (decide_eq_false fun h => h rfl) ?_
      (refine a_fld ?_; (apply a_ld1 1; exact rfl; exact rfl))
      refine a_idxM i hlt ?_
      (refine a_fldp ?_; (apply a_ldAp; exact rfl); refine a_fld ?_; (apply a_ld1 0; exact rfl; exact rfl))
      refine a_idxM i hlt ?_
      generalize w.names[i] = x at *
      obtain ⟨xn, ⟨vs, vn, vb, vl⟩⟩ := x
      refine a_fldp ?_
      (apply a_ldAp; exact rfl)
      refine a_callS0 hS ?_
      refine a_not ?_
      refine a_cndbF rfl ?_
      refine a_add (by omega) (by have := h64; omega) ?_
      exact hK (i + 1) _ _ (by omega) (by omega) (by first | exact Gl.refl _ _ | exact Gl.drop (by repeat (first | exact List.Sublist.refl _ | exact List.Sublist.slnil | apply List.Sublist.cons_cons | apply List.Sublist.cons)))
    · exact ge_drop _ _
  · (refine a_fld ?_; (apply a_ld1 1; exact rfl; exact rfl); refine a_fld ?_; (apply a_ld1 0; exact rfl; exact rfl); refine a_neq ?_; refine a_cndF (by first | omega | assumption | decide) ?_; refine a_fld ?_; (apply a_ld1 1; exact rfl; exact rfl); refine a_lenM ?_; refine a_fld ?_; (apply a_ld1 0; exact rfl; exact rfl); refine a_lenM ?_; refine a_neq ?_; refine a_cndF (by first | omega | assumption | decide) ?_)
    exact hJ () _ _ trivial (Gl.refl _ _)
theorem c35 : AFn pr 35 [] [] (.ret simP.d) := by
  refine AFn.ofGe (s35 ?_)
  unfold A35
  (refine a_bx fun z1 => ?_; refine a_bldT0 rfl rfl ?_; refine a_bx fun z2 => ?_; refine a_stA 0 rfl rfl rfl rfl ?_; refine a_bldT0 rfl rfl ?_; refine a_bx fun z3 => ?_; refine a_stA 0 rfl rfl rfl rfl ?_; (apply a_ldA 1; exact rfl; exact rfl); (apply a_ldA 0; exact rfl; exact rfl); refine a_rowS2 rfl ?_; refine a_bldT rfl rfl ?_; refine a_bx fun z4 => ?_; refine a_stA 0 rfl rfl rfl rfl ?_; (apply a_bldS _; exact rfl; (try dsimp only [afill, aparts, cl, chunk, List.take, List.drop, List.nil_append, List.cons_append, List.append_nil, List.length_cons, List.length_nil, Nat.zero_add, Nat.reduceAdd, Nat.reduceMul]); try exact rfl); (apply a_bldS _; exact rfl; (try dsimp only [afill, aparts, cl, chunk, List.take, List.drop, List.nil_append, List.cons_append, List.append_nil, List.length_cons, List.length_nil, Nat.zero_add, Nat.reduceAdd, Nat.reduceMul]); try exact rfl); (apply a_ldA 1; exact rfl; exact rfl); (apply a_bld _; exact rfl; (try dsimp only [afill, aparts, cl, chunk, List.take, List.drop, List.nil_append, List.cons_append, List.append_nil, List.length_cons, List.length_nil, Nat.zero_add, Nat.reduceAdd, Nat.reduceMul]); try exact rfl); (apply a_bldS _; exact rfl; (try dsimp only [afill, aparts, cl, chunk, List.take, List.drop, List.nil_append, List.cons_append, List.append_nil, List.length_cons, List.length_nil, Nat.zero_add, Nat.reduceAdd, Nat.reduceMul]); try exact rfl); (apply a_ldA 2; exact rfl; exact rfl); refine a_bldT0 rfl rfl ?_; refine a_rowS2 rfl ?_; refine a_bldT rfl rfl ?_; refine a_bldT0 rfl rfl ?_; (apply a_bldS _; exact rfl; (try dsimp only [afill, aparts, cl, chunk, List.take, List.drop, List.nil_append, List.cons_append, List.append_nil, List.length_cons, List.length_nil, Nat.zero_add, Nat.reduceAdd, Nat.reduceMul]); try exact rfl); refine V.a_bldW _ simH1.cs rfl rfl (.same (.same (.same (.same (.same (.same (.same (.nil (.refl _))))))))) ?_; refine a_bldT0 rfl rfl ?_; (apply a_ldA 0; exact rfl; exact rfl); (apply a_bld _; exact rfl; (try dsimp only [afill, aparts, cl, chunk, List.take, List.drop, List.nil_append, List.cons_append, List.append_nil, List.length_cons, List.length_nil, Nat.zero_add, Nat.reduceAdd, Nat.reduceMul]); try exact rfl); (apply a_bldS _; exact rfl; (try dsimp only [afill, aparts, cl, chunk, List.take, List.drop, List.nil_append, List.cons_append, List.append_nil, List.length_cons, List.length_nil, Nat.zero_add, Nat.reduceAdd, Nat.reduceMul]); try exact rfl); refine V.a_bldW _ simH2.cs rfl rfl (.same (.same (.same (.same (.same (.same (.same (.same (.nil (.refl _)))))))))) ?_; (apply a_bldS _; exact rfl; (try dsimp only [afill, aparts, cl, chunk, List.take, List.drop, List.nil_append, List.cons_append, List.append_nil, List.length_cons, List.length_nil, Nat.zero_add, Nat.reduceAdd, Nat.reduceMul]); try exact rfl); refine V.a_bldW _ simP.cs rfl rfl (.same (.nil (.nil (.same (.same (.same (.same (.same (.same (.same (.nil (.refl _)))))))))))) ?_; refine a_stA 3 rfl rfl rfl rfl ?_; (apply a_ldA 3; exact rfl; exact rfl))
  exact ge_drop _ _
section
variable {p : Pr} {n : Int}
theorem c15 {bs : Nat} {S : Sm} {L : List Bx} (hp : PrOk p) (hS : SOk p n S) (hn1 : 1 ≤ n) (hn2 : n ≤ 64) (h : SimR bs S L) (x : Stp) : ASpec pr 15 [.p bs 0, .agg x.cs] L (StepR bs S (doesF S x)) := by
  refine StepR.ge (s15 ?_)
  unfold A15
  obtain ⟨kind, i, node⟩ := x
  have hD := c37 hp hS hn1 hn2 h i
  have hU := c28 h i
  have hR := c27 h i (by have := hS.few; omega)
  have hT := c36 hp hS hn1 hn2 h i node
  refine a_bxv fun z1 => ?_
  (refine a_fld ?_; (apply a_ld1 0; exact rfl; exact rfl))
  refine a_jn (σ := Bool) (fun c => [.b c]) (fun _ => ⟨z1, [.i kind, .i i, .i node], .box⟩ :: L) (fun c => c = decide (kind = 0 ∨ kind = 1)) ?_ fun J hJ => ?_
  · rintro c hc
    have hfin : ∀ {o : Option Sm} {a : AE} {L' : List Bx}, doesF S ⟨kind, i, node⟩ = o → StepR bs S o a L' → ∃ L2 L3, ([(⟨z1, [.i kind, .i i, .i node], .box⟩ : Bx)] ++ L').Perm L2 ∧ L3.Sublist L2 ∧ StepR bs S (doesF S ⟨kind, i, node⟩) a L3 := fun {o a L'} e q => by
      rw [e]; exact ⟨_, L', List.Perm.refl _, List.sublist_append_right _ _, q⟩
    have hO : doesF S ⟨kind, i, node⟩ = if kind = 0 ∨ kind = 1 then DeliverF S i else if kind = 2 then DoubleF S i else if kind = 3 then DropF S i else if kind = 4 ∨ kind = 5 ∨ kind = 6 then TimerF S i node else none := rfl
    generalize doesF S ⟨kind, i, node⟩ = O at *
    have hcall : ∀ {f : FuncId} {args : List D} {o : Option Sm} {R : AE → List Bx → Prop}, ASpec pr f args L (StepR bs S o) → (∀ L', StepR bs S o (.ret (.b o.isSome)) L' → R (.ret (.b o.isSome)) ([⟨z1, [.i kind, .i i, .i node], .box⟩] ++ L')) → acallW pr f args (⟨z1, [.i kind, .i i, .i node], .box⟩ :: L) (apn R) fun d L' => R (.ret d) L' := fun {f args o R} q hk => by
      refine a_callM [⟨z1, [.i kind, .i i, .i node], .box⟩] rfl q ?_
      rintro a L' hR
      obtain ⟨rfl, h2⟩ := hR
      exact hk L' ⟨rfl, h2⟩
    by_cases h01 : kind = 0 ∨ kind = 1
    · rw [hc, decide_eq_true h01]
      rw [if_pos h01] at hO
      (refine a_cndbT rfl ?_; refine a_fld ?_; (apply a_ld1 0; exact rfl; exact rfl))
      exact hcall hD fun L' q => hfin hO q
    rw [hc, decide_eq_false h01]
    rw [if_neg h01] at hO
    by_cases h2 : kind = 2
    · rw [if_pos h2] at hO
      (refine a_cndbF rfl ?_; refine a_eql ?_; refine a_cndT (by first | omega | assumption | decide) ?_; refine a_fld ?_; (apply a_ld1 0; exact rfl; exact rfl))
      exact hcall hU fun L' q => hfin hO q
    rw [if_neg h2] at hO
    by_cases h3 : kind = 3
    · rw [if_pos h3] at hO
      (refine a_cndbF rfl ?_; refine a_eql ?_; refine a_cndF (by first | omega | assumption | decide) ?_; refine a_eql ?_; refine a_cndT (by first | omega | assumption | decide) ?_; refine a_fld ?_; (apply a_ld1 0; exact rfl; exact rfl))
      exact hcall hR fun L' q => hfin hO q
    rw [if_neg h3] at hO
    by_cases h4 : kind = 4
    · rw [if_pos (.inl h4)] at hO
      (refine a_cndbF rfl ?_; refine a_eql ?_; refine a_cndF (by first | omega | assumption | decide) ?_; refine a_eql ?_; refine a_cndF (by first | omega | assumption | decide) ?_; refine a_eql ?_; refine a_cndT (by first | omega | assumption | decide) ?_; refine a_cndT (by first | omega | assumption | decide) ?_; refine a_fld ?_; (apply a_ld1 0; exact rfl; exact rfl); refine a_fld ?_; (apply a_ld1 0; exact rfl; exact rfl))
      exact hcall hT fun L' q => hfin hO q
    by_cases h5 : kind = 5
    · rw [if_pos (.inr (.inl h5))] at hO
      (refine a_cndbF rfl ?_; refine a_eql ?_; refine a_cndF (by first | omega | assumption | decide) ?_; refine a_eql ?_; refine a_cndF (by first | omega | assumption | decide) ?_; refine a_eql ?_; refine a_cndF (by first | omega | assumption | decide) ?_; refine a_eql ?_; refine a_cndT (by first | omega | assumption | decide) ?_; refine a_cndT (by first | omega | assumption | decide) ?_; refine a_fld ?_; (apply a_ld1 0; exact rfl; exact rfl); refine a_fld ?_; (apply a_ld1 0; exact rfl; exact rfl))
      exact hcall hT fun L' q => hfin hO q
    by_cases h6 : kind = 6
    · rw [if_pos (.inr (.inr h6))] at hO
      (refine a_cndbF rfl ?_; refine a_eql ?_; refine a_cndF (by first | omega | assumption | decide) ?_; refine a_eql ?_; refine a_cndF (by first | omega | assumption | decide) ?_; refine a_eql ?_; refine a_cndF (by first | omega | assumption | decide) ?_; refine a_eql ?_; refine a_cndF (by first | omega | assumption | decide) ?_; refine a_eql ?_; refine a_cndT (by first | omega | assumption | decide) ?_; refine a_fld ?_; (apply a_ld1 0; exact rfl; exact rfl); refine a_fld ?_; (apply a_ld1 0; exact rfl; exact rfl))
      exact hcall hT fun L' q => hfin hO q
    rw [if_neg (by omega)] at hO
    (refine a_cndbF rfl ?_; refine a_eql ?_; refine a_cndF (by first | omega | assumption | decide) ?_; refine a_eql ?_; refine a_cndF (by first | omega | assumption | decide) ?_; refine a_eql ?_; refine a_cndF (by first | omega | assumption | decide) ?_; refine a_eql ?_; refine a_cndF (by first | omega | assumption | decide) ?_; refine a_eql ?_; refine a_cndF (by first | omega | assumption | decide) ?_)
    exact hfin (L' := L) hO ⟨rfl, h⟩
  · by_cases h0 : kind = 0
    · (refine a_eql ?_; refine a_cndT (by first | omega | assumption | decide) ?_)
      exact hJ (decide (kind = 0)) _ _ (by rw [decide_eq_true h0, decide_eq_true (.inl h0)]) (Gl.refl _ _)
    · (refine a_eql ?_; refine a_cndF (by first | omega | assumption | decide) ?_; refine a_eql ?_)
      exact hJ (decide (kind = 1)) _ _ (by by_cases h1 : kind = 1 <;> simp [h0, h1]) (Gl.refl _ _)
end
end Go.Proofs.YtdalobojhfafbaaGreatDoor
/- Contracts of layer 18: what must be in any case. -/
set_option maxRecDepth 100000
set_option linter.unusedVariables false
namespace Go.V
open Go
theorem a_eqOwn {k : D → Prop} {b o : Nat} (h : k (.b false)) : aeqP .eql (.p b o) (.val (.pointer none)) k := h
theorem a_eqNil {k : D → Prop} (h : k (.b true)) : aeqP .eql (.val (.pointer none)) (.val (.pointer none)) k := h
end Go.V
namespace Go.Proofs.YtdalobojhfafbaaGreatDoor
open Go Go.V
theorem pend_abs {bs : Nat} {S : Sm} {L : List Bx} (h : SimR bs S L) (M : List Bx) (hl : S.l.length ≤ 100000) : AFn pr 22 [.p bs 0] (M ++ L) (.ret (.row 2 (S.l.map Pn.cs))) := (pend_row h hl).frameM M
theorem world_abs {bs : Nat} {S : Sm} {L : List Bx} (h : SimR bs S L) (M : List Bx) (hw : smallW S.w) (h64 : S.w.names.length ≤ 64) : AFn pr 20 [.p bs 0] (M ++ L) (.ret S.w.d) := by
  obtain ⟨pd, N, rfl, _⟩ := h
  exact ((c20 hw h64).frameL N).frameM M
theorem safe_abs {bs : Nat} {S : Sm} {L : List Bx} (h : SimR bs S L) (M : List Bx) : AFn pr 17 [.p bs 0] (M ++ L) (.ret (.tuple [.b (evalF S.safe S.w).1.b, .i (evalF S.safe S.w).2])) := by
  obtain ⟨pd, N, rfl, _⟩ := h
  exact (c17.frameL N).frameM M
/-- a call that goes on from what runs, behind other boxes -/
theorem step_call {f : FuncId} {args : List D} {bs : Nat} {S : Sm} {o : Option Sm} {L : List Bx} {kp k : D → List Bx → Prop} (M : List Bx) (h : ASpec pr f args L (StepR bs S o)) (hk : ∀ L', SimR bs (o.getD S) L' → k (.b o.isSome) (M ++ L')) : acallW pr f args (M ++ L) kp k := by
  refine a_callM M rfl h ?_
  rintro a L' ⟨rfl, h2⟩
  exact hk L' h2
theorem c12 : AFn pr 12 [] [] (.ret (.b true)) := by
  refine AFn.ofGe (s12 ?_)
  unfold A12
  obtain ⟨hp, h1, h2, k0, _, _⟩ := New_ok sim0
  have k1 := (step_ok (x := ⟨4, 0, 2⟩) hp k0 sim1).1
  have k2 := (step_ok (x := ⟨2, 0, 0⟩) hp k1 sim3).1
  have k3 := (step_ok (x := ⟨0, 0, 0⟩) hp k2 sim4).1
  have k4 := (step_ok (x := ⟨0, 0, 0⟩) hp k3 sim6).1
  have hN := c13 simP 3
  unfold NewR at hN
  rw [sim0] at hN
  dsimp only at hN
  have hW := smallW_of k4.w.right
  have hG := c24 (simS 3 true []).w ⟨#[109]⟩ 2 hW
  have hg : getD' (simS 3 true []).w.names ⟨#[109]⟩ 2 = .tuple [(⟨2, 0, false, [false, false, true]⟩ : Vl).d, .b true] := by
    unfold getD'; rw [sim9]; rfl
  rw [hg] at hG
  (refine a_call0 c35 ?_)
  refine a_callF (L1 := []) (M := []) (List.Perm.refl _) hN ?_
  rintro a L' ⟨bs, rfl, rfl⟩
  simp only [AE.on]
  rw [List.append_nil]
  have r0 : SimR bs (simS 1 false []) [⟨bs, smC (ownP (simS 1 false []).hs (simS 1 false []).safe) (simS 1 false []).w .nil, .box⟩] := ⟨.nil, [], rfl, .nil⟩
  generalize [(⟨bs, smC (ownP (simS 1 false []).hs (simS 1 false []).safe) (simS 1 false []).w .nil, .box⟩ : Bx)] = L0 at *
  (apply a_ext; exact rfl); (apply a_ext; exact rfl)
  refine a_jn (σ := Unit) (fun _ => []) (fun _ => L0) (fun _ => True) ?_ fun J hJ => ?_
  · intro _ _
    refine step_call [] (c36 hp k0 h1 h2 r0 0 2) ?_
    rw [sim1]
    simp only [Option.isSome_some, Option.isSome_none, Option.getD_some, Option.getD_none, List.nil_append]
    intro L1 r1
    refine step_call [] (c36 hp k1 h1 h2 r1 1 0) ?_
    rw [sim2]
    simp only [Option.isSome_some, Option.isSome_none, Option.getD_some, Option.getD_none, List.nil_append]
    intro L1 r1
    refine a_callR (pend_abs r1 [] (by decide)) ?_
    refine step_call [] (c28 r1 0) ?_
    rw [show (simS 1 true [⟨⟨#[109]⟩, 2⟩]).l.map Pn.cs = [[.s ⟨#[109]⟩, .i 2]] from rfl]
    rw [sim3]
    simp only [Option.isSome_some, Option.isSome_none, Option.getD_some, Option.getD_none, List.nil_append]
    intro L2 r2
    refine step_call [] (c37 hp k2 h1 h2 r2 0) ?_
    rw [sim4]
    simp only [Option.isSome_some, Option.isSome_none, Option.getD_some, Option.getD_none, List.nil_append]
    intro L3 r3
    refine a_callR (safe_abs r3 []) ?_
    rw [show evalF (simS 2 true [⟨⟨#[109]⟩, 2⟩]).safe (simS 2 true [⟨⟨#[109]⟩, 2⟩]).w = (⟨4, 0, true, []⟩, 0) from sim5]
    ((apply a_ext; exact rfl); (apply a_ext; exact rfl))
    refine step_call [] (c37 hp k3 h1 h2 r3 0) ?_
    rw [sim6]
    simp only [Option.isSome_some, Option.isSome_none, Option.getD_some, Option.getD_none, List.nil_append]
    intro L4 r4
    refine a_callR (safe_abs r4 []) ?_
    rw [show evalF (simS 3 true []).safe (simS 3 true []).w = (⟨4, 0, false, []⟩, 0) from sim7]
    ((apply a_ext; exact rfl); (apply a_ext; exact rfl))
    refine a_callR (world_abs r4 [] hW (by decide)) ?_
    refine a_call0 hG ?_
    ((apply a_ext; exact rfl); (apply a_ext; exact rfl); refine a_bx fun z1 => ?_; refine a_stA 0 rfl rfl rfl rfl ?_; refine a_cndbT rfl ?_; refine a_not ?_; refine a_cndbT rfl ?_; refine a_lenL ?_; refine a_eql ?_; refine V.a_idx 0 _ rfl ?_; refine a_fldp ?_; (apply a_ld1p; exact rfl); refine a_eqlS ?_; refine V.a_idx 0 _ rfl ?_; refine a_fldp ?_; (apply a_ld1p; exact rfl); refine a_eql ?_; refine a_cndbT rfl ?_; refine a_cndbT rfl ?_; refine a_cndbT rfl ?_; refine a_cndbT rfl ?_; refine a_eql ?_; refine a_cndbT rfl ?_; refine a_cndbT rfl ?_; refine a_not ?_; refine a_cndbT rfl ?_; refine a_eql ?_; refine a_cndbT rfl ?_; refine a_cndbT rfl ?_; refine a_fld ?_; (apply a_ld1 0; exact rfl; exact rfl); refine a_lenM ?_; refine a_eql ?_; refine a_cndbT rfl ?_; refine a_fld ?_; (apply a_ld1 0; exact rfl; exact rfl); refine a_idxM (f := bc) 2 (by decide) ?_; (apply a_ld1 0; exact rfl; exact rfl); refine V.a_idx 0 _ rfl ?_; (apply a_ld1p; exact rfl); refine a_not ?_; refine a_cndbT rfl ?_)
    refine step_call [_] (c27 r4 0 (by decide)) ?_
    rw [sim8]
    intro L5 r5
    (refine a_not ?_)
    exact ge_drop _ _
  · refine a_eqOwn ?_
    (refine a_cndbF rfl ?_; refine a_neq ?_; refine a_cndbF rfl ?_)
    exact hJ () _ _ trivial (Gl.refl _ _)
end Go.Proofs.YtdalobojhfafbaaGreatDoor
