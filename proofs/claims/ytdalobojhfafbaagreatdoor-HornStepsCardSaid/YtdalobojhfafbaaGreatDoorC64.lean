/- Contracts of layer 19: what must hold ahead of a step. -/
import Derived.Test.YtdalobojhfafbaaGreatDoorC61
import Derived.Test.YtdalobojhfafbaaGreatDoorC24
import Derived.Test.YtdalobojhfafbaaGreatDoorM29
import Derived.Test.YtdalobojhfafbaaGreatDoorW15
import Derived.Test.YtdalobojhfafbaaGreatDoorT3
import Derived.Test.YtdalobojhfafbaaGreatDoorW20
import Derived.Test.YtdalobojhfafbaaGreatDoorC4
import Derived.KernelRfl
set_option maxRecDepth 100000
set_option linter.unusedVariables false
namespace Go.V
open Go
def partsP (p : Pr) : List (List ByteArray × Int) := [(p.ints, 1), (p.bools, 17), (p.sets, 8), (p.msgs, 8)]
def partC (x : List ByteArray × Int) : List D := [.row 1 (sT x.1), .i x.2]
def untilP (p : Pr) (j : Nat) : List As := p.init ++ (((partsP p).take j).map fun x => asL x.1 (mk x.2 [])).flatten
theorem untilP_all (p : Pr) : untilP p 4 = firstL p := by
  unfold untilP firstL partsP
  simp [List.append_assoc]
theorem untilP_succ (p : Pr) {j : Nat} (hj : j < (partsP p).length) : untilP p (j + 1) = untilP p j ++ asL (partsP p)[j].1 (mk (partsP p)[j].2 []) := by
  unfold untilP
  rw [List.take_succ_eq_append_getElem hj, List.map_append, List.flatten_append, List.append_assoc]
  simp
theorem untilP_len {p : Pr} (h : fewB p = true) (j : Nat) : (untilP p j).length ≤ 92 ∧ ∀ x ∈ partsP p, x.1.length ≤ 15 := by
  obtain ⟨⟨⟨f1, f2, f3, f4⟩, _, _, f5⟩, _⟩ := (fewB_iff p).1 h
  have hx : ∀ x ∈ partsP p, x.1.length ≤ 15 := fun x hx => by
    unfold partsP at hx
    simp only [List.mem_cons, List.not_mem_nil, or_false] at hx
    rcases hx with rfl | rfl | rfl | rfl <;> assumption
  refine ⟨?_, hx⟩
  have : ∀ l : List (List ByteArray × Int), (∀ x ∈ l, x.1.length ≤ 15) → ((l.map fun x => asL x.1 (mk x.2 [])).flatten).length ≤ l.length * 15 := by
    intro l
    induction l with
    | nil => intro _; simp
    | cons y r ih =>
      intro hl
      have h1 := hl y List.mem_cons_self
      have h2 := ih fun x hx => hl x (List.mem_cons_of_mem _ hx)
      rw [List.map_cons, List.flatten_cons, List.length_append, List.length_cons]
      have : (asL y.1 (mk y.2 [])).length = y.1.length := by unfold asL; rw [List.length_map]
      omega
  have h4 := this ((partsP p).take j) fun x hx' => hx x (List.mem_of_mem_take hx')
  have h5 : ((partsP p).take j).length ≤ 4 := by rw [List.length_take]; exact Nat.min_le_right _ _
  unfold untilP
  rw [List.length_append]
  omega
end Go.V
namespace Go.Proofs.YtdalobojhfafbaaGreatDoor
open Go Go.V
theorem c67 (op : Int) (a : List Tm) : AFn pr 67 [.i op, .row 4 (Tm.rows a)] [] (.ret (mk op a).d) := by
  refine AFn.of (s67 ?_)
  unfold A67
  (refine a_bx fun z1 => ?_; refine a_bldT rfl rfl ?_; refine a_stA 0 rfl rfl rfl rfl ?_; (apply a_ldA 0; exact rfl; exact rfl))
  rfl
theorem c67n (op : Int) : AFn pr 67 [.i op, .nil] [] (.ret (mk op []).d) := by
  refine AFn.of (s67 ?_)
  unfold A67
  (refine a_bx fun z1 => ?_; refine a_bldT0 rfl rfl ?_; refine a_stA 0 rfl rfl rfl rfl ?_; (apply a_ldA 0; exact rfl; exact rfl))
  rfl
theorem c67a (op : Int) {b o n c : Nat} : AFn pr 67 [.i op, .sl b o n c] [] (.ret (.agg [.i op, .s ⟨#[]⟩, .i 0, .sl b o n c])) := by
  refine AFn.of (s67 ?_)
  unfold A67
  (refine a_bx fun z1 => ?_; (apply a_bld _; exact rfl; (try dsimp only [afill, aparts, cl, chunk, List.take, List.drop, List.nil_append, List.cons_append, List.append_nil, List.length_cons, List.length_nil, Nat.zero_add, Nat.reduceAdd, Nat.reduceMul]); try exact rfl); refine a_stA 0 rfl rfl rfl rfl ?_; (apply a_ldA 0; exact rfl; exact rfl))
  rfl
theorem c73 (t : Tm) : AFn pr 73 [t.d] [] (.ret (.tuple [(wholeE t).1.d, .i (wholeE t).2])) := by
  refine AFn.ofGe (s73 ?_)
  unfold A73
  cases t with | mk o s n a =>
  (refine a_bxv fun z1 => ?_; refine a_bx fun z2 => ?_; (apply a_ldA 1; exact rfl; exact rfl); refine a_call0 (c69 _) ?_; (apply a_ext; exact rfl); (apply a_ext; exact rfl); refine a_neq ?_)
  unfold wholeE
  by_cases h : (sortF (.mk o s n a)).2 ≠ 0
  · rw [if_pos h]
    refine a_cndT h ?_
    (refine a_bldT0 rfl rfl ?_; refine a_stA 0 rfl rfl rfl rfl ?_; (apply a_ldA 0; exact rfl; exact rfl))
    exact ge_drop _ _
  · rw [if_neg h]
    refine a_cndF h ?_
    ((apply a_ldA 1; exact rfl; exact rfl); refine a_stA 0 rfl rfl rfl rfl ?_; (apply a_ldA 0; exact rfl; exact rfl))
    exact ge_drop _ _
theorem c68 (q : Tm) (l : List As) : AFn pr 68 [q.d, .row 5 (l.map As.cr)] [] (.ret (.tuple [(putE q l).1.d, .i (putE q l).2])) := by
  refine AFn.ofGe (s68 ?_)
  unfold A68
  unfold putE
  cases q with | mk o s n a =>
  (refine a_bxv fun z1 => ?_; refine a_bx fun z2 => ?_; (apply a_ldA 1; exact rfl; exact rfl); refine a_call0 (c107 _ _) ?_; (apply a_ext; exact rfl); (apply a_ext; exact rfl); refine a_bx fun z3 => ?_; refine a_stA 0 rfl rfl rfl rfl ?_; refine a_neq ?_)
  generalize PutF (.mk o s n a) l = r
  obtain ⟨⟨o', s', n', a'⟩, e⟩ := r
  skip
  by_cases h : e ≠ 0
  · rw [if_pos h]
    refine a_cndT h ?_
    (refine a_bldT0 rfl rfl ?_; refine a_stA 1 rfl rfl rfl rfl ?_; (apply a_ldA 1; exact rfl; exact rfl))
    exact ge_drop _ _
  · rw [if_neg h]
    refine a_cndF h ?_
    ((apply a_ldA 0; exact rfl; exact rfl); refine a_stA 1 rfl rfl rfl rfl ?_; (apply a_ldA 1; exact rfl; exact rfl))
    exact ge_drop _ _
theorem c66 (p : Pr) (q : Tm) : AFn pr 66 [p.d, q.d] [] (.ret (.i (askedE p q))) := by
  refine AFn.ofGe (s66 ?_)
  unfold A66
  unfold askedE
  refine a_bxv fun z1 => ?_
  cases q with | mk o s n a =>
  have hC := c26 p
  have hN := c100 (.mk o s n a)
  (refine a_bxv fun z2 => ?_; refine V.a_ldN 1 _ rfl rfl p.cs_len ?_; refine a_call0 hC ?_; refine a_neq ?_)
  by_cases h : CheckF p = 0
  · rw [h, seqE_0]
    (refine a_cndbF rfl ?_; (apply a_ldA 0; exact rfl; exact rfl); refine a_call0 (c69 _) ?_; (apply a_ext; exact rfl); (apply a_ext; exact rfl); refine a_neq ?_)
    by_cases h2 : (sortF (.mk o s n a)).2 ≠ 0
    · rw [if_pos h2]
      refine a_cndT h2 ?_
      exact ge_drop _ _
    · rw [if_neg h2]
      refine a_cndF h2 ?_
      (refine a_neq ?_)
      by_cases h3 : (sortF (.mk o s n a)).1 ≠ 4
      · rw [if_pos h3]
        refine a_cndT h3 ?_
        exact ge_drop _ _
      · rw [if_neg h3]
        refine a_cndF h3 ?_
        ((apply a_ldA 0; exact rfl; exact rfl); refine a_call0 hN ?_; refine a_lenM ?_)
        have hlen := namesF_len (.mk o s n a)
        generalize NamesF (.mk o s n a) = l at *
        refine a_lp (σ := Nat) (fun i => [.i i]) (fun _ => []) (fun i => i ≤ l.length ∧ (l.drop i).any (fun x => decide (x.2 = 14)) = l.any fun x => decide (x.2 = 14)) (fun i => l.length - i) 0 (by first | exact Gl.refl _ _ | exact Gl.drop (by repeat (first | exact List.Sublist.refl _ | exact List.Sublist.slnil | apply List.Sublist.cons_cons | apply List.Sublist.cons))) ⟨Nat.zero_le _, rfl⟩ ?_
        rintro i K ⟨hi, hf⟩ hK
        dsimp only [aix0, aix1, aix2, aix3, aix4, aix5, aix6, aix7, aix8]
        refine a_lss ?_
        refine a_cnd (fun q => ?_) (fun q => ?_)
        · have hlt : i < l.length := by omega
          rw [List.drop_eq_getElem_cons hlt, List.any_cons] at hf
          refine a_idxM i hlt ?_
          generalize l[i] = x at *
          obtain ⟨xn, xo⟩ := x
          ((apply a_ldAp; exact rfl); refine a_bx fun z3 => ?_; refine a_stA 0 rfl rfl rfl rfl ?_; refine a_fld ?_; refine a_fld ?_; (apply a_ld1 0; exact rfl; exact rfl); refine a_eql ?_)
          by_cases h4 : xo = 14
          · refine a_cndT h4 ?_
            rw [← hf, decide_eq_true (show (xn, xo).2 = 14 from h4)]
            exact ge_drop _ _
          · refine a_cndF h4 ?_
            (refine a_add (by first | omega | assumption | decide) (by first | omega | assumption | decide) ?_)
            rw [decide_eq_false (show ¬ (xn, xo).2 = 14 from h4), Bool.false_or] at hf
            exact hK (i + 1) _ _ ⟨by omega, hf⟩ (by omega) (by first | exact Gl.refl _ _ | exact Gl.drop (by repeat (first | exact List.Sublist.refl _ | exact List.Sublist.slnil | apply List.Sublist.cons_cons | apply List.Sublist.cons)))
        · rw [List.drop_eq_nil_of_le (by omega)] at hf
          rw [← hf]
          exact ge_drop _ _
  · rw [seqE_n h]
    (refine a_cndT (by first | omega | assumption | decide) ?_)
    exact ge_drop _ _
theorem c74 (h : Ha) : AFn pr 74 [h.d, (nodeT h).d] [] (.ret (aheadT h).d) := by
  refine AFn.ofGe (s74 ?_)
  unfold A74
  obtain ⟨timer, hn, hnode, ⟨wo, ws, wn, wa⟩, dos, send⟩ := h
  unfold nodeT aheadT varS
  dsimp only
  cases timer with
  | true =>
    (refine a_bxv fun z1 => ?_; refine a_bxv fun z2 => ?_; refine a_bx fun z3 => ?_; refine a_fld ?_; (apply a_ldN 2 _; exact rfl; exact rfl; exact rfl); refine a_rowS1 rfl ?_; refine a_call0 (c67 _ _) ?_; refine a_bx fun z4 => ?_; refine a_stA 0 rfl rfl rfl rfl ?_; refine a_fld ?_; (apply a_ld1 3; exact rfl; exact rfl); refine a_not ?_; refine a_cndbF rfl ?_; (apply a_ldA 0; exact rfl; exact rfl); refine a_stA 1 rfl rfl rfl rfl ?_; (apply a_ldA 1; exact rfl; exact rfl))
    exact ge_drop _ _
  | false =>
    (refine a_bxv fun z1 => ?_; refine a_bxv fun z2 => ?_; refine a_bx fun z3 => ?_; refine a_fld ?_; (apply a_ldN 2 _; exact rfl; exact rfl; exact rfl); refine V.a_bldO [.i wo, .s ws, .i wn, .row 4 (Tm.rows wa)] rfl rfl fun z9 => ?_; refine a_call0 (c67a _) ?_; refine a_bx fun z10 => ?_; refine a_stA 0 rfl rfl rfl rfl ?_; refine a_fld ?_; (apply a_ld1 4; exact rfl; exact rfl); refine a_not ?_; refine a_cndbT rfl ?_; refine a_fld ?_; (apply a_ld1 0; exact rfl; exact rfl); (apply a_ldA 3; exact rfl; exact rfl); refine a_fld ?_; (apply a_ld1 4; exact rfl; exact rfl); refine a_bldT0 rfl rfl ?_; refine a_rowT2 rfl ?_; refine a_callS0 (c67 _ _) ?_; refine a_rowT1 rfl ?_)
    have hrow : ∀ t : Tm, (Tm.rows [t]).flatten = t.cs := fun t => by rw [Tm.rows_eq]; exact List.append_nil _
    refine V.a_app 1 _ 1 _ rfl rfl ⟨rfl, rfl, hrow _⟩ rfl (by decide) fun b' c' => ?_
    (refine a_fld ?_; (apply a_st 0 _; exact rfl; exact rfl; exact rfl; exact rfl; (try dsimp only [afill, aparts, cl, chunk, List.take, List.drop, List.nil_append, List.cons_append, List.append_nil, List.length_cons, List.length_nil, Nat.zero_add, Nat.reduceAdd, Nat.reduceMul]); try exact rfl); (apply a_ldA 0; exact rfl; exact rfl); refine a_stA 2 rfl rfl rfl rfl ?_; (apply a_ldA 2; exact rfl; exact rfl))
    refine ⟨trivial, Gl.trans (Gl.drop (L' := gb Tm.cs 27 4 b' c' [.mk wo ws wn wa, mk 25 [.mk 14 hnode 0 [], .mk 7 hn 0 []]]) ?_) (gl_gv0 Tm.cs_len ?_)⟩
    · exact .cons _ (.cons_cons _ (List.nil_sublist _))
    · exact .cons (.agg (.cons (.refl _) (.cons (.refl _) (.cons (.refl _) (.cons .hit .nil))))) .nil
theorem c72 (h : Ha) (hd : h.dos.length ≤ 32) (hs : h.send.length ≤ 32) : AFn pr 72 [h.d, (nodeT h).d] [] (.ret (.row 5 ((becT h).map As.cr))) := by
  refine AFn.ofGe (s72 ?_)
  unfold A72
  have hrow : ∀ t : Tm, D.agg t.cs = t.d := fun t => rfl
  have hone : ∀ i (hi : i < h.send.length), h.dos ++ (h.send.take (i + 1)).map (sendT h) = (h.dos ++ (h.send.take i).map (sendT h)) ++ [sendT h h.send[i]] := fun i hi => by
    rw [List.take_succ_eq_append_getElem hi, List.map_append, List.append_assoc]; rfl
  have hall : h.dos ++ (h.send.take h.send.length).map (sendT h) = becT h := by rw [List.take_length]; rfl
  have hsend : ∀ s, sendT h s = ⟨s, mk 11 [.mk 7 s 0 [], mk 10 [.mk 14 h.node 0 []]]⟩ := fun s => rfl
  obtain ⟨timer, hn, hnode, ⟨wo, ws, wn, wa⟩, dos, send⟩ := h
  unfold nodeT
  dsimp only at hd hs hone hall hsend ⊢
  (refine a_bxv fun z1 => ?_; refine a_bxv fun z2 => ?_; refine a_fld ?_; (apply a_ld1 1; exact rfl; exact rfl))
  refine a_appH (l := ([] : List As)) (b := 0) (c := 0) As.cr_len As.cr_one (by simp only [List.length_nil]; omega) fun b c => ?_
  rw [List.nil_append]
  (refine a_fld ?_; (apply a_ldr1 1; exact rfl; exact rfl); refine a_lenM ?_)
  refine a_lp (σ := Nat × Nat × Nat) (fun x => [gv x.2.1 x.2.2 (dos ++ (send.take x.1).map (sendT ⟨timer, hn, hnode, .mk wo ws wn wa, dos, send⟩)), .i x.1]) (fun x => gb As.cr 68 5 x.2.1 x.2.2 (dos ++ (send.take x.1).map (sendT ⟨timer, hn, hnode, .mk wo ws wn wa, dos, send⟩)) ++ [⟨z2, (Tm.mk 14 hnode 0 []).cs, .box⟩, ⟨z1, (Ha.mk timer hn hnode (.mk wo ws wn wa) dos send).cs, .box⟩]) (fun x => x.1 ≤ send.length) (fun x => send.length - x.1) (0, b, c) ?_ (Nat.zero_le _) ?_
  · rw [List.take_zero, List.map_nil, List.append_nil]; exact Gl.refl _ _
  rintro ⟨i, b, c⟩ K hi hK
  dsimp only at hi hK ⊢
  dsimp only [aix0, aix1, aix2, aix3, aix4, aix5, aix6, aix7, aix8]
  refine a_lss ?_
  refine a_cnd (fun q => ?_) (fun q => ?_)
  · have hlt : i < send.length := by omega
    have h1 := hone i hlt
    refine a_idxM i hlt ?_
    rw [hsend] at h1
    generalize send[i] = s at *
    ((apply a_ld1p; exact rfl); refine a_bldT0 rfl rfl ?_; (apply a_ldrA 0; exact rfl; exact rfl); refine a_rowS1 rfl ?_; refine a_call0 (c67 _ _) ?_; refine a_rowS2 rfl ?_; refine a_call0 (c67 _ _) ?_; (apply a_bld _; exact rfl; (try dsimp only [afill, aparts, cl, chunk, List.take, List.drop, List.nil_append, List.cons_append, List.append_nil, List.length_cons, List.length_nil, Nat.zero_add, Nat.reduceAdd, Nat.reduceMul]); try exact rfl); (apply a_bldS _; exact rfl; (try dsimp only [afill, aparts, cl, chunk, List.take, List.drop, List.nil_append, List.cons_append, List.append_nil, List.length_cons, List.length_nil, Nat.zero_add, Nat.reduceAdd, Nat.reduceMul]); try exact rfl))
    refine a_appH1 (x := ⟨s, mk 11 [.mk 7 s 0 [], mk 10 [.mk 14 hnode 0 []]]⟩) As.cr_len As.cr_one ?_ fun b' c' => ?_
    · rw [List.length_append, List.length_map, List.length_take]; omega
    (refine a_add (by first | omega | assumption | decide) (by first | omega | assumption | decide) ?_)
    refine hK (i + 1, b', c') _ _ (by dsimp only; omega) (by dsimp only; omega) ?_
    dsimp only
    rw [h1]
    exact Gl.refl _ _
  · rw [show i = send.length by omega, hall]
    exact ge_gvR (M := []) As.cr_len (List.Perm.refl _)
theorem c30 (p : Pr) (q : Tm) : AFn pr 30 [p.d, q.d] [] (.ret (.tuple [(FirstF p q).1.d, .i (FirstF p q).2])) := by
  refine AFn.small fun hsm => AFn.ofGe (s30 ?_)
  unfold A30
  have hA := c66 p q
  unfold FirstF
  have hP := fun l => c68 q l
  cases q with | mk o s n a =>
  refine a_bxv fun z1 => ?_
  (refine a_bxv fun z2 => ?_; refine a_bx fun z3 => ?_; refine V.a_ldN 2 _ rfl rfl p.cs_len ?_; (apply a_ldA 1; exact rfl; exact rfl); refine a_call0 hA ?_; refine a_neq ?_)
  by_cases h : askedE p (.mk o s n a) ≠ 0
  · rw [if_pos h]
    refine a_cndT h ?_
    (refine a_bldT0 rfl rfl ?_; refine a_stA 0 rfl rfl rfl rfl ?_; (apply a_ldA 0; exact rfl; exact rfl))
    exact ge_drop _ _
  · rw [if_neg h]
    refine a_cndF h ?_
    (refine a_fld ?_; (apply a_ld1 2; exact rfl; exact rfl))
    have hC : CheckF p = 0 := (seqE_zero.1 (Decidable.of_not_not h)).1
    have hfew := (CheckF_ok hC).few
    have hul := untilP_len hfew
    have h32 : p.init.length ≤ 32 := ((fewB_iff p).1 hfew).1.2.2.2
    have h4 : untilP p 0 = p.init := by unfold untilP; simp
    refine a_appH (l := ([] : List As)) (b := 0) (c := 0) As.cr_len As.cr_one (by simp only [List.length_nil]; omega) fun b c => ?_
    rw [List.nil_append]
    (refine a_fld ?_; (apply a_ldr1 2; exact rfl; exact rfl); (apply a_bld _; exact rfl; (try dsimp only [afill, aparts, cl, chunk, List.take, List.drop, List.nil_append, List.cons_append, List.append_nil, List.length_cons, List.length_nil, Nat.zero_add, Nat.reduceAdd, Nat.reduceMul]); try exact rfl); refine a_fld ?_; (apply a_ldr1 2; exact rfl; exact rfl); (apply a_bld _; exact rfl; (try dsimp only [afill, aparts, cl, chunk, List.take, List.drop, List.nil_append, List.cons_append, List.append_nil, List.length_cons, List.length_nil, Nat.zero_add, Nat.reduceAdd, Nat.reduceMul]); try exact rfl); refine a_fld ?_; (apply a_ldr1 2; exact rfl; exact rfl); (apply a_bld _; exact rfl; (try dsimp only [afill, aparts, cl, chunk, List.take, List.drop, List.nil_append, List.cons_append, List.append_nil, List.length_cons, List.length_nil, Nat.zero_add, Nat.reduceAdd, Nat.reduceMul]); try exact rfl); refine a_fld ?_; (apply a_ldr1 2; exact rfl; exact rfl); (apply a_bld _; exact rfl; (try dsimp only [afill, aparts, cl, chunk, List.take, List.drop, List.nil_append, List.cons_append, List.append_nil, List.length_cons, List.length_nil, Nat.zero_add, Nat.reduceAdd, Nat.reduceMul]); try exact rfl); (apply a_bldS _; exact rfl; (try dsimp only [afill, aparts, cl, chunk, List.take, List.drop, List.nil_append, List.cons_append, List.append_nil, List.length_cons, List.length_nil, Nat.zero_add, Nat.reduceAdd, Nat.reduceMul]); try exact rfl); refine a_lenL ?_)
    refine a_lp (σ := Nat × Nat × Nat) (fun x => [gv x.2.1 x.2.2 (untilP p x.1), .i x.1]) (fun x => gb As.cr 68 5 x.2.1 x.2.2 (untilP p x.1) ++ [⟨z3, [.i 0, .s ⟨#[]⟩, .i 0, .nil], .box⟩, ⟨z2, (Tm.mk o s n a).cs, .box⟩, ⟨z1, p.cs, .box⟩]) (fun x => x.1 ≤ 4) (fun x => 4 - x.1) (0, b, c) ?_ (Nat.zero_le _) ?_
    · dsimp only; rw [h4]; exact Gl.refl _ _
    clear b c
    rintro ⟨j, b, c⟩ K hj hK
    dsimp only at hj hK ⊢
    dsimp only [aix0, aix1, aix2, aix3, aix4, aix5, aix6, aix7, aix8]
    refine a_lss ?_
    refine a_cnd (fun hq => ?_) (fun hq => ?_)
    · have hq' : (j : Int) < 4 := hq
      have hlt : j < (partsP p).length := (show j < 4 by omega)
      have hsu := untilP_succ p hlt
      have hl1 := (hul j).1
      have hl2 := (hul j).2 _ (List.getElem_mem hlt)
      refine a_idxM (f := partC) (l := partsP p) j hlt ?_
      generalize (partsP p)[j] = x at *
      obtain ⟨names, to⟩ := x
      dsimp only at hsu hl2
      unfold partC
      ((apply a_ldAp; exact rfl); refine a_bx fun z4 => ?_; refine a_stA 0 rfl rfl rfl rfl ?_; refine a_fld ?_; (apply a_ld1 0; exact rfl; exact rfl); refine a_lenM ?_)
      generalize untilP p j = u at *
      have hone : ∀ i (hi : i < names.length), u ++ asL (names.take (i + 1)) (mk to []) = (u ++ asL (names.take i) (mk to [])) ++ [⟨names[i], mk to []⟩] := fun i hi => by
        unfold asL
        rw [List.take_succ_eq_append_getElem hi, List.map_append, List.append_assoc]; rfl
      refine a_lp (σ := Nat × Nat × Nat) (fun x => [gv x.2.1 x.2.2 (u ++ asL (names.take x.1) (mk to [])), .i x.1]) (fun x => gb As.cr 68 5 x.2.1 x.2.2 (u ++ asL (names.take x.1) (mk to [])) ++ [⟨z4, [.row 1 (sT names), .i to], .box⟩, ⟨z3, [.i 0, .s ⟨#[]⟩, .i 0, .nil], .box⟩, ⟨z2, (Tm.mk o s n a).cs, .box⟩, ⟨z1, p.cs, .box⟩]) (fun x => x.1 ≤ names.length) (fun x => names.length - x.1) (0, b, c) ?_ (Nat.zero_le _) ?_
      · dsimp only
        rw [List.take_zero, show asL [] (mk to []) = [] from rfl, List.append_nil]
        exact Gl.perm List.perm_middle.symm
      clear b c
      rintro ⟨i, b, c⟩ K2 hi hK2
      dsimp only at hi hK2 ⊢
      dsimp only [aix0, aix1, aix2, aix3, aix4, aix5, aix6, aix7, aix8]
      refine a_lss ?_
      refine a_cnd (fun q => ?_) (fun q => ?_)
      · have hlt2 : i < names.length := by omega
        have h1 := hone i hlt2
        refine a_idxM i hlt2 ?_
        generalize names[i] = nm at *
        ((apply a_ld1p; exact rfl); refine a_fld ?_; (apply a_ldr1 0; exact rfl; exact rfl); refine a_call0 (c67n _) ?_; (apply a_bld _; exact rfl; (try dsimp only [afill, aparts, cl, chunk, List.take, List.drop, List.nil_append, List.cons_append, List.append_nil, List.length_cons, List.length_nil, Nat.zero_add, Nat.reduceAdd, Nat.reduceMul]); try exact rfl); (apply a_bldS _; exact rfl; (try dsimp only [afill, aparts, cl, chunk, List.take, List.drop, List.nil_append, List.cons_append, List.append_nil, List.length_cons, List.length_nil, Nat.zero_add, Nat.reduceAdd, Nat.reduceMul]); try exact rfl))
        refine a_appH1 (x := ⟨nm, mk to []⟩) As.cr_len As.cr_one ?_ fun b' c' => ?_
        · unfold asL; rw [List.length_append, List.length_map, List.length_take]; omega
        (refine a_add (by first | omega | assumption | decide) (by first | omega | assumption | decide) ?_)
        refine hK2 (i + 1, b', c') _ _ (by dsimp only; omega) (by dsimp only; omega) ?_
        dsimp only
        rw [h1]
        exact Gl.refl _ _
      · rw [show i = names.length by omega, List.take_length, ← hsu]
        (refine a_add (by first | omega | assumption | decide) (by first | omega | assumption | decide) ?_)
        refine hK (j + 1, b, c) _ _ (by dsimp only; omega) (by dsimp only; omega) ?_
        exact Gl.drop (List.Sublist.append_left (List.sublist_cons_self _ _) _)
    · have hq' : ¬ (j : Int) < 4 := hq
      rw [show j = 4 by omega, untilP_all]
      ((apply a_ldrA 1; exact rfl; exact rfl))
      refine a_callg (args' := [(Tm.mk o s n a).d, .row 5 ((firstL p).map As.cr)]) (gl_gvB As.cr_len (.cons (.refl _) (.cons .hit .nil)) (WkB.refl _ _ _)) ?_
      refine a_call0 (hP _) ?_
      generalize putE (Tm.mk o s n a) (firstL p) = r
      obtain ⟨⟨o', s', n', a'⟩, e⟩ := r
      ((apply a_ext; exact rfl); (apply a_ext; exact rfl); refine a_stA 0 rfl rfl rfl rfl ?_; (apply a_ldA 0; exact rfl; exact rfl))
      exact ge_drop _ _
theorem c33 (p : Pr) (i : Int) (q : Tm) : AFn pr 33 [p.d, .i i, q.d] [] (.ret (.tuple [(StepF p i q).1.d, .i (StepF p i q).2])) := by
  refine AFn.ofGe (s33 ?_)
  unfold A33
  have hA := c66 p q
  unfold StepF
  have hP := fun l => c68 q l
  cases q with | mk o s n a =>
  refine a_bxv fun z1 => ?_
  (refine a_bxv fun z2 => ?_; refine a_bx fun z3 => ?_; refine V.a_ldN 2 _ rfl rfl p.cs_len ?_; (apply a_ldA 1; exact rfl; exact rfl); refine a_call0 hA ?_; refine a_neq ?_)
  by_cases h : askedE p (.mk o s n a) ≠ 0
  · rw [if_pos h]
    refine a_cndT h ?_
    (refine a_bldT0 rfl rfl ?_; refine a_stA 0 rfl rfl rfl rfl ?_; (apply a_ldA 0; exact rfl; exact rfl))
    exact ge_drop _ _
  · rw [if_neg h]
    refine a_cndF h ?_
    have hC : CheckF p = 0 := (seqE_zero.1 (Decidable.of_not_not h)).1
    have hfew := (CheckF_ok hC).few
    have hfh := ((fewB_iff p).1 hfew).2
    have hlen : (p.hs.map Ha.cs).length = p.hs.length := List.length_map ..
    refine a_jn (σ := Unit) (fun _ => []) (fun _ => [⟨z3, [.i 0, .s ⟨#[]⟩, .i 0, .nil], .box⟩, ⟨z2, (Tm.mk o s n a).cs, .box⟩, ⟨z1, p.cs, .box⟩]) (fun _ => ¬ (i < 0 ∨ p.hs.length ≤ i)) ?_ fun J hJ => ?_
    · rintro _ hi
      rw [if_neg hi]
      have hlt : i.toNat < p.hs.length := by omega
      have hin : i = (i.toNat : Int) := by omega
      have hget : p.hs.getD i.toNat hz = p.hs[i.toNat] := by rw [List.getD_eq_getElem?_getD, List.getElem?_eq_getElem hlt]; rfl
      rw [hget]
      have hmem := hfh _ (List.getElem_mem hlt)
      have hB := c72 p.hs[i.toNat] hmem.1 hmem.2
      have hH := c74 p.hs[i.toNat]
      have hidx : ∀ {k : D → Prop}, k (.pin p.hs[i.toNat].cs) → aidxS 9 (.row 9 (p.hs.map Ha.cs)) (.i i) k := fun hk => by rw [hin]; exact a_idxM i.toNat hlt hk
      generalize p.hs[i.toNat] = x at *
      obtain ⟨timer, hn, hnode, ⟨wo, ws, wn, wa⟩, dos, send⟩ := x
      unfold nodeT at hB hH
      dsimp only at hB hH
      (refine a_fld ?_; (apply a_ld1 2; exact rfl; exact rfl); refine hidx ?_; refine a_fldp ?_; (apply a_ld1p; exact rfl); refine a_bldT0 rfl rfl ?_; refine a_bx fun z4 => ?_; refine a_stA 0 rfl rfl rfl rfl ?_; (apply a_ldA 2; exact rfl; exact rfl); refine a_fld ?_; (apply a_ld1 3; exact rfl; exact rfl); refine hidx ?_; (apply a_ldAp; exact rfl); (apply a_ldA 0; exact rfl; exact rfl); refine a_callS0 hB ?_; refine a_callS0 (hP _) ?_; (apply a_ext; exact rfl); (apply a_ext; exact rfl); refine a_bx fun z5 => ?_; refine a_stA 0 rfl rfl rfl rfl ?_; refine a_neq ?_)
      generalize putE (.mk o s n a) (becT ⟨timer, hn, hnode, .mk wo ws wn wa, dos, send⟩) = r
      obtain ⟨⟨o', s', n', a'⟩, e⟩ := r
      skip
      by_cases he : e ≠ 0
      · rw [if_pos he]
        refine a_cndT he ?_
        (refine a_bldT0 rfl rfl ?_; refine a_stA 2 rfl rfl rfl rfl ?_; (apply a_ldA 2; exact rfl; exact rfl))
        exact ge_drop _ _
      · rw [if_neg he]
        refine a_cndF he ?_
        have hW := fun t => c73 t
        (refine a_fld ?_; (apply a_ld1 4; exact rfl; exact rfl); refine hidx ?_; (apply a_ldAp; exact rfl); (apply a_ldA 1; exact rfl; exact rfl); refine a_callS0 hH ?_; (apply a_ldA 0; exact rfl; exact rfl); refine a_rowT2 rfl ?_; refine a_callS0 (c67 _ _) ?_; refine a_callS0 (c73 _) ?_; (apply a_ext; exact rfl); (apply a_ext; exact rfl); refine a_stA 2 rfl rfl rfl rfl ?_; (apply a_ldA 2; exact rfl; exact rfl))
        generalize wholeE (mk 21 [aheadT ⟨timer, hn, hnode, .mk wo ws wn wa, dos, send⟩, .mk o' s' n' a']) = r
        obtain ⟨⟨o2, s2, n2, a2⟩, e2⟩ := r
        skip
        exact ge_drop _ _
    · refine a_lss ?_
      refine a_cnd (fun hq => ?_) (fun hq => ?_)
      · rw [if_pos (.inl hq)]
        (refine a_bldT0 rfl rfl ?_; refine a_stA 0 rfl rfl rfl rfl ?_; (apply a_ldA 0; exact rfl; exact rfl))
        exact ge_drop _ _
      · (refine a_fld ?_; (apply a_ld1 2; exact rfl; exact rfl); refine a_lenM ?_; refine a_geq ?_)
        refine a_cnd (fun hq2 => ?_) (fun hq2 => ?_)
        · rw [if_pos (.inr (by omega))]
          (refine a_bldT0 rfl rfl ?_; refine a_stA 0 rfl rfl rfl rfl ?_; (apply a_ldA 0; exact rfl; exact rfl))
          exact ge_drop _ _
        · exact hJ () _ _ (by omega) (Gl.refl _ _)
end Go.Proofs.YtdalobojhfafbaaGreatDoor
set_option maxRecDepth 100000
set_option linter.unusedVariables false
namespace Go.V
open Go
section
variable {α : Type} {cs : α → List D} {sz e b c : Nat}
theorem gb_ne {l : List α} (h : l ≠ []) : gb cs e sz b c l = [⟨b, (l.map cs).flatten, .row e sz c⟩] := by
  cases l with
  | nil => exact absurd rfl h
  | cons x l => rfl
theorem gv_ne {l : List α} (h : l ≠ []) : gv b c l = .sl b 0 l.length c := by
  cases l with
  | nil => exact absurd rfl h
  | cons x l => rfl
theorem a_idxGv {l : List α} {k : D → Prop} {ki : IntKind} (j : Nat) (hj : j < l.length) (h : k (.p b (0 + j * sz))) : aidxS sz (gv b c l) (.val (.int ki j)) k := by
  rw [gv_ne (by intro hh; rw [hh] at hj; exact absurd hj (Nat.not_lt_zero _))]
  exact ⟨by omega, by omega, by simpa using h⟩
end
def csO : Option Tm → List D
  | some t => t.cs
  | none => [.i 0, .s ⟨#[]⟩, .i 0, .nil]
theorem csO_len (x : Option Tm) : (csO x).length = 4 := by cases x <;> rfl
theorem csO_one (x : Option Tm) : (csO x).all D.one = true := by cases x <;> rfl
theorem csO_map (l : List Tm) : (l.map some).map csO = Tm.rows l := by rw [Tm.rows_eq, List.map_map]; rfl
theorem Cl.cs_one (c : Cl) : c.cs.all D.one = true := rfl
theorem failE_app (l : List (Cl × Int)) (x : Cl × Int) : failE (l ++ [x]) = seqE (failE l) x.2 := by
  induction l with
  | nil => show seqE x.2 0 = seqE 0 x.2; unfold seqE; split <;> simp_all
  | cons y r ih =>
    show seqE y.2 (failE (r ++ [x])) = seqE (seqE y.2 (failE r)) x.2
    rw [ih]; unfold seqE
    by_cases h : y.2 = 0
    · rw [if_pos h, if_pos h]
    · rw [if_neg h, if_neg h, if_neg h]
def c1F (p : Pr) (k : Int) : Cl × Int := (⟨-1, k, (FirstF p (p.known.getD k.toNat tz)).1⟩, (FirstF p (p.known.getD k.toNat tz)).2)
def c2F (p : Pr) (kn : List Tm) (h : Nat) (k : Int) : Cl × Int := (⟨(h : Int), k, (impE kn (StepF p (h : Int) (p.known.getD k.toNat tz))).1⟩, (impE kn (StepF p (h : Int) (p.known.getD k.toNat tz))).2)
def c3F (p : Pr) (kn : List Tm) : Cl × Int := (⟨-1, -1, (impE kn (p.safe, 0)).1⟩, (impE kn (p.safe, 0)).2)
def cls2 (p : Pr) (kept : List Int) (kn : List Tm) (h : Nat) : List (Cl × Int) := kept.map (c1F p) ++ (List.range h).flatMap fun h => kept.map (c2F p kn h)
theorem clsL_eq (p : Pr) (kept : List Int) : clsL p kept = cls2 p kept (knownL p kept) p.hs.length ++ [c3F p (knownL p kept)] := rfl
theorem cls2_succ (p : Pr) (kept : List Int) (kn : List Tm) (h : Nat) : cls2 p kept kn (h + 1) = cls2 p kept kn h ++ kept.map (c2F p kn h) := by
  unfold cls2
  rw [List.range_succ, List.flatMap_append, List.append_assoc]
  simp
theorem cls2_len (p : Pr) (kept : List Int) (kn : List Tm) (h : Nat) : (cls2 p kept kn h).length = kept.length * (h + 1) := by
  induction h with
  | zero => simp [cls2]
  | succ h ih => rw [cls2_succ, List.length_append, ih, List.length_map, ← Nat.mul_succ]
theorem inKnown_drop {p : Pr} {l : List Int} {i : Nat} (hi : i < l.length) (h : (0 ≤ l[i] ∧ l[i] < p.known.length)) : inKnown p (l.drop i) = inKnown p (l.drop (i + 1)) := by
  unfold inKnown
  rw [List.drop_eq_getElem_cons hi, List.all_cons, decide_eq_true h.1, decide_eq_true h.2]; rfl
theorem inKnown_bad {p : Pr} {l : List Int} {i : Nat} (hi : i < l.length) (h : ¬ (0 ≤ l[i] ∧ l[i] < p.known.length)) : inKnown p (l.drop i) = false := by
  unfold inKnown
  rw [List.drop_eq_getElem_cons hi, List.all_cons]
  by_cases h0 : 0 ≤ l[i]
  · rw [decide_eq_false (show ¬ l[i] < p.known.length from fun hh => h ⟨h0, hh⟩)]; simp
  · rw [decide_eq_false h0]; simp
end Go.V
namespace Go.Proofs.YtdalobojhfafbaaGreatDoor
open Go Go.V
theorem AFn.ofGeL {P : Program} {g : FuncId} {args : List D} {L : List Bx} {a : AE} (h : ASpec P g args L fun a' L' => Ge a' L' a L) : AFn P g args L a := ASpec.ge h fun a' L' hg => ⟨a, L, hg, rfl, rfl⟩
def clB (bf bl b c : Nat) (l : List Cl) (e : Int) : List Bx := gb Cl.cs 121 6 b c l ++ [⟨bf, [.i e], .box⟩, ⟨bl, [gv b c l], .box⟩]
theorem clB_app {bf bl b c : Nat} {l : List Cl} {e : Int} {M : List Bx} : clB bf bl b c l e ++ M = gb Cl.cs 121 6 b c l ++ (⟨bf, [.i e], .box⟩ :: ⟨bl, [gv b c l], .box⟩ :: M) := by
  unfold clB; rw [List.append_assoc]; rfl
theorem c103 {bf bl b c : Nat} {l : List Cl} {e : Int} (h k : Int) (t : Tm) (err : Int) (hl : l.length ≤ 100000) : ASpec pr 103 [.i h, .i k, t.d, .i err, .p bf 0, .p bl 0] (clB bf bl b c l e)
    fun a L' => a = .ret (.tuple []) ∧ ∃ b' c', L' = clB bf bl b' c' (l ++ [⟨h, k, t⟩]) (seqE e err) := by
  refine ASpec.sub (R := fun a L' => a = .ret (.tuple []) ∧ ∃ b' c', L' = clB bf bl b' c' (l ++ [⟨h, k, t⟩]) (seqE e err)) ?_
  refine ASpec.permOut (R := fun a L' => ∃ L2 L3, L'.Perm L2 ∧ L3.Sublist L2 ∧ a = .ret (.tuple []) ∧ ∃ b' c', L3 = clB bf bl b' c' (l ++ [⟨h, k, t⟩]) (seqE e err)) ?_ (fun a L' ⟨L2, L3, h1, h2, h3⟩ => ⟨L2, h1, L3, h2, h3⟩)
  refine s103 ?_
  unfold A103
  cases t with | mk o s n a =>
  have hby : (l.length + 1) * 72 ≤ 140737488355328 := by omega
  cases l with
  | nil =>
    show abxv _ [⟨bf, [.i e], .box⟩, ⟨bl, [.nil], .box⟩] _
    refine a_bxv fun z1 => ?_
    refine a_jn (σ := Unit) (fun _ => []) (fun _ => [⟨z1, (Tm.mk o s n a).cs, .box⟩, ⟨bf, [.i (seqE e err)], .box⟩, ⟨bl, [.nil], .box⟩]) (fun _ => True) ?_ fun J hJ => ?_
    · rintro _ _
      ((apply a_ld1 2; exact rfl; exact rfl); (apply a_ldA 0; exact rfl; exact rfl); (apply a_bld _; exact rfl; (try dsimp only [afill, aparts, cl, chunk, List.take, List.drop, List.nil_append, List.cons_append, List.append_nil, List.length_cons, List.length_nil, Nat.zero_add, Nat.reduceAdd, Nat.reduceMul]); try exact rfl); (apply a_bldS _; exact rfl; (try dsimp only [afill, aparts, cl, chunk, List.take, List.drop, List.nil_append, List.cons_append, List.append_nil, List.length_cons, List.length_nil, Nat.zero_add, Nat.reduceAdd, Nat.reduceMul]); try exact rfl))
      refine a_appG0 (x := (⟨h, k, .mk o s n a⟩ : Cl)) Cl.cs_len Cl.cs_one (by decide) fun b' c' => ?_
      (refine a_stA 3 rfl rfl rfl rfl ?_)
      refine ⟨_, _, List.Perm.refl _, ?_, rfl, b', c', rfl⟩
      exact .cons_cons _ (.cons _ (List.Sublist.refl _))
    · ((apply a_ld1 1; exact rfl; exact rfl); refine a_eql ?_)
      by_cases he : e = 0
      · rw [decide_eq_true he]
        subst he
        rw [seqE_0] at hJ
        (refine a_cndbT rfl ?_; refine a_stA 1 rfl rfl rfl rfl ?_)
        exact hJ () _ _ trivial (Gl.refl _ _)
      · rw [decide_eq_false he]
        rw [seqE_n he] at hJ
        exact hJ () _ _ trivial (Gl.refl _ _)
  | cons y l =>
    show abxv _ [⟨b, ((y :: l).map Cl.cs).flatten, .row 121 6 c⟩, ⟨bf, [.i e], .box⟩, ⟨bl, [gv b c (y :: l)], .box⟩] _
    refine a_bxv fun z1 => ?_
    refine a_jn (σ := Unit) (fun _ => []) (fun _ => [⟨z1, (Tm.mk o s n a).cs, .box⟩, ⟨b, ((y :: l).map Cl.cs).flatten, .row 121 6 c⟩, ⟨bf, [.i (seqE e err)], .box⟩, ⟨bl, [gv b c (y :: l)], .box⟩]) (fun _ => True) ?_ fun J hJ => ?_
    · rintro _ _
      ((apply a_ld1 3; exact rfl; exact rfl); (apply a_ldA 0; exact rfl; exact rfl); (apply a_bld _; exact rfl; (try dsimp only [afill, aparts, cl, chunk, List.take, List.drop, List.nil_append, List.cons_append, List.append_nil, List.length_cons, List.length_nil, Nat.zero_add, Nat.reduceAdd, Nat.reduceMul]); try exact rfl); (apply a_bldS _; exact rfl; (try dsimp only [afill, aparts, cl, chunk, List.take, List.drop, List.nil_append, List.cons_append, List.append_nil, List.length_cons, List.length_nil, Nat.zero_add, Nat.reduceAdd, Nat.reduceMul]); try exact rfl))
      refine a_appG1 (x := (⟨h, k, .mk o s n a⟩ : Cl)) Cl.cs_len Cl.cs_one 1 rfl (by simpa using hby) fun b' c' => ?_
      (refine a_stA 3 rfl rfl rfl rfl ?_)
      refine ⟨_, _, List.Perm.refl _, ?_, rfl, b', c', rfl⟩
      exact .cons _ (List.Sublist.refl _)
    · ((apply a_ld1 2; exact rfl; exact rfl); refine a_eql ?_)
      by_cases he : e = 0
      · rw [decide_eq_true he]
        subst he
        rw [seqE_0] at hJ
        (refine a_cndbT rfl ?_; refine a_stA 2 rfl rfl rfl rfl ?_)
        exact hJ () _ _ trivial (Gl.refl _ _)
      · rw [decide_eq_false he]
        rw [seqE_n he] at hJ
        exact hJ () _ _ trivial (Gl.refl _ _)
theorem c104 {bk : Nat} {known : List Tm} (t : Tm) (e : Int) : AFn pr 104 [t.d, .i e, .p bk 0] [⟨bk, [.row 4 (Tm.rows known)], .box⟩] (.ret (.tuple [(impE known (t, e)).1.d, .i (impE known (t, e)).2])) := by
  refine AFn.ofL (s104 ?_)
  unfold A104
  unfold impE
  have hW := fun t => c73 t
  cases t with | mk o s n a =>
  (refine a_bxv fun z1 => ?_; refine a_bx fun z2 => ?_; refine a_neq ?_)
  by_cases he : e ≠ 0
  · rw [if_pos he]
    refine a_cndT he ?_
    (refine a_bldT0 rfl rfl ?_; refine a_stA 0 rfl rfl rfl rfl ?_; (apply a_ldA 0; exact rfl; exact rfl))
    exact ⟨rfl, List.sublist_append_right [_, _] _⟩
  · rw [if_neg he]
    refine a_cndF he ?_
    ((apply a_ld1 2; exact rfl; exact rfl); refine a_callS0 (c67 _ _) ?_; (apply a_ldA 1; exact rfl; exact rfl); refine a_rowT2 rfl ?_; refine a_callS0 (c67 _ _) ?_; refine a_callS0 (c73 _) ?_; (apply a_ext; exact rfl); (apply a_ext; exact rfl); refine a_stA 0 rfl rfl rfl rfl ?_; (apply a_ldA 0; exact rfl; exact rfl))
    generalize wholeE (mk 21 [mk 19 known, .mk o s n a]) = r
    obtain ⟨⟨o2, s2, n2, a2⟩, e2⟩ := r
    skip
    exact ⟨rfl, List.sublist_append_right [_, _] _⟩
theorem clauses_any (p : Pr) (kept : List Int) (hk : kept.length ≤ 1000) {a1 : D} {Lk : List Bx} (hlen : ∀ k : D → Prop, k (.i kept.length) → alenL a1 k)
    (hat1 : ∀ (i : Nat) (hi : i < kept.length) (A : List Bx) (x y : Bx) (k : D → Prop), k (.i kept[i]) → aidxS 1 a1 (.i i) fun p => ald1 p (A ++ (x :: y :: Lk)) k) : AFn pr 64 [p.d, a1] Lk (.ret (.tuple [.row 6 ((ClausesF p kept).1.map Cl.cs), .i (ClausesF p kept).2])) := by
  refine AFn.small fun hsm => AFn.ofGeL (s64 ?_)
  unfold A64
  have hC := c26 p
  have hnil : ∀ (e : Int) (A : List Bx) (x y : Bx), ClausesF p kept = ([], e) → Ge (AE.ret (.tuple [.nil, .i e])) (A ++ (x :: y :: Lk)) (AE.ret (.tuple [.row 6 ((ClausesF p kept).1.map Cl.cs), .i (ClausesF p kept).2])) Lk := fun e A x y he => by
    rw [he]
    exact ⟨trivial, Gl.trans (Gl.nil 6 (.cons (.tuple (.cons .hit (.cons (.refl _) .nil))) .nil) (WkB.refl _ _ _)) (Gl.drop (((List.sublist_cons_self y Lk).trans (List.sublist_cons_self x _)).trans (List.sublist_append_right A _)))⟩
  refine a_bxv fun z1 => ?_
  (refine a_bx fun z2 => ?_; refine hlen _ ?_)
  refine a_lp (σ := Nat × Nat × Nat) (fun x => [.i x.1]) (fun x => gb csO 27 4 x.2.1 x.2.2 ((knownL p (kept.take x.1)).map some) ++ (⟨z2, [gv x.2.1 x.2.2 ((knownL p (kept.take x.1)).map some)], .box⟩ :: ⟨z1, p.cs, .box⟩ :: Lk)) (fun x => x.1 ≤ kept.length ∧ inKnown p (kept.drop x.1) = inKnown p kept) (fun x => kept.length - x.1) (0, 0, 0) (Gl.refl _ _) ⟨Nat.zero_le _, rfl⟩ ?_
  rintro ⟨i, b, c⟩ K ⟨hi, hin⟩ hK
  dsimp only at hi hin hK ⊢
  dsimp only [aix0, aix1, aix2, aix3, aix4, aix5, aix6, aix7, aix8]
  refine a_lss ?_
  refine a_cnd (fun q => ?_) (fun q => ?_)
  · have hlt : i < kept.length := by omega
    have hst := List.take_succ_eq_append_getElem hlt
    have hg := inKnown_drop (p := p) hlt
    have hb := inKnown_bad (p := p) hlt
    refine hat1 i hlt _ _ _ _ ?_
    generalize kept[i] = k at *
    skip
    refine a_jn (σ := Unit) (fun _ => []) (fun _ => gb csO 27 4 b c ((knownL p (kept.take i)).map some) ++ (⟨z2, [gv b c ((knownL p (kept.take i)).map some)], .box⟩ :: ⟨z1, p.cs, .box⟩ :: Lk)) (fun _ => 0 ≤ k ∧ k < p.known.length) ?_ fun J hJ => ?_
    · rintro _ hkk
      have hlt2 : k.toNat < p.known.length := by omega
      have hkn : k = (k.toNat : Int) := by omega
      have hget : p.known.getD k.toNat tz = p.known[k.toNat] := by rw [List.getD_eq_getElem?_getD, List.getElem?_eq_getElem hlt2]; rfl
      have hks : knownL p (kept.take (i + 1)) = knownL p (kept.take i) ++ [p.known[k.toNat]] := by
        unfold knownL; rw [hst, List.map_append, List.map_cons, hget]; rfl
      have hkl2 : (knownL p (kept.take i)).length = i := by unfold knownL; rw [List.length_map, List.length_take]; omega
      have hidx : ∀ {k' : D → Prop}, k' (.pin p.known[k.toNat].cs) → aidxS 4 (.row 4 (Tm.rows p.known)) (.i k) k' := fun hh => by rw [hkn]; exact Tm.a_idx k.toNat hlt2 hh
      generalize p.known[k.toNat] = t at *
      generalize knownL p (kept.take i) = ks at *
      ((apply a_ldr1 0; exact rfl; exact rfl); refine a_fld ?_; (apply a_ldr1 1; exact rfl; exact rfl); refine hidx ?_; (apply a_ldAp; exact rfl); refine a_lenG ?_; (apply a_bldF _; exact rfl; (try dsimp only [afill, aparts, cl, chunk, List.take, List.drop, List.nil_append, List.cons_append, List.append_nil, List.length_cons, List.length_nil, Nat.zero_add, Nat.reduceAdd, Nat.reduceMul]); try exact rfl))
      refine a_appH1 (x := none) csO_len csO_one ?_ fun b' c' => ?_
      · rw [List.length_map]; omega
      rw [List.length_map]
      refine a_idxGv (l := ks.map some ++ [none]) ks.length (by simp) ?_
      have hne : ks.map some ++ [none] ≠ [] := by simp
      have hset : (ks.map some ++ [none]).set ks.length (some t) = (ks ++ [t]).map some := by
        rw [List.set_append_right _ _ (by simp), List.length_map, Nat.sub_self, List.map_append]; rfl
      have hne2 : (ks ++ [t]).map some ≠ [] := by simp
      rw [gb_ne hne]
      refine ⟨0, _, ⟨b', (((ks.map some ++ [none]).set ks.length (some t)).map csO).flatten, .row 27 4 c'⟩, .val undef, rfl, rfl, a_stG (y := some t) csO_len csO_one 0 ks.length rfl (by simp) ⟨rfl, rfl⟩, ?_⟩
      rw [hset]
      have hgv : gv b' c' (ks.map some ++ [none]) = gv b' c' ((ks ++ [t]).map some) := by
        rw [gv_ne hne, gv_ne hne2]; simp
      rw [hgv]
      refine ⟨1, _, ⟨z2, [gv b' c' ((ks ++ [t]).map some)], .box⟩, .val undef, rfl, rfl, ?_, ?_, ?_⟩
      · intro hnd
        simp only [List.cons_append, List.nil_append, List.set_cons_zero, List.map_cons, List.nodup_cons, List.mem_cons, List.not_mem_nil, or_false, not_or] at hnd ⊢
        exact fun hh => hnd.1.1 hh.symm
      · rw [gv_ne hne2]
        refine V.a_st 0 _ rfl rfl rfl rfl rfl ⟨rfl, rfl⟩
      (refine a_add (by first | omega | assumption | decide) (by first | omega | assumption | decide) ?_)
      refine hK (i + 1, b', c') _ _ ⟨by dsimp only; omega, by dsimp only; rw [← hg hkk]; exact hin⟩ (by dsimp only; omega) ?_
      dsimp only
      rw [hks, gb_ne hne2]
      exact Gl.refl _ _
    · refine a_lss ?_
      have hno : ¬ (0 ≤ k ∧ k < p.known.length) → ClausesF p kept = ([], 1) := fun hh => by
        unfold ClausesF; rw [← hin, hb hh, if_pos rfl]
      refine a_cnd (fun q1 => ?_) (fun q1 => ?_)
      · exact hnil 1 _ _ _ (hno (by omega))
      · (refine a_fld ?_; (apply a_ldr1 1; exact rfl; exact rfl); refine Tm.a_len ?_; refine a_geq ?_)
        refine a_cnd (fun q2 => ?_) (fun q2 => ?_)
        · exact hnil 1 _ _ _ (hno (by omega))
        · exact hJ () _ _ (by omega) (Gl.refl _ _)
  · have hin2 : inKnown p kept = true := by rw [← hin, List.drop_eq_nil_of_le (by omega)]; rfl
    have hks : knownL p (kept.take i) = knownL p kept := by rw [List.take_of_length_le (by omega)]
    rw [hks]
    clear hK hin
    have hkl2 : (knownL p kept).length = kept.length := List.length_map ..
    (refine a_ldrN 1 _ rfl rfl p.cs_len ?_; refine a_call0 hC ?_; refine a_neq ?_)
    by_cases hc : CheckF p ≠ 0
    · refine a_cndT hc ?_
      refine hnil _ _ _ _ ?_
      unfold ClausesF
      rw [hin2, if_neg (by decide), if_pos hc]
    · refine a_cndF hc ?_
      (refine a_bx fun z3 => ?_; refine a_bx fun z4 => ?_)
      have hc0 : CheckF p = 0 := Decidable.of_not_not hc
      have h32 : p.hs.length ≤ 32 := ((fewB_iff p).1 (CheckF_ok hc0).few).1.2.1
      have hCl : ClausesF p kept = if failE (clsL p kept) ≠ 0 then ([], failE (clsL p kept)) else ((clsL p kept).map (·.1), 0) := by
        unfold ClausesF
        rw [hin2, if_neg (by decide), if_neg hc]
      have hlast := clsL_eq p kept
      generalize hkn : knownL p kept = kn at *
      have hkat : ∀ j (hj : j < kept.length), ∃ hj' : j < kn.length, kn[j] = p.known.getD kept[j].toNat tz := fun j hj => by
        refine ⟨by omega, ?_⟩
        subst hkn
        unfold knownL
        rw [List.getElem_map]
      refine hlen _ ?_
      refine a_lp (σ := Nat × Nat × Nat) (fun x => [.i x.1]) (fun x => clB z4 z3 x.2.1 x.2.2 (((kept.take x.1).map (c1F p)).map (·.1)) (failE ((kept.take x.1).map (c1F p))) ++ (⟨z2, [.row 4 (Tm.rows kn)], .box⟩ :: ⟨z1, p.cs, .box⟩ :: Lk)) (fun x => x.1 ≤ kept.length) (fun x => kept.length - x.1) (0, 0, 0) ?_ (Nat.zero_le _) ?_
      · refine Gl.trans (Gl.perm (L' := gb csO 27 4 b c (kn.map some) ++ (⟨z4, [.i 0], .box⟩ :: ⟨z3, [.nil], .box⟩ :: ⟨z2, [gv b c (kn.map some)], .box⟩ :: ⟨z1, p.cs, .box⟩ :: Lk)) ?_) ?_
        · exact perm_pull (P := [_, _])
        · have := gl_gvB (e := 27) (b := b) (c := c) (l := kn.map some) csO_len (WkL.refl _ _ [.i ((0 : Nat) : Int)]) (L := (⟨z4, [.i 0], .box⟩ :: ⟨z3, [.nil], .box⟩ :: ⟨z2, [gv b c (kn.map some)], .box⟩ :: ⟨z1, p.cs, .box⟩ :: Lk)) (L' := (⟨z4, [.i 0], .box⟩ :: ⟨z3, [.nil], .box⟩ :: ⟨z2, [.row 4 (Tm.rows kn)], .box⟩ :: ⟨z1, p.cs, .box⟩ :: Lk)) (by
            rw [csO_map]
            exact .cons (WkL.refl _ _ _) (.cons (WkL.refl _ _ _) (.cons (.cons .hit .nil) (.cons (WkL.refl _ _ _) (WkB.refl _ _ _)))))
          exact this
      clear b c
      rintro ⟨i, b, c⟩ K hi2 hK
      dsimp only at hi2 hK ⊢
      dsimp only [aix0, aix1, aix2, aix3, aix4, aix5, aix6, aix7, aix8]
      refine a_lss ?_
      refine a_cnd (fun q => ?_) (fun q => ?_)
      · have hlt : i < kept.length := by omega
        have hst := List.take_succ_eq_append_getElem hlt
        obtain ⟨hj, hat⟩ := hkat i hlt
        have hidx : ∀ {k' : D → Prop}, k' (.pin (p.known.getD kept[i].toNat tz).cs) → aidxS 4 (.row 4 (Tm.rows kn)) (.i i) k' := fun hh => Tm.a_idx i hj (by rw [hat]; exact hh)
        have hone : c1F p kept[i] = (⟨-1, kept[i], (FirstF p (p.known.getD kept[i].toNat tz)).1⟩, (FirstF p (p.known.getD kept[i].toNat tz)).2) := rfl
        refine hat1 i hlt _ _ _ _ ?_
        generalize kept[i] = k at *
        generalize p.known.getD k.toNat tz = t at *
        unfold clB
        (refine a_ldrN 1 _ rfl rfl p.cs_len ?_; (apply a_ldr1 0; exact rfl; exact rfl); refine hidx ?_; (apply a_ldAp; exact rfl); refine a_callS0 (c30 _ _) ?_; (apply a_ext; exact rfl); (apply a_ext; exact rfl); refine a_bx fun z5 => ?_; refine a_stA 0 rfl rfl rfl rfl ?_; (apply a_ldA 0; exact rfl; exact rfl))
        refine a_callF (M := (⟨z5, (FirstF p t).1.cs, .box⟩ :: ⟨z2, [.row 4 (Tm.rows kn)], .box⟩ :: ⟨z1, p.cs, .box⟩ :: Lk)) (L1 := clB z4 z3 b c (((kept.take i).map (c1F p)).map (fun x : Cl × Int => x.1)) (failE ((kept.take i).map (c1F p)))) (List.perm_middle.symm) (c103 (-1) k (FirstF p t).1 (FirstF p t).2 (by rw [List.length_map, List.length_map, List.length_take]; omega)) ?_
        rintro a L' ⟨rfl, b', c', rfl⟩
        simp only [AE.on]
        (refine a_add (by first | omega | assumption | decide) (by first | omega | assumption | decide) ?_)
        refine hK (i + 1, b', c') _ _ (by dsimp only; omega) (by dsimp only; omega) ?_
        dsimp only
        rw [hst, List.map_append, List.map_append, List.map_cons, List.map_nil, failE_app, hone]
        exact Gl.drop (List.Sublist.append_left (List.sublist_cons_self _ _) _)
      · rw [show kept.take i = kept by exact List.take_of_length_le (by omega)]
        clear hK hi2
        have h20 : kept.map (c1F p) = cls2 p kept kn 0 := by unfold cls2; simp
        rw [h20]
        have hhl : (p.hs.map Ha.cs).length = p.hs.length := List.length_map ..
        unfold clB
        (refine a_fld ?_; (apply a_ldr1 1; exact rfl; exact rfl); refine a_lenM ?_)
        refine a_lp (σ := Nat × Nat × Nat) (fun x => [.i x.1]) (fun x => clB z4 z3 x.2.1 x.2.2 ((cls2 p kept kn x.1).map (·.1)) (failE (cls2 p kept kn x.1)) ++ (⟨z2, [.row 4 (Tm.rows kn)], .box⟩ :: ⟨z1, p.cs, .box⟩ :: Lk)) (fun x => x.1 ≤ p.hs.length) (fun x => p.hs.length - x.1) (0, b, c) (Gl.refl _ _) (Nat.zero_le _) ?_
        clear b c
        rintro ⟨h, b, c⟩ K hh hK
        dsimp only at hh hK ⊢
        dsimp only [aix0, aix1, aix2, aix3, aix4, aix5, aix6, aix7, aix8]
        refine a_lss ?_
        refine a_cnd (fun q => ?_) (fun q => ?_)
        · have hlth : h < p.hs.length := by omega
          (refine hlen _ ?_)
          have hsu := cls2_succ p kept kn h
          have hcl := cls2_len p kept kn h
          have hcb : (cls2 p kept kn h).length ≤ 33000 := by
            rw [hcl]
            exact Nat.le_trans (Nat.mul_le_mul hk (show h + 1 ≤ 33 by omega)) (by decide)
          generalize cls2 p kept kn h = pre at *
          refine a_lp (σ := Nat × Nat × Nat) (fun x => [.i x.1]) (fun x => clB z4 z3 x.2.1 x.2.2 ((pre ++ (kept.take x.1).map (c2F p kn h)).map (·.1)) (failE (pre ++ (kept.take x.1).map (c2F p kn h))) ++ (⟨z2, [.row 4 (Tm.rows kn)], .box⟩ :: ⟨z1, p.cs, .box⟩ :: Lk)) (fun x => x.1 ≤ kept.length) (fun x => kept.length - x.1) (0, b, c) ?_ (Nat.zero_le _) ?_
          · dsimp only; rw [List.take_zero, List.map_nil, List.append_nil]; exact Gl.refl _ _
          clear b c
          rintro ⟨i, b, c⟩ K2 hi2 hK2
          dsimp only at hi2 hK2 ⊢
          dsimp only [aix0, aix1, aix2, aix3, aix4, aix5, aix6, aix7, aix8]
          refine a_lss ?_
          refine a_cnd (fun q2 => ?_) (fun q2 => ?_)
          · have hlt : i < kept.length := by omega
            have hst := List.take_succ_eq_append_getElem hlt
            obtain ⟨hj, hat⟩ := hkat i hlt
            have hidx : ∀ {k' : D → Prop}, k' (.pin (p.known.getD kept[i].toNat tz).cs) → aidxS 4 (.row 4 (Tm.rows kn)) (.i i) k' := fun hh => Tm.a_idx i hj (by rw [hat]; exact hh)
            have hone : c2F p kn h kept[i] = (⟨h, kept[i], (impE kn (StepF p h (p.known.getD kept[i].toNat tz))).1⟩, (impE kn (StepF p h (p.known.getD kept[i].toNat tz))).2) := rfl
            refine hat1 i hlt _ _ _ _ ?_
            generalize kept[i] = k at *
            generalize p.known.getD k.toNat tz = t at *
            unfold clB
            (refine a_ldrN 1 _ rfl rfl p.cs_len ?_; (apply a_ldr1 0; exact rfl; exact rfl); refine hidx ?_; (apply a_ldAp; exact rfl); refine a_callS0 (c33 _ _ _) ?_; (apply a_ext; exact rfl); (apply a_ext; exact rfl))
            have hI := c104 (bk := z2) (known := kn) (StepF p h t).1 (StepF p h t).2
            refine a_callSR (AFn.frameM _ (AFn.frameL (_ :: Lk) hI)) ?_
            ((apply a_ext; exact rfl); (apply a_ext; exact rfl); refine a_bx fun z5 => ?_; refine a_stA 0 rfl rfl rfl rfl ?_; (apply a_ldA 0; exact rfl; exact rfl))
            refine a_callF (M := (⟨z5, (impE kn (StepF p h t)).1.cs, .box⟩ :: ⟨z2, [.row 4 (Tm.rows kn)], .box⟩ :: ⟨z1, p.cs, .box⟩ :: Lk)) (L1 := clB z4 z3 b c ((pre ++ (kept.take i).map (c2F p kn h)).map (·.1)) (failE (pre ++ (kept.take i).map (c2F p kn h)))) (List.perm_middle.symm) (c103 h k (impE kn (StepF p h t)).1 (impE kn (StepF p h t)).2 (by rw [List.length_map, List.length_append, List.length_map, List.length_take]; omega)) ?_
            rintro a L' ⟨rfl, b', c', rfl⟩
            simp only [AE.on]
            (refine a_add (by first | omega | assumption | decide) (by first | omega | assumption | decide) ?_)
            refine hK2 (i + 1, b', c') _ _ (by dsimp only; omega) (by dsimp only; omega) ?_
            dsimp only
            have e1 : pre ++ (kept.take (i + 1)).map (c2F p kn h) = (pre ++ (kept.take i).map (c2F p kn h)) ++ [c2F p kn h k] := by rw [hst, List.map_append, List.append_assoc]; rfl
            have e2 : ((pre ++ (kept.take i).map (c2F p kn h)) ++ [c2F p kn h k]).map (fun x : Cl × Int => x.1) = (pre ++ (kept.take i).map (c2F p kn h)).map (fun x : Cl × Int => x.1) ++ [⟨h, k, (impE kn (StepF p h t)).1⟩] := by rw [List.map_append, hone]; rfl
            rw [e1, e2, failE_app, hone]
            exact Gl.drop (List.Sublist.append_left (List.sublist_cons_self _ _) _)
          · rw [show kept.take i = kept by exact List.take_of_length_le (by omega), ← hsu]
            clear hK2
            (refine a_add (by first | omega | assumption | decide) (by first | omega | assumption | decide) ?_)
            refine hK (h + 1, b, c) _ _ (by dsimp only; omega) (by dsimp only; omega) (Gl.refl _ _)
        · rw [show h = p.hs.length by omega]
          clear hK
          have hcb : (cls2 p kept kn p.hs.length).length ≤ 33000 := by
            rw [cls2_len]
            exact Nat.le_trans (Nat.mul_le_mul hk (show p.hs.length + 1 ≤ 33 by omega)) (by decide)
          generalize cls2 p kept kn p.hs.length = pre at *
          unfold clB
          have hI := c104 (bk := z2) (known := kn) p.safe 0
          rw [hCl, hlast]
          clear hCl hlast hnil
          have hone : c3F p kn = (⟨-1, -1, (impE kn (p.safe, 0)).1⟩, (impE kn (p.safe, 0)).2) := rfl
          (refine a_fld ?_; (apply a_ldrN 1 _; exact rfl; exact rfl; exact rfl))
          refine a_callR (AFn.frameM _ (AFn.frameL (_ :: Lk) hI)) ?_
          ((apply a_ext; exact rfl); (apply a_ext; exact rfl); refine a_bx fun z5 => ?_; refine a_stA 0 rfl rfl rfl rfl ?_; (apply a_ldA 0; exact rfl; exact rfl))
          refine a_callF (M := (⟨z5, (impE kn (p.safe, 0)).1.cs, .box⟩ :: ⟨z2, [.row 4 (Tm.rows kn)], .box⟩ :: ⟨z1, p.cs, .box⟩ :: Lk)) (L1 := clB z4 z3 b c (pre.map (fun x : Cl × Int => x.1)) (failE pre)) (List.perm_middle.symm) (c103 (-1) (-1) (impE kn (p.safe, 0)).1 (impE kn (p.safe, 0)).2 (by rw [List.length_map]; omega)) ?_
          rintro a L' ⟨rfl, b', c', rfl⟩
          simp only [AE.on]
          rw [failE_app, List.map_append, hone]
          generalize seqE (failE pre) (impE kn (p.safe, 0)).2 = err at *
          rw [clB_app]
          ((apply a_ldr1 0; exact rfl; exact rfl); refine a_neq ?_)
          by_cases he : err ≠ 0
          · rw [if_pos he]
            refine a_cndT he ?_
            ((apply a_ldr1 0; exact rfl; exact rfl))
            exact ⟨trivial, Gl.trans (Gl.nil 6 (.cons (.tuple (.cons .hit (.cons (.refl _) .nil))) .nil) (WkB.refl _ _ _)) (Gl.drop (List.Sublist.trans (List.Sublist.cons _ (List.Sublist.cons _ (List.Sublist.cons _ (List.Sublist.cons _ (List.sublist_cons_self _ _))))) (List.sublist_append_right _ _)))⟩
          · rw [if_neg he]
            refine a_cndF he ?_
            ((apply a_ldr1 1; exact rfl; exact rfl))
            refine ⟨trivial, ?_⟩
            exact Gl.trans (gl_gvB (L' := _) Cl.cs_len (.cons (.tuple (.cons .hit (.cons (.refl _) .nil))) .nil) (WkB.refl _ _ _)) (Gl.drop (.cons _ (.cons _ (.cons _ (.cons _ (List.sublist_cons_self _ _))))))
theorem c64 (p : Pr) (kept : List Int) (hk : kept.length ≤ 1000) : AFn pr 64 [p.d, .row 1 (nD kept)] [] (.ret (.tuple [.row 6 ((ClausesF p kept).1.map Cl.cs), .i (ClausesF p kept).2])) :=
  clauses_any p kept hk (fun k h => a_lenM h) fun i hi A x y k h => a_idxM (f := fun n => [D.i n]) i hi (V.a_ld1p rfl h)
end Go.Proofs.YtdalobojhfafbaaGreatDoor
set_option maxRecDepth 100000
set_option linter.unusedVariables false
namespace Go.V
open Go
def hxT : Tm := .mk 2 ⟨#[120]⟩ 0 []
def numT (n : Int) : Tm := .mk 1 ⟨#[]⟩ n []
def hornH : Ha := ⟨true, ⟨#[116]⟩, ⟨#[110]⟩, mk 23 [hxT, numT 3], [⟨⟨#[120]⟩, mk 4 [hxT, numT 1]⟩], []⟩
def hornP : Pr := ⟨[⟨#[120]⟩], [], [], [], [], [hornH], mk 22 [hxT, numT 3], [mk 22 [hxT, numT 3]]⟩
theorem horn1 : FirstF hornP (mk 22 [hxT, numT 3]) = (mk 22 [numT 0, numT 3], 0) := by kernel_rfl
theorem horn2 : StepF hornP 0 (mk 22 [hxT, numT 3]) = (mk 21 [mk 19 [mk 23 [hxT, numT 3]], mk 22 [mk 4 [hxT, numT 1], numT 3]], 0) := by kernel_rfl
def hornS : Tm := mk 22 [hxT, numT 3]
def hornT : Tm := mk 21 [mk 19 [mk 23 [hxT, numT 3]], mk 22 [mk 4 [hxT, numT 1], numT 3]]
theorem horn3 : ClausesF hornP [0] = ([⟨-1, 0, mk 22 [numT 0, numT 3]⟩, ⟨0, 0, mk 21 [mk 19 [hornS], hornT]⟩, ⟨-1, -1, mk 21 [mk 19 [hornS], hornS]⟩], 0) := by kernel_rfl
theorem horn4 : StepF hornP 1 (mk 22 [hxT, numT 3]) = (tz, 1) := by kernel_rfl
theorem horn5 : FirstF hornP hxT = (tz, 3) := by kernel_rfl
end Go.V
namespace Go.Proofs.YtdalobojhfafbaaGreatDoor
open Go Go.V
theorem c63 : AFn pr 63 [] [] (.ret hornP.d) := by
  refine AFn.ofGe (s63 ?_)
  unfold A63
  (refine a_bx fun z1 => ?_; refine a_bldT0 rfl rfl ?_; refine a_bx fun z2 => ?_; refine a_stA 0 rfl rfl rfl rfl ?_; (apply a_ldA 0; exact rfl; exact rfl); refine a_bldT0 rfl rfl ?_; refine a_rowS2 rfl ?_; refine a_bldT rfl rfl ?_; refine a_bx fun z3 => ?_; refine a_stA 0 rfl rfl rfl rfl ?_; (apply a_ldA 1; exact rfl; exact rfl); refine a_bldT0 rfl rfl ?_; refine a_rowS2 rfl ?_; refine a_bldT rfl rfl ?_; refine a_bx fun z4 => ?_; refine a_stA 0 rfl rfl rfl rfl ?_; (apply a_bldS _; exact rfl; (try dsimp only [afill, aparts, cl, chunk, List.take, List.drop, List.nil_append, List.cons_append, List.append_nil, List.length_cons, List.length_nil, Nat.zero_add, Nat.reduceAdd, Nat.reduceMul]); try exact rfl); (apply a_ldA 0; exact rfl; exact rfl); (apply a_ldA 0; exact rfl; exact rfl); refine a_rowS1 rfl ?_; (apply a_ldA 2; exact rfl; exact rfl); refine a_bldT0 rfl rfl ?_; refine a_rowS2 rfl ?_; refine a_bldT rfl rfl ?_; (apply a_ldA 1; exact rfl; exact rfl); (apply a_bld _; exact rfl; (try dsimp only [afill, aparts, cl, chunk, List.take, List.drop, List.nil_append, List.cons_append, List.append_nil, List.length_cons, List.length_nil, Nat.zero_add, Nat.reduceAdd, Nat.reduceMul]); try exact rfl); (apply a_bldS _; exact rfl; (try dsimp only [afill, aparts, cl, chunk, List.take, List.drop, List.nil_append, List.cons_append, List.append_nil, List.length_cons, List.length_nil, Nat.zero_add, Nat.reduceAdd, Nat.reduceMul]); try exact rfl); refine V.a_bldW _ hornH.cs rfl rfl (.same (.same (.same (.same (.same (.same (.same (.same (.nil (.refl _)))))))))) ?_; (apply a_bldS _; exact rfl; (try dsimp only [afill, aparts, cl, chunk, List.take, List.drop, List.nil_append, List.cons_append, List.append_nil, List.length_cons, List.length_nil, Nat.zero_add, Nat.reduceAdd, Nat.reduceMul]); try exact rfl); refine V.a_bldW _ hornP.cs rfl rfl (.same (.nil (.nil (.nil (.nil (.refl _)))))) ?_; refine a_stA 3 rfl rfl rfl rfl ?_; (apply a_ldA 3; exact rfl; exact rfl))
  exact ge_drop _ _
theorem c29 : AFn pr 29 [] [] (.ret (.b true)) := by
  refine AFn.ofGe (s29 ?_)
  unfold A29
  have h1 := c30 hornP (mk 22 [hxT, numT 3])
  have h2 := c33 hornP 0 (mk 22 [hxT, numT 3])
  have h3 := c64 hornP [0] (by decide)
  have h4 := c33 hornP 1 (mk 22 [hxT, numT 3])
  have h5 := c30 hornP hxT
  rw [horn1] at h1
  rw [horn2] at h2
  rw [horn3] at h3
  rw [horn4] at h4
  rw [horn5] at h5
  dsimp only at h1 h2 h3 h4 h5
  (refine a_call0 (c63) ?_; refine a_bx fun z1 => ?_; refine a_stA 0 rfl rfl rfl rfl ?_; (apply a_ldA 0; exact rfl; exact rfl); refine a_fld ?_; (apply a_ldN 0 _; exact rfl; exact rfl; exact rfl); refine a_call0 h1 ?_; (apply a_ext; exact rfl); (apply a_ext; exact rfl); refine a_bx fun z2 => ?_; refine a_stA 0 rfl rfl rfl rfl ?_; (apply a_ldA 1; exact rfl; exact rfl); refine a_fld ?_; (apply a_ldN 1 _; exact rfl; exact rfl; exact rfl); refine a_call0 h2 ?_; (apply a_ext; exact rfl); (apply a_ext; exact rfl); refine a_bx fun z3 => ?_; refine a_stA 0 rfl rfl rfl rfl ?_; (apply a_ldA 2; exact rfl; exact rfl); (apply a_bldS _; exact rfl; (try dsimp only [afill, aparts, cl, chunk, List.take, List.drop, List.nil_append, List.cons_append, List.append_nil, List.length_cons, List.length_nil, Nat.zero_add, Nat.reduceAdd, Nat.reduceMul]); try exact rfl); refine a_call0 h3 ?_; (apply a_ext; exact rfl); (apply a_ext; exact rfl); (apply a_ldA 2; exact rfl; exact rfl); refine a_fld ?_; (apply a_ldN 2 _; exact rfl; exact rfl; exact rfl); refine a_call0 h4 ?_; (apply a_ext; exact rfl); (apply a_ext; exact rfl); refine a_bx fun z4 => ?_; refine a_stA 0 rfl rfl rfl rfl ?_; (apply a_ldA 3; exact rfl; exact rfl); refine a_fld ?_; refine a_fld ?_; (apply a_ld1 3; exact rfl; exact rfl); refine a_idxT0 ?_; (apply a_ldAp; exact rfl); refine a_callS0 h5 ?_; (apply a_ext; exact rfl); (apply a_ext; exact rfl); refine a_bx fun z5 => ?_; refine a_stA 0 rfl rfl rfl rfl ?_; refine a_bldT0 rfl rfl ?_; refine a_bldT0 rfl rfl ?_; refine a_rowS2 rfl ?_; refine a_bldT rfl rfl ?_; refine a_bx fun z6 => ?_; refine a_stA 0 rfl rfl rfl rfl ?_; refine a_eql ?_; refine a_cndbT rfl ?_; (apply a_ldA 4; exact rfl; exact rfl); (apply a_ldA 0; exact rfl; exact rfl); refine a_call0 (c65 _ _) ?_; refine a_cndbT rfl ?_; refine a_eql ?_; refine a_cndbT rfl ?_; refine a_fld ?_; (apply a_ld1 3; exact rfl; exact rfl); refine a_eql ?_; refine a_cndbT rfl ?_; refine a_fld ?_; (apply a_ld1 3; exact rfl; exact rfl); refine Tm.a_len ?_; refine a_eql ?_; refine a_cndbT rfl ?_; refine a_fld ?_; (apply a_ld1 3; exact rfl; exact rfl); refine a_idxT1 ?_; refine a_fldp ?_; (apply a_ld1p; exact rfl); refine a_eql ?_; refine a_cndbT rfl ?_; refine a_eql ?_; refine a_cndbT rfl ?_; refine a_lenM ?_; refine a_eql ?_; refine a_idxM (f := Cl.cs) 2 (by decide) ?_; refine a_fldp ?_; (apply a_ld1p; exact rfl); refine a_eql ?_; refine a_cndbT rfl ?_; refine a_eql ?_; refine a_cndbT rfl ?_; refine a_eql ?_)
  exact ge_of (ret_b (decide_eq_true rfl))
end Go.Proofs.YtdalobojhfafbaaGreatDoor
