/- Contracts of layer 13: Make. -/
import Derived.Test.YtokpeggkofjclaaGreatDoorC36
import Derived.Test.YtokpeggkofjclaaGreatDoorM21
import Derived.Test.YtokpeggkofjclaaGreatDoorC14
set_option maxRecDepth 100000
set_option linter.unusedVariables false
namespace Go.V
open Go
def s1 (s : ByteArray) : List D := [.s s]
theorem s1_len (s : ByteArray) : (s1 s).length = 1 := rfl
theorem s1_one (s : ByteArray) : (s1 s).all D.one = true := rfl
theorem a_neOwn {k : D → Prop} {b o : Nat} (h : k (.b true)) : aeqP .neq (.p b o) (.val (.pointer none)) k := h
theorem a_neNil {k : D → Prop} (h : k (.b false)) : aeqP .neq (.val (.pointer none)) (.val (.pointer none)) k := h
section
variable {α : Type} {cs : α → List D} {sz : Nat} {e b c bytes : Nat} {kl : D → List Bx → Prop}
theorem perm_slot {A B : List Bx} {x : Bx} : (x :: (A ++ B)).Perm (A ++ [x] ++ B) := by rw [List.append_assoc]; exact List.perm_middle.symm
theorem a_appMid {L0 M N : List Bx} {l : List α} {x : α} (hsz : ∀ x, (cs x).length = sz) (h1 : ∀ x, (cs x).all D.one = true) (hby : bytes ≤ 140737488355328) (hb : (l.length + 2) * bytes ≤ 140737488355328) (hL : L0 = M ++ gb cs e sz b c l ++ N)
    (h0 : l = [] → ∀ b' c', kl (gv b' c' [x]) (⟨b', ([x].map cs).flatten, .row e sz c'⟩ :: (M ++ N)))
    (h2 : l ≠ [] → ∀ b' c', kl (gv b' c' (l ++ [x])) (M ++ gb cs e sz b' c' (l ++ [x]) ++ N)) : aapp e sz bytes (gv b c l) (.row sz [cs x]) L0 kl := by
  subst hL
  cases l with
  | nil =>
    show aapp e sz bytes .nil _ (M ++ [] ++ N) kl
    rw [List.append_nil]
    exact a_appG0 hsz h1 hby fun b' c' => h0 rfl b' c'
  | cons y l =>
    have ei : (M ++ gb cs e sz b c (y :: l) ++ N)[M.length]? = some ⟨b, ((y :: l).map cs).flatten, .row e sz c⟩ := by
      rw [List.append_assoc, List.getElem?_append_right (Nat.le_refl _), Nat.sub_self]; rfl
    refine a_appG1 hsz h1 M.length ei (by simp only [List.length_cons] at hb; exact Nat.le_trans (Nat.mul_le_mul_right _ (by omega)) hb) fun b' c' => ?_
    have := h2 (by simp) b' c'
    have es : (M ++ gb cs e sz b c (y :: l) ++ N).set M.length ⟨b', ((y :: l ++ [x]).map cs).flatten, .row e sz c'⟩ = M ++ gb cs e sz b' c' (y :: l ++ [x]) ++ N := by
      rw [List.append_assoc, List.append_assoc, List.set_append_right _ _ (Nat.le_refl _), Nat.sub_self]; rfl
    rw [es]; exact this
theorem gv_cl {α : Type} {b c : Nat} (l : List α) : cl (gv b c l) = [gv b c l] := by cases l <;> rfl
theorem gv_one {α : Type} {b c : Nat} (l : List α) : [gv b c l].all D.one = true := by cases l <;> rfl
theorem gl_gv {l : List ByteArray} {ds ds' : List D} {L : List Bx} (hd : WkL (gv b c l) (.row 1 (l.map s1)) ds ds') : Gl ds (gb s1 e 1 b c l ++ L) ds' L := by
  cases l with
  | nil => exact Gl.nil 1 hd (WkB.refl _ _ _)
  | cons y l =>
    refine Gl.fz (n := l.length + 1) (c := c) 0 rfl (flat_len s1_len (y :: l)) ?_ ?_
    · rw [show l.length + 1 = (y :: l).length from rfl, chunk_flat s1_len]; exact hd
    · exact WkB.refl _ _ _
theorem gl_plan {b' c' b'' c'' e' e'' : Nat} {S N I : List ByteArray} {A : List Bx} : Gl [.agg [gv b c S, gv b' c' N, gv b'' c'' I]] (A ++ gb s1 e 1 b c S ++ gb s1 e' 1 b' c' N ++ gb s1 e'' 1 b'' c'' I) [(Pl.mk S N I).d] [] := by
  refine Gl.trans (Gl.drop (L' := gb s1 e 1 b c S ++ (gb s1 e' 1 b' c' N ++ (gb s1 e'' 1 b'' c'' I ++ []))) (by simp only [List.append_assoc, List.append_nil]; exact List.sublist_append_right _ _)) ?_
  refine Gl.trans (gl_gv (ds' := [.agg [.row 1 (S.map s1), gv b' c' N, gv b'' c'' I]]) (.cons (.agg (.cons .hit (.cons (.refl _) (.cons (.refl _) .nil)))) .nil)) ?_
  refine Gl.trans (gl_gv (ds' := [.agg [.row 1 (S.map s1), .row 1 (N.map s1), gv b'' c'' I]]) (.cons (.agg (.cons (.refl _) (.cons .hit (.cons (.refl _) .nil)))) .nil)) ?_
  exact gl_gv (.cons (.agg (.cons (.refl _) (.cons (.refl _) (.cons .hit .nil)))) .nil)
theorem ge_plan {b' c' b'' c'' e' e'' : Nat} {S N I : List ByteArray} {A : List Bx} {r : Int} : Ge (.ret (.tuple [.agg [gv b c S, gv b' c' N, gv b'' c'' I], .i r])) (A ++ gb s1 e 1 b c S ++ gb s1 e' 1 b' c' N ++ gb s1 e'' 1 b'' c'' I) (.ret (.tuple [(Pl.mk S N I).d, .i r])) [] := by
  refine ⟨trivial, Gl.trans (Gl.drop (L' := gb s1 e 1 b c S ++ (gb s1 e' 1 b' c' N ++ (gb s1 e'' 1 b'' c'' I ++ []))) (by simp only [List.append_assoc, List.append_nil]; exact List.sublist_append_right _ _)) ?_⟩
  refine Gl.trans (gl_gv (ds' := [.tuple [.agg [.row 1 (S.map s1), gv b' c' N, gv b'' c'' I], .i r]]) (.cons (.tuple (.cons (.agg (.cons .hit (.cons (.refl _) (.cons (.refl _) .nil)))) (.cons (.refl _) .nil))) .nil)) ?_
  refine Gl.trans (gl_gv (ds' := [.tuple [.agg [.row 1 (S.map s1), .row 1 (N.map s1), gv b'' c'' I], .i r]]) (.cons (.tuple (.cons (.agg (.cons (.refl _) (.cons .hit (.cons (.refl _) .nil)))) (.cons (.refl _) .nil))) .nil)) ?_
  exact gl_gv (.cons (.tuple (.cons (.agg (.cons (.refl _) (.cons (.refl _) (.cons .hit .nil)))) (.cons (.refl _) .nil))) .nil)
theorem ge_plan0 {A : List Bx} {r : Int} : Ge (.ret (.tuple [.agg [.nil, .nil, .nil], .i r])) A (.ret (.tuple [plan0.d, .i r])) [] := by
  have := ge_plan (b := 0) (c := 0) (b' := 0) (c' := 0) (b'' := 0) (c'' := 0) (e := 0) (e' := 0) (e'' := 0) (S := []) (N := []) (I := []) (A := A) (r := r)
  simpa [gb, gv, plan0] using this
end
end Go.V
namespace Go.Proofs.YtokpeggkofjclaaGreatDoor
open Go Go.V
theorem mapInt : MapKey pr 3 IntK := mapKey_int (by kernel_rfl)
theorem c10 (t : Tm) : AFn pr 10 [t.d] [] (.ret (.tuple [(MakeF t).1.d, .i (MakeF t).2])) := by
  refine AFn.ofGe (s10 ?_)
  unfold A10
  have hc := c31 t
  have hN := c32 t
  refine a_bxv fun z1 => ?_
  refine a_bx fun z2 => ?_
  unfold MakeF
  ((apply a_ldA 1; exact rfl; exact rfl); refine a_call0 (c31 _) ?_; (apply a_ext; exact rfl); (apply a_ext; exact rfl); refine a_neq ?_)
  refine a_cnd (fun h1 => ?_) (fun h1 => ?_)
  · rw [if_pos h1]
    (refine a_bld [.nil, .nil, .nil] rfl rfl ?_; refine a_stA 0 rfl rfl rfl rfl ?_; (apply a_ldA 0; exact rfl; exact rfl))
    exact ge_plan0
  rw [if_neg h1]
  refine a_bx fun z3 => ?_
  refine a_mkM fun z4 => ?_
  (refine a_fld ?_)
  refine a_upN 0 rfl mapInt (fun e he => by cases he) rfl ⟨7, rfl⟩ (fun e he => by cases he) ?_
  (refine a_fld ?_)
  refine a_upN 0 rfl mapInt (fun e he => by simp at he; subst he; exact ⟨7, rfl⟩) rfl ⟨14, rfl⟩ (fun e he => by simp at he; subst he; simp) ?_
  (refine a_fld ?_)
  refine a_upN 0 rfl mapInt (fun e he => by simp at he; rcases he with rfl | rfl; exact ⟨7, rfl⟩; exact ⟨14, rfl⟩) rfl ⟨2, rfl⟩ (fun e he => by simp at he; rcases he with rfl | rfl <;> simp) ?_
  have hlen := namesF_len t
  have hes : ∀ e ∈ [(Value.int .i64 7, D.p z3 0), (Value.int .i64 14, D.p z3 1), (Value.int .i64 2, D.p z3 2)], IntK e.1 := fun e he => by
    simp only [List.mem_cons, List.not_mem_nil, or_false] at he
    rcases he with rfl | rfl | rfl <;> exact ⟨_, rfl⟩
  ((apply a_ldA 3; exact rfl; exact rfl); refine a_call0 (c32 _) ?_; refine a_lenM ?_)
  refine a_lp (σ := Nat × (Nat × Nat) × (Nat × Nat) × (Nat × Nat)) (fun x => [.i x.1]) (fun x => [⟨z4, [], .map [(.int .i64 7, .p z3 0), (.int .i64 14, .p z3 1), (.int .i64 2, .p z3 2)]⟩, ⟨z3, [gv x.2.1.1 x.2.1.2 (ofOp 7 ((NamesF t).take x.1)), gv x.2.2.1.1 x.2.2.1.2 (ofOp 14 ((NamesF t).take x.1)), gv x.2.2.2.1 x.2.2.2.2 (ofOp 2 ((NamesF t).take x.1))], .box⟩, ⟨z2, [.nil, .nil, .nil], .box⟩, ⟨z1, t.cs, .box⟩] ++ gb s1 9 1 x.2.1.1 x.2.1.2 (ofOp 7 ((NamesF t).take x.1)) ++ gb s1 9 1 x.2.2.1.1 x.2.2.1.2 (ofOp 14 ((NamesF t).take x.1)) ++ gb s1 9 1 x.2.2.2.1 x.2.2.2.2 (ofOp 2 ((NamesF t).take x.1))) (fun x => x.1 ≤ (NamesF t).length) (fun x => (NamesF t).length - x.1) (0, (0, 0), (0, 0), (0, 0)) (by first | exact Gl.refl _ _ | exact Gl.drop (by repeat (first | exact List.Sublist.refl _ | exact List.Sublist.slnil | apply List.Sublist.cons_cons | apply List.Sublist.cons))) (Nat.zero_le _) ?_
  rintro ⟨i, ⟨x1, y1⟩, ⟨x2, y2⟩, ⟨x3, y3⟩⟩ K hi hK
  dsimp only at hi hK ⊢
  dsimp only [aix0, aix1, aix2, aix3, aix4, aix5, aix6, aix7, aix8]
  (refine a_lss ?_)
  refine a_cnd (fun q => ?_) (fun q => ?_)
  · have hlt : i < (NamesF t).length := by omega
    have hK1 := fun a1 a2 a3 b1 b2 b3 => hK (i + 1, (a1, b1), (a2, b2), (a3, b3))
    clear hK
    simp only [List.take_succ_eq_append_getElem hlt, ofOp_snoc] at hK1
    have l7 := ofOp_len 7 ((NamesF t).take i)
    have l14 := ofOp_len 14 ((NamesF t).take i)
    have l2 := ofOp_len 2 ((NamesF t).take i)
    have ltk : ((NamesF t).take i).length ≤ 2000 := by rw [List.length_take]; omega
    generalize ofOp 7 ((NamesF t).take i) = S at *
    generalize ofOp 14 ((NamesF t).take i) = N at *
    generalize ofOp 2 ((NamesF t).take i) = I at *
    refine a_idxM i hlt ?_
    generalize (NamesF t)[i] = x at hK1 ⊢
    obtain ⟨nm, op⟩ := x
    ((apply a_ldAp; exact rfl); refine a_bx fun z5 => ?_; refine a_stA 0 rfl rfl rfl rfl ?_; refine a_fld ?_; refine a_fld ?_; (apply a_ld1 0; exact rfl; exact rfl))
    by_cases e7 : op = 7
    · subst e7
      dsimp only at hK1
      rw [if_pos (rfl : (7 : Int) = 7), if_neg (by decide : ¬ (7 : Int) = 14), if_neg (by decide : ¬ (7 : Int) = 2)] at hK1
      refine a_lkT (key := .int .i64 7) (d := .p z3 0) 1 rfl mapInt hes rfl ⟨7, rfl⟩ (by simp) ?_
      refine a_neOwn ?_
      refine a_cndbT rfl ?_
      (refine a_nil ?_; (apply a_ld1 2; exact rfl; exact rfl); refine a_fld ?_; (apply a_ld1 0; exact rfl; exact rfl); (apply a_bldF _; exact rfl; (try dsimp only [afill, aparts, cl, chunk, List.take, List.drop, List.nil_append, List.cons_append, List.append_nil, List.length_cons, List.length_nil, Nat.zero_add, Nat.reduceAdd, Nat.reduceMul]); try exact rfl))
      refine a_appMid (bytes := 16) (l := S) (M := [⟨z5, Nm.cr (nm, 7), .box⟩, ⟨z4, [], .map [(.int .i64 7, .p z3 0), (.int .i64 14, .p z3 1), (.int .i64 2, .p z3 2)]⟩, ⟨z3, [gv x1 y1 S, gv x2 y2 N, gv x3 y3 I], .box⟩, ⟨z2, [.nil, .nil, .nil], .box⟩, ⟨z1, t.cs, .box⟩]) (N := gb s1 9 1 x2 y2 N ++ gb s1 9 1 x3 y3 I) s1_len s1_one (by decide) (by omega) (by simp only [List.append_assoc, List.set_cons_zero, List.cons_append]) (fun h0 b' c' => ?_) (fun h0 b' c' => ?_)
      · subst h0
        (refine a_nil ?_; (apply a_st 3 _; exact rfl; exact rfl; exact rfl; exact rfl; (try dsimp only [afill, aparts, cl, chunk, List.take, List.drop, List.nil_append, List.cons_append, List.append_nil, List.length_cons, List.length_nil, Nat.zero_add, Nat.reduceAdd, Nat.reduceMul]); try exact rfl); refine a_add (by first | omega | assumption | decide) (by first | omega | assumption | decide) ?_)
        refine hK1 b' x2 x3 c' y2 y3 _ _ (by omega) (by omega) ?_
        refine Gl.trans (Gl.drop (L' := ⟨b', ([str nm].map s1).flatten, .row 9 1 c'⟩ :: (([⟨z4, [], .map [(.int .i64 7, .p z3 0), (.int .i64 14, .p z3 1), (.int .i64 2, .p z3 2)]⟩, ⟨z3, [gv b' c' [str nm], gv x2 y2 N, gv x3 y3 I], .box⟩, ⟨z2, [.nil, .nil, .nil], .box⟩, ⟨z1, t.cs, .box⟩]) ++ (gb s1 9 1 x2 y2 N ++ gb s1 9 1 x3 y3 I))) (.cons_cons _ (.cons _ (List.Sublist.refl _)))) (Gl.perm ?_)
        refine perm_slot.trans ?_
        simp only [List.append_assoc, List.nil_append]
        exact List.Perm.refl _
      · (refine a_nil ?_)
        refine V.a_st 2 [gv b' c' (S ++ [str nm]), gv x2 y2 N, gv x3 y3 I] rfl (by rw [gv_cl]; rfl) (by rw [gv_cl]; exact gv_one _) rfl (by rw [gv_cl]; rfl) ?_
        (refine a_add (by first | omega | assumption | decide) (by first | omega | assumption | decide) ?_)
        refine hK1 b' x2 x3 c' y2 y3 _ _ (by omega) (by omega) ?_
        refine Gl.drop ?_
        simp only [List.append_assoc, List.cons_append, List.nil_append]
        exact List.sublist_cons_self _ _
    by_cases e14 : op = 14
    · subst e14
      dsimp only at hK1
      rw [if_pos (rfl : (14 : Int) = 14), if_neg (by decide : ¬ (14 : Int) = 7), if_neg (by decide : ¬ (14 : Int) = 2)] at hK1
      refine a_lkT (key := .int .i64 14) (d := .p z3 1) 1 rfl mapInt hes rfl ⟨14, rfl⟩ (by simp) ?_
      refine a_neOwn ?_
      refine a_cndbT rfl ?_
      (refine a_nil ?_; (apply a_ld1 2; exact rfl; exact rfl); refine a_fld ?_; (apply a_ld1 0; exact rfl; exact rfl); (apply a_bldF _; exact rfl; (try dsimp only [afill, aparts, cl, chunk, List.take, List.drop, List.nil_append, List.cons_append, List.append_nil, List.length_cons, List.length_nil, Nat.zero_add, Nat.reduceAdd, Nat.reduceMul]); try exact rfl))
      refine a_appMid (bytes := 16) (l := N) (M := [⟨z5, Nm.cr (nm, 14), .box⟩, ⟨z4, [], .map [(.int .i64 7, .p z3 0), (.int .i64 14, .p z3 1), (.int .i64 2, .p z3 2)]⟩, ⟨z3, [gv x1 y1 S, gv x2 y2 N, gv x3 y3 I], .box⟩, ⟨z2, [.nil, .nil, .nil], .box⟩, ⟨z1, t.cs, .box⟩] ++ gb s1 9 1 x1 y1 S) (N := gb s1 9 1 x3 y3 I) s1_len s1_one (by decide) (by omega) (by simp only [List.append_assoc, List.set_cons_zero, List.cons_append]) (fun h0 b' c' => ?_) (fun h0 b' c' => ?_)
      · subst h0
        (refine a_nil ?_; (apply a_st 3 _; exact rfl; exact rfl; exact rfl; exact rfl; (try dsimp only [afill, aparts, cl, chunk, List.take, List.drop, List.nil_append, List.cons_append, List.append_nil, List.length_cons, List.length_nil, Nat.zero_add, Nat.reduceAdd, Nat.reduceMul]); try exact rfl); refine a_add (by first | omega | assumption | decide) (by first | omega | assumption | decide) ?_)
        refine hK1 x1 b' x3 y1 c' y3 _ _ (by omega) (by omega) ?_
        refine Gl.trans (Gl.drop (L' := ⟨b', ([str nm].map s1).flatten, .row 9 1 c'⟩ :: (([⟨z4, [], .map [(.int .i64 7, .p z3 0), (.int .i64 14, .p z3 1), (.int .i64 2, .p z3 2)]⟩, ⟨z3, [gv x1 y1 S, gv b' c' [str nm], gv x3 y3 I], .box⟩, ⟨z2, [.nil, .nil, .nil], .box⟩, ⟨z1, t.cs, .box⟩] ++ gb s1 9 1 x1 y1 S) ++ (gb s1 9 1 x3 y3 I))) (.cons_cons _ (.cons _ (List.Sublist.refl _)))) (Gl.perm ?_)
        refine perm_slot.trans ?_
        simp only [List.append_assoc, List.nil_append]
        exact List.Perm.refl _
      · (refine a_nil ?_)
        refine V.a_st 2 [gv x1 y1 S, gv b' c' (N ++ [str nm]), gv x3 y3 I] rfl (by rw [gv_cl]; rfl) (by rw [gv_cl]; exact gv_one _) rfl (by rw [gv_cl]; rfl) ?_
        (refine a_add (by first | omega | assumption | decide) (by first | omega | assumption | decide) ?_)
        refine hK1 x1 b' x3 y1 c' y3 _ _ (by omega) (by omega) ?_
        refine Gl.drop ?_
        simp only [List.append_assoc, List.cons_append, List.nil_append]
        exact List.sublist_cons_self _ _
    by_cases e2 : op = 2
    · subst e2
      dsimp only at hK1
      rw [if_pos (rfl : (2 : Int) = 2), if_neg (by decide : ¬ (2 : Int) = 7), if_neg (by decide : ¬ (2 : Int) = 14)] at hK1
      refine a_lkT (key := .int .i64 2) (d := .p z3 2) 1 rfl mapInt hes rfl ⟨2, rfl⟩ (by simp) ?_
      refine a_neOwn ?_
      refine a_cndbT rfl ?_
      (refine a_nil ?_; (apply a_ld1 2; exact rfl; exact rfl); refine a_fld ?_; (apply a_ld1 0; exact rfl; exact rfl); (apply a_bldF _; exact rfl; (try dsimp only [afill, aparts, cl, chunk, List.take, List.drop, List.nil_append, List.cons_append, List.append_nil, List.length_cons, List.length_nil, Nat.zero_add, Nat.reduceAdd, Nat.reduceMul]); try exact rfl))
      refine a_appMid (bytes := 16) (l := I) (M := [⟨z5, Nm.cr (nm, 2), .box⟩, ⟨z4, [], .map [(.int .i64 7, .p z3 0), (.int .i64 14, .p z3 1), (.int .i64 2, .p z3 2)]⟩, ⟨z3, [gv x1 y1 S, gv x2 y2 N, gv x3 y3 I], .box⟩, ⟨z2, [.nil, .nil, .nil], .box⟩, ⟨z1, t.cs, .box⟩] ++ gb s1 9 1 x1 y1 S ++ gb s1 9 1 x2 y2 N) (N := []) s1_len s1_one (by decide) (by omega) (by simp only [List.append_assoc, List.append_nil, List.set_cons_zero, List.cons_append]) (fun h0 b' c' => ?_) (fun h0 b' c' => ?_)
      · subst h0
        (refine a_nil ?_; (apply a_st 3 _; exact rfl; exact rfl; exact rfl; exact rfl; (try dsimp only [afill, aparts, cl, chunk, List.take, List.drop, List.nil_append, List.cons_append, List.append_nil, List.length_cons, List.length_nil, Nat.zero_add, Nat.reduceAdd, Nat.reduceMul]); try exact rfl); refine a_add (by first | omega | assumption | decide) (by first | omega | assumption | decide) ?_)
        refine hK1 x1 x2 b' y1 y2 c' _ _ (by omega) (by omega) ?_
        refine Gl.trans (Gl.drop (L' := ⟨b', ([str nm].map s1).flatten, .row 9 1 c'⟩ :: (([⟨z4, [], .map [(.int .i64 7, .p z3 0), (.int .i64 14, .p z3 1), (.int .i64 2, .p z3 2)]⟩, ⟨z3, [gv x1 y1 S, gv x2 y2 N, gv b' c' [str nm]], .box⟩, ⟨z2, [.nil, .nil, .nil], .box⟩, ⟨z1, t.cs, .box⟩] ++ gb s1 9 1 x1 y1 S ++ gb s1 9 1 x2 y2 N) ++ ([]))) (.cons_cons _ (.cons _ (List.Sublist.refl _)))) (Gl.perm ?_)
        refine perm_slot.trans ?_
        simp only [List.append_assoc, List.append_nil, List.nil_append]
        exact List.Perm.refl _
      · (refine a_nil ?_)
        refine V.a_st 2 [gv x1 y1 S, gv x2 y2 N, gv b' c' (I ++ [str nm])] rfl (by rw [gv_cl]; rfl) (by rw [gv_cl]; exact gv_one _) rfl (by rw [gv_cl]; rfl) ?_
        (refine a_add (by first | omega | assumption | decide) (by first | omega | assumption | decide) ?_)
        refine hK1 x1 x2 b' y1 y2 c' _ _ (by omega) (by omega) ?_
        refine Gl.drop ?_
        simp only [List.append_assoc, List.append_nil, List.cons_append, List.nil_append]
        exact List.sublist_cons_self _ _
    · refine a_lkF (key := .int .i64 op) 1 rfl mapInt hes rfl ⟨op, rfl⟩ (fun e he hh => by simp only [List.mem_cons, List.not_mem_nil, or_false] at he; rcases he with rfl | rfl | rfl <;> (injection hh with _ hh; omega)) ?_
      refine a_neNil ?_
      refine a_cndbF rfl ?_
      (refine a_add (by first | omega | assumption | decide) (by first | omega | assumption | decide) ?_)
      dsimp only at hK1
      rw [if_neg e7, if_neg e14, if_neg e2] at hK1
      refine hK1 x1 x2 x3 y1 y2 y3 _ _ (by omega) (by omega) ?_
      exact Gl.drop (List.sublist_cons_self _ _)
  · have hie : i = (NamesF t).length := by omega
    subst hie
    clear hK
    rw [List.take_length]
    have l7 := ofOp_len 7 (NamesF t)
    have l14 := ofOp_len 14 (NamesF t)
    have l2 := ofOp_len 2 (NamesF t)
    have hpl : planN (NamesF t) = ⟨ofOp 7 (NamesF t), ofOp 14 (NamesF t), ofOp 2 (NamesF t)⟩ := rfl
    rw [hpl]
    generalize ofOp 7 (NamesF t) = S at *
    generalize ofOp 14 (NamesF t) = N at *
    generalize ofOp 2 (NamesF t) = I at *
    have hci : (Pl.mk S N I).circ ≤ 1000000 := by show S.length + N.length ≤ _; omega
    have hcir := fun {A : List Bx} => AFn.lend (c33 (Pl.mk S N I) hci) rfl (gl_plan (A := A) (b := x1) (c := y1) (b' := x2) (c' := y2) (b'' := x3) (c'' := y3) (e := 9) (e' := 9) (e'' := 9))
    ((apply a_ldA 1; exact rfl; exact rfl))
    refine a_callSR hcir ?_
    refine a_gtr ?_
    refine a_cnd (fun q2 => ?_) (fun q2 => ?_)
    · (refine a_bld [.nil, .nil, .nil] rfl rfl ?_; refine a_stA 2 rfl rfl rfl rfl ?_; (apply a_ldA 2; exact rfl; exact rfl))
      rw [if_pos (.inl (by omega))]
      exact ge_plan0
    · ((apply a_ldA 1; exact rfl; exact rfl))
      refine a_callSR hcir ?_
      (refine a_fld ?_; (apply a_ld1 1; exact rfl; exact rfl); refine a_lenG ?_; refine a_add (by first | omega | assumption | decide) (by first | omega | assumption | decide) ?_; refine a_gtr ?_)
      refine a_cnd (fun q3 => ?_) (fun q3 => ?_)
      · (refine a_bld [.nil, .nil, .nil] rfl rfl ?_; refine a_stA 2 rfl rfl rfl rfl ?_; (apply a_ldA 2; exact rfl; exact rfl))
        rw [if_pos (.inr (by show 64 < _ + I.length; omega))]
        exact ge_plan0
      · rw [if_neg (by show ¬ (_ ∨ 64 < _ + I.length); omega)]
        ((apply a_ldA 1; exact rfl; exact rfl))
        refine a_stA 2 rfl rfl rfl (by cases S <;> cases N <;> cases I <;> rfl) ?_
        ((apply a_ldA 2; exact rfl; exact rfl))
        exact ge_plan (A := [⟨z4, [], .map [(.int .i64 7, .p z3 0), (.int .i64 14, .p z3 1), (.int .i64 2, .p z3 2)]⟩, ⟨z3, [gv x1 y1 S, gv x2 y2 N, gv x3 y3 I], .box⟩, ⟨z2, [gv x1 y1 S, gv x2 y2 N, gv x3 y3 I], .box⟩, ⟨z1, t.cs, .box⟩]) (e := 9) (e' := 9) (e'' := 9)
end Go.Proofs.YtokpeggkofjclaaGreatDoor
/- Contracts of layer 13: Base, sum, and what the library has for it. -/
set_option maxRecDepth 100000
set_option linter.unusedVariables false
namespace Go.V
open Go
theorem gl_gvG {α : Type} {cs : α → List D} {sz e b c : Nat} (hsz : ∀ x, (cs x).length = sz) {l : List α} {ds ds' : List D} {L : List Bx} (hd : WkL (gv b c l) (.row sz (l.map cs)) ds ds') : Gl ds (gb cs e sz b c l ++ L) ds' L := by
  cases l with
  | nil => exact Gl.nil sz hd (WkB.refl _ _ _)
  | cons y l =>
    refine Gl.fz (n := l.length + 1) (c := c) 0 rfl (flat_len hsz (y :: l)) ?_ ?_
    · rw [show l.length + 1 = (y :: l).length from rfl, chunk_flat hsz]; exact hd
    · exact WkB.refl _ _ _
theorem ge_gvG {α : Type} {cs : α → List D} {sz e b c : Nat} (hsz : ∀ x, (cs x).length = sz) {l : List α} {A B : List Bx} : Ge (.ret (gv b c l)) (A ++ gb cs e sz b c l ++ B) (.ret (.row sz (l.map cs))) [] :=
  ⟨trivial, Gl.trans (Gl.drop (L' := gb cs e sz b c l ++ B) (by rw [List.append_assoc]; exact List.sublist_append_right _ _)) (Gl.trans (gl_gvG (ds' := [.row sz (l.map cs)]) hsz (.cons .hit .nil)) (Gl.drop (List.nil_sublist _)))⟩
theorem a_appMid2 {α : Type} {cs : α → List D} {sz e b c bytes : Nat} {kl : D → List Bx → Prop} {L0 M N : List Bx} {l : List α} {x y : α} (hsz : ∀ x, (cs x).length = sz) (h1 : ∀ x, (cs x).all D.one = true) (hb : (l.length + 2) * bytes ≤ 140737488355328) (hne : l ≠ [])
    (hL : L0 = M ++ gb cs e sz b c l ++ N) (h2 : ∀ b' c', kl (gv b' c' (l ++ [x, y])) (M ++ gb cs e sz b' c' (l ++ [x, y]) ++ N)) : aapp e sz bytes (gv b c l) (.row sz [cs x, cs y]) L0 kl := by
  subst hL
  cases l with
  | nil => exact absurd rfl hne
  | cons z l =>
    have ei : (M ++ gb cs e sz b c (z :: l) ++ N)[M.length]? = some ⟨b, ((z :: l).map cs).flatten, .row e sz c⟩ := by
      rw [List.append_assoc, List.getElem?_append_right (Nat.le_refl _), Nat.sub_self]; rfl
    refine V.a_app M.length _ 2 (cs x ++ cs y) ei (by rw [flat_len hsz]; rfl) ⟨rfl, rfl, by simp⟩ (by rw [List.all_append, h1, h1]; rfl) (by simpa using hb) fun b' c' => ?_
    have := h2 b' c'
    have e1 : ((z :: l ++ [x, y]).map cs).flatten = ((z :: l).map cs).flatten ++ (cs x ++ cs y) := by
      rw [List.map_append, List.flatten_append]; simp
    have es : (M ++ gb cs e sz b c (z :: l) ++ N).set M.length ⟨b', ((z :: l).map cs).flatten ++ (cs x ++ cs y), .row e sz c'⟩ = M ++ gb cs e sz b' c' (z :: l ++ [x, y]) ++ N := by
      rw [List.append_assoc, List.append_assoc, List.set_append_right _ _ (Nat.le_refl _), Nat.sub_self, ← e1]; rfl
    have e2 : gv b' c' (z :: l ++ [x, y]) = .sl b' 0 (l.length + 1 + 2) c' := by
      show D.sl b' 0 ((l ++ [x, y]).length + 1) c' = _
      rw [List.length_append]; rfl
    rw [es, ← e2]; exact this
def eqR (i r : Nat) : Bool := decide (r = i)
def base1 (p : Pl) (n : Nat) : List Rw := (List.range n).map fun i => rowF p (-1) 0 (eqR i)
def base2 (p : Pl) : Nat → List Rw
  | 0 => []
  | n + 1 => base2 p n ++ [rowF p 1 (-1) fun r => inB r (p.sets.length + n), rowF p (-1) 1 fun r => inB r (p.sets.length + n)]
def BaseF (p : Pl) : List Rw := base1 p p.reg ++ [rowF p (-1) 1 fun _ => true] ++ base2 p p.nodes.length
theorem base1_len (p : Pl) (n : Nat) : (base1 p n).length = n := by unfold base1; simp
theorem base1_succ (p : Pl) (n : Nat) : base1 p (n + 1) = base1 p n ++ [rowF p (-1) 0 (eqR n)] := by unfold base1; rw [List.range_succ, List.map_append]; rfl
theorem base2_len (p : Pl) : ∀ n, (base2 p n).length = 2 * n
  | 0 => rfl
  | n + 1 => by rw [base2, List.length_append, base2_len p n]; simp; omega
def capS (c : Int) (l : List Int) (f : Nat → Bool) : Nat → Int
  | 0 => 0
  | n + 1 => if f n then min (capS c l f n + min (l.getD n 0) c) c else capS c l f n
end Go.V
namespace Go.Proofs.YtokpeggkofjclaaGreatDoor
open Go Go.V
theorem c60 {b : Nat} (i r : Nat) : AFn pr 60 ([.i r] ++ [.p b 0]) [⟨b, [.i i], .box⟩] (.ret (.b (eqR i r))) := by
  refine AFn.ofL (s60 ?_)
  unfold A60
  ((apply a_ld1 0; exact rfl; exact rfl); refine a_eql ?_)
  exact ⟨ret_b (by unfold eqR; exact decide_eq_decide.2 (by omega)), List.Sublist.refl _⟩
theorem c61 (r : Nat) : AFn pr 61 ([.i r] ++ []) [] (.ret (.b ((fun _ : Nat => true) r))) := by
  refine AFn.of (s61 ?_)
  rfl
theorem c62 {p : Pl} (hp : p.Ok) {b b' : Nat} {i r : Nat} (hi : i < p.nodes.length) (hr : r ≤ 63) : AFn pr 62 ([.i r] ++ [.p b 0, .p b' 0]) [⟨b', [.i i], .box⟩, ⟨b, p.cs, .box⟩] (.ret (.b (inB r (p.sets.length + i)))) := by
  refine AFn.ofL (s62 ?_)
  unfold A62
  have := hp.circ
  unfold Pl.circ at this
  (refine a_fld ?_; (apply a_ld1 1; exact rfl; exact rfl); refine a_lenM ?_; (apply a_ld1 0; exact rfl; exact rfl); refine a_add (by first | omega | assumption | decide) (by first | omega | assumption | decide) ?_; refine a_call0 (c52 (by first | omega | assumption | decide) (by first | omega | assumption | decide)) ?_)
  exact ⟨rfl, List.Sublist.refl _⟩
theorem c24 {p : Pl} (hp : p.Ok) : AFn pr 24 [p.d] [] (.ret (.row 2 ((BaseF p).map Rw.cs))) := by
  refine AFn.ofGe (s24 ?_)
  unfold A24
  have hcirc := hp.circ
  have hreg := p.reg_pos
  have hnl : p.nodes.length ≤ 64 := by unfold Pl.circ at hcirc; omega
  have hR := c19 p (by omega)
  refine a_bxv fun z1 => ?_
  ((apply a_ldA 0; exact rfl; exact rfl); refine a_call0 hR ?_)
  refine a_lp (σ := Nat × Nat × Nat) (fun x => [gv x.2.1 x.2.2 (base1 p x.1), .i x.1]) (fun x => [⟨z1, p.cs, .box⟩] ++ gb Rw.cs 41 2 x.2.1 x.2.2 (base1 p x.1)) (fun x => x.1 ≤ p.reg) (fun x => p.reg - x.1) (0, 0, 0) (by first | exact Gl.refl _ _ | exact Gl.drop (by repeat (first | exact List.Sublist.refl _ | exact List.Sublist.slnil | apply List.Sublist.cons_cons | apply List.Sublist.cons))) (Nat.zero_le _) ?_
  rintro ⟨i, b, c⟩ K hi hK
  dsimp only at hi hK ⊢
  dsimp only [aix0, aix1, aix2, aix3, aix4, aix5, aix6, aix7, aix8]
  refine a_lss ?_
  refine a_cnd (fun q => ?_) (fun q => ?_)
  · have hlt : i < p.reg := by omega
    have hl := base1_len p i
    have hK1 := fun b' c' => hK (i + 1, b', c')
    clear hK
    simp only [base1_succ] at hK1
    generalize base1 p i = l at *
    (refine a_bx fun z2 => ?_; (apply a_st 0 _; exact rfl; exact rfl; exact rfl; exact rfl; (try dsimp only [afill, aparts, cl, chunk, List.take, List.drop, List.nil_append, List.cons_append, List.append_nil, List.length_cons, List.length_nil, Nat.zero_add, Nat.reduceAdd, Nat.reduceMul]); try exact rfl); (apply a_ldA 1; exact rfl; exact rfl))
    refine a_callR (AFn.frameL (Lc := [⟨z2, [.i i], .box⟩]) _ (c40 hp (-1) 0 (fun r _ => c60 i r))) ?_
    refine a_bldS [Rw.cs (rowF p (-1) 0 (eqR i))] rfl rfl ?_
    refine a_appMid (bytes := 32) (l := l) (x := rowF p (-1) 0 (eqR i)) (M := [⟨z2, [.i i], .box⟩, ⟨z1, p.cs, .box⟩]) (N := []) Rw.cs_len Rw.cs_one (by decide) (by omega) (by simp only [List.append_nil, List.set_cons_zero, List.cons_append, List.nil_append]) (fun h0 b' c' => ?_) (fun h0 b' c' => ?_)
    · subst h0
      (refine a_add (by first | omega | assumption | decide) (by first | omega | assumption | decide) ?_)
      refine hK1 b' c' _ _ (by omega) (by omega) ?_
      exact Gl.trans (Gl.drop (L' := [_, _]) (.cons_cons _ (.cons _ (List.Sublist.refl _)))) (Gl.perm (List.Perm.swap _ _ _))
    · (refine a_add (by first | omega | assumption | decide) (by first | omega | assumption | decide) ?_)
      refine hK1 b' c' _ _ (by omega) (by omega) ?_
      refine Gl.drop ?_
      simp only [List.append_nil, List.cons_append, List.nil_append]
      exact List.sublist_cons_self _ _
  · have hie : i = p.reg := by omega
    subst hie
    clear hK
    have hl := base1_len p p.reg
    unfold BaseF
    generalize base1 p p.reg = l at *
    ((apply a_ldA 0; exact rfl; exact rfl))
    refine a_call0 (c40 hp (-1) 1 (fun r _ => c61 r)) ?_
    refine a_bldS [Rw.cs (rowF p (-1) 1 fun _ => true)] rfl rfl ?_
    refine a_appMid (bytes := 32) (l := l) (x := rowF p (-1) 1 fun _ => true) (M := [⟨z1, p.cs, .box⟩]) (N := []) Rw.cs_len Rw.cs_one (by decide) (by omega) (by simp only [List.append_nil]) (fun h0 b' c' => by rw [h0] at hl; simp at hl; omega) (fun h0 b' c' => ?_)
    have hlm : (l ++ [rowF p (-1) 1 fun _ => true]).length ≤ 65 := by rw [List.length_append]; simp; omega
    have hm0 : l ++ [rowF p (-1) 1 fun _ => true] ≠ [] := by simp
    generalize l ++ [rowF p (-1) 1 fun _ => true] = m at hlm hm0 ⊢
    (refine a_fld ?_; (apply a_ld1 0; exact rfl; exact rfl); refine a_lenM ?_)
    refine a_lp (σ := Nat × Nat × Nat) (fun x => [gv x.2.1 x.2.2 (m ++ base2 p x.1), .i x.1]) (fun x => [⟨z1, p.cs, .box⟩] ++ gb Rw.cs 41 2 x.2.1 x.2.2 (m ++ base2 p x.1) ++ []) (fun x => x.1 ≤ p.nodes.length) (fun x => p.nodes.length - x.1) (0, b', c') (by simp only [base2, List.append_nil]; exact Gl.refl _ _) (Nat.zero_le _) ?_
    rintro ⟨i, b1, c1⟩ K hi hK
    dsimp only at hi hK ⊢
    dsimp only [aix0, aix1, aix2, aix3, aix4, aix5, aix6, aix7, aix8]
    refine a_lss ?_
    refine a_cnd (fun q => ?_) (fun q => ?_)
    · have hlt : i < p.nodes.length := by omega
      have hl2 := base2_len p i
      have hK1 := fun b' c' => hK (i + 1, b', c')
      clear hK
      simp only [base2, ← List.append_assoc] at hK1
      have hll : (m ++ base2 p i).length ≤ 193 := by rw [List.length_append]; omega
      have hne : m ++ base2 p i ≠ [] := by simp [hm0]
      generalize m ++ base2 p i = l at *
      (refine a_bx fun z2 => ?_; (apply a_st 0 _; exact rfl; exact rfl; exact rfl; exact rfl; (try dsimp only [afill, aparts, cl, chunk, List.take, List.drop, List.nil_append, List.cons_append, List.append_nil, List.length_cons, List.length_nil, Nat.zero_add, Nat.reduceAdd, Nat.reduceMul]); try exact rfl); (apply a_ldA 1; exact rfl; exact rfl))
      have h3 := fun (r : Nat) (hr : r < p.reg) => c62 hp (b := z1) (b' := z2) hlt (show r ≤ 63 by omega)
      refine a_callSR (AFn.frameL _ (c40 hp 1 (-1) h3)) ?_
      ((apply a_ldA 1; exact rfl; exact rfl))
      refine a_callSR (AFn.frameL _ (c40 hp (-1) 1 h3)) ?_
      refine V.a_bldF [Rw.cs (rowF p 1 (-1) fun r => inB r (p.sets.length + i)), Rw.cs (rowF p (-1) 1 fun r => inB r (p.sets.length + i))] rfl rfl ?_
      refine a_appMid2 (bytes := 32) (l := l) (x := rowF p 1 (-1) fun r => inB r (p.sets.length + i)) (y := rowF p (-1) 1 fun r => inB r (p.sets.length + i)) (M := [⟨z2, [.i i], .box⟩, ⟨z1, p.cs, .box⟩]) (N := []) Rw.cs_len Rw.cs_one (by omega) hne (by simp only [List.append_nil, List.set_cons_zero, List.cons_append, List.nil_append]) (fun b' c' => ?_)
      (refine a_add (by first | omega | assumption | decide) (by first | omega | assumption | decide) ?_)
      refine hK1 b' c' _ _ (by omega) (by omega) ?_
      exact Gl.drop (List.sublist_cons_self _ _)
    · rw [show i = p.nodes.length by omega]
      exact ge_gvG Rw.cs_len
end Go.Proofs.YtokpeggkofjclaaGreatDoor
