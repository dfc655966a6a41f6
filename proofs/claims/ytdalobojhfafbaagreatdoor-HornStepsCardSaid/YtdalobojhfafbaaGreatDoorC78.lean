/- Contracts of layer 18: World and Pending, as told. -/
import Derived.Test.YtdalobojhfafbaaGreatDoorC75
import Derived.Test.YtdalobojhfafbaaGreatDoorM37
import Derived.Test.YtdalobojhfafbaaGreatDoorW22
set_option maxRecDepth 100000
set_option linter.unusedVariables false
namespace Go.V
open Go
theorem AFn.ofGeN {P : Program} {g : FuncId} {args : List D} {L : List Bx} {a : AE} (h : ASpec P g args L fun a' L' => Ge a' L' a L) : AFn P g args L a := ASpec.ge h fun a' L' hg => ⟨a, L, hg, rfl, rfl⟩
theorem gvX_cl {α : Type} {b c : Nat} (l : List α) : cl (gv b c l) = [gv b c l] := by cases l <;> rfl
theorem gvX_one {α : Type} {b c : Nat} (l : List α) : [gv b c l].all D.one = true := by cases l <;> rfl
theorem a_stP {n b o : Nat} {l : List D} {v : D} {kd : Kd} {L P : List Bx} {ks : List Bx → Prop} (m : List D) (hP : L.Perm (⟨b, l, kd⟩ :: P)) (hv : (cl v).length = n) (ho : (cl v).all D.one = true) (hl : Nat.ble (o + n) l.length = true) (hm : l.take o ++ cl v ++ l.drop (o + n) = m)
    (h : ∀ L', L'.Perm (⟨b, m, kd⟩ :: P) → ks L') : ast n (.p b o) v L ks := by
  have hmem : (⟨b, l, kd⟩ : Bx) ∈ L := hP.mem_iff.2 List.mem_cons_self
  obtain ⟨X, Y, rfl⟩ := List.append_of_mem hmem
  have hXY : (X ++ Y).Perm P := (List.perm_cons _).1 (List.perm_middle.symm.trans hP)
  refine ⟨X.length, l, kd, m, ?_, hv, ho, Nat.le_of_ble_eq_true hl, hm, ?_⟩
  · rw [List.getElem?_append_right (Nat.le_refl _), Nat.sub_self]; rfl
  · rw [List.set_append_right _ _ (Nat.le_refl _), Nat.sub_self]
    exact h _ (List.perm_middle.trans (hXY.cons _))
end Go.V
namespace Go.Proofs.YtdalobojhfafbaaGreatDoor
open Go Go.V
theorem c20 {bs : Nat} {S : Sm} {pd : D} (hw : smallW S.w) (h64 : S.w.names.length ≤ 64) : AFn pr 20 [.p bs 0] [smB bs S pd] (.ret S.w.d) := by
  refine AFn.ofGeN (s20 ?_)
  unfold A20
  obtain ⟨hs, safe, ⟨nodes, names⟩, l⟩ := S
  dsimp only at hw h64 ⊢
  unfold smB smC
  dsimp only
  (refine a_bx fun z1 => ?_; refine a_nil ?_; refine a_fld ?_; (apply a_ldN 1 _; exact rfl; exact rfl; exact rfl); refine a_bx fun z2 => ?_; refine a_stA 0 rfl rfl rfl rfl ?_; refine a_fld ?_; (apply a_st 0 _; exact rfl; exact rfl; exact rfl; exact rfl; (try dsimp only [afill, aparts, cl, chunk, List.take, List.drop, List.nil_append, List.cons_append, List.append_nil, List.length_cons, List.length_nil, Nat.zero_add, Nat.reduceAdd, Nat.reduceMul]); try exact rfl); refine a_nil ?_; refine a_fld ?_; refine a_fld ?_; (apply a_ld1 2; exact rfl; exact rfl); refine a_lenM ?_)
  refine a_lp (σ := Nat × Nat × Nat) (fun x => [.i x.1]) (fun x => gb Nv.cs 70 5 x.2.1 x.2.2 (names.take x.1) ++ [⟨z2, [.i nodes, gv x.2.1 x.2.2 (names.take x.1)], .box⟩, ⟨z1, [.i 0, .nil], .box⟩, ⟨bs, (ownP hs safe).cs ++ ((Wd.mk nodes names).cs ++ [pd]), .box⟩]) (fun x => x.1 ≤ names.length) (fun x => names.length - x.1) (0, 0, 0) ?_ (Nat.zero_le _) ?_
  · exact Gl.refl _ _
  rintro ⟨i, b, c⟩ K hi hK
  dsimp only at hi hK ⊢
  dsimp only [aix0, aix1, aix2, aix3, aix4, aix5, aix6, aix7, aix8]
  refine a_lss ?_
  refine a_cnd (fun q => ?_) (fun q => ?_)
  · have hlt : i < names.length := by omega
    have hmem := hw _ (List.getElem_mem hlt)
    have h1 := List.take_succ_eq_append_getElem hlt
    refine a_idxM i hlt ?_
    generalize names[i] = x at *
    obtain ⟨nm, ⟨vs, vn, vb, vl⟩⟩ := x
    dsimp only at hmem
    ((apply a_ldAp; exact rfl); refine a_bx fun z3 => ?_; refine a_stA 0 rfl rfl rfl rfl ?_; refine a_fld ?_; refine a_fld ?_; (apply a_ld1 0; exact rfl; exact rfl); refine a_call0 (c49 _ (by first | omega | assumption | decide)) ?_; refine a_fld ?_; refine a_fld ?_; (apply a_st 0 _; exact rfl; exact rfl; exact rfl; exact rfl; (try dsimp only [afill, aparts, cl, chunk, List.take, List.drop, List.nil_append, List.cons_append, List.append_nil, List.length_cons, List.length_nil, Nat.zero_add, Nat.reduceAdd, Nat.reduceMul]); try exact rfl); refine a_fld ?_; (refine a_c1 ?_; apply a_ldr1 0; exact rfl; exact rfl); (apply a_ldA 0; exact rfl; exact rfl); refine a_rowNS1 rfl ?_)
    refine a_appOne (M := [_]) (x := (⟨nm, vs, vn, vb, vl⟩ : Nv)) Nv.cs_len Nv.cs_one (by rw [List.length_take]; omega) rfl fun b' c' L' hL => ?_
    rw [← h1] at hL ⊢
    (refine a_fld ?_)
    refine a_stP [.i nodes, gv b' c' (names.take (i + 1))] (hL.trans List.perm_middle) (by rw [gvX_cl]; rfl) (by rw [gvX_cl]; exact gvX_one _) rfl (by rw [gvX_cl]; rfl) fun L2 hL2 => ?_
    (refine a_add (by first | omega | assumption | decide) (by first | omega | assumption | decide) ?_)
    refine hK (i + 1, b', c') _ _ (by dsimp only; omega) (by dsimp only; omega) ?_
    dsimp only
    exact Gl.trans (Gl.perm (hL2.trans List.perm_middle.symm)) (Gl.drop (List.sublist_cons_self _ _))
  · rw [show i = names.length by omega, List.take_length]
    refine a_ldrA 0 rfl rfl ?_
    refine a_strA 1 rfl rfl rfl (by show (true && [gv b c names].all D.one) = true; rw [gvX_one]; rfl) ?_
    refine a_ldrA 1 rfl rfl ?_
    exact ⟨trivial, Gl.trans (Gl.drop (List.Sublist.append_left (.cons _ (.cons _ (List.Sublist.refl _))) _)) (gl_gvR Nv.cs_len (.cons (.agg (.cons (.refl _) (.cons .hit .nil))) .nil))⟩
theorem pend_row {bs : Nat} {S : Sm} {L : List Bx} (h : SimR bs S L) (hl : S.l.length ≤ 100000) : AFn pr 22 [.p bs 0] L (.ret (.row 2 (S.l.map Pn.cs))) := by
  refine AFn.ofGeN (ASpec.mono (c22 h hl) ?_)
  rintro a L' ⟨pd', M', rfl, rfl, hp⟩
  refine ⟨trivial, ?_⟩
  generalize S.l = l at *
  cases hp with
  | nil => exact Gl.nil 2 (.cons .hit .nil) (WkB.refl _ _ _)
  | row b c =>
    refine Gl.fz (n := l.length) (c := c) 0 rfl (flat_len Pn.cs_len l) ?_ (WkB.refl _ _ _)
    rw [chunk_flat Pn.cs_len]; exact .cons .hit .nil
end Go.Proofs.YtdalobojhfafbaaGreatDoor
set_option maxRecDepth 100000
set_option linter.unusedVariables false
namespace Go.Proofs.YtdalobojhfafbaaGreatDoor
open Go Go.V
section
variable {p : Pr} {n : Int}
end
end Go.Proofs.YtdalobojhfafbaaGreatDoor
set_option maxRecDepth 100000
set_option linter.unusedVariables false
namespace Go.V
open Go
theorem a_eqOwn {k : D → Prop} {b o : Nat} (h : k (.b false)) : aeqP .eql (.p b o) (.val (.pointer none)) k := h
theorem a_eqNil {k : D → Prop} (h : k (.b true)) : aeqP .eql (.val (.pointer none)) (.val (.pointer none)) k := h
end Go.V
namespace Go.Proofs.YtdalobojhfafbaaGreatDoor
open Go Go.V
theorem pend_abs {bs : Nat} {S : Sm} {L : List Bx} (h : SimR bs S L) (M : List Bx) (hl : S.l.length ≤ 100000) : AFn pr 22 [.p bs 0] (M ++ L) (.ret (.row 2 (S.l.map Pn.cs))) := (pend_row h hl).frameM M
theorem world_abs {bs : Nat} {S : Sm} {L : List Bx} (h : SimR bs S L) (M : List Bx) (hw : smallW S.w) (h64 : S.w.names.length ≤ 64) : AFn pr 20 [.p bs 0] (M ++ L) (.ret S.w.d) := by
  obtain ⟨pd, N, rfl, _⟩ := h
  exact ((c20 hw h64).frameL N).frameM M
theorem step_call {f : FuncId} {args : List D} {bs : Nat} {S : Sm} {o : Option Sm} {L : List Bx} {kp k : D → List Bx → Prop} (M : List Bx) (h : ASpec pr f args L (StepR bs S o)) (hk : ∀ L', SimR bs (o.getD S) L' → k (.b o.isSome) (M ++ L')) : acallW pr f args (M ++ L) kp k := by
  refine a_callM M rfl h ?_
  rintro a L' ⟨rfl, h2⟩
  exact hk L' h2
end Go.Proofs.YtdalobojhfafbaaGreatDoor
