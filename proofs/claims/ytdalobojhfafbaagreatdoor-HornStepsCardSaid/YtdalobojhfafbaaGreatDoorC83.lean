/- Contracts of layer 19: a step, and the handler that was done. -/
import Derived.Test.YtdalobojhfafbaaGreatDoorC80
import Derived.Test.YtdalobojhfafbaaGreatDoorC64
import Derived.Test.YtdalobojhfafbaaGreatDoorM37
set_option maxRecDepth 100000
set_option linter.unusedVariables false
namespace Go.Proofs.YtdalobojhfafbaaGreatDoor
open Go Go.V
def DoneR (p : Pr) (n : Int) (S : Sm) (hI node : Int) (S' : Sm) : Prop :=
  hI < 0 ∨ ∃ (j : Nat) (hj : j < p.hs.length) (pd : List Pn), hI = j ∧ 0 ≤ node ∧ node < n ∧ doF S p.hs[j] node pd = some S' ∧ dueB S.w p.hs[j] node = true ∧ (p.hs[j].timer = true ∨ bitW S.w p.hs[j].nm node.toNat = true ∧ p.hs[j].nm ∈ p.msgs)
def DoesR (p : Pr) (n : Int) (bs : Nat) (S : Sm) (a : AE) (L' : List Bx) : Prop :=
  ∃ S' hI node, a = .ret (.tuple [.i hI, .i node]) ∧ SimR bs S' L' ∧ SOk p n S' ∧ DoneR p n S hI node S'
theorem DoesR.ge {p : Pr} {n : Int} {g : FuncId} {args : List D} {L : List Bx} {bs : Nat} {S : Sm} (h : ASpec pr g args L fun a L' => ∃ L2 L3, L'.Perm L2 ∧ L3.Sublist L2 ∧ DoesR p n bs S a L3) : ASpec pr g args L (DoesR p n bs S) :=
  ASpec.ge h fun a L' ⟨L2, L3, h1, h2, h3⟩ => ⟨a, L3, ⟨by cases a <;> trivial, Gl.trans (Gl.perm h1) (Gl.drop h2)⟩, h3⟩
theorem c32 {p : Pr} {n : Int} {bs : Nat} {S : Sm} {L : List Bx} (hp : PrOk p) (hS : SOk p n S) (hn1 : 1 ≤ n) (hn2 : n ≤ 64) (r : SimR bs S L) (x : Stp) : ASpec pr 32 [p.d, .p bs 0, .agg x.cs] L (DoesR p n bs S) := by
  refine DoesR.ge (s32 ?_)
  unfold A32
  obtain ⟨kind, i, node⟩ := x
  have hD := c37 hp hS hn1 hn2 r i
  have hU := c28 r i
  have hT := c36 hp hS hn1 hn2 r i node
  have hfew := (fewB_iff p).1 hp.few
  have h32 := hfew.1.2.1
  have h60 := keyP_len hp
  have hn60 : S.w.names.length = (keyP p).length := keys_len hS.w.keys
  have h256 := hS.few
  have hw := smallW_of hS.w.right
  refine a_bxv fun z1 => ?_
  refine a_bxv fun z2 => ?_
  have hno : ∀ {S' : Sm} {L' : List Bx} (A : List Bx) (d : Int), SOk p n S' → SimR bs S' L' → ∃ L2 L3, (A ++ L').Perm L2 ∧ L3.Sublist L2 ∧ DoesR p n bs S (.ret (.tuple [.i (-1), .i d])) L3 := fun {S' L'} A d q1 q2 =>
    ⟨_, L', List.Perm.refl _, List.sublist_append_right _ _, S', -1, d, rfl, q2, q1, .inl (by decide)⟩
  (refine a_fld ?_; (apply a_ld1 0; exact rfl; exact rfl))
  refine a_jn (σ := Bool) (fun c => [.b c]) (fun _ => ⟨z2, [.i kind, .i i, .i node], .box⟩ :: ⟨z1, p.cs, .box⟩ :: L) (fun c => c = decide (kind = 0 ∨ kind = 1)) ?_ fun J4 hJ4 => ?_
  · rintro c hc
    by_cases h01 : kind = 0 ∨ kind = 1
    · rw [hc, decide_eq_true h01]
      dsimp only [aix0, aix1, aix2, aix3, aix4, aix5, aix6, aix7, aix8]
      refine a_cndbT rfl ?_
      refine a_callR (AFn.frameM [_, _] (pend_abs r [] (by omega))) ?_
      refine a_jn (σ := Unit) (fun _ => []) (fun _ => ⟨z2, [.i kind, .i i, .i node], .box⟩ :: ⟨z1, p.cs, .box⟩ :: L) (fun _ => thereB S.l i = true) ?_ fun J7 hJ7 => ?_
      · rintro _ hth
        obtain ⟨hi, hlt, hmem⟩ := there_is hth
        obtain ⟨g1, g2, g3, g4⟩ := hS.pend _ hmem
        have hDok := fun T => Deliver_ok (T := T) (i := i) hp hS
        have hix : ∀ {kk : D → Prop}, kk (.pin (Pn.cs (S.l.getD i.toNat pnz))) → aidxS 2 (.row 2 (S.l.map Pn.cs)) (.i i) kk := fun h => by
          refine a_idxMz i.toNat hi hlt ?_
          rw [List.getD_eq_getElem?_getD, List.getElem?_eq_getElem hlt] at h; exact h
        generalize S.l.getD i.toNat pnz = m at *
        obtain ⟨mn, mnode⟩ := m
        dsimp only at g1 g2 g3 g4
        replace hix : ∀ {kk : D → Prop}, kk (.pin [.s mn, .i mnode]) → aidxS 2 (.row 2 (S.l.map Pn.cs)) (.i i) kk := hix
        refine a_callR (AFn.frameM [_, _] (world_abs r [] hw (by omega))) ?_
        (refine a_bx fun z3 => ?_; refine a_stA 0 rfl rfl rfl rfl ?_; refine a_fld ?_; (apply a_ld1 2; exact rfl; exact rfl); refine a_lenM ?_)
        refine a_lp (σ := Nat × Int) (fun y => [.i y.2, .i y.1]) (fun _ => ⟨z3, S.w.cs, .box⟩ :: ⟨z2, [.i kind, .i i, .i node], .box⟩ :: ⟨z1, p.cs, .box⟩ :: L) (fun y => y.1 ≤ p.hs.length ∧ ((y.2 = -1 ∧ handF S.w ⟨mn, mnode⟩ (p.hs.drop y.1) = none) ∨ ∃ (j : Nat) (hj : j < p.hs.length), y.2 = j ∧ handF S.w ⟨mn, mnode⟩ (p.hs.drop y.1) = some p.hs[j])) (fun y => y.1) (p.hs.length, -1) (Gl.refl _ _) ⟨Nat.le_refl _, .inl ⟨rfl, by rw [List.drop_length]; rfl⟩⟩ ?_
        rintro ⟨k, rr⟩ K ⟨hk, hinv⟩ hK
        dsimp only at hk hinv hK ⊢
        dsimp only [aix0, aix1, aix2, aix3, aix4, aix5, aix6, aix7, aix8]
        (refine a_gtr ?_)
        refine a_cnd (fun q => ?_) (fun q => ?_)
        · have hlt2 : k - 1 < p.hs.length := by omega
          have hk1 : k - 1 + 1 = k := by omega
          have hnone := handF_none (w := S.w) (m := ⟨mn, mnode⟩) hlt2
          have hsome := handF_some (w := S.w) (m := ⟨mn, mnode⟩) hlt2
          rw [hk1] at hnone
          have hih : ∀ {kk : D → Prop}, kk (.pin (Ha.cs p.hs[k - 1])) → aidxS 9 (.row 9 (p.hs.map Ha.cs)) (.i ((k : Int) - 1)) kk := fun h => a_idxMz (k - 1) (by omega) hlt2 h
          have hE := c31 p.hs[k - 1].whn (dueW S.w p.hs[k - 1] mnode)
          have hW := c34 S.w p.hs[k - 1].node (nodeV mnode) hw (by omega) (Nat.zero_le _)
          rw [show withF S.w p.hs[k - 1].node (nodeV mnode) = dueW S.w p.hs[k - 1] mnode from rfl] at hW
          have hc : (((k - 1 : Nat)) : Int) = (k : Int) - 1 := by omega
          have hKt : (p.hs[k - 1].timer = false ∧ p.hs[k - 1].nm = mn ∧ dueB S.w p.hs[k - 1] mnode = true) → ∀ v l, Gl v l [.i ((k : Int) - 1), .i ((k : Int) - 1)] (⟨z3, S.w.cs, .box⟩ :: ⟨z2, [.i kind, .i i, .i node], .box⟩ :: ⟨z1, p.cs, .box⟩ :: L) → K v l := fun c v l g => by
            refine hK (k - 1, (k : Int) - 1) v l ⟨by dsimp only; omega, .inr ⟨k - 1, hlt2, by dsimp only; omega, hsome c⟩⟩ (by dsimp only; omega) ?_
            dsimp only; rw [hc]; exact g
          have hKf : ¬ (p.hs[k - 1].timer = false ∧ p.hs[k - 1].nm = mn ∧ dueB S.w p.hs[k - 1] mnode = true) → ∀ v l, Gl v l [.i rr, .i ((k : Int) - 1)] (⟨z3, S.w.cs, .box⟩ :: ⟨z2, [.i kind, .i i, .i node], .box⟩ :: ⟨z1, p.cs, .box⟩ :: L) → K v l := fun c v l g => by
            refine hK (k - 1, rr) v l ⟨by dsimp only; omega, ?_⟩ (by dsimp only; omega) ?_
            · dsimp only; rw [hnone c]; exact hinv
            · dsimp only; rw [hc]; exact g
          clear hnone hsome hK hinv
          unfold dueB at hKt hKf
          generalize p.hs[k - 1] = hd at *
          generalize dueW S.w hd mnode = u at *
          generalize evalF hd.whn u = rv at *
          obtain ⟨⟨vs, vn, vb, vl⟩, ve⟩ := rv
          obtain ⟨timer, hn, hnode, ⟨ho, hs2, hn2, ha⟩, dos, send⟩ := hd
          dsimp only at hE hW hKt hKf
          (refine a_fld ?_; (apply a_ld1 2; exact rfl; exact rfl); refine a_sub (by first | omega | assumption | decide) (by first | omega | assumption | decide) ?_; refine hih ?_; (apply a_ldAp; exact rfl); refine a_bx fun z4 => ?_; refine a_stA 0 rfl rfl rfl rfl ?_; refine a_fld ?_; (apply a_ldN 0 _; exact rfl; exact rfl; exact rfl); (apply a_ldA 1; exact rfl; exact rfl); refine a_fld ?_; (apply a_ld1 0; exact rfl; exact rfl); refine a_fld ?_; (apply a_ld1 2; exact rfl; exact rfl); refine hix ?_; refine a_fldp ?_; (apply a_ld1p; exact rfl); refine a_bldV0 rfl rfl ?_; refine a_callS0 hW ?_; refine a_callS0 hE ?_; (apply a_ext; exact rfl); (apply a_ext; exact rfl); refine a_bx fun z5 => ?_; refine a_stA 0 rfl rfl rfl rfl ?_)
          refine a_jn (σ := Bool) (fun c => [.b c]) (fun _ => ⟨z5, [.i vs, .i vn, .b vb, .row 1 (vl.map bc)], .box⟩ :: ⟨z4, [.b timer, .s hn, .s hnode, .i ho, .s hs2, .i hn2, .row 4 (Tm.rows ha), .row 5 (dos.map As.cr), .row 1 (sT send)], .box⟩ :: ⟨z3, S.w.cs, .box⟩ :: ⟨z2, [.i kind, .i i, .i node], .box⟩ :: ⟨z1, p.cs, .box⟩ :: L) (fun c => c = decide (timer = false ∧ hn = mn ∧ (decide (ve = 0) && vb) = true)) ?_ fun J15 hJ15 => ?_
          · rintro c hc2
            by_cases hcond : timer = false ∧ hn = mn ∧ (decide (ve = 0) && vb) = true
            · rw [hc2, decide_eq_true hcond]
              (refine a_cndbT rfl ?_; refine a_sub (by first | omega | assumption | decide) (by first | omega | assumption | decide) ?_; refine a_sub (by first | omega | assumption | decide) (by first | omega | assumption | decide) ?_)
              exact hKt hcond _ _ (Gl.drop (.cons _ (.cons _ (List.Sublist.refl _))))
            · rw [hc2, decide_eq_false hcond]
              (refine a_cndbF rfl ?_; refine a_sub (by first | omega | assumption | decide) (by first | omega | assumption | decide) ?_)
              exact hKf hcond _ _ (Gl.drop (.cons _ (.cons _ (List.Sublist.refl _))))
          · cases timer with
            | true =>
              (refine a_fld ?_; (apply a_ld1 1; exact rfl; exact rfl); refine a_not ?_; refine a_cndbF rfl ?_)
              exact hJ15 false _ _ (by simp) (Gl.refl _ _)
            | false =>
              (refine a_fld ?_; (apply a_ld1 1; exact rfl; exact rfl); refine a_not ?_; refine a_cndbT rfl ?_; refine a_fld ?_; (apply a_ld1 1; exact rfl; exact rfl); refine a_fld ?_; (apply a_ld1 3; exact rfl; exact rfl); refine hix ?_; refine a_fldp ?_; (apply a_ld1p; exact rfl); refine a_eqlS ?_)
              by_cases q2 : hn = mn
              · (refine a_cndT (by first | omega | assumption | decide) ?_; refine a_eql ?_)
                by_cases q3 : ve = 0
                · (refine a_cndT (by first | omega | assumption | decide) ?_; refine a_fld ?_; (apply a_ld1 0; exact rfl; exact rfl))
                  exact hJ15 vb _ _ (by simp [q2, q3]) (Gl.refl _ _)
                · (refine a_cndF (by first | omega | assumption | decide) ?_)
                  exact hJ15 false _ _ (by simp [q3]) (Gl.refl _ _)
              · (refine a_cndF (by first | omega | assumption | decide) ?_)
                exact hJ15 false _ _ (by simp [q2]) (Gl.refl _ _)
        · obtain rfl : k = 0 := by omega
          (refine a_fld ?_; (apply a_ld1 1; exact rfl; exact rfl))
          refine step_call [_, _, _] hD fun L' q => ?_
          cases hO : DeliverF S i with
          | none =>
            rw [hO] at q
            (refine a_not ?_; refine a_cndbT rfl ?_)
            exact hno [_, _, _] 0 hS q
          | some T =>
            rw [hO] at q
            obtain ⟨_, hcase⟩ := hDok T hO
            rw [hS.hs] at hcase
            (refine a_not ?_; refine a_cndbF rfl ?_; refine a_fld ?_; (apply a_ld1 1; exact rfl; exact rfl); refine hix ?_; refine a_fldp ?_; (apply a_ld1p; exact rfl))
            rcases hcase with ⟨_, q1, _, _⟩ | ⟨h, e1, e2, e3, e4⟩
            · rcases hinv with ⟨rfl, _⟩ | ⟨j, hj, rfl, hf⟩
              · exact hno [_, _, _] mnode q1 q
              · rw [List.drop_zero] at hf
                have : handF S.w ⟨mn, mnode⟩ p.hs = none := by assumption
                rw [this] at hf; cases hf
            · rcases hinv with ⟨rfl, _⟩ | ⟨j, hj, rfl, hf⟩
              · exact hno [_, _, _] mnode e4.ok q
              · rw [List.drop_zero, e1] at hf
                cases hf
                obtain ⟨f1, f2, f3, f4⟩ := handF_is e1
                exact ⟨_, L', List.Perm.refl _, List.sublist_append_right _ _, T, j, mnode, rfl, q, e4.ok, .inr ⟨j, hj, _, rfl, g2, g3, e3, f4, .inr ⟨by rw [f3]; exact g4, by rw [f3]; exact g1⟩⟩⟩
      · (refine a_fld ?_; (apply a_ld1 0; exact rfl; exact rfl); refine a_lss ?_)
        refine a_cnd (fun q => hno [_, _] 0 hS r) (fun q => ?_)
        (refine a_fld ?_; (apply a_ld1 0; exact rfl; exact rfl); refine a_lenM ?_; refine a_geq ?_)
        refine a_cnd (fun q => hno [_, _] 0 hS r) (fun q => ?_)
        exact hJ7 () _ _ (by unfold thereB; rw [decide_eq_true (by omega), decide_eq_true (by omega)]; rfl) (Gl.refl _ _)
    · rw [hc, decide_eq_false h01]
      dsimp only [aix0, aix1, aix2, aix3, aix4, aix5, aix6, aix7, aix8]
      refine a_cndbF rfl ?_
      refine a_eql ?_
      refine a_cnd (fun k2 => ?_) (fun k2 => ?_)
      · (refine a_fld ?_; (apply a_ld1 0; exact rfl; exact rfl))
        refine step_call [_, _] hU fun L' q => ?_
        cases hO : DoubleF S i with
        | none => rw [hO] at q; exact hno [_, _] 0 hS q
        | some T => rw [hO] at q; exact hno [_, _] 0 (Double_ok hS hO).1 q
      · refine a_jn (σ := Bool) (fun c => [.b c]) (fun _ => ⟨z2, [.i kind, .i i, .i node], .box⟩ :: ⟨z1, p.cs, .box⟩ :: L) (fun c => True) ?_ fun J26 hJ26 => ?_
        · rintro c _
          dsimp only [aix0, aix1, aix2, aix3, aix4, aix5, aix6, aix7, aix8]
          cases c with
          | true =>
            (refine a_cndbT rfl ?_; refine a_fld ?_; (apply a_ld1 0; exact rfl; exact rfl); refine a_fld ?_; (apply a_ld1 0; exact rfl; exact rfl))
            refine step_call [_, _] hT fun L' q => ?_
            cases hO : TimerF S i node with
            | none => rw [hO] at q; (refine a_cndbF rfl ?_); exact hno [_, _] 0 hS q
            | some T =>
              rw [hO] at q
              obtain ⟨h0, hk, g1, g2, g3, g4, g5, g6⟩ := Timer_ok hp hS hO
              (refine a_cndbT rfl ?_; refine a_fld ?_; (apply a_ld1 0; exact rfl; exact rfl); refine a_fld ?_; (apply a_ld1 0; exact rfl; exact rfl))
              exact ⟨_, L', List.Perm.refl _, List.sublist_append_right _ _, T, i, node, rfl, q, g6.ok, .inr ⟨i.toNat, hk, S.l, h0, g2, g3, g5, g4, .inl g1⟩⟩
          | false =>
            (refine a_cndbF rfl ?_)
            exact hno [_, _] 0 hS r
        · by_cases k3 : kind = 3
          · (refine a_eql ?_; refine a_cndT (by first | omega | assumption | decide) ?_)
            exact hJ26 (decide (kind = 3)) _ _ trivial (Gl.refl _ _)
          by_cases k4 : kind = 4
          · (refine a_eql ?_; refine a_cndF (by first | omega | assumption | decide) ?_; refine a_eql ?_; refine a_cndT (by first | omega | assumption | decide) ?_)
            exact hJ26 (decide (kind = 4)) _ _ trivial (Gl.refl _ _)
          by_cases k5 : kind = 5
          · (refine a_eql ?_; refine a_cndF (by first | omega | assumption | decide) ?_; refine a_eql ?_; refine a_cndF (by first | omega | assumption | decide) ?_; refine a_eql ?_; refine a_cndT (by first | omega | assumption | decide) ?_)
            exact hJ26 (decide (kind = 5)) _ _ trivial (Gl.refl _ _)
          (refine a_eql ?_; refine a_cndF (by first | omega | assumption | decide) ?_; refine a_eql ?_; refine a_cndF (by first | omega | assumption | decide) ?_; refine a_eql ?_; refine a_cndF (by first | omega | assumption | decide) ?_; refine a_eql ?_)
          exact hJ26 (decide (kind = 6)) _ _ trivial (Gl.refl _ _)
  · by_cases h0 : kind = 0
    · (refine a_eql ?_; refine a_cndT (by first | omega | assumption | decide) ?_)
      exact hJ4 (decide (kind = 0)) _ _ (by rw [decide_eq_true h0, decide_eq_true (.inl h0)]) (Gl.refl _ _)
    · (refine a_eql ?_; refine a_cndF (by first | omega | assumption | decide) ?_; refine a_eql ?_)
      exact hJ4 (decide (kind = 1)) _ _ (by by_cases h1 : kind = 1 <;> simp [h0, h1]) (Gl.refl _ _)
end Go.Proofs.YtdalobojhfafbaaGreatDoor
