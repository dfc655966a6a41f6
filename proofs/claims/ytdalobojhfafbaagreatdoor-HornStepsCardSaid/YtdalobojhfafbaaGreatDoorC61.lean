/- Contracts of layer 17: handlers, names, all of a protocol. -/
import Derived.Test.YtdalobojhfafbaaGreatDoorC50
set_option maxRecDepth 100000
set_option linter.unusedVariables false
namespace Go.V
open Go
theorem a_ldRows {α : Type} {f : α → List D} {sz b i : Nat} {kd : Kd} {L : List Bx} {k : D → Prop} {l : List α} (hsz : ∀ x, (f x).length = sz) (j : Nat) (hi : L[i]? = some (Bx.mk b (l.map f).flatten kd)) (hj : j < l.length) (h : k (.agg (f l[j]))) : aldN sz (.p b (0 + j * sz)) L k := by
  refine V.a_ldN i (f l[j]) hi ?_ (hsz _) h
  rw [Nat.zero_add, flat_drop' hsz, List.drop_eq_getElem_cons hj, List.map_cons, List.flatten_cons, ← hsz l[j], List.take_left']
  rfl
theorem firstE_step {d : Dict} {msgs : List ByteArray} {l : List As} {i : Nat} (hi : i < l.length) : firstE d msgs (l.take i) (l.drop i) = seqE (becE d msgs (l.take i) l[i].nm) (seqE (sortE l[i].to (becS d l[i].nm)) (seqE (if (NamesF l[i].to).length = 0 then 0 else 4) (firstE d msgs (l.take (i + 1)) (l.drop (i + 1))))) := by
  rw [List.drop_eq_getElem_cons hi, firstE, List.take_succ_eq_append_getElem hi]
theorem doE_step {d : Dict} {msgs : List ByteArray} {node : ByteArray} {l : List As} {i : Nat} (hi : i < l.length) : doE d msgs node (l.take i) (l.drop i) = seqE (becE d msgs (l.take i) l[i].nm) (seqE (termE d l[i].to (becS d l[i].nm) node) (doE d msgs node (l.take (i + 1)) (l.drop (i + 1)))) := by
  rw [List.drop_eq_getElem_cons hi, doE, List.take_succ_eq_append_getElem hi]
end Go.V
namespace Go.Proofs.YtdalobojhfafbaaGreatDoor
open Go Go.V
section
variable {bc bm : Nat} {p : Pr} {d : Dict}
theorem c58 (hd : DictOk d) (hl : p.init.length ≤ 32) : AFn pr 58 [.p bc 0] (ckB bc bm p d) (ckV (firstE d p.msgs [] p.init)) := by
  refine AFn.small fun hs => AFn.ofL (s58 ?_)
  obtain ⟨ints, bools, sets, msgs, init, hdl, ⟨so, sn, si, sa⟩, known⟩ := p
  dsimp only at hl
  unfold A58
  unfold ckB
  (refine a_nil ?_; refine a_fld ?_; refine a_fld ?_; (apply a_ld1 0; exact rfl; exact rfl); refine a_lenM ?_)
  refine a_lp (σ := Nat) (fun i => [.i i]) (fun _ => ckB bc bm ⟨ints, bools, sets, msgs, init, hdl, .mk so sn si sa, known⟩ d) (fun i => i ≤ init.length ∧ firstE d msgs (init.take i) (init.drop i) = firstE d msgs [] init) (fun i => init.length - i) 0 (by first | exact Gl.refl _ _ | exact Gl.drop (by repeat (first | exact List.Sublist.refl _ | exact List.Sublist.slnil | apply List.Sublist.cons_cons | apply List.Sublist.cons))) ⟨Nat.zero_le _, rfl⟩ ?_
  rintro i K ⟨hi, hf⟩ hK
  dsimp only [aix0, aix1, aix2, aix3, aix4, aix5, aix6, aix7, aix8]
  refine a_lss ?_
  refine a_cnd (fun q => ?_) (fun q => ?_)
  · have hlt : i < init.length := by omega
    have hB := c99 (bc := bc) (bm := bm) (p := ⟨ints, bools, sets, msgs, init, hdl, .mk so sn si sa, known⟩) hd init i hlt
    rw [firstE_step hlt] at hf
    refine a_idxM i hlt ?_
    generalize init[i] = x at *
    obtain ⟨nm, to⟩ := x
    dsimp only at hf hB
    have hS := c98 to (becS d nm)
    have hN := c100 to
    unfold ckB
    cases to with | mk o s n a =>
    ((apply a_ldAp; exact rfl); refine a_bx fun z1 => ?_; refine a_stA 0 rfl rfl rfl rfl ?_; refine a_fld ?_; (apply a_ldN 0 _; exact rfl; exact rfl; exact rfl); refine a_nil ?_; refine a_fld ?_; refine a_fld ?_; (apply a_ld1 1; exact rfl; exact rfl))
    unfold becV at hB
    by_cases e1 : becE d msgs (init.take i) nm = 0
    · rw [e1, seqE_0] at hf
      rw [if_pos e1] at hB
      refine a_callSR (AFn.frameM [_] hB) ?_
      by_cases e2 : sortE (.mk o s n a) (becS d nm) = 0
      · rw [e2, seqE_0] at hf
        rw [e2, ckV_0] at hS
        refine a_callS0 hS ?_
        (refine a_fld ?_; (apply a_ldN 0 _; exact rfl; exact rfl; exact rfl); refine a_call0 hN ?_; refine a_lenM ?_; refine a_eql ?_)
        by_cases e3 : (NamesF (.mk o s n a)).length = 0
        · rw [if_pos e3, seqE_0] at hf
          rw [decide_eq_true (by omega)]
          refine a_call0 mustT ?_
          (refine a_add (by first | omega | assumption | decide) (by first | omega | assumption | decide) ?_)
          exact hK (i + 1) _ _ ⟨by omega, hf⟩ (by omega) (by first | exact Gl.refl _ _ | exact Gl.drop (by repeat (first | exact List.Sublist.refl _ | exact List.Sublist.slnil | apply List.Sublist.cons_cons | apply List.Sublist.cons)))
        · rw [if_neg e3, seqE_n (by decide)] at hf
          rw [decide_eq_false (by omega)]
          refine a_callP mustF ?_
          exact ⟨by rw [← hf]; exact (ckV_n (by decide)).symm, List.sublist_cons_self _ _⟩
      · rw [seqE_n e2] at hf
        rw [ckV_n e2] at hS
        refine a_callSP hS ?_
        exact ⟨by rw [← hf, ckV_n e2], List.sublist_cons_self _ _⟩
    · have e4 := becE_4 e1
      rw [seqE_n e1, e4] at hf
      rw [if_neg e1] at hB
      refine V.a_callS (ae := .pan _) (AFn.frameM [_] hB) ?_
      exact ⟨by rw [← hf]; exact (ckV_n (by decide)).symm, List.sublist_cons_self _ _⟩
  · rw [List.drop_eq_nil_of_le (by omega), firstE] at hf
    clear hK
    skip
    exact ⟨by rw [← hf, ckV_0], List.Sublist.refl _⟩
theorem c101 (hd : DictOk d) (h : Ha) (hl1 : h.dos.length ≤ 32) (hl2 : h.send.length ≤ 32) : AFn pr 101 [.p bc 0, h.d] (ckB bc bm p d) (ckV (handE d p.msgs h)) := by
  refine AFn.small fun hs => AFn.ofL (s101 ?_)
  obtain ⟨ints, bools, sets, msgs, init, hdl, ⟨so, sn, si, sa⟩, known⟩ := p
  obtain ⟨timer, hn, hnode, ⟨wo, ws, wn, wa⟩, dos, send⟩ := h
  dsimp only at hl1 hl2
  have hnm := c51 (s := hn)
  have hnd := c51 (s := hnode)
  have hct := c145 msgs hn
  have hT := c102 (bc := bc) (bm := bm) (p := ⟨ints, bools, sets, msgs, init, hdl, .mk so sn si sa, known⟩) hd (.mk wo ws wn wa) 4 hnode
  unfold A101
  unfold ckB
  refine a_bxv fun z1 => ?_
  refine a_jn (σ := Unit) (fun _ => []) (fun _ => ⟨z1, (Ha.mk timer hn hnode (.mk wo ws wn wa) dos send).cs, .box⟩ :: ckB bc bm ⟨ints, bools, sets, msgs, init, hdl, .mk so sn si sa, known⟩ d) (fun _ => nameF hn.data.toList = true ∧ (timer = true ∨ hasS hn msgs = true)) ?_ fun J hJ => ?_
  · rintro _ hA
    unfold handE
    dsimp only
    rw [if_pos hA, seqE_0]
    refine a_jn (σ := Unit) (fun _ => []) (fun _ => ⟨z1, (Ha.mk timer hn hnode (.mk wo ws wn wa) dos send).cs, .box⟩ :: ckB bc bm ⟨ints, bools, sets, msgs, init, hdl, .mk so sn si sa, known⟩ d) (fun _ => nameF hnode.data.toList = true ∧ opD d hnode = 0) ?_ fun J2 hJ2 => ?_
    · rintro _ hBn
      rw [if_pos hBn, seqE_0]
      unfold ckB
      (refine a_fld ?_; (apply a_ldN 0 _; exact rfl; exact rfl; exact rfl); refine a_fld ?_; (apply a_ld1 0; exact rfl; exact rfl))
      by_cases e1 : termE d (.mk wo ws wn wa) 4 hnode = 0
      · rw [e1, seqE_0]
        rw [e1, ckV_0] at hT
        refine a_callR (AFn.frameM [_] hT) ?_
        (refine a_fld ?_; (apply a_ld1 0; exact rfl; exact rfl); refine a_lenM ?_)
        refine a_lp (σ := Nat) (fun i => [.i i]) (fun _ => ⟨z1, (Ha.mk timer hn hnode (.mk wo ws wn wa) dos send).cs, .box⟩ :: ckB bc bm ⟨ints, bools, sets, msgs, init, hdl, .mk so sn si sa, known⟩ d) (fun i => i ≤ dos.length ∧ doE d msgs hnode (dos.take i) (dos.drop i) = doE d msgs hnode [] dos) (fun i => dos.length - i) 0 (by first | exact Gl.refl _ _ | exact Gl.drop (by repeat (first | exact List.Sublist.refl _ | exact List.Sublist.slnil | apply List.Sublist.cons_cons | apply List.Sublist.cons))) ⟨Nat.zero_le _, rfl⟩ ?_
        rintro i K ⟨hi, hf⟩ hK
        dsimp only [aix0, aix1, aix2, aix3, aix4, aix5, aix6, aix7, aix8]
        refine a_lss ?_
        refine a_cnd (fun q => ?_) (fun q => ?_)
        · have hlt : i < dos.length := by omega
          have hB := c99 (bc := bc) (bm := bm) (p := ⟨ints, bools, sets, msgs, init, hdl, .mk so sn si sa, known⟩) hd dos i hlt
          rw [doE_step hlt] at hf
          refine a_idxM i hlt ?_
          generalize dos[i] = x at *
          obtain ⟨nm, to⟩ := x
          dsimp only at hf hB
          have hT2 := c102 (bc := bc) (bm := bm) (p := ⟨ints, bools, sets, msgs, init, hdl, .mk so sn si sa, known⟩) hd to (becS d nm) hnode
          unfold ckB
          cases to with | mk o s n a =>
          ((apply a_ldAp; exact rfl); refine a_bx fun z2 => ?_; refine a_stA 0 rfl rfl rfl rfl ?_; refine a_fld ?_; (apply a_ldN 0 _; exact rfl; exact rfl; exact rfl); refine a_fld ?_; (apply a_ld1 1; exact rfl; exact rfl); refine a_fld ?_; (apply a_ld1 1; exact rfl; exact rfl))
          unfold becV at hB
          by_cases e2 : becE d msgs (dos.take i) nm = 0
          · rw [e2, seqE_0] at hf
            rw [if_pos e2] at hB
            refine a_callSR (AFn.frameM [_, _] hB) ?_
            by_cases e3 : termE d (.mk o s n a) (becS d nm) hnode = 0
            · rw [e3, seqE_0] at hf
              rw [e3, ckV_0] at hT2
              refine a_callSR (AFn.frameM [_, _] hT2) ?_
              (refine a_add (by first | omega | assumption | decide) (by first | omega | assumption | decide) ?_)
              exact hK (i + 1) _ _ ⟨by omega, hf⟩ (by omega) (by first | exact Gl.refl _ _ | exact Gl.drop (by repeat (first | exact List.Sublist.refl _ | exact List.Sublist.slnil | apply List.Sublist.cons_cons | apply List.Sublist.cons)))
            · rw [seqE_n e3] at hf
              rw [ckV_n e3] at hT2
              refine V.a_callS (ae := .pan _) (AFn.frameM [_, _] hT2) ?_
              exact ⟨by rw [← hf, seqE_n e3, ckV_n e3], List.sublist_append_right [_, _] _⟩
          · have e4 := becE_4 e2
            rw [seqE_n e2, e4] at hf
            rw [if_neg e2] at hB
            refine V.a_callS (ae := .pan _) (AFn.frameM [_, _] hB) ?_
            exact ⟨by rw [← hf, seqE_n (by decide)]; exact (ckV_n (by decide)).symm, List.sublist_append_right [_, _] _⟩
        · rw [List.drop_eq_nil_of_le (by omega), doE] at hf
          rw [← hf, seqE_0]
          clear hK
          unfold ckB
          (refine a_fld ?_; (apply a_ld1 0; exact rfl; exact rfl); refine a_lenM ?_)
          refine a_lp (σ := Nat) (fun i => [.i i]) (fun _ => ⟨z1, (Ha.mk timer hn hnode (.mk wo ws wn wa) dos send).cs, .box⟩ :: ckB bc bm ⟨ints, bools, sets, msgs, init, hdl, .mk so sn si sa, known⟩ d) (fun i => i ≤ send.length ∧ ((send.take i).all fun s => hasS s msgs) = true) (fun i => send.length - i) 0 (by first | exact Gl.refl _ _ | exact Gl.drop (by repeat (first | exact List.Sublist.refl _ | exact List.Sublist.slnil | apply List.Sublist.cons_cons | apply List.Sublist.cons))) ⟨Nat.zero_le _, rfl⟩ ?_
          rintro j K ⟨hj, hall⟩ hK
          dsimp only [aix0, aix1, aix2, aix3, aix4, aix5, aix6, aix7, aix8]
          unfold sT
          (refine a_lss ?_)
          refine a_cnd (fun q2 => ?_) (fun q2 => ?_)
          · have hlt : j < send.length := by omega
            have hc2 := c145 msgs send[j]
            have hst : ((send.take (j + 1)).all fun s => hasS s msgs) = hasS send[j] msgs := by
              rw [List.take_succ_eq_append_getElem hlt, List.all_append, hall]; simp
            unfold ckB
            refine a_idxM j hlt ?_
            cases hm : hasS send[j] msgs with
            | true =>
              rw [hm] at hc2
              ((apply a_ld1 1; exact rfl; exact rfl); refine a_call0 hc2 ?_)
              refine a_call0 mustT ?_
              (refine a_add (by first | omega | assumption | decide) (by first | omega | assumption | decide) ?_)
              exact hK (j + 1) _ _ ⟨by omega, by rw [hst, hm]⟩ (by omega) (by first | exact Gl.refl _ _ | exact Gl.drop (by repeat (first | exact List.Sublist.refl _ | exact List.Sublist.slnil | apply List.Sublist.cons_cons | apply List.Sublist.cons)))
            | false =>
              rw [hm] at hc2
              ((apply a_ld1 1; exact rfl; exact rfl); refine a_call0 hc2 ?_)
              refine a_callP mustF ?_
              have hno : ¬ (send.all fun s => hasS s msgs) = true := fun hh => by
                have := List.all_eq_true.1 hh _ (List.getElem_mem hlt)
                rw [hm] at this; cases this
              exact ⟨by rw [if_neg hno]; exact (ckV_n (by decide)).symm, List.sublist_cons_self _ _⟩
          · rw [show j = send.length by omega, List.take_length] at hall
            rw [if_pos hall, ckV_0]
            exact ⟨rfl, List.sublist_cons_self _ _⟩
      · rw [seqE_n e1, ckV_n e1]
        rw [ckV_n e1] at hT
        refine V.a_call (ae := .pan _) (AFn.frameM [_] hT) ?_
        exact ⟨rfl, List.sublist_cons_self _ _⟩
    · unfold ckB
      cases g1 : nameF hnode.data.toList with
      | false =>
        rw [g1] at hnd
        (refine a_fld ?_; (apply a_ld1 0; exact rfl; exact rfl); refine a_callS0 hnd ?_; refine a_cndbF rfl ?_)
        refine a_callSP mustF ?_
        exact ⟨by rw [if_neg (by simp), seqE_n (by decide), ckV_n (by decide)], List.sublist_cons_self _ _⟩
      | true =>
        rw [g1] at hnd
        (refine a_fld ?_; (apply a_ld1 0; exact rfl; exact rfl); refine a_callS0 hnd ?_; refine a_cndbT rfl ?_; refine a_nil ?_; refine a_fld ?_; (apply a_ld1 1; exact rfl; exact rfl); refine a_fld ?_; (apply a_ld1 0; exact rfl; exact rfl))
        refine a_lkD 2 rfl keyStr hd (name_size g1) ?_
        (refine a_eql ?_)
        by_cases g2 : opD d hnode = 0
        · rw [decide_eq_true g2]
          refine a_callS0 mustT ?_
          exact hJ2 () _ _ ⟨g1, g2⟩ (by first | exact Gl.refl _ _ | exact Gl.drop (by repeat (first | exact List.Sublist.refl _ | exact List.Sublist.slnil | apply List.Sublist.cons_cons | apply List.Sublist.cons)))
        · rw [decide_eq_false g2]
          refine a_callSP mustF ?_
          exact ⟨by rw [if_neg (fun h => g2 h.2), seqE_n (by decide), ckV_n (by decide)], List.sublist_cons_self _ _⟩
  · have hbad : ¬ (nameF hn.data.toList = true ∧ (timer = true ∨ hasS hn msgs = true)) → AE.pan (.ifc 107 (.i 4)) = ckV (handE d msgs ⟨timer, hn, hnode, .mk wo ws wn wa, dos, send⟩) := fun h => by
      unfold handE
      dsimp only
      rw [if_neg h, seqE_n (by decide), ckV_n (by decide)]
    cases g1 : nameF hn.data.toList with
    | false =>
      rw [g1] at hnm
      (refine a_fld ?_; (apply a_ld1 0; exact rfl; exact rfl); refine a_callS0 hnm ?_; refine a_cndbF rfl ?_)
      refine a_callSP mustF ?_
      exact ⟨hbad (by rw [g1]; simp), List.sublist_cons_self _ _⟩
    | true =>
      rw [g1] at hnm
      (refine a_fld ?_; (apply a_ld1 0; exact rfl; exact rfl); refine a_callS0 hnm ?_; refine a_cndbT rfl ?_; refine a_fld ?_; (apply a_ld1 0; exact rfl; exact rfl))
      cases timer with
      | true =>
        (refine a_cndbT rfl ?_)
        refine a_callS0 mustT ?_
        exact hJ () _ _ ⟨g1, .inl rfl⟩ (by first | exact Gl.refl _ _ | exact Gl.drop (by repeat (first | exact List.Sublist.refl _ | exact List.Sublist.slnil | apply List.Sublist.cons_cons | apply List.Sublist.cons)))
      | false =>
        cases g2 : hasS hn msgs with
        | true =>
          rw [g2] at hct
          (refine a_cndbF rfl ?_; refine a_nil ?_; refine a_fld ?_; refine a_fld ?_; (apply a_ld1 1; exact rfl; exact rfl); refine a_fld ?_; (apply a_ld1 0; exact rfl; exact rfl); refine a_callS0 hct ?_)
          refine a_callS0 mustT ?_
          exact hJ () _ _ ⟨g1, .inr g2⟩ (by first | exact Gl.refl _ _ | exact Gl.drop (by repeat (first | exact List.Sublist.refl _ | exact List.Sublist.slnil | apply List.Sublist.cons_cons | apply List.Sublist.cons)))
        | false =>
          rw [g2] at hct
          (refine a_cndbF rfl ?_; refine a_nil ?_; refine a_fld ?_; refine a_fld ?_; (apply a_ld1 1; exact rfl; exact rfl); refine a_fld ?_; (apply a_ld1 0; exact rfl; exact rfl); refine a_callS0 hct ?_)
          refine a_callSP mustF ?_
          exact ⟨hbad (by rw [g2]; simp), List.sublist_cons_self _ _⟩
end
end Go.Proofs.YtdalobojhfafbaaGreatDoor
set_option maxRecDepth 100000
set_option linter.unusedVariables false
namespace Go.V
open Go
theorem fewB_iff (p : Pr) : fewB p = true ↔ ((p.ints.length ≤ 15 ∧ p.bools.length ≤ 15 ∧ p.sets.length ≤ 15 ∧ p.msgs.length ≤ 15) ∧ (p.hs.length ≤ 32 ∧ p.known.length ≤ 32 ∧ p.init.length ≤ 32)) ∧ ∀ h ∈ p.hs, h.dos.length ≤ 32 ∧ h.send.length ≤ 32 := by
  unfold fewB
  rw [Bool.and_eq_true, Bool.and_eq_true, decide_eq_true_eq, decide_eq_true_eq, List.all_eq_true]
  simp only [decide_eq_true_eq]
def rws (l : List ByteArray) : List D := [.row 1 (sT l)]
end Go.V
namespace Go.Proofs.YtdalobojhfafbaaGreatDoor
open Go Go.V
section
variable {bc bm : Nat} {p : Pr} {d : Dict}
theorem c56 : AFn pr 56 [.p bc 0] (ckB bc bm p d) (ckV (if fewB p = true then 0 else 7)) := by
  refine AFn.ofL (s56 ?_)
  have hiff := fewB_iff p
  obtain ⟨ints, bools, sets, msgs, init, hdl, ⟨so, sn, si, sa⟩, known⟩ := p
  dsimp only at hiff
  have hbad : ¬ fewB ⟨ints, bools, sets, msgs, init, hdl, .mk so sn si sa, known⟩ = true → AE.pan (.ifc 107 (.i 7)) = ckV (if fewB ⟨ints, bools, sets, msgs, init, hdl, .mk so sn si sa, known⟩ = true then 0 else 7) := fun h => by
    rw [if_neg h, ckV_n (by decide)]
  have hgood : fewB ⟨ints, bools, sets, msgs, init, hdl, .mk so sn si sa, known⟩ = true → AE.ret (.tuple []) = ckV (if fewB ⟨ints, bools, sets, msgs, init, hdl, .mk so sn si sa, known⟩ = true then 0 else 7) := fun h => by
    rw [if_pos h, ckV_0]
  generalize fewB ⟨ints, bools, sets, msgs, init, hdl, .mk so sn si sa, known⟩ = fb at *
  unfold A56
  unfold ckB
  (refine a_nil ?_; refine a_fld ?_; refine a_fld ?_; (apply a_ld1 0; exact rfl; exact rfl); refine a_nil ?_; refine a_fld ?_; refine a_fld ?_; (apply a_ld1 0; exact rfl; exact rfl); refine a_nil ?_; refine a_fld ?_; refine a_fld ?_; (apply a_ld1 0; exact rfl; exact rfl); refine a_nil ?_; refine a_fld ?_; refine a_fld ?_; (apply a_ld1 0; exact rfl; exact rfl); refine V.a_bldF ([ints, bools, sets, msgs].map rws) rfl rfl ?_; refine a_lenM ?_)
  refine a_lp (σ := Nat) (fun i => [.i i]) (fun _ => ckB bc bm ⟨ints, bools, sets, msgs, init, hdl, .mk so sn si sa, known⟩ d) (fun i => i ≤ 4 ∧ ∀ j, j < i → ∀ l, [ints, bools, sets, msgs][j]? = some l → l.length ≤ 15) (fun i => 4 - i) 0 (by first | exact Gl.refl _ _ | exact Gl.drop (by repeat (first | exact List.Sublist.refl _ | exact List.Sublist.slnil | apply List.Sublist.cons_cons | apply List.Sublist.cons))) ⟨Nat.zero_le _, fun j hj => by omega⟩ ?_
  rintro i K ⟨hi, hl⟩ hK
  dsimp only [aix0, aix1, aix2, aix3, aix4, aix5, aix6, aix7, aix8]
  unfold ckB
  (refine a_lss ?_)
  refine a_cnd (fun q => ?_) (fun q => ?_)
  · have q' : (i : Int) < 4 := q
    have hlt : i < [ints, bools, sets, msgs].length := (show i < 4 by omega)
    refine a_idxM (f := rws) (l := [ints, bools, sets, msgs]) i hlt ?_
    have hgi : [ints, bools, sets, msgs][i]? = some [ints, bools, sets, msgs][i] := List.getElem?_eq_getElem hlt
    generalize [ints, bools, sets, msgs][i] = l at *
    unfold rws sT
    ((apply a_ld1p; exact rfl); refine a_lenM ?_; refine a_leq ?_)
    by_cases h15 : l.length ≤ 15
    · rw [decide_eq_true (by omega)]
      refine a_call0 mustT ?_
      (refine a_add (by first | omega | assumption | decide) (by first | omega | assumption | decide) ?_)
      refine hK (i + 1) _ _ ⟨by omega, fun j hj l' hl' => ?_⟩ (by omega) (by first | exact Gl.refl _ _ | exact Gl.drop (by repeat (first | exact List.Sublist.refl _ | exact List.Sublist.slnil | apply List.Sublist.cons_cons | apply List.Sublist.cons)))
      by_cases hji : j = i
      · subst hji; rw [hgi] at hl'; injection hl' with hl'; subst hl'; exact h15
      · exact hl j (by omega) l' hl'
    · rw [decide_eq_false (by omega)]
      refine a_callP mustF ?_
      refine ⟨hbad (fun h => ?_), List.Sublist.refl _⟩
      have hf := (hiff.1 h).1.1
      have q : (i : Int) < 4 := q
      have : i = 0 ∨ i = 1 ∨ i = 2 ∨ i = 3 := by omega
      rcases this with rfl | rfl | rfl | rfl <;> (injection hgi with hgi; subst hgi; omega)
  · have q : ¬ (i : Int) < 4 := q
    have h0 := hl 0 (by omega) ints rfl
    have h1 := hl 1 (by omega) bools rfl
    have h2 := hl 2 (by omega) sets rfl
    have h3 := hl 3 (by omega) msgs rfl
    clear hK hl
    (refine a_nil ?_; refine a_fld ?_; refine a_fld ?_; (apply a_ld1 0; exact rfl; exact rfl); refine a_lenL ?_; refine a_nil ?_; refine a_fld ?_; refine a_fld ?_; (apply a_ld1 0; exact rfl; exact rfl); refine a_lenL ?_; refine a_nil ?_; refine a_fld ?_; refine a_fld ?_; (apply a_ld1 0; exact rfl; exact rfl); refine a_lenL ?_; refine a_max3 ?_; refine a_leq ?_)
    have hkl : (Tm.rows known).length = known.length := Tm.rows_len known
    have hhl : (hdl.map Ha.cs).length = hdl.length := List.length_map ..
    have hil : (init.map As.cr).length = init.length := List.length_map ..
    dsimp only
    rw [hkl, hhl, hil]
    by_cases h32 : hdl.length ≤ 32 ∧ known.length ≤ 32 ∧ init.length ≤ 32
    · rw [decide_eq_true (by omega)]
      refine a_callS0 mustT ?_
      (refine a_nil ?_; refine a_fld ?_; refine a_fld ?_; (apply a_ld1 0; exact rfl; exact rfl); refine a_lenM ?_)
      refine a_lp (σ := Nat) (fun i => [.i i]) (fun _ => ckB bc bm ⟨ints, bools, sets, msgs, init, hdl, .mk so sn si sa, known⟩ d) (fun i => i ≤ hdl.length ∧ ∀ h ∈ hdl.take i, h.dos.length ≤ 32 ∧ h.send.length ≤ 32) (fun i => hdl.length - i) 0 (by first | exact Gl.refl _ _ | exact Gl.drop (by repeat (first | exact List.Sublist.refl _ | exact List.Sublist.slnil | apply List.Sublist.cons_cons | apply List.Sublist.cons))) ⟨Nat.zero_le _, fun h hh => by cases hh⟩ ?_
      rintro j K ⟨hj, hall⟩ hK
      dsimp only [aix0, aix1, aix2, aix3, aix4, aix5, aix6, aix7, aix8]
      unfold ckB
      (refine a_lss ?_)
      refine a_cnd (fun q2 => ?_) (fun q2 => ?_)
      · have hlt : j < hdl.length := by omega
        refine a_idxM j hlt ?_
        have hmem := List.getElem_mem hlt
        have hst := List.take_succ_eq_append_getElem hlt
        generalize hdl[j] = h at *
        obtain ⟨timer, hn, hnode, ⟨wo, ws, wn, wa⟩, dos, send⟩ := h
        ((apply a_ldAp; exact rfl); refine a_bx fun z1 => ?_; refine a_stA 0 rfl rfl rfl rfl ?_; refine a_fld ?_; (apply a_ld1 0; exact rfl; exact rfl); refine a_lenM ?_; refine a_fld ?_; (apply a_ld1 0; exact rfl; exact rfl); refine a_lenM ?_; refine a_max ?_; refine a_leq ?_)
        dsimp only
        by_cases h2 : dos.length ≤ 32 ∧ send.length ≤ 32
        · rw [decide_eq_true (by omega)]
          refine a_call0 mustT ?_
          (refine a_add (by first | omega | assumption | decide) (by first | omega | assumption | decide) ?_)
          refine hK (j + 1) _ _ ⟨by omega, fun h hh => ?_⟩ (by omega) (by first | exact Gl.refl _ _ | exact Gl.drop (by repeat (first | exact List.Sublist.refl _ | exact List.Sublist.slnil | apply List.Sublist.cons_cons | apply List.Sublist.cons)))
          rw [hst] at hh
          rcases List.mem_append.1 hh with hh | hh
          · exact hall h hh
          · rw [List.mem_singleton.1 hh]; exact h2
        · rw [decide_eq_false (by omega)]
          refine a_callP mustF ?_
          exact ⟨hbad (fun h => h2 ((hiff.1 h).2 _ hmem)), List.sublist_cons_self _ _⟩
      · rw [show j = hdl.length by omega, List.take_length] at hall
        exact ⟨hgood (hiff.2 ⟨⟨⟨h0, h1, h2, h3⟩, h32⟩, hall⟩), List.Sublist.refl _⟩
    · rw [decide_eq_false (by omega)]
      refine a_callSP mustF ?_
      exact ⟨hbad (fun h => h32 (hiff.1 h).1.2), List.Sublist.refl _⟩
theorem c59 (hd : DictOk d) (hl : p.hs.length ≤ 32) (hh : ∀ h ∈ p.hs, h.dos.length ≤ 32 ∧ h.send.length ≤ 32) : AFn pr 59 [.p bc 0] (ckB bc bm p d) (ckV (handsE d p.msgs p.hs)) := by
  refine AFn.ofL (s59 ?_)
  have hH := fun (h : Ha) (hm : h ∈ p.hs) => c101 (bc := bc) (bm := bm) (p := p) hd h (hh h hm).1 (hh h hm).2
  obtain ⟨ints, bools, sets, msgs, init, hdl, ⟨so, sn, si, sa⟩, known⟩ := p
  dsimp only at hl hh hH
  unfold A59
  unfold ckB
  (refine a_nil ?_; refine a_fld ?_; refine a_fld ?_; (apply a_ld1 0; exact rfl; exact rfl); refine a_lenM ?_)
  refine a_lp (σ := Nat) (fun i => [.i i]) (fun _ => ckB bc bm ⟨ints, bools, sets, msgs, init, hdl, .mk so sn si sa, known⟩ d) (fun i => i ≤ hdl.length ∧ handsE d msgs (hdl.drop i) = handsE d msgs hdl) (fun i => hdl.length - i) 0 (by first | exact Gl.refl _ _ | exact Gl.drop (by repeat (first | exact List.Sublist.refl _ | exact List.Sublist.slnil | apply List.Sublist.cons_cons | apply List.Sublist.cons))) ⟨Nat.zero_le _, rfl⟩ ?_
  rintro i K ⟨hi, hf⟩ hK
  dsimp only [aix0, aix1, aix2, aix3, aix4, aix5, aix6, aix7, aix8]
  refine a_lss ?_
  refine a_cnd (fun q => ?_) (fun q => ?_)
  · have hlt : i < hdl.length := by omega
    have hc := hH _ (List.getElem_mem hlt)
    rw [List.drop_eq_getElem_cons hlt, handsE] at hf
    refine a_idxM i hlt ?_
    generalize hdl[i] = h at *
    obtain ⟨timer, hn, hnode, ⟨wo, ws, wn, wa⟩, dos, send⟩ := h
    unfold ckB
    ((apply a_ldAp; exact rfl); refine a_bx fun z1 => ?_; refine a_stA 0 rfl rfl rfl rfl ?_; (apply a_ldA 0; exact rfl; exact rfl))
    by_cases e1 : handE d msgs ⟨timer, hn, hnode, .mk wo ws wn wa, dos, send⟩ = 0
    · rw [e1, seqE_0] at hf
      rw [e1, ckV_0] at hc
      refine a_callR (AFn.frameM [_] hc) ?_
      (refine a_add (by first | omega | assumption | decide) (by first | omega | assumption | decide) ?_)
      exact hK (i + 1) _ _ ⟨by omega, hf⟩ (by omega) (by first | exact Gl.refl _ _ | exact Gl.drop (by repeat (first | exact List.Sublist.refl _ | exact List.Sublist.slnil | apply List.Sublist.cons_cons | apply List.Sublist.cons)))
    · rw [seqE_n e1] at hf
      rw [ckV_n e1] at hc
      refine V.a_call (ae := .pan _) (AFn.frameM [_] hc) ?_
      exact ⟨by rw [← hf, ckV_n e1], List.sublist_cons_self _ _⟩
  · rw [List.drop_eq_nil_of_le (by omega), handsE] at hf
    clear hK
    exact ⟨by rw [← hf, ckV_0], List.Sublist.refl _⟩
theorem c60 (hd : DictOk d) (hl : p.known.length ≤ 32) : AFn pr 60 [.p bc 0] (ckB bc bm p d) (ckV (saidE d (p.safe :: p.known))) := by
  refine AFn.ofL (s60 ?_)
  have hT := fun (t : Tm) => c102 (bc := bc) (bm := bm) (p := p) hd t 4 ⟨#[]⟩
  obtain ⟨ints, bools, sets, msgs, init, hdl, ⟨so, sn, si, sa⟩, known⟩ := p
  dsimp only at hl hT
  unfold A60
  unfold ckB
  (refine a_nil ?_; refine a_fld ?_; refine a_fld ?_; (apply a_ldN 0 _; exact rfl; exact rfl; exact rfl); refine a_nil ?_; refine a_fld ?_; refine a_fld ?_)
  refine ⟨_, List.mem_cons_self, rfl, ?_⟩
  refine V.a_ld1 0 rfl rfl ?_
  refine V.a_bldO [.i so, .s sn, .i si, .row 4 (Tm.rows sa)] rfl rfl fun z1 => ?_
  refine ⟨fun x hx _ => List.mem_cons_of_mem _ hx, ?_⟩
  refine V.a_app 0 _ known.length (Tm.rows known).flatten rfl rfl ⟨rfl, (Tm.rows_len known).symm, rfl⟩ (by rw [Tm.rows_eq]; exact flat_one Tm.cs_one known) (by omega) fun b' c' => ?_
  have hfl : ([.i so, .s sn, .i si, .row 4 (Tm.rows sa)] : List D) ++ (Tm.rows known).flatten = (((Tm.mk so sn si sa) :: known).map Tm.cs).flatten := by rw [Tm.rows_eq known, List.map_cons, List.flatten_cons]; rfl
  show alenL _ _
  have hset : ∀ (x y : Bx) (r : List Bx), (x :: r).set 0 y = y :: r := fun _ _ _ => rfl
  rw [hset, hfl]
  have hts : (Tm.mk so sn si sa :: known).length = 1 + known.length := by rw [List.length_cons]; omega
  show alenL _ _
  have hgoal : ∀ X, X = ckV (saidE d (Tm.mk so sn si sa :: known)) → X = ckV (saidE d ((Pr.mk ints bools sets msgs init hdl (Tm.mk so sn si sa) known).safe :: (Pr.mk ints bools sets msgs init hdl (Tm.mk so sn si sa) known).known)) := fun X h => h
  generalize Tm.mk so sn si sa :: known = ts at *
  (refine a_lenO ?_)
  refine a_lp (σ := Nat) (fun i => [.i i]) (fun _ => ⟨b', (ts.map Tm.cs).flatten, .row 27 4 c'⟩ :: ckB bc bm ⟨ints, bools, sets, msgs, init, hdl, .mk so sn si sa, known⟩ d) (fun i => i ≤ ts.length ∧ saidE d (ts.drop i) = saidE d ts) (fun i => ts.length - i) 0 (by first | exact Gl.refl _ _ | exact Gl.drop (by repeat (first | exact List.Sublist.refl _ | exact List.Sublist.slnil | apply List.Sublist.cons_cons | apply List.Sublist.cons))) ⟨Nat.zero_le _, rfl⟩ ?_
  rintro i K ⟨hi, hf⟩ hK
  dsimp only [aix0, aix1, aix2, aix3, aix4, aix5, aix6, aix7, aix8]
  refine a_lss ?_
  refine a_cnd (fun q => ?_) (fun q => ?_)
  · have hlt : i < ts.length := by omega
    rw [List.drop_eq_getElem_cons hlt, saidE] at hf
    refine a_idxO (j := (i : Int)) (by omega) (by omega) ?_
    rw [Int.toNat_natCast]
    refine a_ldRows (i := 0) Tm.cs_len i rfl hlt ?_
    generalize ts[i] = t at *
    have hc := hT t
    cases t with | mk o s n a =>
    unfold ckB
    (refine a_bx fun z2 => ?_; refine a_stA 0 rfl rfl rfl rfl ?_; (apply a_ldA 0; exact rfl; exact rfl))
    by_cases e1 : termE d (.mk o s n a) 4 ⟨#[]⟩ = 0
    · rw [e1, seqE_0] at hf
      rw [e1, ckV_0] at hc
      refine a_callR (AFn.frameM [_, _] hc) ?_
      (refine a_add (by first | omega | assumption | decide) (by first | omega | assumption | decide) ?_)
      exact hK (i + 1) _ _ ⟨by omega, hf⟩ (by omega) (by first | exact Gl.refl _ _ | exact Gl.drop (by repeat (first | exact List.Sublist.refl _ | exact List.Sublist.slnil | apply List.Sublist.cons_cons | apply List.Sublist.cons)))
    · rw [seqE_n e1] at hf
      rw [ckV_n e1] at hc
      refine V.a_call (ae := .pan _) (AFn.frameM [_, _] hc) ?_
      exact ⟨hgoal _ (by rw [← hf, ckV_n e1]), List.sublist_append_right [_, _] _⟩
  · rw [List.drop_eq_nil_of_le (by omega), saidE] at hf
    clear hK
    exact ⟨hgoal _ (by rw [← hf, ckV_0]), List.sublist_cons_self _ _⟩
def DecR (bc bm : Nat) (p : Pr) (x : Except Int Dict) (a : AE) (L' : List Bx) : Prop :=
  match x with
  | .ok d' => a = .ret (.tuple []) ∧ L' = ckB bc bm p d'
  | .error e => a = .pan (.ifc 107 (.i e)) ∧ ∃ d', L' = ckB bc bm p d'
def DictNz (d : Dict) : Prop := ∀ x ∈ d, x.2 ≠ 0
theorem c97 {op : Int} (hop : op ≠ 0) (l : List ByteArray) (hl : l.length ≤ 15) (hd : DictOk d) (hz : DictNz d) : ASpec pr 97 [.p bc 0, .row 1 (sT l), .i op] (ckB bc bm p d) (DecR bc bm p (declE op l d)) := by
  refine s97 ?_
  obtain ⟨ints, bools, sets, msgs, init, hdl, ⟨so, sn, si, sa⟩, known⟩ := p
  unfold A97
  unfold sT
  refine a_lenM ?_
  refine a_lp (σ := Nat × Dict) (fun x => [.i x.1]) (fun x => ckB bc bm ⟨ints, bools, sets, msgs, init, hdl, .mk so sn si sa, known⟩ x.2) (fun x => x.1 ≤ l.length ∧ declE op (l.drop x.1) x.2 = declE op l d ∧ DictOk x.2 ∧ DictNz x.2) (fun x => l.length - x.1) (0, d) (by first | exact Gl.refl _ _ | exact Gl.drop (by repeat (first | exact List.Sublist.refl _ | exact List.Sublist.slnil | apply List.Sublist.cons_cons | apply List.Sublist.cons))) ⟨Nat.zero_le _, rfl, hd, hz⟩ ?_
  generalize declE op l d = X
  clear hd hz d
  rintro ⟨i, d⟩ K ⟨hi, hf, hd, hz⟩ hK
  dsimp only at hi hf hd hz hK ⊢
  dsimp only [aix0, aix1, aix2, aix3, aix4, aix5, aix6, aix7, aix8]
  refine a_lss ?_
  refine a_cnd (fun q => ?_) (fun q => ?_)
  · have hlt : i < l.length := by omega
    rw [List.drop_eq_getElem_cons hlt, declE] at hf
    have hnm := c51 (s := l[i])
    refine a_idxM i hlt ?_
    generalize l[i] = s at *
    unfold ckB
    refine V.a_ld1p rfl ?_
    refine a_call0 hnm ?_
    refine a_jn (σ := Bool) (fun b => [.b b]) (fun _ => ckB bc bm ⟨ints, bools, sets, msgs, init, hdl, .mk so sn si sa, known⟩ d) (fun b => b = decide (nameF s.data.toList = true ∧ opD d s = 0)) ?_ fun J hJ => ?_
    · rintro b hb
      dsimp only [aix0, aix1, aix2, aix3, aix4, aix5, aix6, aix7, aix8]
      unfold ckB
      by_cases g : nameF s.data.toList = true ∧ opD d s = 0
      · rw [if_pos g] at hf
        rw [hb, decide_eq_true g]
        refine a_call0 mustT ?_
        (refine a_nil ?_; refine a_fld ?_; (apply a_ld1 0; exact rfl; exact rfl))
        refine a_upN 1 rfl keyStr (dict_keys hd) rfl ⟨s, rfl, name_size g.1⟩ (opD_none g.2 hz) ?_
        (refine a_add (by first | omega | assumption | decide) (by first | omega | assumption | decide) ?_)
        rw [dict_snoc]
        refine hK (i + 1, d ++ [(s, op)]) _ _ ⟨by simp only; omega, hf, fun x hx => ?_, fun x hx => ?_⟩ (by simp only; omega) (by first | exact Gl.refl _ _ | exact Gl.drop (by repeat (first | exact List.Sublist.refl _ | exact List.Sublist.slnil | apply List.Sublist.cons_cons | apply List.Sublist.cons)))
        · rcases List.mem_append.1 hx with hx | hx
          · exact hd x hx
          · rw [List.mem_singleton.1 hx]; exact name_size g.1
        · rcases List.mem_append.1 hx with hx | hx
          · exact hz x hx
          · rw [List.mem_singleton.1 hx]; exact hop
      · rw [if_neg g] at hf
        rw [hb, decide_eq_false g]
        refine a_callP mustF ?_
        show DecR _ _ _ X _ _
        rw [← hf]
        exact ⟨rfl, d, rfl⟩
    · cases g1 : nameF s.data.toList with
      | false =>
        (refine a_cndbF rfl ?_)
        exact hJ false _ _ (by simp [g1]) (by first | exact Gl.refl _ _ | exact Gl.drop (by repeat (first | exact List.Sublist.refl _ | exact List.Sublist.slnil | apply List.Sublist.cons_cons | apply List.Sublist.cons)))
      | true =>
        (refine a_cndbT rfl ?_; refine a_nil ?_; refine a_fld ?_; (apply a_ld1 0; exact rfl; exact rfl))
        refine a_lkD 1 rfl keyStr hd (name_size g1) ?_
        (refine a_eql ?_)
        exact hJ _ _ _ (by simp [g1]) (Gl.refl _ _)
  · rw [List.drop_eq_nil_of_le (by omega), declE] at hf
    show DecR _ _ _ X _ _
    rw [← hf]
    exact ⟨rfl, rfl⟩
end
end Go.Proofs.YtdalobojhfafbaaGreatDoor
set_option maxRecDepth 100000
set_option linter.unusedVariables false
namespace Go.V
open Go
theorem except_bind_ok {α β : Type} {x : α} {f : α → Except Int β} : (Except.ok x).bind f = f x := rfl
end Go.V
namespace Go.Proofs.YtdalobojhfafbaaGreatDoor
open Go Go.V
theorem declE_ok {op : Int} (hop : op ≠ 0) : ∀ {l : List ByteArray} {d d' : Dict}, declE op l d = .ok d' → DictOk d → DictNz d → DictOk d' ∧ DictNz d'
  | [], d, d', h, h1, h2 => by rw [declE] at h; injection h with h; subst h; exact ⟨h1, h2⟩
  | s :: l, d, d', h, h1, h2 => by
    rw [declE] at h
    split at h
    · next g =>
      refine declE_ok hop h (fun x hx => ?_) (fun x hx => ?_)
      · rcases List.mem_append.1 hx with hx | hx
        · exact h1 x hx
        · rw [List.mem_singleton.1 hx]; exact name_size g.1
      · rcases List.mem_append.1 hx with hx | hx
        · exact h2 x hx
        · rw [List.mem_singleton.1 hx]; exact hop
    · cases h
section
variable {bc bm : Nat} {p : Pr} {d : Dict}
theorem c57 (hf : fewB p = true) : ASpec pr 57 [.p bc 0] (ckB bc bm p []) (DecR bc bm p (namesE p)) := by
  refine s57 ?_
  obtain ⟨⟨⟨f1, f2, f3, f4⟩, _⟩, _⟩ := (fewB_iff p).1 hf
  have k0 : DictOk [] := fun x hx => by cases hx
  have z0 : DictNz [] := fun x hx => by cases hx
  unfold namesE
  unfold A57
  unfold ckB
  (refine a_nil ?_; refine a_fld ?_; refine a_fld ?_; (apply a_ld1 0; exact rfl; exact rfl))
  refine a_callF (L1 := ckB bc bm p []) (M := []) (List.Perm.of_eq (List.append_nil _).symm) (c97 (op := 2) (by decide) p.ints f1 k0 z0) ?_
  intro a L' h1
  cases e1 : declE 2 p.ints [] with
  | error e =>
    rw [e1] at h1
    obtain ⟨rfl, d', rfl⟩ := h1
    exact ⟨rfl, d', List.append_nil _⟩
  | ok d1 =>
  rw [e1] at h1
  obtain ⟨rfl, rfl⟩ := h1
  obtain ⟨k1, z1⟩ := declE_ok (by decide) e1 k0 z0
  rw [except_bind_ok, List.append_nil]
  simp only [AE.on]
  unfold ckB
  (refine a_nil ?_; refine a_fld ?_; refine a_fld ?_; (apply a_ld1 0; exact rfl; exact rfl))
  refine a_callF (L1 := ckB bc bm p d1) (M := []) (List.Perm.of_eq (List.append_nil _).symm) (c97 (op := 15) (by decide) p.bools f2 k1 z1) ?_
  intro a L' h2
  cases e2 : declE 15 p.bools d1 with
  | error e =>
    rw [e2] at h2
    obtain ⟨rfl, d', rfl⟩ := h2
    exact ⟨rfl, d', List.append_nil _⟩
  | ok d2 =>
  rw [e2] at h2
  obtain ⟨rfl, rfl⟩ := h2
  obtain ⟨k2, z2⟩ := declE_ok (by decide) e2 k1 z1
  rw [except_bind_ok, List.append_nil]
  simp only [AE.on]
  unfold ckB
  (refine a_nil ?_; refine a_fld ?_; refine a_fld ?_; (apply a_ld1 0; exact rfl; exact rfl))
  refine a_callF (L1 := ckB bc bm p d2) (M := []) (List.Perm.of_eq (List.append_nil _).symm) (c97 (op := 7) (by decide) p.sets f3 k2 z2) ?_
  intro a L' h3
  cases e3 : declE 7 p.sets d2 with
  | error e =>
    rw [e3] at h3
    obtain ⟨rfl, d', rfl⟩ := h3
    exact ⟨rfl, d', List.append_nil _⟩
  | ok d3 =>
  rw [e3] at h3
  obtain ⟨rfl, rfl⟩ := h3
  obtain ⟨k3, z3⟩ := declE_ok (by decide) e3 k2 z2
  rw [except_bind_ok, List.append_nil]
  simp only [AE.on]
  unfold ckB
  (refine a_nil ?_; refine a_fld ?_; refine a_fld ?_; (apply a_ld1 0; exact rfl; exact rfl))
  refine a_callF (L1 := ckB bc bm p d3) (M := []) (List.Perm.of_eq (List.append_nil _).symm) (c97 (op := 7) (by decide) p.msgs f4 k3 z3) ?_
  intro a L' h4
  cases e4 : declE 7 p.msgs d3 with
  | error e =>
    rw [e4] at h4
    obtain ⟨rfl, d', rfl⟩ := h4
    exact ⟨rfl, d', List.append_nil _⟩
  | ok d4 =>
  rw [e4] at h4
  obtain ⟨rfl, rfl⟩ := h4
  rw [List.append_nil]
  simp only [AE.on]
  exact ⟨rfl, rfl⟩
end
theorem namesE_ok {p : Pr} {d : Dict} (h : namesE p = .ok d) : DictOk d ∧ DictNz d := by
  have k0 : DictOk [] := fun x hx => by cases hx
  have z0 : DictNz [] := fun x hx => by cases hx
  unfold namesE at h
  cases e1 : declE 2 p.ints [] with
  | error e => rw [e1] at h; cases h
  | ok d1 =>
  rw [e1, except_bind_ok] at h
  obtain ⟨k1, z1⟩ := declE_ok (by decide) e1 k0 z0
  cases e2 : declE 15 p.bools d1 with
  | error e => rw [e2] at h; cases h
  | ok d2 =>
  rw [e2, except_bind_ok] at h
  obtain ⟨k2, z2⟩ := declE_ok (by decide) e2 k1 z1
  cases e3 : declE 7 p.sets d2 with
  | error e => rw [e3] at h; cases h
  | ok d3 =>
  rw [e3, except_bind_ok] at h
  obtain ⟨k3, z3⟩ := declE_ok (by decide) e3 k2 z2
  exact declE_ok (by decide) h k3 z3
theorem c55n {b : Nat} {L : List Bx} : ADef pr 55 [.p b 0] none L (fun m' L' => m' = none ∧ L' = L) := by
  refine s55 ?_
  unfold A55
  exact ⟨rfl, rfl⟩
theorem c55p {b : Nat} {y : D} {e : Int} {L : List Bx} (i : Nat) (hi : L[i]? = some ⟨b, [y], .box⟩) : ADef pr 55 [.p b 0] (some (.ifc 107 (.i e))) L
    (fun m' L' => m' = none ∧ L' = L.set i ⟨b, [.i e], .box⟩) := by
  refine s55 ?_
  unfold A55
  refine a_eqIh ?_
  refine a_cndbF rfl ?_
  refine a_tasT ?_
  ((apply a_ext; exact rfl); (apply a_ext; exact rfl); refine a_cndbT rfl ?_)
  refine V.a_st i [.i e] hi rfl rfl rfl rfl ?_
  exact ⟨rfl, rfl⟩
theorem c26 (p : Pr) : AFn pr 26 [p.d] [] (.ret (.i (CheckF p))) := by
  refine AFn.ofGe (s26 ?_)
  unfold A26
  refine a_bxv fun z1 => ?_
  refine a_bx fun z2 => ?_
  have hiff := fewB_iff p
  have C0 : fewB p = false → CheckF p = 7 := fun h => by unfold CheckF; rw [if_pos h]
  have C1 : ∀ {e}, fewB p = true → namesE p = .error e → CheckF p = e := fun h h1 => by unfold CheckF; rw [if_neg (by rw [h]; decide), h1]
  have C2 : ∀ {d}, fewB p = true → namesE p = .ok d → CheckF p = seqE (firstE d p.msgs [] p.init) (seqE (handsE d p.msgs p.hs) (saidE d (p.safe :: p.known))) := fun h h1 => by unfold CheckF; rw [if_neg (by rw [h]; decide), h1]
  generalize CheckF p = C at *
  refine a_ldA 1 rfl rfl ?_
  refine a_mkM fun z3 => ?_
  refine V.a_bld (p.cs ++ [.val (.map (some z3))]) rfl rfl ?_
  refine a_bxv fun z4 => ?_
  refine a_bldS [[.fn 56 [] []], [.fn 57 [] []], [.fn 58 [] []], [.fn 59 [] []], [.fn 60 [] []]] rfl rfl ?_
  (refine a_lenL ?_)
  have pan : ∀ (e : Int) (d : Dict), C = e → K26 (.p z2 0) (fun a' L' => Ge a' L' (AE.ret (D.i C)) []) (some (.ifc 107 (.i e))) (ckB z4 z3 p d ++ [⟨z2, [.i 0], .box⟩, ⟨z1, p.cs, .box⟩]) := fun e d he => by
    refine ADef.mono (c55p 2 rfl) ?_
    rintro m' L' ⟨rfl, rfl⟩
    subst he
    show aend _ _ _ _
    refine V.a_ld1 2 rfl rfl ?_
    exact ge_drop _ _
  refine a_lp (σ := Nat × Dict) (fun x => [.i x.1]) (fun x => ckB z4 z3 p x.2 ++ [⟨z2, [.i 0], .box⟩, ⟨z1, p.cs, .box⟩]) (fun x => x.1 ≤ 5 ∧ (x.1 ≤ 1 → x.2 = []) ∧ (1 ≤ x.1 → fewB p = true) ∧ (2 ≤ x.1 → namesE p = .ok x.2) ∧ (3 ≤ x.1 → firstE x.2 p.msgs [] p.init = 0) ∧ (4 ≤ x.1 → handsE x.2 p.msgs p.hs = 0) ∧ (5 ≤ x.1 → saidE x.2 (p.safe :: p.known) = 0)) (fun x => 5 - x.1) (0, []) (by first | exact Gl.refl _ _ | exact Gl.drop (by repeat (first | exact List.Sublist.refl _ | exact List.Sublist.slnil | apply List.Sublist.cons_cons | apply List.Sublist.cons))) ⟨by decide, fun _ => rfl, fun h => absurd h (by decide), fun h => absurd h (by decide), fun h => absurd h (by decide), fun h => absurd h (by decide), fun h => absurd h (by decide)⟩ ?_
  rintro ⟨i, d⟩ K ⟨h5, i1, i2, i3, i4, i6, i7⟩ hK
  dsimp only at h5 i1 i2 i3 i4 i6 i7 hK ⊢
  dsimp only [aix0, aix1, aix2, aix3, aix4, aix5, aix6, aix7, aix8]
  refine a_lss ?_
  refine a_cnd (fun q => ?_) (fun q => ?_)
  · have q : (i : Int) < 5 := q
    have h05 : i = 0 ∨ i = 1 ∨ i = 2 ∨ i = 3 ∨ i = 4 := by omega
    rcases h05 with rfl | rfl | rfl | rfl | rfl
    · obtain rfl := i1 (by omega)
      have hF := c56 (bc := z4) (bm := z3) (p := p) (d := [])
      refine V.a_idx 0 _ rfl ?_
      refine V.a_ld1p rfl ?_
      refine a_cfW ?_
      cases hb : fewB p with
      | true =>
        rw [hb, if_pos rfl, ckV_0] at hF
        refine a_callR (AFn.frameL _ hF) ?_
        (refine a_add (by first | omega | assumption | decide) (by first | omega | assumption | decide) ?_)
        exact hK (1, []) _ _ ⟨(show 1 ≤ 5 by decide), fun _ => rfl, fun _ => hb, fun h => absurd (show 2 ≤ 1 from h) (by decide), fun h => absurd (show 3 ≤ 1 from h) (by decide), fun h => absurd (show 4 ≤ 1 from h) (by decide), fun h => absurd (show 5 ≤ 1 from h) (by decide)⟩ (show 5 - 1 < 5 - 0 by decide) (by first | exact Gl.refl _ _ | exact Gl.drop (by repeat (first | exact List.Sublist.refl _ | exact List.Sublist.slnil | apply List.Sublist.cons_cons | apply List.Sublist.cons)))
      | false =>
        rw [hb, if_neg (by decide), ckV_n (by decide)] at hF
        exact V.a_call (ae := .pan _) (AFn.frameL _ hF) (pan 7 [] (C0 hb))
    · obtain rfl := i1 (by omega)
      have hb := i2 (by omega)
      refine V.a_idx 1 _ rfl ?_
      refine V.a_ld1p rfl ?_
      refine a_cfW ?_
      refine a_callF (L1 := ckB z4 z3 p []) (M := [⟨z2, [.i 0], .box⟩, ⟨z1, p.cs, .box⟩]) (List.Perm.refl _) (c57 hb) ?_
      intro a L' hN
      cases hn : namesE p with
      | error e =>
        rw [hn] at hN
        obtain ⟨rfl, d', rfl⟩ := hN
        exact pan e d' (C1 hb hn)
      | ok d =>
        rw [hn] at hN
        obtain ⟨rfl, rfl⟩ := hN
        simp only [AE.on]
        (refine a_add (by first | omega | assumption | decide) (by first | omega | assumption | decide) ?_)
        exact hK (2, d) _ _ ⟨(show 2 ≤ 5 by decide), fun h => absurd (show 2 ≤ 1 from h) (by decide), fun _ => hb, fun _ => hn, fun h => absurd (show 3 ≤ 2 from h) (by decide), fun h => absurd (show 4 ≤ 2 from h) (by decide), fun h => absurd (show 5 ≤ 2 from h) (by decide)⟩ (show 5 - 2 < 5 - 1 by decide) (by first | exact Gl.refl _ _ | exact Gl.drop (by repeat (first | exact List.Sublist.refl _ | exact List.Sublist.slnil | apply List.Sublist.cons_cons | apply List.Sublist.cons)))
    · have hb := i2 (by omega)
      have hn := i3 (by omega)
      obtain ⟨kd, _⟩ := namesE_ok hn
      have hc := C2 hb hn
      have hF := c58 (bc := z4) (bm := z3) (p := p) kd (by have := (hiff.1 hb).1.2; omega)
      refine V.a_idx 2 _ rfl ?_
      refine V.a_ld1p rfl ?_
      refine a_cfW ?_
      by_cases e1 : firstE d p.msgs [] p.init = 0
      · rw [e1, ckV_0] at hF
        refine a_callR (AFn.frameL _ hF) ?_
        (refine a_add (by first | omega | assumption | decide) (by first | omega | assumption | decide) ?_)
        exact hK (3, d) _ _ ⟨(show 3 ≤ 5 by decide), fun h => absurd (show 3 ≤ 1 from h) (by decide), fun _ => hb, fun _ => hn, fun _ => e1, fun h => absurd (show 4 ≤ 3 from h) (by decide), fun h => absurd (show 5 ≤ 3 from h) (by decide)⟩ (show 5 - 3 < 5 - 2 by decide) (by first | exact Gl.refl _ _ | exact Gl.drop (by repeat (first | exact List.Sublist.refl _ | exact List.Sublist.slnil | apply List.Sublist.cons_cons | apply List.Sublist.cons)))
      · rw [ckV_n e1] at hF
        exact V.a_call (ae := .pan _) (AFn.frameL _ hF) (pan _ d (by rw [hc, seqE_n e1]))
    · have hb := i2 (by omega)
      have hn := i3 (by omega)
      have e1 := i4 (by omega)
      obtain ⟨kd, _⟩ := namesE_ok hn
      have hc := C2 hb hn
      rw [e1, seqE_0] at hc
      have hF := c59 (bc := z4) (bm := z3) (p := p) kd (by have := (hiff.1 hb).1.2; omega) (hiff.1 hb).2
      refine V.a_idx 3 _ rfl ?_
      refine V.a_ld1p rfl ?_
      refine a_cfW ?_
      by_cases e2 : handsE d p.msgs p.hs = 0
      · rw [e2, ckV_0] at hF
        refine a_callR (AFn.frameL _ hF) ?_
        (refine a_add (by first | omega | assumption | decide) (by first | omega | assumption | decide) ?_)
        exact hK (4, d) _ _ ⟨(show 4 ≤ 5 by decide), fun h => absurd (show 4 ≤ 1 from h) (by decide), fun _ => hb, fun _ => hn, fun _ => e1, fun _ => e2, fun h => absurd (show 5 ≤ 4 from h) (by decide)⟩ (show 5 - 4 < 5 - 3 by decide) (by first | exact Gl.refl _ _ | exact Gl.drop (by repeat (first | exact List.Sublist.refl _ | exact List.Sublist.slnil | apply List.Sublist.cons_cons | apply List.Sublist.cons)))
      · rw [ckV_n e2] at hF
        exact V.a_call (ae := .pan _) (AFn.frameL _ hF) (pan _ d (by rw [hc, seqE_n e2]))
    · have hb := i2 (by omega)
      have hn := i3 (by omega)
      have e1 := i4 (by omega)
      have e2 := i6 (by omega)
      obtain ⟨kd, _⟩ := namesE_ok hn
      have hc := C2 hb hn
      rw [e1, seqE_0, e2, seqE_0] at hc
      have hF := c60 (bc := z4) (bm := z3) (p := p) kd (by have := (hiff.1 hb).1.2; omega)
      refine V.a_idx 4 _ rfl ?_
      refine V.a_ld1p rfl ?_
      refine a_cfW ?_
      by_cases e3 : saidE d (p.safe :: p.known) = 0
      · rw [e3, ckV_0] at hF
        refine a_callR (AFn.frameL _ hF) ?_
        (refine a_add (by first | omega | assumption | decide) (by first | omega | assumption | decide) ?_)
        exact hK (5, d) _ _ ⟨(show 5 ≤ 5 by decide), fun h => absurd (show 5 ≤ 1 from h) (by decide), fun _ => hb, fun _ => hn, fun _ => e1, fun _ => e2, fun _ => e3⟩ (show 5 - 5 < 5 - 4 by decide) (by first | exact Gl.refl _ _ | exact Gl.drop (by repeat (first | exact List.Sublist.refl _ | exact List.Sublist.slnil | apply List.Sublist.cons_cons | apply List.Sublist.cons)))
      · rw [ckV_n e3] at hF
        exact V.a_call (ae := .pan _) (AFn.frameL _ hF) (pan _ d hc)
  · have q : ¬ (i : Int) < 5 := q
    have hc := C2 (i2 (by omega)) (i3 (by omega))
    rw [i4 (by omega), seqE_0, i6 (by omega), seqE_0, i7 (by omega)] at hc
    clear hK
    refine V.a_st 2 [.i 0] rfl rfl rfl rfl rfl ?_
    refine ADef.mono c55n ?_
    rintro m' L' ⟨rfl, rfl⟩
    show aend _ _ _ _
    refine V.a_ld1 2 rfl rfl ?_
    rw [hc]
    exact ge_drop _ _
end Go.Proofs.YtdalobojhfafbaaGreatDoor
