/- Contracts of layer 18: what is told, messages that are doubled or lost. -/
import Derived.Test.YtdalobojhfafbaaGreatDoorC72
import Derived.Test.YtdalobojhfafbaaGreatDoorE10
set_option maxRecDepth 100000
set_option linter.unusedVariables false
namespace Go.V
open Go
def smB (bs : Nat) (S : Sm) (pd : D) : Bx := ⟨bs, smC (ownP S.hs S.safe) S.w pd, .box⟩
end Go.V
namespace Go.Proofs.YtdalobojhfafbaaGreatDoor
open Go Go.V
def SimR (bs : Nat) (S : Sm) (L : List Bx) : Prop := ∃ pd M, L = smB bs S pd :: M ∧ PdR S.l pd M
def StepR (bs : Nat) (S : Sm) (o : Option Sm) (a : AE) (L' : List Bx) : Prop := a = .ret (.b o.isSome) ∧ SimR bs (o.getD S) L'
theorem StepR.ge {g : FuncId} {args : List D} {L : List Bx} {bs : Nat} {S : Sm} {o : Option Sm} (h : ASpec pr g args L fun a L' => ∃ L2 L3, L'.Perm L2 ∧ L3.Sublist L2 ∧ StepR bs S o a L3) : ASpec pr g args L (StepR bs S o) :=
  ASpec.ge h fun a L' ⟨L2, L3, h1, h2, h3⟩ => ⟨a, L3, ⟨by cases a <;> trivial, Gl.trans (Gl.perm h1) (Gl.drop h2)⟩, h3⟩
theorem pd_len {l : List Pn} {pd : D} {M : List Bx} {k : D → Prop} (h : PdR l pd M) (hk : k (.i l.length)) : alenL pd k := by
  cases h with
  | nil => exact hk
  | row b c => exact hk
theorem pd_one {l : List Pn} {pd : D} {M : List Bx} (h : PdR l pd M) : (cl pd).length = 1 ∧ (cl pd).all D.one = true := by
  cases h with
  | nil => exact ⟨rfl, rfl⟩
  | row b c => exact ⟨rfl, rfl⟩
theorem c61 {bs : Nat} {S : Sm} {pd : D} {M : List Bx} (h : PdR S.l pd M) (i : Int) : AFn pr 61 [.p bs 0, .i i] (smB bs S pd :: M) (.ret (.b (thereB S.l i))) := by
  refine s61 ?_
  unfold A61
  unfold thereB smB
  refine a_geq ?_
  refine a_cnd (fun q => ?_) (fun q => ?_)
  · (refine a_nil ?_; refine a_fld ?_; (apply a_ld1 0; exact rfl; exact rfl))
    refine pd_len h ?_
    (refine a_lss ?_)
    exact ⟨by rw [decide_eq_true (show 0 ≤ i from q)]; rfl, rfl⟩
  · exact ⟨by rw [decide_eq_false (show ¬ 0 ≤ i from q)]; rfl, rfl⟩
theorem c28 {bs : Nat} {S : Sm} {L : List Bx} (h : SimR bs S L) (i : Int) : ASpec pr 28 [.p bs 0, .i i] L (StepR bs S (DoubleF S i)) := by
  obtain ⟨pd, M, rfl, hp⟩ := h
  refine StepR.ge (s28 ?_)
  unfold A28
  have hT := c61 (bs := bs) (S := S) hp i
  have hno : ¬ (thereB S.l i = true ∧ S.l.length < 256) → ∀ L, L = smB bs S pd :: M → ∃ L2 L3, L.Perm L2 ∧ L3.Sublist L2 ∧ StepR bs S (DoubleF S i) (.ret (.b false)) L3 := fun hn L hL => by
    unfold DoubleF
    rw [if_neg hn]
    exact ⟨_, _, List.Perm.refl _, List.Sublist.refl _, rfl, pd, M, hL, hp⟩
  refine a_jn (σ := Unit) (fun _ => []) (fun _ => smB bs S pd :: M) (fun _ => thereB S.l i = true ∧ S.l.length < 256) ?_ fun J hJ => ?_
  · rintro _ hh
    unfold DoubleF
    rw [if_pos hh]
    obtain ⟨hs, safe, w, l⟩ := S
    dsimp only at hp hh ⊢
    unfold thereB at hh
    simp only [Bool.and_eq_true, decide_eq_true_eq] at hh
    obtain ⟨⟨h0, h1⟩, h2⟩ := hh
    have hlt : i.toNat < l.length := by omega
    have hi : i = (i.toNat : Int) := by omega
    have hget : l.getD i.toNat pnz = l[i.toNat] := by rw [List.getD_eq_getElem?_getD, List.getElem?_eq_getElem hlt]; rfl
    rw [hget]
    cases hp with
    | nil => exact absurd hlt (Nat.not_lt_zero _)
    | row b c =>
    unfold smB
    (refine a_nil ?_; refine a_fld ?_; (apply a_ld1 0; exact rfl; exact rfl); refine a_nil ?_; refine a_fld ?_; (apply a_ld1 0; exact rfl; exact rfl))
    refine V.a_idxO (by omega) (by omega) ?_
    refine a_ldG Pn.cs_len 1 i.toNat rfl hlt ?_
    generalize l[i.toNat] = m
    obtain ⟨nm, node⟩ := m
    ((apply a_bldF _; exact rfl; (try dsimp only [afill, aparts, cl, chunk, List.take, List.drop, List.nil_append, List.cons_append, List.append_nil, List.length_cons, List.length_nil, Nat.zero_add, Nat.reduceAdd, Nat.reduceMul]); try exact rfl))
    refine V.a_app 1 _ 1 [.s nm, .i node] rfl (flat_len Pn.cs_len l) ⟨rfl, rfl, rfl⟩ rfl (by omega) fun b' c' => ?_
    have e1 : (l.map Pn.cs).flatten ++ [D.s nm, .i node] = ((l ++ [(⟨nm, node⟩ : Pn)]).map Pn.cs).flatten := by
      rw [List.map_append, List.flatten_append]; rfl
    rw [e1]
    have e2 : l.length + 1 = (l ++ [(⟨nm, node⟩ : Pn)]).length := by simp
    rw [e2]
    generalize l ++ [(⟨nm, node⟩ : Pn)] = l2
    (refine a_nil ?_; refine a_fld ?_; refine V.a_st 0 (smC (ownP hs safe) w (.sl b' 0 l2.length c')) rfl rfl rfl rfl rfl ?_)
    exact ⟨_, _, List.Perm.refl _, List.Sublist.refl _, rfl, _, _, rfl, .row b' c' l2⟩
  · refine a_callR hT ?_
    cases ht : thereB S.l i with
    | false =>
      (refine a_not ?_; refine a_cndbT rfl ?_)
      exact hno (by rw [ht]; exact fun hh => by cases hh.1) _ rfl
    | true =>
      unfold smB
      (refine a_not ?_; refine a_cndbF rfl ?_; refine a_nil ?_; refine a_fld ?_; (apply a_ld1 0; exact rfl; exact rfl))
      refine pd_len hp ?_
      (refine a_geq ?_)
      refine a_cnd (fun q => ?_) (fun q => ?_)
      · exact hno (by omega) _ rfl
      · exact hJ () _ _ ⟨ht, by omega⟩ (Gl.refl _ _)
theorem c22 {bs : Nat} {S : Sm} {L : List Bx} (h : SimR bs S L) (hl : S.l.length ≤ 100000) : ASpec pr 22 [.p bs 0] L fun a L' => ∃ pd' M', a = .ret pd' ∧ L' = M' ++ L ∧ PdR S.l pd' M' := by
  obtain ⟨pd, M, rfl, hp⟩ := h
  refine ASpec.permOut (R := fun a L' => ∃ L2, L'.Perm L2 ∧ ∃ pd' M', a = .ret pd' ∧ L2 = M' ++ (smB bs S pd :: M) ∧ PdR S.l pd' M') ?_ (fun a L' ⟨L2, h1, h2⟩ => ⟨L2, h1, h2⟩)
  refine s22 ?_
  unfold A22
  unfold smB
  (refine a_nil ?_; refine a_fld ?_; (apply a_ld1 0; exact rfl; exact rfl))
  refine a_callF (L1 := M) (M := [_]) (List.perm_append_comm (l₁ := [_])) (clone_pd hp hl) ?_
  rintro a L' ⟨pd', M', rfl, rfl, hp'⟩
  simp only [AE.on]
  exact ⟨_, by rw [List.append_assoc]; exact List.Perm.append_left _ (List.perm_append_comm (l₂ := [_])), pd', M', rfl, rfl, hp'⟩
end Go.Proofs.YtdalobojhfafbaaGreatDoor
set_option maxRecDepth 100000
set_option linter.unusedVariables false
namespace Go.Proofs.YtdalobojhfafbaaGreatDoor
open Go Go.V
theorem get_own {w : Wd} {nm : ByteArray} {st : Int} {v : Vl} (hw : smallW w) (hv : getF w.names nm st = some v) (hne : v.s ≠ []) : ASpec pr 24 [w.d, .s nm, .i st] [] fun a L' => ∃ b c, a = .ret (.tuple [.agg (v.os b c), .b true]) ∧ L' = [⟨b, (v.s.map bc).flatten, .row 4 1 c⟩] := by
  refine ASpec.sub (s24 ?_)
  unfold A24
  refine a_bxv fun z1 => ?_
  refine a_bx fun z2 => ?_
  ((apply a_ldA 1; exact rfl; exact rfl); refine a_call0 (c53 _ _ _) ?_; refine a_lss ?_)
  rcases find_get (nm := nm) (st := st) w.names 0 with ⟨h1, h2⟩ | ⟨j, x, h1, h2, h3⟩
  · rw [hv] at h2; cases h2
  · rw [h1]
    rw [hv] at h3
    injection h3 with h3
    obtain ⟨hj, hx⟩ := List.getElem?_eq_some_iff.1 h2
    have hxs := hw x (hx ▸ List.getElem_mem hj)
    rw [← h3] at hxs
    refine a_cndF (by omega) ?_
    (refine a_fld ?_; (apply a_ld1 1; exact rfl; exact rfl))
    refine a_idxMz j (by omega) hj ?_
    rw [hx]
    obtain ⟨xn, xv⟩ := x
    dsimp only at h3 hxs
    subst h3
    (refine a_fldp ?_; (apply a_ldAp; exact rfl); refine a_callF (M := [⟨z2, [.i 0, .i 0, .b false, .nil], .box⟩, ⟨z1, w.cs, .box⟩]) (L1 := []) (List.Perm.refl _) (own_own v hne hxs) ?_)
    rintro a L' ⟨b, c, rfl, rfl⟩
    simp only [AE.on, List.cons_append, List.nil_append]
    refine a_st 1 (v.os b c) rfl rfl rfl rfl rfl ?_
    ((apply a_ldA 1; exact rfl; exact rfl))
    exact ⟨_, .cons_cons _ (List.nil_sublist _), b, c, rfl, rfl⟩
theorem c75 {bs : Nat} {S : Sm} {pd : D} (hw : rightW S.w = true) (h64 : S.w.names.length ≤ 64) (h : Ha) (node : Int) : AFn pr 75 [.p bs 0, h.d, .i node] [smB bs S pd] (.ret (.tuple [(dueW S.w h node).d, .b (dueB S.w h node)])) := by
  refine AFn.ofL (s75 ?_)
  unfold A75
  have hE := c31 h.whn (dueW S.w h node)
  have hW := c34 S.w h.node (nodeV node) (smallW_of hw) h64 (Nat.zero_le _)
  have hWd : withF S.w h.node (nodeV node) = dueW S.w h node := rfl
  rw [hWd] at hW
  unfold dueB
  generalize dueW S.w h node = u at *
  generalize evalF h.whn u = r at *
  obtain ⟨⟨vs, vn, vb, vl⟩, e⟩ := r
  obtain ⟨timer, hn, hnode, ⟨o, s, n, a⟩, dos, send⟩ := h
  dsimp only at hE hW ⊢
  unfold smB
  (refine a_bxv fun z1 => ?_; refine a_bx fun z2 => ?_; refine a_nil ?_; refine a_fld ?_; (apply a_ldN 2 _; exact rfl; exact rfl; exact rfl); refine a_fld ?_; (apply a_ld1 1; exact rfl; exact rfl); refine a_bldV0 rfl rfl ?_; refine a_callS0 hW ?_; refine a_bx fun z3 => ?_; refine a_stA 0 rfl rfl rfl rfl ?_; refine a_fld ?_; (apply a_ldN 2 _; exact rfl; exact rfl; exact rfl); (apply a_ldA 0; exact rfl; exact rfl); refine a_call0 hE ?_; (apply a_ext; exact rfl); (apply a_ext; exact rfl); refine a_bx fun z4 => ?_; refine a_stA 0 rfl rfl rfl rfl ?_; (apply a_ldA 1; exact rfl; exact rfl); refine a_eql ?_)
  by_cases he : e = 0
  · refine a_cndT he ?_
    refine a_fld ?_
    refine ⟨⟨z4, [.i vs, .i vn, .b vb, .row 1 (vl.map bc)], .box⟩, List.mem_cons_self, rfl, ?_⟩
    refine V.a_ld1 0 rfl rfl ?_
    refine ⟨2, ⟨z2, [.i 0, .nil], .box⟩, ⟨z2, u.cs, .box⟩, .val undef, rfl, rfl, ?_, V.a_stA 0 rfl rfl rfl rfl ⟨rfl, rfl⟩, ?_⟩
    · intro hnd
      have h1 : [z4, z3, z2, z1, bs].Nodup := hnd
      simp only [List.nodup_cons, List.mem_cons, List.not_mem_nil, or_false, not_or] at h1 ⊢
      exact fun hh => h1.1.2.1 hh.symm
    refine V.a_ldA 2 rfl rfl ?_
    exact ⟨by rw [decide_eq_true he]; rfl, .cons _ (.cons _ (.cons _ (.cons _ (List.Sublist.refl _))))⟩
  · refine a_cndF he ?_
    refine ⟨2, ⟨z2, [.i 0, .nil], .box⟩, ⟨z2, u.cs, .box⟩, .val undef, rfl, rfl, V.a_stA 0 rfl rfl rfl rfl ⟨rfl, rfl⟩, ?_⟩
    refine V.a_ldA 2 rfl rfl ?_
    exact ⟨by rw [decide_eq_false he]; rfl, .cons _ (.cons _ (.cons _ (.cons _ (List.Sublist.refl _))))⟩
theorem pd_app {l : List Pn} {pd : D} {M N : List Bx} {m : Pn} {kl : D → List Bx → Prop} (h : PdR l pd M) (hl : l.length ≤ 100000) (hk : ∀ pd' M', PdR (l ++ [m]) pd' M' → kl pd' (M' ++ N)) : aapp 64 2 24 pd (.row 2 [m.cs]) (M ++ N) kl := by
  cases h with
  | nil =>
    refine a_app0 1 m.cs ⟨rfl, rfl, List.append_nil _⟩ (Pn.cs_one m) (by decide) (by decide) fun b c => ?_
    have := hk _ _ (PdR.row b c [m])
    have e1 : (([m].map Pn.cs).flatten) = m.cs := List.append_nil _
    rw [e1] at this
    exact this
  | row b c =>
    refine V.a_app 0 _ 1 m.cs rfl (flat_len Pn.cs_len l) ⟨rfl, rfl, List.append_nil _⟩ (Pn.cs_one m) (by omega) fun b' c' => ?_
    have := hk _ _ (PdR.row b' c' (l ++ [m]))
    have e1 : (((l ++ [m]).map Pn.cs).flatten) = (l.map Pn.cs).flatten ++ m.cs := by rw [List.map_append, List.flatten_append]; show _ ++ (m.cs ++ []) = _; rw [List.append_nil]
    rw [e1, List.length_append] at this
    exact this
theorem cl_pd {l : List Pn} {pd : D} {M : List Bx} (h : PdR l pd M) : cl pd = [pd] := by
  cases h with
  | nil => rfl
  | row b c => rfl
theorem doW_snoc {u : Wd} {x : As} : ∀ {l : List As} {w w1 : Wd}, doW u l w = some w1 → doW u (l ++ [x]) w = if (evalF x.to u).2 ≠ 0 then none else some (withF w1 x.nm (evalF x.to u).1)
  | [], w, w1, h => by
    rw [doW] at h
    cases h
    rw [List.nil_append, doW, doW]
  | y :: l, w, w1, h => by
    rw [doW] at h
    rw [List.cons_append, doW]
    split at h
    · cases h
    · next g =>
      rw [if_neg g]
      exact doW_snoc h
theorem doW_bad {u : Wd} {l r : List As} {w : Wd} (h : doW u l w = none) : doW u (l ++ r) w = none := by
  induction l generalizing w with
  | nil => rw [doW] at h; cases h
  | cons y l ih =>
    rw [doW] at h
    rw [List.cons_append, doW]
    split at h
    · next g => rw [if_pos g]
    · next g => rw [if_neg g]; exact ih h
theorem sendW_snoc (i : Int) (s : ByteArray) : ∀ (l : List ByteArray) (w : Wd), sendW i (l ++ [s]) w = withF (sendW i l w) s (sendV (sendW i l w) s i)
  | [], w => by rw [List.nil_append, sendW, sendW, sendW]
  | y :: l, w => by rw [List.cons_append, sendW, sendW, sendW_snoc i s l]
section
variable {p : Pr} {n : Int}
theorem c76 {bs : Nat} {S : Sm} {pd pd4 : D} {M M4 : List Bx} {l4 : List Pn} {h : Ha} {node : Int} (hp : PrOk p) (hS : SOk p n S) (hh : h ∈ p.hs) (h0 : 0 ≤ node) (h1 : node < n) (hn1 : 1 ≤ n) (hn2 : n ≤ 64) (hpd : PdR S.l pd M) (hpd4 : PdR l4 pd4 M4) (hl4 : l4.length ≤ 1000) :
    ASpec pr 76 [.p bs 0, h.d, .i node, (dueW S.w h node).d, pd4] (M4 ++ (smB bs S pd :: M)) (StepR bs S (doF S h node l4)) := by
  refine StepR.ge (s76 ?_)
  unfold A76
  have ho := handsE_all hp.hands h hh
  have hfh := ((fewB_iff p).1 hp.few).2 h hh
  obtain ⟨d1, d2, _⟩ := due_ok hp hS.w ho h0 h1
  have hdo : ∀ x ∈ h.dos, opD (dictP p) x.nm ≠ 0 ∧ sortF x.to = (becS (dictP p) x.nm, 0) := fun x hx => ⟨(ho.dos x hx).1, (ho.dos x hx).2.2.1⟩
  have hms : ∀ s ∈ h.send, s ∈ p.msgs := fun s hs => hasS_iff.1 (ho.send s hs)
  have hK60 := keyP_len hp
  have hw64 : ∀ {w : Wd}, WOk (keyP p) n w → w.names.length ≤ 64 := fun {w} hw => by rw [keys_len hw.keys]; omega
  have hsm : ∀ {w : Wd}, WOk (keyP p) n w → smallW w := fun {w} hw => smallW_of hw.right
  have hno : ∀ L, (M4 ++ (smB bs S pd :: M)).Sublist L → doF S h node l4 = none → ∃ L2 L3, L.Perm L2 ∧ L3.Sublist L2 ∧ StepR bs S (doF S h node l4) (.ret (.b false)) L3 := fun L hs hd => by
    rw [hd]
    exact ⟨_, _, List.Perm.refl _, (List.sublist_append_right M4 _).trans hs, rfl, pd, M, rfl, hpd⟩
  unfold doF
  unfold doF at hno
  have hdue := fun x l w1 hq => @doW_snoc (dueW S.w h node) x l S.w w1 hq
  have hbad : ∀ i, doW (dueW S.w h node) (h.dos.take i) S.w = none → doW (dueW S.w h node) h.dos S.w = none := fun i hi => by
    have := doW_bad (r := h.dos.drop i) hi
    rwa [List.take_append_drop] at this
  generalize dueW S.w h node = u at *
  unfold smB
  refine a_bxv fun z1 => ?_
  refine a_bxv fun z2 => ?_
  (refine a_nil ?_; refine a_fld ?_; (refine a_cN ?_; refine a_cN ?_; apply a_ldrN 0 _; exact rfl; exact rfl; exact rfl); refine a_bx fun z3 => ?_; refine a_stA 0 rfl rfl rfl rfl ?_; refine a_fld ?_; (apply a_ld1 2; exact rfl; exact rfl); refine a_lenM ?_)
  refine a_lp (σ := Nat × Wd) (fun x => [.i x.1]) (fun x => ⟨z3, x.2.cs, .box⟩ :: ⟨z2, u.cs, .box⟩ :: ⟨z1, h.cs, .box⟩ :: (M4 ++ (⟨bs, smC (ownP S.hs S.safe) S.w pd, .box⟩ :: M))) (fun x => x.1 ≤ h.dos.length ∧ doW u (h.dos.take x.1) S.w = some x.2) (fun x => h.dos.length - x.1) (0, S.w) (Gl.refl _ _) ⟨Nat.zero_le _, rfl⟩ ?_
  rintro ⟨i, wi⟩ K ⟨hi, hw⟩ hK
  dsimp only at hi hw hK ⊢
  have hwi := doW_ok hp d1 d2 (fun x hx => hdo x (List.mem_of_mem_take hx)) hS.w hw
  dsimp only [aix0, aix1, aix2, aix3, aix4, aix5, aix6, aix7, aix8]
  refine a_lss ?_
  refine a_cnd (fun q => ?_) (fun q => ?_)
  · have hlt : i < h.dos.length := by omega
    have hst := List.take_succ_eq_append_getElem hlt
    have hsn := hdue h.dos[i] _ _ hw
    rw [← hst] at hsn
    have hb := hbad (i + 1)
    rw [hsn] at hb
    have ht := (hdo _ (List.getElem_mem hlt)).2
    have hEv := c31 h.dos[i].to u
    have hef := fun (he : (evalF h.dos[i].to u).2 = 0) => (eval_okV d1 (t := h.dos[i].to) (by rw [ht]) he).2.1.len
    refine a_idxM i hlt ?_
    generalize h.dos[i] = x at *
    obtain ⟨nm, ⟨o, s, m, k⟩⟩ := x
    dsimp only at hsn hb hEv hef
    generalize evalF (.mk o s m k) u = r at *
    obtain ⟨⟨vs, vn, vb, vl⟩, e⟩ := r
    dsimp only at hsn hb hEv hef
    have hW := fun (he : e = 0) => c34 wi nm ⟨vs, vn, vb, vl⟩ (hsm hwi) (hw64 hwi) (by
      have := hef he
      dsimp only at this ⊢
      rw [this]
      split <;> omega)
    ((apply a_ldAp; exact rfl); refine a_bx fun z4 => ?_; refine a_stA 0 rfl rfl rfl rfl ?_; refine a_fld ?_; (apply a_ldN 0 _; exact rfl; exact rfl; exact rfl); (apply a_ldA 2; exact rfl; exact rfl); refine a_call0 hEv ?_; (apply a_ext; exact rfl); (apply a_ext; exact rfl); refine a_bx fun z5 => ?_; refine a_stA 0 rfl rfl rfl rfl ?_; refine a_neq ?_)
    by_cases he : e ≠ 0
    · refine a_cndT he ?_
      rw [if_pos he] at hb
      refine hno _ (.cons _ (.cons _ (.cons _ (.cons _ (.cons _ (List.Sublist.refl _)))))) ?_
      rw [hb rfl]
    · rw [if_neg he] at hsn
      refine a_cndF he ?_
      ((apply a_ldA 2; exact rfl; exact rfl); refine a_fld ?_; (apply a_ld1 1; exact rfl; exact rfl); (apply a_ldA 0; exact rfl; exact rfl); refine a_call0 (hW (Decidable.of_not_not he)) ?_; refine a_stA 2 rfl rfl rfl rfl ?_; refine a_add (by first | omega | assumption | decide) (by first | omega | assumption | decide) ?_)
      refine hK (i + 1, _) _ _ ⟨by dsimp only; omega, hsn⟩ (by dsimp only; omega) (by first | exact Gl.refl _ _ | exact Gl.drop (by repeat (first | exact List.Sublist.refl _ | exact List.Sublist.slnil | apply List.Sublist.cons_cons | apply List.Sublist.cons)))
  · rw [show h.dos.take i = h.dos from List.take_of_length_le (by omega)] at hw
    rw [hw] at hno ⊢
    dsimp only at hno ⊢
    clear hK hbad hdue hw
    refine pd_len hpd4 ?_
    (refine a_fld ?_; (apply a_ld1 2; exact rfl; exact rfl); refine a_lenM ?_; refine a_add (by first | omega | assumption | decide) (by first | omega | assumption | decide) ?_; refine a_gtr ?_)
    by_cases h256 : 256 < l4.length + h.send.length
    · refine a_cndT (by omega) ?_
      refine hno _ (.cons _ (.cons _ (.cons _ (List.Sublist.refl _)))) ?_
      rw [if_pos h256]
    refine a_cndF (by omega) ?_
    rw [if_neg h256]
    clear hno
    (refine a_fld ?_; (apply a_ld1 2; exact rfl; exact rfl); refine a_lenM ?_)
    refine a_lp (σ := Nat × D × List Bx) (fun x => [x.2.1, .i x.1]) (fun x => x.2.2 ++ (⟨z3, (sendW node (h.send.take x.1) wi).cs, .box⟩ :: ⟨z2, u.cs, .box⟩ :: ⟨z1, h.cs, .box⟩ :: ⟨bs, smC (ownP S.hs S.safe) S.w pd, .box⟩ :: M)) (fun x => x.1 ≤ h.send.length ∧ PdR (l4 ++ (h.send.take x.1).map fun s => ⟨s, node⟩) x.2.1 x.2.2) (fun x => h.send.length - x.1) (0, pd4, M4) ?_ ⟨Nat.zero_le _, by simpa using hpd4⟩ ?_
    · exact Gl.perm (perm_pull (P := [_, _, _]))
    rintro ⟨j, pdj, Mj⟩ K ⟨hj, hpj⟩ hK
    dsimp only at hj hpj hK ⊢
    have hwj := sendW_ok (i := node) hp (l := h.send.take j) hwi (fun s hs => hms s (List.mem_of_mem_take hs))
    dsimp only [aix0, aix1, aix2, aix3, aix4, aix5, aix6, aix7, aix8]
    refine a_lss ?_
    refine a_cnd (fun q2 => ?_) (fun q2 => ?_)
    · have hlt : j < h.send.length := by omega
      have hst := List.take_succ_eq_append_getElem hlt
      have hsm1 := hms _ (List.getElem_mem hlt)
      refine a_idxM j hlt ?_
      generalize h.send[j] = s at *
      have hsn := sendW_snoc node s (h.send.take j) wi
      rw [← hst] at hsn
      have hnext := (send_one hp hwj hsm1 (i := node)).1
      obtain ⟨v, g1, g2, g3, g4, _⟩ := getF_is hwj (keyP_msg hsm1)
      have hse : sendV (sendW node (h.send.take j) wi) s node = ⟨v.sort, v.n, v.b, v.s.set node.toNat true⟩ := by unfold sendV; rw [g1]; rfl
      rw [hse] at hsn
      generalize sendW node (h.send.take j) wi = wj at *
      have hne : v.s ≠ [] := by intro hh; rw [hh] at g3; simp at g3; omega
      have hW := c34 wj s ⟨v.sort, v.n, v.b, v.s.set node.toNat true⟩ (hsm hwj) (hw64 hwj) (by dsimp only; rw [List.length_set, g3]; omega)
      ((apply a_ld1p; exact rfl); (apply a_bld _; exact rfl; (try dsimp only [afill, aparts, cl, chunk, List.take, List.drop, List.nil_append, List.cons_append, List.append_nil, List.length_cons, List.length_nil, Nat.zero_add, Nat.reduceAdd, Nat.reduceMul]); try exact rfl); (apply a_bldS _; exact rfl; (try dsimp only [afill, aparts, cl, chunk, List.take, List.drop, List.nil_append, List.cons_append, List.append_nil, List.length_cons, List.length_nil, Nat.zero_add, Nat.reduceAdd, Nat.reduceMul]); try exact rfl))
      refine pd_app (m := ⟨s, node⟩) hpj ?_ fun pd' M' hp' => ?_
      · rw [List.length_append, List.length_map, List.length_take]; omega
      ((apply a_ldrA 0; exact rfl; exact rfl))
      refine a_callF (L1 := []) (M := _) (List.Perm.refl _) (get_own (hsm hwj) g1 hne) ?_
      rintro a L' ⟨b, c, rfl, rfl⟩
      simp only [AE.on, List.cons_append, List.nil_append]
      ((apply a_ext; exact rfl); (apply a_ext; exact rfl); refine a_bx fun z4 => ?_; refine a_stA 0 rfl rfl rfl rfl ?_; refine a_fld ?_; (apply a_ld1 0; exact rfl; exact rfl))
      refine V.a_idxO (by omega) (by omega) ?_
      refine a_stB 1 node.toNat rfl (by omega) ?_
      ((refine a_cN ?_; refine a_cN ?_; apply a_ldrA 0; exact rfl; exact rfl); (apply a_ldA 0; exact rfl; exact rfl))
      refine a_callg (L' := ⟨z4, v.os b c, .box⟩ :: (M' ++ (⟨z3, wj.cs, .box⟩ :: ⟨z2, u.cs, .box⟩ :: ⟨z1, h.cs, .box⟩ :: ⟨bs, smC (ownP S.hs S.safe) S.w pd, .box⟩ :: M))) (args' := [wj.d, .s s, (Vl.mk v.sort v.n v.b (v.s.set node.toNat true)).d]) ?_ ?_
      · exact gl_fzB' bc_len (v.s.set node.toNat true) 1 rfl (by rw [List.length_set]) (.cons (.refl _) (.cons (.refl _) (.cons (.agg (.cons (.refl _) (.cons (.refl _) (.cons (.refl _) (.cons .hit .nil))))) .nil))) (WkB.refl _ _ _)
      refine a_call0 hW ?_
      ((refine a_cS ?_; refine a_strA 0 rfl rfl rfl rfl ?_); refine a_add (by first | omega | assumption | decide) (by first | omega | assumption | decide) ?_)
      have hl : l4 ++ (h.send.take (j + 1)).map (fun s => (⟨s, node⟩ : Pn)) = (l4 ++ (h.send.take j).map fun s => (⟨s, node⟩ : Pn)) ++ [⟨s, node⟩] := by rw [hst, List.map_append, List.append_assoc]; rfl
      refine hK (j + 1, pd', M') _ _ ⟨by dsimp only; omega, by dsimp only; rw [hl]; exact hp'⟩ (by dsimp only; omega) ?_
      dsimp only
      rw [hsn]
      exact Gl.drop (List.sublist_cons_self _ _)
    · rw [show h.send.take j = h.send from List.take_of_length_le (by omega)] at hpj ⊢
      clear hK
      generalize sendW node h.send wi = wT
      generalize l4 ++ h.send.map (fun s => (⟨s, node⟩ : Pn)) = lT at *
      have hcl := cl_pd hpj
      ((apply a_ldrA 0; exact rfl; exact rfl); refine a_nil ?_; refine a_fld ?_; refine a_str 3 (smC (ownP S.hs S.safe) wT pd) rfl rfl rfl rfl rfl ?_; refine a_nil ?_; refine a_fld ?_)
      refine a_str 3 (smC (ownP S.hs S.safe) wT pdj) rfl (pd_one hpj).1 (pd_one hpj).2 rfl (by rw [hcl]; rfl) ?_
      refine ⟨smB bs ⟨S.hs, S.safe, wT, lT⟩ pdj :: (Mj ++ (⟨z3, wT.cs, .box⟩ :: ⟨z2, u.cs, .box⟩ :: ⟨z1, h.cs, .box⟩ :: M)), smB bs ⟨S.hs, S.safe, wT, lT⟩ pdj :: Mj, ?_, .cons_cons _ (List.sublist_append_left _ _), rfl, pdj, Mj, rfl, hpj⟩
      have := List.perm_middle (l₁ := Mj ++ [(⟨z3, wT.cs, .box⟩ : Bx), ⟨z2, u.cs, .box⟩, ⟨z1, h.cs, .box⟩]) (a := smB bs ⟨S.hs, S.safe, wT, lT⟩ pdj) (l₂ := M)
      rw [List.append_assoc, List.append_assoc] at this
      exact this
end
end Go.Proofs.YtdalobojhfafbaaGreatDoor
set_option maxRecDepth 100000
set_option linter.unusedVariables false
namespace Go.V
open Go
theorem handF_none {w : Wd} {m : Pn} {l : List Ha} {k : Nat} (hk : k < l.length) (h : ¬ (l[k].timer = false ∧ l[k].nm = m.nm ∧ dueB w l[k] m.node = true)) : handF w m (l.drop k) = handF w m (l.drop (k + 1)) := by
  rw [List.drop_eq_getElem_cons hk, handF, if_neg h]
theorem handF_some {w : Wd} {m : Pn} {l : List Ha} {k : Nat} (hk : k < l.length) (h : l[k].timer = false ∧ l[k].nm = m.nm ∧ dueB w l[k] m.node = true) : handF w m (l.drop k) = some l[k] := by
  rw [List.drop_eq_getElem_cons hk, handF, if_pos h]
theorem perm_xyz {α : Type} {A M : List α} {x y z : α} : (A ++ M ++ [x, y, z]).Perm (A ++ (z :: M) ++ [x, y]) := by
  have h1 : (A ++ M ++ [x, y, z]).Perm (z :: (A ++ M ++ [x, y])) := by
    rw [show A ++ M ++ [x, y, z] = (A ++ M ++ [x, y]) ++ [z] by simp]
    exact List.perm_append_singleton z _
  have h2 : (A ++ (z :: M) ++ [x, y]).Perm (z :: (A ++ M) ++ [x, y]) := List.Perm.append_right _ List.perm_middle
  exact h1.trans h2.symm
end Go.V
namespace Go.Proofs.YtdalobojhfafbaaGreatDoor
open Go Go.V
section
variable {p : Pr} {n : Int}
theorem c37 {bs : Nat} {S : Sm} {L : List Bx} (hp : PrOk p) (hS : SOk p n S) (hn1 : 1 ≤ n) (hn2 : n ≤ 64) (h : SimR bs S L) (i : Int) : ASpec pr 37 [.p bs 0, .i i] L (StepR bs S (DeliverF S i)) := by
  obtain ⟨pd, M, rfl, hpd⟩ := h
  refine StepR.ge (s37 ?_)
  unfold A37
  have hT := c61 (bs := bs) (S := S) hpd i
  have hl256 := hS.few
  refine a_callR hT ?_
  unfold DeliverF
  cases ht : thereB S.l i with
  | false =>
    (refine a_not ?_; refine a_cndbT rfl ?_)
    rw [if_neg (by decide)]
    exact ⟨_, _, List.Perm.refl _, List.Sublist.refl _, rfl, pd, M, rfl, hpd⟩
  | true =>
    rw [if_pos rfl]
    unfold thereB at ht
    simp only [Bool.and_eq_true, decide_eq_true_eq] at ht
    have hlt : i.toNat < S.l.length := by omega
    have hi : i = (i.toNat : Int) := by omega
    have hget : S.l.getD i.toNat pnz = S.l[i.toNat] := by rw [List.getD_eq_getElem?_getD, List.getElem?_eq_getElem hlt]; rfl
    rw [hget]
    have hpend := hS.pend _ (List.getElem_mem hlt)
    have herase : ∀ m ∈ S.l.eraseIdx i.toNat, m ∈ S.l := fun m hm => List.mem_of_mem_eraseIdx hm
    have hel : (S.l.eraseIdx i.toNat).length ≤ 1000 := by have := List.length_eraseIdx_le S.l i.toNat; omega
    have hidx : ∀ {k : D → Prop} {A : List Bx}, k (.agg S.l[i.toNat].cs) → aidxS 2 pd (.i i) fun q => aldN 2 q (A ++ M) k := fun {k A} hk => by
      generalize hX : S.l[i.toNat] = x at hk
      have hX2 : S.l[i.toNat]? = some x := by rw [List.getElem?_eq_getElem hlt, hX]
      clear hX hget hpend herase hel
      generalize S.l = l at *
      cases hpd with
      | nil => exact absurd hlt (Nat.not_lt_zero _)
      | row b c =>
        refine V.a_idxO (by omega) (by omega) ?_
        obtain ⟨hq, hx⟩ := List.getElem?_eq_some_iff.1 hX2
        refine a_ldG Pn.cs_len A.length i.toNat (by rw [List.getElem?_append_right (Nat.le_refl _), Nat.sub_self]; rfl) hq ?_
        rw [hx]; exact hk
    generalize S.l[i.toNat] = m at *
    obtain ⟨nm, node⟩ := m
    dsimp only at hpend
    unfold smB
    (refine a_not ?_; refine a_cndbF rfl ?_; refine a_nil ?_; refine a_fld ?_; (apply a_ld1 0; exact rfl; exact rfl); refine hidx (A := [_]) ?_; refine a_bx fun z1 => ?_; refine a_stA 0 rfl rfl rfl rfl ?_; refine a_nil ?_; refine a_fld ?_; (apply a_ld1 1; exact rfl; exact rfl))
    refine a_callF (L1 := M) (M := [_, _]) (List.perm_append_comm (l₁ := [_, _])) (clone_pd hpd (by omega)) ?_
    rintro a L' ⟨pd1, M1, rfl, rfl, hp1⟩
    simp only [AE.on]
    (refine a_add (by first | omega | assumption | decide) (by first | omega | assumption | decide) ?_)
    generalize hSl : S.l = l at *
    cases hp1 with
    | nil => exact absurd hlt (Nat.not_lt_zero _)
    | row b c =>
    have hD := del_pd (l := l) (b := b) (c := c) i.toNat hlt
    rw [show ((i.toNat + 1 : Nat) : Int) = i + 1 by omega, ← hi] at hD
    refine a_callF (L1 := [_]) (M := M ++ [_, _]) (by rw [List.append_assoc]) hD ?_
    rintro a L' ⟨rfl, rfl⟩
    simp only [AE.on]
    have hrest := PdR.row b c (l.eraseIdx i.toNat)
    generalize hre : l.eraseIdx i.toNat = rest at *
    (refine a_nil ?_; refine a_fld ?_; refine a_fld ?_)
    refine a_c1 ?_
    (apply a_ldr1 (A := M) 1; exact rfl; exact rfl)
    refine a_lenM ?_
    rw [show (ownP S.hs S.safe).hs = S.hs from rfl]
    have hh32 : S.hs.length ≤ 32 := by rw [hS.hs]; exact ((fewB_iff p).1 hp.few).1.2.1
    refine a_lp (σ := Nat) (fun k => [.i k]) (fun _ => ⟨z1, [.s nm, .i node], .box⟩ :: ⟨b, (rest.map Pn.cs).flatten, .row 64 2 c⟩ :: smB bs S pd :: M) (fun k => k ≤ S.hs.length ∧ handF S.w ⟨nm, node⟩ (S.hs.drop k) = handF S.w ⟨nm, node⟩ S.hs) (fun k => S.hs.length - k) 0 ?_ ⟨Nat.zero_le _, rfl⟩ ?_
    · refine Gl.perm ?_
      exact (List.Perm.cons _ (List.perm_append_comm (l₂ := [_, _]))).trans (List.Perm.swap _ _ _)
    rintro k K ⟨hk, hf⟩ hK
    dsimp only [aix0, aix1, aix2, aix3, aix4, aix5, aix6, aix7, aix8]
    refine a_lss ?_
    refine a_cnd (fun q => ?_) (fun q => ?_)
    · have hltk : k < S.hs.length := by omega
      have hno := handF_none (w := S.w) (m := ⟨nm, node⟩) hltk
      have hyes := handF_some (w := S.w) (m := ⟨nm, node⟩) hltk
      have hmem : S.hs[k] ∈ p.hs := by rw [← hS.hs]; exact List.getElem_mem hltk
      have hDue := c75 (bs := bs) (S := S) (pd := pd) hS.w.right (by rw [keys_len hS.w.keys]; have := keyP_len hp; omega) S.hs[k] node
      have hDo := c76 (bs := bs) (pd := pd) (M := M) hp hS hmem hpend.2.1 hpend.2.2.1 hn1 hn2 (by rw [hSl]; exact hpd) hrest hel
      refine a_idxM k hltk ?_
      generalize hh : S.hs[k] = x at *
      obtain ⟨timer, hn, hnode, ⟨wo, ws, wn, wa⟩, dos, send⟩ := x
      dsimp only at hno hyes
      unfold smB
      ((apply a_ldAp; exact rfl); refine a_bx fun z2 => ?_; refine a_stA 0 rfl rfl rfl rfl ?_)
      refine a_jn (σ := Unit) (fun _ => []) (fun _ => ⟨z2, (Ha.mk timer hn hnode (.mk wo ws wn wa) dos send).cs, .box⟩ :: ⟨z1, [.s nm, .i node], .box⟩ :: ⟨b, (rest.map Pn.cs).flatten, .row 64 2 c⟩ :: smB bs S pd :: M) (fun _ => timer = false ∧ hn = nm) ?_ fun J hJ => ?_
      · rintro _ ⟨ht1, ht2⟩
        unfold smB
        ((apply a_ldA 0; exact rfl; exact rfl); refine a_fld ?_; (apply a_ld1 1; exact rfl; exact rfl))
        refine a_callR (AFn.frameM [_, _, _] (AFn.frameL M hDue)) ?_
        generalize dueW S.w ⟨timer, hn, hnode, .mk wo ws wn wa, dos, send⟩ node = u at *
        cases hdb : dueB S.w ⟨timer, hn, hnode, .mk wo ws wn wa, dos, send⟩ node with
        | true =>
          ((apply a_ext; exact rfl); (apply a_ext; exact rfl); refine a_bx fun z3 => ?_; refine a_stA 0 rfl rfl rfl rfl ?_; refine a_cndbT rfl ?_; (apply a_ldA 1; exact rfl; exact rfl); refine a_fld ?_; (apply a_ld1 2; exact rfl; exact rfl); (apply a_ldA 0; exact rfl; exact rfl))
          rw [← hf, hyes ⟨ht1, ht2, hdb⟩]
          dsimp only
          refine a_callF (L1 := [_] ++ (smB bs S pd :: M)) (M := [_, _, _]) (List.perm_append_comm (l₁ := [_, _, _])) hDo ?_
          rintro a L' ⟨rfl, hR⟩
          simp only [AE.on]
          exact ⟨_, L', List.Perm.refl _, List.sublist_append_left _ _, rfl, hR⟩
        | false =>
          ((apply a_ext; exact rfl); (apply a_ext; exact rfl); refine a_bx fun z3 => ?_; refine a_stA 0 rfl rfl rfl rfl ?_; refine a_cndbF rfl ?_; refine a_add (by first | omega | assumption | decide) (by first | omega | assumption | decide) ?_)
          refine hK (k + 1) _ _ ⟨by omega, ?_⟩ (by omega) (by first | exact Gl.refl _ _ | exact Gl.drop (by repeat (first | exact List.Sublist.refl _ | exact List.Sublist.slnil | apply List.Sublist.cons_cons | apply List.Sublist.cons)))
          rw [← hno (fun hq => by rw [hdb] at hq; cases hq.2.2)]; exact hf
      · have hskip : ¬ (timer = false ∧ hn = nm) → handF S.w ⟨nm, node⟩ (S.hs.drop (k + 1)) = handF S.w ⟨nm, node⟩ S.hs := fun hq => by
          rw [← hno (fun hh => hq ⟨hh.1, hh.2.1⟩)]; exact hf
        cases timer with
        | true =>
          (refine a_fld ?_; (apply a_ld1 0; exact rfl; exact rfl); refine a_cndbT rfl ?_; refine a_add (by first | omega | assumption | decide) (by first | omega | assumption | decide) ?_)
          exact hK (k + 1) _ _ ⟨by omega, hskip (fun hq => by cases hq.1)⟩ (by omega) (by first | exact Gl.refl _ _ | exact Gl.drop (by repeat (first | exact List.Sublist.refl _ | exact List.Sublist.slnil | apply List.Sublist.cons_cons | apply List.Sublist.cons)))
        | false =>
          (refine a_fld ?_; (apply a_ld1 0; exact rfl; exact rfl); refine a_cndbF rfl ?_; refine a_fld ?_; (apply a_ld1 0; exact rfl; exact rfl); refine a_fld ?_; (apply a_ld1 1; exact rfl; exact rfl); refine a_neqS ?_)
          by_cases hq : hn = nm
          · subst hq
            refine a_cndF (fun h => h rfl) ?_
            exact hJ () _ _ ⟨rfl, rfl⟩ (Gl.refl _ _)
          · refine a_cndT hq ?_
            (refine a_add (by first | omega | assumption | decide) (by first | omega | assumption | decide) ?_)
            exact hK (k + 1) _ _ ⟨by omega, hskip (fun h => hq h.2)⟩ (by omega) (by first | exact Gl.refl _ _ | exact Gl.drop (by repeat (first | exact List.Sublist.refl _ | exact List.Sublist.slnil | apply List.Sublist.cons_cons | apply List.Sublist.cons)))
    · rw [List.drop_of_length_le (by omega), handF] at hf
      rw [← hf]
      dsimp only
      unfold smB
      (refine a_nil ?_; refine a_fld ?_; refine V.a_st 2 (smC (ownP S.hs S.safe) S.w (.sl b 0 rest.length c)) rfl rfl rfl rfl rfl ?_)
      refine ⟨_, smB bs ⟨S.hs, S.safe, S.w, rest⟩ (.sl b 0 rest.length c) :: [⟨b, (rest.map Pn.cs).flatten, .row 64 2 c⟩], (List.Perm.cons _ (List.Perm.swap _ _ _)).trans (List.Perm.refl _), ?_, rfl, _, _, rfl, hrest⟩
      exact .cons _ (.cons_cons _ (.cons_cons _ (List.nil_sublist _)))
theorem c36 {bs : Nat} {S : Sm} {L : List Bx} (hp : PrOk p) (hS : SOk p n S) (hn1 : 1 ≤ n) (hn2 : n ≤ 64) (h : SimR bs S L) (i node : Int) : ASpec pr 36 [.p bs 0, .i i, .i node] L (StepR bs S (TimerF S i node)) := by
  obtain ⟨pd, M, rfl, hpd⟩ := h
  refine StepR.ge (s36 ?_)
  unfold A36
  have hl256 := hS.few
  have hfail : TimerF S i node = none → ∃ L2 L3, (smB bs S pd :: M).Perm L2 ∧ L3.Sublist L2 ∧ StepR bs S (TimerF S i node) (.ret (.b false)) L3 := fun e => by
    rw [e]; exact ⟨_, _, List.Perm.refl _, List.Sublist.refl _, rfl, pd, M, rfl, hpd⟩
  refine a_jn (σ := Unit) (fun _ => []) (fun _ => smB bs S pd :: M) (fun _ => 0 ≤ i ∧ i < S.hs.length ∧ (S.hs.getD i.toNat hz).timer = true ∧ 0 ≤ node ∧ node < S.w.nodes) ?_ fun J hJ => ?_
  · rintro _ ⟨h0, h1, h2, h3, h4⟩
    have hTi : TimerF S i node = if dueB S.w (S.hs.getD i.toNat hz) node = true then doF S (S.hs.getD i.toNat hz) node S.l else none := by
      unfold TimerF
      by_cases hd : dueB S.w (S.hs.getD i.toNat hz) node = true
      · rw [if_pos ⟨h0, h1, h2, h3, h4, hd⟩, if_pos hd]
      · rw [if_neg (fun hh => hd hh.2.2.2.2.2), if_neg hd]
    rw [hTi] at hfail ⊢
    have hlt : i.toNat < S.hs.length := by omega
    have hi : i = (i.toNat : Int) := by omega
    have hget : S.hs.getD i.toNat hz = S.hs[i.toNat] := by rw [List.getD_eq_getElem?_getD, List.getElem?_eq_getElem hlt]; rfl
    rw [hget] at hfail h2 ⊢
    have hmem : S.hs[i.toNat] ∈ p.hs := by rw [← hS.hs]; exact List.getElem_mem hlt
    have hDue := c75 (bs := bs) (S := S) (pd := pd) hS.w.right (by rw [keys_len hS.w.keys]; have := keyP_len hp; omega) S.hs[i.toNat] node
    have hDo := fun (pd4 : D) (M4 : List Bx) (hp4 : PdR S.l pd4 M4) => c76 (bs := bs) (pd := pd) (M := M) (n := n) hp hS hmem h3 (by have := hS.w.nodes; omega) hn1 hn2 hpd hp4 (by omega)
    generalize hk : i.toNat = k at *
    subst hi
    unfold smB
    (refine a_nil ?_; refine a_fld ?_; refine a_fld ?_; (apply a_ld1 0; exact rfl; exact rfl); refine a_idxM k hlt ?_; (apply a_ldAp; exact rfl); refine a_bx fun z1 => ?_; refine a_stA 0 rfl rfl rfl rfl ?_; (apply a_ldA 0; exact rfl; exact rfl))
    rw [show (ownP S.hs S.safe).hs[k]'hlt = S.hs[k] from rfl]
    generalize S.hs[k] = x at *
    obtain ⟨timer, hn, hnode, ⟨wo, ws, wn, wa⟩, dos, send⟩ := x
    skip
    refine a_callR (AFn.frameM [_] (AFn.frameL M hDue)) ?_
    generalize dueW S.w ⟨timer, hn, hnode, .mk wo ws wn wa, dos, send⟩ node = u at *
    cases hdb : dueB S.w ⟨timer, hn, hnode, .mk wo ws wn wa, dos, send⟩ node with
    | true =>
      rw [if_pos rfl]
      ((apply a_ext; exact rfl); (apply a_ext; exact rfl); refine a_bx fun z2 => ?_; refine a_stA 0 rfl rfl rfl rfl ?_; refine a_cndbT rfl ?_)
      refine ⟨⟨z1, (Ha.mk timer hn hnode (.mk wo ws wn wa) dos send).cs, .box⟩, List.mem_cons_of_mem _ List.mem_cons_self, rfl, ?_⟩
      refine V.a_ldA 0 rfl rfl ?_
      refine ⟨⟨z2, u.cs, .box⟩, List.mem_cons_self, rfl, ?_⟩
      refine V.a_ldA 0 rfl rfl ?_
      (refine a_nil ?_; refine a_fld ?_; (apply a_ld1 2; exact rfl; exact rfl))
      refine a_callF (L1 := M) (M := [_, _, _]) (List.perm_append_comm (l₁ := [_, _, _])) (clone_pd hpd (by omega)) ?_
      rintro a L' ⟨pd1, M1, rfl, rfl, hp1⟩
      simp only [AE.on]
      have hpm : (M1 ++ M ++ [⟨z2, u.cs, .box⟩, ⟨z1, (Ha.mk timer hn hnode (.mk wo ws wn wa) dos send).cs, .box⟩, smB bs S pd]).Perm (M1 ++ (smB bs S pd :: M) ++ [⟨z2, u.cs, .box⟩, ⟨z1, (Ha.mk timer hn hnode (.mk wo ws wn wa) dos send).cs, .box⟩]) := perm_xyz
      refine ⟨fun x hx _ => hpm.mem_iff.2 ?_, ?_⟩
      · have hx2 : x ∈ (⟨z2, u.cs, .box⟩ : Bx) :: ⟨z1, (Ha.mk timer hn hnode (.mk wo ws wn wa) dos send).cs, .box⟩ :: smB bs S pd :: M := hx
        simp only [List.mem_append, List.mem_cons, List.not_mem_nil, or_false] at hx2 ⊢
        rcases hx2 with h | h | h | h
        · exact .inr (.inl h)
        · exact .inr (.inr h)
        · exact .inl (.inr (.inl h))
        · exact .inl (.inr (.inr h))
      refine a_callF (L1 := M1 ++ (smB bs S pd :: M)) (M := [_, _]) hpm (hDo pd1 M1 hp1) ?_
      rintro a L' ⟨rfl, hR⟩
      simp only [AE.on]
      exact ⟨_, L', List.Perm.refl _, List.sublist_append_left _ _, rfl, hR⟩
    | false =>
      rw [if_neg (by decide)]
      ((apply a_ext; exact rfl); (apply a_ext; exact rfl); refine a_bx fun z2 => ?_; refine a_stA 0 rfl rfl rfl rfl ?_; refine a_cndbF rfl ?_)
      exact ⟨_, smB bs S pd :: M, List.Perm.refl _, .cons _ (.cons _ (List.Sublist.refl _)), rfl, pd, M, rfl, hpd⟩
  · refine a_lss ?_
    refine a_cnd (fun q0 => hfail (if_neg fun h => ?_)) (fun q0 => ?_)
    · omega
    unfold smB
    have hoh : (ownP S.hs S.safe).hs = S.hs := rfl
    (refine a_nil ?_; refine a_fld ?_; refine a_fld ?_; (apply a_ld1 0; exact rfl; exact rfl); refine a_lenM ?_; refine a_geq ?_)
    refine a_cnd (fun q1 => hfail (if_neg fun h => ?_)) (fun q1 => ?_)
    · exact absurd h.2.1 (by rw [← hoh]; omega)
    rw [hoh] at q1
    have hlt : i.toNat < S.hs.length := by omega
    have hi : i = (i.toNat : Int) := by omega
    have hget : S.hs.getD i.toNat hz = S.hs[i.toNat] := by rw [List.getD_eq_getElem?_getD, List.getElem?_eq_getElem hlt]; rfl
    rw [hget] at hJ
    (refine a_nil ?_; refine a_fld ?_; refine a_fld ?_; (apply a_ld1 0; exact rfl; exact rfl))
    refine a_idxMz i.toNat hi hlt ?_
    rw [show (ownP S.hs S.safe).hs[i.toNat]'hlt = S.hs[i.toNat] from rfl]
    have hfail2 : ¬ (S.hs[i.toNat].timer = true ∧ 0 ≤ node ∧ node < S.w.nodes) → ∃ L2 L3, (smB bs S pd :: M).Perm L2 ∧ L3.Sublist L2 ∧ StepR bs S (TimerF S i node) (.ret (.b false)) L3 := fun q => hfail (if_neg fun h => q ⟨by rw [← hget]; exact h.2.2.1, h.2.2.2.1, h.2.2.2.2.1⟩)
    clear hfail hget
    generalize S.hs[i.toNat] = x at *
    obtain ⟨timer, hn, hnode, ⟨wo, ws, wn, wa⟩, dos, send⟩ := x
    cases timer with
    | false => (refine a_fldp ?_; (apply a_ld1p; exact rfl); refine a_not ?_; refine a_cndbT rfl ?_); exact hfail2 fun h => by cases h.1
    | true =>
      (refine a_fldp ?_; (apply a_ld1p; exact rfl); refine a_not ?_; refine a_cndbF rfl ?_; refine a_lss ?_)
      refine a_cnd (fun q2 => hfail2 fun h => ?_) (fun q2 => ?_)
      · omega
      (refine a_nil ?_; refine a_fld ?_; refine a_fld ?_; (apply a_ld1 0; exact rfl; exact rfl); refine a_geq ?_)
      refine a_cnd (fun q3 => hfail2 fun h => ?_) (fun q3 => ?_)
      · omega
      exact hJ () _ _ ⟨by omega, by omega, rfl, by omega, by omega⟩ (Gl.refl _ _)
end
end Go.Proofs.YtdalobojhfafbaaGreatDoor
