/- Contracts of layer 18: things that nobody else has. -/
import Derived.Test.YtdalobojhfafbaaGreatDoorC61
import Derived.Test.YtdalobojhfafbaaGreatDoorM15
import Derived.Test.YtdalobojhfafbaaGreatDoorW19
import Derived.Test.YtdalobojhfafbaaGreatDoorT3
import Derived.Test.YtdalobojhfafbaaGreatDoorM37
set_option maxRecDepth 100000
set_option linter.unusedVariables false
namespace Go.V
open Go
def cs1 (s : ByteArray) : List D := [.s s]
theorem kid_sizes {t : Tm} {n : Nat} (h : t.size ≤ n) : t.a.length ≤ n ∧ ∀ x ∈ t.a, x.size ≤ n := by
  cases t with | mk o s m a =>
  rw [Tm.size] at h
  refine ⟨by have := Tm.len_size a; show a.length ≤ n; omega, fun x hx => ?_⟩
  have : ∀ l : List Tm, x ∈ l → x.size ≤ Tm.sizeL l := by
    intro l
    induction l with
    | nil => intro h; cases h
    | cons y r ih =>
      intro h
      rw [Tm.sizeL_cons]
      rcases List.mem_cons.1 h with rfl | h
      · omega
      · have := ih h; omega
  have := this a hx
  omega
end Go.V
namespace Go.Proofs.YtdalobojhfafbaaGreatDoor
open Go Go.V
theorem each_tm (a : List Tm) (hl : a.length ≤ 100000) (h : ∀ x ∈ a, AFn pr 77 [x.d] [] (.ret x.d)) : AFn pr 123 [.row 4 (Tm.rows a), .fn 77 [] []] [] (.ret (.row 4 (Tm.rows a))) := by
  refine AFn.ofGe (s123 ?_)
  unfold A123
  rw [Tm.rows_eq]
  refine a_lenM ?_
  refine a_lp (σ := Nat × Nat × Nat) (fun x => [gv x.2.1 x.2.2 (a.take x.1), .i x.1]) (fun x => gb Tm.cs 27 4 x.2.1 x.2.2 (a.take x.1)) (fun x => x.1 ≤ a.length) (fun x => a.length - x.1) (0, 0, 0) (Gl.refl _ _) (Nat.zero_le _) ?_
  rintro ⟨i, b, c⟩ K hi hK
  dsimp only at hi hK ⊢
  dsimp only [aix0, aix1, aix2, aix3, aix4, aix5, aix6, aix7, aix8]
  refine a_lss ?_
  refine a_cnd (fun q => ?_) (fun q => ?_)
  · have hlt : i < a.length := by omega
    have hst := List.take_succ_eq_append_getElem hlt
    have hx := h _ (List.getElem_mem hlt)
    refine a_idxM i hlt ?_
    generalize a[i] = t at *
    cases t with | mk o s n k =>
    ((apply a_ldAp; exact rfl); refine a_bx fun z1 => ?_; refine a_stA 0 rfl rfl rfl rfl ?_; (apply a_ldA 0; exact rfl; exact rfl); refine a_call0 hx ?_; refine a_rowS1 rfl ?_)
    rw [show Tm.rows [Tm.mk o s n k] = [(Tm.mk o s n k).cs] from by rw [Tm.rows_eq]; rfl]
    refine a_appAll (M := [_]) (N := []) (r := [Tm.mk o s n k]) Tm.cs_len Tm.cs_one ?_ (by rw [List.append_nil]; rfl) fun b' c' L' hL => ?_
    · simp only [List.length_take, List.length_cons, List.length_nil]; omega
    (refine a_add (by first | omega | assumption | decide) (by first | omega | assumption | decide) ?_)
    refine hK (i + 1, b', c') _ _ (by dsimp only; omega) (by dsimp only; omega) ?_
    dsimp only
    rw [hst]
    exact Gl.trans (Gl.perm hL) (Gl.drop (by rw [List.append_nil]; exact List.sublist_cons_self _ _))
  · rw [show a.take i = a from List.take_of_length_le (by omega)]
    exact ge_gvR (M := []) (N := []) Tm.cs_len (List.Perm.of_eq (List.append_nil _).symm)
theorem c77 (t : Tm) : t.size ≤ 2000 → AFn pr 77 [t.d] [] (.ret t.d) := by
  induction t using Tm.ind' with
  | _ t ih =>
  intro hs
  obtain ⟨hl, hk⟩ := kid_sizes hs
  have hE := each_tm t.a (by omega) fun x hx => ih x hx (hk x hx)
  refine AFn.ofGe (s77 ?_)
  unfold A77
  cases t with | mk o s n a =>
  (refine a_bxv fun z1 => ?_; refine a_bx fun z2 => ?_; refine a_fld ?_; (apply a_ld1 1; exact rfl; exact rfl); refine a_call0 hE ?_; refine a_fld ?_; (apply a_st 1 _; exact rfl; exact rfl; exact rfl; exact rfl; (try dsimp only [afill, aparts, cl, chunk, List.take, List.drop, List.nil_append, List.cons_append, List.append_nil, List.length_cons, List.length_nil, Nat.zero_add, Nat.reduceAdd, Nat.reduceMul]); try exact rfl); (apply a_ldA 1; exact rfl; exact rfl); refine a_stA 0 rfl rfl rfl rfl ?_; (apply a_ldA 0; exact rfl; exact rfl))
  exact ge_drop _ _
theorem c125 (x : As) (h : x.to.size ≤ 2000) : AFn pr 125 [.agg x.cr] [] (.ret (.agg x.cr)) := by
  refine AFn.ofGe (s125 ?_)
  unfold A125
  obtain ⟨nm, ⟨o, s, n, a⟩⟩ := x
  have hT := c77 (.mk o s n a) h
  (refine a_bxv fun z1 => ?_; refine a_bx fun z2 => ?_; refine a_fld ?_; (apply a_ld1 1; exact rfl; exact rfl); refine a_fld ?_; (apply a_ldN 1 _; exact rfl; exact rfl; exact rfl); refine a_callS0 hT ?_; (apply a_bld _; exact rfl; (try dsimp only [afill, aparts, cl, chunk, List.take, List.drop, List.nil_append, List.cons_append, List.append_nil, List.length_cons, List.length_nil, Nat.zero_add, Nat.reduceAdd, Nat.reduceMul]); try exact rfl); refine a_stA 0 rfl rfl rfl rfl ?_; (apply a_ldA 0; exact rfl; exact rfl))
  exact ge_drop _ _
theorem c124 (a : List As) (hl : a.length ≤ 100000) (h : ∀ x ∈ a, x.to.size ≤ 2000) : AFn pr 124 [.row 5 (a.map As.cr), .fn 125 [] []] [] (.ret (.row 5 (a.map As.cr))) := by
  refine AFn.ofGe (s124 ?_)
  unfold A124
  refine a_lenM ?_
  refine a_lp (σ := Nat × Nat × Nat) (fun x => [gv x.2.1 x.2.2 (a.take x.1), .i x.1]) (fun x => gb As.cr 68 5 x.2.1 x.2.2 (a.take x.1)) (fun x => x.1 ≤ a.length) (fun x => a.length - x.1) (0, 0, 0) (Gl.refl _ _) (Nat.zero_le _) ?_
  rintro ⟨i, b, c⟩ K hi hK
  dsimp only at hi hK ⊢
  dsimp only [aix0, aix1, aix2, aix3, aix4, aix5, aix6, aix7, aix8]
  refine a_lss ?_
  refine a_cnd (fun q => ?_) (fun q => ?_)
  · have hlt : i < a.length := by omega
    have hst := List.take_succ_eq_append_getElem hlt
    have hx := c125 _ (h _ (List.getElem_mem hlt))
    refine a_idxM i hlt ?_
    generalize a[i] = t at *
    obtain ⟨nm, ⟨o, s, n, k⟩⟩ := t
    ((apply a_ldAp; exact rfl); refine a_bx fun z1 => ?_; refine a_stA 0 rfl rfl rfl rfl ?_; (apply a_ldA 0; exact rfl; exact rfl); refine a_call0 hx ?_; (apply a_bldS _; exact rfl; (try dsimp only [afill, aparts, cl, chunk, List.take, List.drop, List.nil_append, List.cons_append, List.append_nil, List.length_cons, List.length_nil, Nat.zero_add, Nat.reduceAdd, Nat.reduceMul]); try exact rfl))
    refine a_appAll (M := [_]) (N := []) (r := [(⟨nm, .mk o s n k⟩ : As)]) As.cr_len As.cr_one ?_ (by rw [List.append_nil]; rfl) fun b' c' L' hL => ?_
    · simp only [List.length_take, List.length_cons, List.length_nil]; omega
    (refine a_add (by first | omega | assumption | decide) (by first | omega | assumption | decide) ?_)
    refine hK (i + 1, b', c') _ _ (by dsimp only; omega) (by dsimp only; omega) ?_
    dsimp only
    rw [hst]
    exact Gl.trans (Gl.perm hL) (Gl.drop (by rw [List.append_nil]; exact List.sublist_cons_self _ _))
  · rw [show a.take i = a from List.take_of_length_le (by omega)]
    exact ge_gvR (M := []) (N := []) As.cr_len (List.Perm.of_eq (List.append_nil _).symm)
theorem c126 (l : List ByteArray) (hl : l.length ≤ 100000) : AFn pr 126 [.row 1 (sT l)] [] (.ret (.row 1 (sT l))) := by
  refine AFn.ofGe (s126 ?_)
  unfold A126
  unfold sT
  refine a_eqSn (fun h => ?_) ?_
  · rw [h]
    exact ge_nil
  · refine a_cndbF rfl ?_
    refine a_bldO [] rfl rfl fun z1 => ?_
    refine a_app 0 [] l.length (l.map cs1).flatten rfl rfl ⟨rfl, by rw [List.length_map], rfl⟩ (flat_one (fun _ => rfl) l) (by omega) fun b' c' => ?_
    rw [Nat.zero_add]
    exact ge_row (f := cs1) (fun _ => rfl) 0 rfl
structure HaFew (h : Ha) : Prop where
  whn : h.whn.size ≤ 2000
  dos : h.dos.length ≤ 32
  send : h.send.length ≤ 32
  tos : ∀ x ∈ h.dos, x.to.size ≤ 2000
theorem c79 (h : Ha) (hf : HaFew h) : AFn pr 79 [h.d] [] (.ret h.d) := by
  refine AFn.ofGe (s79 ?_)
  unfold A79
  obtain ⟨h1, h2, h3, h4⟩ := hf
  obtain ⟨timer, hn, hnode, ⟨o, s, n, a⟩, dos, send⟩ := h
  dsimp only at h1 h2 h3 h4
  have hT := c77 (.mk o s n a) h1
  have hE := c124 dos (by omega) h4
  have hC := c126 send (by omega)
  (refine a_bxv fun z1 => ?_; refine a_bx fun z2 => ?_; refine a_fld ?_; (apply a_ldN 1 _; exact rfl; exact rfl; exact rfl); refine a_callS0 hT ?_; refine a_fld ?_; (apply a_ld1 1; exact rfl; exact rfl); refine a_callS0 hE ?_; refine a_fld ?_; (apply a_ld1 1; exact rfl; exact rfl); refine a_callS0 hC ?_; refine a_fld ?_; (apply a_st 1 _; exact rfl; exact rfl; exact rfl; exact rfl; (try dsimp only [afill, aparts, cl, chunk, List.take, List.drop, List.nil_append, List.cons_append, List.append_nil, List.length_cons, List.length_nil, Nat.zero_add, Nat.reduceAdd, Nat.reduceMul]); try exact rfl); refine a_fld ?_; (apply a_st 1 _; exact rfl; exact rfl; exact rfl; exact rfl; (try dsimp only [afill, aparts, cl, chunk, List.take, List.drop, List.nil_append, List.cons_append, List.append_nil, List.length_cons, List.length_nil, Nat.zero_add, Nat.reduceAdd, Nat.reduceMul]); try exact rfl); refine a_fld ?_; (apply a_st 1 _; exact rfl; exact rfl; exact rfl; exact rfl; (try dsimp only [afill, aparts, cl, chunk, List.take, List.drop, List.nil_append, List.cons_append, List.append_nil, List.length_cons, List.length_nil, Nat.zero_add, Nat.reduceAdd, Nat.reduceMul]); try exact rfl); (apply a_ldA 1; exact rfl; exact rfl); refine a_stA 0 rfl rfl rfl rfl ?_; (apply a_ldA 0; exact rfl; exact rfl))
  exact ge_drop _ _
theorem c78 (a : List Ha) (hl : a.length ≤ 100000) (h : ∀ x ∈ a, HaFew x) : AFn pr 78 [.row 9 (a.map Ha.cs), .fn 79 [] []] [] (.ret (.row 9 (a.map Ha.cs))) := by
  refine AFn.ofGe (s78 ?_)
  unfold A78
  refine a_lenM ?_
  refine a_lp (σ := Nat × Nat × Nat) (fun x => [gv x.2.1 x.2.2 (a.take x.1), .i x.1]) (fun x => gb Ha.cs 66 9 x.2.1 x.2.2 (a.take x.1)) (fun x => x.1 ≤ a.length) (fun x => a.length - x.1) (0, 0, 0) (Gl.refl _ _) (Nat.zero_le _) ?_
  rintro ⟨i, b, c⟩ K hi hK
  dsimp only at hi hK ⊢
  dsimp only [aix0, aix1, aix2, aix3, aix4, aix5, aix6, aix7, aix8]
  refine a_lss ?_
  refine a_cnd (fun q => ?_) (fun q => ?_)
  · have hlt : i < a.length := by omega
    have hst := List.take_succ_eq_append_getElem hlt
    have hx := c79 _ (h _ (List.getElem_mem hlt))
    refine a_idxM i hlt ?_
    generalize a[i] = t at *
    obtain ⟨timer, hn, hnode, ⟨o, s, n, k⟩, dos, send⟩ := t
    ((apply a_ldAp; exact rfl); refine a_bx fun z1 => ?_; refine a_stA 0 rfl rfl rfl rfl ?_; (apply a_ldA 0; exact rfl; exact rfl); refine a_call0 hx ?_; (apply a_bldS _; exact rfl; (try dsimp only [afill, aparts, cl, chunk, List.take, List.drop, List.nil_append, List.cons_append, List.append_nil, List.length_cons, List.length_nil, Nat.zero_add, Nat.reduceAdd, Nat.reduceMul]); try exact rfl))
    refine a_appAll (M := [_]) (N := []) (r := [(⟨timer, hn, hnode, .mk o s n k, dos, send⟩ : Ha)]) Ha.cs_len Ha.cs_one ?_ (by rw [List.append_nil]; rfl) fun b' c' L' hL => ?_
    · simp only [List.length_take, List.length_cons, List.length_nil]; omega
    (refine a_add (by first | omega | assumption | decide) (by first | omega | assumption | decide) ?_)
    refine hK (i + 1, b', c') _ _ (by dsimp only; omega) (by dsimp only; omega) ?_
    dsimp only
    rw [hst]
    exact Gl.trans (Gl.perm hL) (Gl.drop (by rw [List.append_nil]; exact List.sublist_cons_self _ _))
  · rw [show a.take i = a from List.take_of_length_le (by omega)]
    exact ge_gvR (M := []) (N := []) Ha.cs_len (List.Perm.of_eq (List.append_nil _).symm)
theorem few_of {p : Pr} (h : CheckF p = 0) : p.safe.size ≤ 2000 ∧ p.hs.length ≤ 32 ∧ ∀ x ∈ p.hs, HaFew x := by
  have hp := CheckF_ok h
  have sz : ∀ {t : Tm} {s : Int}, sortF t = (s, 0) → t.size ≤ 2000 := fun {t s} ht => (sortF_ok (t := t) (by rw [ht])).1
  refine ⟨sz (saidE_all hp.said p.safe List.mem_cons_self).1, ((fewB_iff p).1 hp.few).1.2.1, fun x hx => ?_⟩
  have ho := handsE_all hp.hands x hx
  have hl := ((fewB_iff p).1 hp.few).2 x hx
  exact ⟨sz ho.whn, hl.1, hl.2, fun y hy => sz (ho.dos y hy).2.2.1⟩
theorem c38 (p : Pr) (h : CheckF p = 0) : AFn pr 38 [p.d] [] (.ret (ownP p.hs p.safe).d) := by
  refine AFn.ofGe (s38 ?_)
  unfold A38
  obtain ⟨f1, f2, f3⟩ := few_of h
  obtain ⟨ints, bools, sets, msgs, init, hdl, ⟨o, s, n, a⟩, known⟩ := p
  dsimp only at f1 f2 f3
  have hT := c77 (.mk o s n a) f1
  have hE := c78 hdl (by omega) f3
  have hw : NilW [.nil, .nil, .nil, .nil, .nil, .row 9 (hdl.map Ha.cs), .i o, .s s, .i n, .row 4 (Tm.rows a), .nil] (ownP hdl (.mk o s n a)).cs := .nil (.nil (.nil (.nil (.nil (.same (.same (.same (.same (.same (.nil (.refl _)))))))))))
  (refine a_bxv fun z1 => ?_; refine a_bx fun z2 => ?_; refine a_fld ?_; (apply a_ldN 1 _; exact rfl; exact rfl; exact rfl); refine a_callS0 hT ?_; refine a_fld ?_; (apply a_ld1 1; exact rfl; exact rfl); refine a_callS0 hE ?_; refine V.a_bldW _ _ rfl rfl hw ?_; refine a_stA 0 rfl rfl rfl rfl ?_; (apply a_ldA 0; exact rfl; exact rfl))
  exact ge_drop _ _
end Go.Proofs.YtdalobojhfafbaaGreatDoor
set_option maxRecDepth 100000
set_option linter.unusedVariables false
namespace Go.V
open Go
def smC (P : Pr) (w : Wd) (pd : D) : List D := P.cs ++ (w.cs ++ [pd])
structure WFew (k : Nat) (w : Wd) : Prop where
  len : w.names.length ≤ k
  sets : ∀ x ∈ w.names, x.v.s.length ≤ 64
theorem WFew.with {k : Nat} {w : Wd} {nm : ByteArray} {v : Vl} (h : WFew k w) (hv : v.s.length ≤ 64) : WFew (k + 1) (withF w nm v) := by
  refine ⟨?_, fun x hx => ?_⟩
  · have := (put_law nm v w.names).2.2
    have h1 := h.len
    show (putL nm v w.names).length ≤ k + 1
    split at this <;> omega
  · rcases put_cases nm v w.names with ⟨h1, _⟩ | ⟨j, y, h1, _⟩
    · have hx' : x ∈ putL nm v w.names := hx
      rw [h1] at hx'
      rcases List.mem_append.1 hx' with hx' | hx'
      · exact h.sets x hx'
      · rw [List.mem_singleton.1 hx']; exact hv
    · have hx' : x ∈ putL nm v w.names := hx
      rw [h1] at hx'
      rcases List.mem_or_eq_of_mem_set hx' with hx' | hx'
      · exact h.sets x hx'
      · rw [hx']; exact hv
theorem WFew.mono {k j : Nat} {w : Wd} (h : WFew k w) (hj : k ≤ j) : WFew j w := ⟨Nat.le_trans h.len hj, h.sets⟩
theorem namesW_snoc (l : List ByteArray) (s : ByteArray) (v : Vl) (w : Wd) : namesW (l ++ [s]) v w = withF (namesW l v w) s v := by
  unfold namesW; rw [List.foldl_append]; rfl
theorem WFew.names {w : Wd} {v : Vl} (hv : v.s.length ≤ 64) : ∀ {l : List ByteArray} {k : Nat} {w : Wd}, WFew k w → WFew (k + l.length) (namesW l v w)
  | [], k, w, h => h
  | s :: l, k, w, h => by
    have := WFew.names (w := w) hv (l := l) (h.with (nm := s) hv)
    rw [List.length_cons, show k + (l.length + 1) = k + 1 + l.length by omega]
    exact this
end Go.V
namespace Go.Proofs.YtdalobojhfafbaaGreatDoor
open Go Go.V
theorem few_small {k : Nat} {w : Wd} (h : WFew k w) : smallW w := fun x hx => by have := h.sets x hx; omega
theorem c39 {bs k : Nat} {P : Pr} {w : Wd} {pd : D} (l : List ByteArray) (v : Vl) (hw : WFew k w) (hv : v.s.length ≤ 64) (hk : k + l.length ≤ 64) : ASpec pr 39 [.p bs 0, .row 1 (sT l), v.d] [⟨bs, smC P w pd, .box⟩] fun a L' => a = .ret (.tuple []) ∧ L' = [⟨bs, smC P (namesW l v w) pd, .box⟩] := by
  refine ASpec.ge (R := fun a L' => a = .ret (.tuple []) ∧ ∃ x, L' = [x, ⟨bs, smC P (namesW l v w) pd, .box⟩]) ?_ (fun a L' ⟨h1, x, h2⟩ => ⟨a, _, by rw [h2, h1]; exact ⟨trivial, Gl.drop (List.sublist_cons_self _ _)⟩, h1, rfl⟩)
  refine s39 ?_
  unfold A39
  refine a_bxv fun z1 => ?_
  unfold sT
  refine a_lenM ?_
  refine a_lp (σ := Nat) (fun i => [.i i]) (fun i => [⟨z1, v.cs, .box⟩, ⟨bs, smC P (namesW (l.take i) v w) pd, .box⟩]) (fun i => i ≤ l.length) (fun i => l.length - i) 0 (Gl.refl _ _) (Nat.zero_le _) ?_
  rintro i K hi hK
  dsimp only [aix0, aix1, aix2, aix3, aix4, aix5, aix6, aix7, aix8]
  refine a_lss ?_
  refine a_cnd (fun q => ?_) (fun q => ?_)
  · have hlt : i < l.length := by omega
    have hst := List.take_succ_eq_append_getElem hlt
    have hf : WFew (k + (l.take i).length) (namesW (l.take i) v w) := WFew.names (w := w) hv hw
    rw [List.length_take, show min i l.length = i by omega] at hf
    refine a_idxM i hlt ?_
    generalize l[i] = s at *
    have hW := c34 (namesW (l.take i) v w) s v (few_small hf) (by have := hf.len; omega) (by omega)
    ((apply a_ld1p; exact rfl); refine a_nil ?_; refine a_fld ?_; (apply a_ldN 1 _; exact rfl; exact rfl; exact rfl); (apply a_ldA 0; exact rfl; exact rfl); refine a_callS0 hW ?_; refine a_nil ?_; refine a_fld ?_; refine V.a_st 1 (smC P (withF (namesW (l.take i) v w) s v) pd) rfl rfl rfl rfl rfl ?_; refine a_add (by first | omega | assumption | decide) (by first | omega | assumption | decide) ?_)
    refine hK (i + 1) _ _ (by omega) (by omega) ?_
    rw [hst, namesW_snoc]
    exact Gl.refl _ _
  · rw [show l.take i = l from List.take_of_length_le (by omega)]
    exact ⟨rfl, _, rfl⟩
def NewR (p : Pr) (n : Int) (a : AE) (L' : List Bx) : Prop :=
  match NewF p n with
  | .error e => a = .ret (.tuple [.val (.pointer none), .i e]) ∧ L' = []
  | .ok S => ∃ bs, a = .ret (.tuple [.p bs 0, .i 0]) ∧ L' = [⟨bs, smC (ownP S.hs S.safe) S.w .nil, .box⟩]
theorem eval_few {t : Tm} {n : Int} (h1 : 1 ≤ n) (h2 : n ≤ 64) (h0 : (sortF t).2 = 0) (he : (evalF t ⟨n, []⟩).2 = 0) : (evalF t ⟨n, []⟩).1.s.length ≤ 64 := by
  have hok := (eval_okV (world0 h1 h2).right h0 he).2.1
  rw [hok.len]
  have h3 : n.toNat ≤ 64 := by omega
  show (if _ then n.toNat else 0) ≤ 64
  split
  · exact h3
  · exact Nat.zero_le _
theorem initW_snoc {n : Int} {x : As} : ∀ {l : List As} {w w1 : Wd}, initW n l w = .ok w1 → initW n (l ++ [x]) w = if (evalF x.to ⟨n, []⟩).2 ≠ 0 then .error (evalF x.to ⟨n, []⟩).2 else .ok (withF w1 x.nm (evalF x.to ⟨n, []⟩).1)
  | [], w, w1, h => by
    rw [initW] at h
    cases h
    rw [List.nil_append, initW, initW]
  | y :: l, w, w1, h => by
    rw [initW] at h
    rw [List.cons_append, initW]
    split at h
    · cases h
    · next g =>
      rw [if_neg g]
      exact initW_snoc h
theorem initW_bad {n : Int} {l r : List As} {w : Wd} {e : Int} (h : initW n l w = .error e) : initW n (l ++ r) w = .error e := by
  induction l generalizing w with
  | nil => rw [initW] at h; cases h
  | cons y l ih =>
    rw [initW] at h
    rw [List.cons_append, initW]
    split at h
    · next g => rw [if_pos g]; exact h
    · next g => rw [if_neg g]; exact ih h
theorem c13 (p : Pr) (n : Int) : ASpec pr 13 [p.d, .i n] [] (NewR p n) := by
  refine ASpec.small fun hsm => ASpec.ge (R := fun a L' => ∃ L2, L2.Sublist L' ∧ NewR p n a L2) ?_ (fun a L' ⟨L2, h1, h2⟩ => ⟨a, L2, ⟨by cases a <;> trivial, Gl.drop h1⟩, h2⟩)
  refine s13 ?_
  unfold A13
  have hC := c26 p
  unfold NewR
  unfold NewF
  refine a_bxv fun z1 => ?_
  (refine V.a_ldN 0 _ rfl rfl p.cs_len ?_; refine a_call0 hC ?_; refine a_neq ?_)
  by_cases hc : CheckF p ≠ 0
  · rw [if_pos hc]
    refine a_cndT hc ?_
    exact ⟨[], List.nil_sublist _, rfl, rfl⟩
  rw [if_neg hc]
  refine a_cndF hc ?_
  have hc0 : CheckF p = 0 := Decidable.of_not_not hc
  have hp := CheckF_ok hc0
  refine a_jn (σ := Unit) (fun _ => []) (fun _ => [⟨z1, p.cs, .box⟩]) (fun _ => ¬ (n < 1 ∨ 64 < n)) ?_ fun J hJ => ?_
  · rintro _ hn
    rw [if_neg hn]
    have hO := c38 p hc0
    obtain ⟨⟨⟨f1, f2, f3, f4⟩, _, _, f5⟩, _⟩ := (fewB_iff p).1 hp.few
    have h1 : 1 ≤ n := by omega
    have h2 : n ≤ 64 := by omega
    have w0 : WFew 0 (⟨n, []⟩ : Wd) := ⟨Nat.le_refl _, fun x hx => by cases hx⟩
    have w1 : WFew (0 + p.ints.length) (namesW p.ints ⟨1, 0, false, []⟩ ⟨n, []⟩) := WFew.names (w := ⟨n, []⟩) (Nat.zero_le _) w0
    have w2 := WFew.names (w := ⟨n, []⟩) (v := ⟨4, 0, false, []⟩) (Nat.zero_le _) (l := p.bools) w1
    have hno : (noneV n).s.length ≤ 64 := by unfold noneV; rw [List.length_replicate]; omega
    have w3 := WFew.names (w := ⟨n, []⟩) (v := noneV n) hno (l := p.sets) w2
    have w4 := WFew.names (w := ⟨n, []⟩) (v := noneV n) hno (l := p.msgs) w3
    (refine V.a_ldN 0 _ rfl rfl p.cs_len ?_; refine a_call0 hO ?_; refine a_bldW0 rfl rfl ?_; refine V.a_bld (smC (ownP p.hs p.safe) ⟨n, []⟩ .nil) rfl rfl ?_; refine a_bxv fun z2 => ?_; refine a_fld ?_; (apply a_ld1 1; exact rfl; exact rfl); refine a_bldV0 rfl rfl ?_)
    refine a_callF (L1 := [_]) (M := [⟨z1, p.cs, .box⟩]) (List.Perm.refl _) (c39 p.ints ⟨1, 0, false, []⟩ w0 (Nat.zero_le _) (by omega)) ?_
    rintro a L' ⟨rfl, rfl⟩
    simp only [AE.on]
    (refine a_fld ?_; (apply a_ld1 1; exact rfl; exact rfl); refine a_bldV0 rfl rfl ?_)
    refine a_callF (L1 := [_]) (M := [⟨z1, p.cs, .box⟩]) (List.Perm.refl _) (c39 p.bools ⟨4, 0, false, []⟩ w1 (Nat.zero_le _) (by omega)) ?_
    rintro a L' ⟨rfl, rfl⟩
    simp only [AE.on]
    refine a_mkSF n.toNat n.toNat (by omega) (by omega) (Nat.le_refl _) (by omega) (by omega) ?_
    rw [show List.replicate n.toNat [D.b false] = (List.replicate n.toNat false).map bc from by rw [List.map_replicate]; rfl]
    (refine a_bldV rfl rfl ?_; refine a_bx fun z3 => ?_; refine a_stA 0 rfl rfl rfl rfl ?_; refine a_fld ?_; (apply a_ld1 2; exact rfl; exact rfl); (apply a_ldA 0; exact rfl; exact rfl))
    refine a_callF (L1 := [_]) (M := [_, _]) (List.Perm.swap _ _ _) (c39 p.sets (noneV n) w2 hno (by omega)) ?_
    rintro a L' ⟨rfl, rfl⟩
    simp only [AE.on]
    (refine a_fld ?_; (apply a_ld1 2; exact rfl; exact rfl); (apply a_ldA 1; exact rfl; exact rfl))
    refine a_callF (L1 := [_]) (M := [_, _]) (List.Perm.refl _) (c39 p.msgs (noneV n) w3 hno (by omega)) ?_
    rintro a L' ⟨rfl, rfl⟩
    simp only [AE.on]
    have hF : namesW p.msgs (noneV n) (namesW p.sets (noneV n) (namesW p.bools ⟨4, 0, false, []⟩ (namesW p.ints ⟨1, 0, false, []⟩ ⟨n, []⟩))) = firstW p n := rfl
    rw [hF]
    have hwok := (firstW_ok hp h1 h2).1
    generalize firstW p n = w at *
    clear hF w1 w2 w3 w4 hO hC
    (refine a_fld ?_; (apply a_ld1 2; exact rfl; exact rfl); refine a_lenM ?_)
    have hall := init_all hp
    have hbad : ∀ (e : Int) (i : Nat), initW n (p.init.take i) w = .error e → initW n p.init w = .error e := fun e i h => by
      have := initW_bad (r := p.init.drop i) h
      rwa [List.take_append_drop] at this
    refine a_lp (σ := Nat × Wd) (fun x => [.i x.1]) (fun x => [⟨z2, smC (ownP p.hs p.safe) x.2 .nil, .box⟩, ⟨z3, (noneV n).cs, .box⟩, ⟨z1, p.cs, .box⟩]) (fun x => x.1 ≤ p.init.length ∧ initW n (p.init.take x.1) w = .ok x.2) (fun x => p.init.length - x.1) (0, w) (Gl.refl _ _) ⟨Nat.zero_le _, rfl⟩ ?_
    rintro ⟨i, wi⟩ K ⟨hi, hw⟩ hK
    dsimp only at hi hw hK ⊢
    have hwi := initW_ok hp h1 h2 (fun x hx => hall x (List.mem_of_mem_take hx)) hwok hw
    have hw64 : wi.names.length ≤ 64 := by rw [keys_len hwi.keys]; have := keyP_len hp; omega
    dsimp only [aix0, aix1, aix2, aix3, aix4, aix5, aix6, aix7, aix8]
    refine a_lss ?_
    refine a_cnd (fun q => ?_) (fun q => ?_)
    · have hlt : i < p.init.length := by omega
      have hst := List.take_succ_eq_append_getElem hlt
      have hsn := initW_snoc (x := p.init[i]) hw
      rw [← hst] at hsn
      obtain ⟨_, ht⟩ := hall _ (List.getElem_mem hlt)
      have hEv := c31 p.init[i].to ⟨n, []⟩
      have hef := eval_few (t := p.init[i].to) h1 h2 (by rw [ht])
      have hb := hbad (evalF p.init[i].to ⟨n, []⟩).2 (i + 1)
      rw [hsn] at hb
      refine a_idxM i hlt ?_
      generalize p.init[i] = x at *
      obtain ⟨nm, ⟨o, s, m, k⟩⟩ := x
      dsimp only at hsn hEv hef hb
      generalize evalF (.mk o s m k) ⟨n, []⟩ = r at *
      obtain ⟨⟨vs, vn, vb, vl⟩, e⟩ := r
      dsimp only at hsn hEv hef hb
      have hW := fun (he : e = 0) => c34 wi nm ⟨vs, vn, vb, vl⟩ (smallW_of hwi.right) hw64 (by have := hef he; dsimp only at this ⊢; omega)
      ((apply a_ldAp; exact rfl); refine a_bx fun z4 => ?_; refine a_stA 0 rfl rfl rfl rfl ?_; refine a_fld ?_; (apply a_ldN 0 _; exact rfl; exact rfl; exact rfl); refine a_bldW0 rfl rfl ?_; refine a_call0 hEv ?_; (apply a_ext; exact rfl); (apply a_ext; exact rfl); refine a_bx fun z5 => ?_; refine a_stA 0 rfl rfl rfl rfl ?_; refine a_neq ?_)
      by_cases he : e ≠ 0
      · refine a_cndT he ?_
        rw [if_pos he] at hb
        rw [hb rfl]
        exact ⟨[], List.nil_sublist _, rfl, rfl⟩
      · rw [if_neg he] at hsn
        have he0 : e = 0 := Decidable.of_not_not he
        refine a_cndF he ?_
        (refine a_nil ?_; refine a_fld ?_; (apply a_ldN 2 _; exact rfl; exact rfl; exact rfl); refine a_fld ?_; (apply a_ld1 1; exact rfl; exact rfl); (apply a_ldA 0; exact rfl; exact rfl); refine a_callS0 (hW he0) ?_; refine a_nil ?_; refine a_fld ?_; refine V.a_st 2 (smC (ownP p.hs p.safe) (withF wi nm ⟨vs, vn, vb, vl⟩) .nil) rfl rfl rfl rfl rfl ?_; refine a_add (by first | omega | assumption | decide) (by first | omega | assumption | decide) ?_)
        refine hK (i + 1, _) _ _ ⟨by dsimp only; omega, hsn⟩ (by dsimp only; omega) (by first | exact Gl.refl _ _ | exact Gl.drop (by repeat (first | exact List.Sublist.refl _ | exact List.Sublist.slnil | apply List.Sublist.cons_cons | apply List.Sublist.cons)))
    · rw [show p.init.take i = p.init from List.take_of_length_le (by omega)] at hw
      rw [hw]
      exact ⟨_, .cons_cons _ (List.nil_sublist _), _, rfl, rfl⟩
  · refine a_lss ?_
    refine a_cnd (fun q => ?_) (fun q => ?_)
    · rw [if_pos (.inl q)]
      exact ⟨[], List.nil_sublist _, rfl, rfl⟩
    · refine a_gtr ?_
      refine a_cnd (fun q2 => ?_) (fun q2 => ?_)
      · rw [if_pos (.inr q2)]
        exact ⟨[], List.nil_sublist _, rfl, rfl⟩
      · exact hJ () _ _ (by omega) (Gl.refl _ _)
end Go.Proofs.YtdalobojhfafbaaGreatDoor
set_option maxRecDepth 100000
set_option linter.unusedVariables false
namespace Go.V
open Go
section
variable {F : Nat → Prop} {L : List Bx} {w : World}
theorem Gl.shrink {ds : List D} (i k : Nat) {b e sz cap : Nat} {l l' : List D} (hi : L[i]? = some (Bx.mk b l (.row e sz cap))) (hl : l' = l.take (k * sz)) : Gl ds L ds (L.set i ⟨b, l', .row e sz cap⟩) := by
  intro F w vs a hr
  subst hl
  obtain ⟨c, t, us, b1, b2, b3, rfl, b5, b6, q, b7⟩ := (a.at hi).row (fun _ hh => by cases hh)
  simp only at b1 b2 b3 b5 b7
  have hlen : (l.take (k * sz)).length = min k q * sz := by
    rw [List.length_take, b7]
    rcases Nat.le_total k q with h | h
    · rw [Nat.min_eq_left h, Nat.min_eq_left (Nat.mul_le_mul_right _ h)]
    · rw [Nat.min_eq_right h, Nat.min_eq_right (Nat.mul_le_mul_right _ h)]
  have oy : BxOk F w ⟨b, l.take (k * sz), .row t sz cap⟩ := by
    refine ⟨.inr ⟨c, t, us.take (k * sz), b1, b2.take _, ?_, rfl, b5, b6, min k q, hlen⟩⟩
    show us.take (k * sz) = c.toList.take (l.take (k * sz)).length
    rw [b3, List.take_take, List.length_take]
  obtain ⟨a', e'⟩ := a.swap (y := ⟨b, l.take (k * sz), .row t sz cap⟩) hi (Nat.le_refl _) ⟨rfl, rfl, rfl, Nat.le_refl _⟩ (fun _ _ _ => rfl) (.inl rfl) oy
  exact ⟨F, e', a', hr⟩
end
theorem eraseIdx_flat {α : Type} {cs : α → List D} {l : List α} {i : Nat} (hi : i < l.length) : ((l.eraseIdx i).map cs).flatten = ((l.take i).map cs).flatten ++ ((l.drop (i + 1)).map cs).flatten := by
  rw [List.eraseIdx_eq_take_drop_succ, List.map_append, List.flatten_append]
theorem a_slcO2 {sz b n c : Nat} {ki kj : IntKind} {k : D → Prop} (i j : Nat) (h1 : i ≤ j) (h2 : j ≤ c) (h3 : i < c) (h : k (.sl b (0 + i * sz) (j - i) (c - i))) : aslcL sz (.sl b 0 n c) (some (.val (.int ki i))) (some (.val (.int kj j))) k := by
  refine ⟨i, j, ⟨kj, rfl, h2⟩, ⟨ki, rfl⟩, h1, ?_⟩
  rw [if_neg (by omega)]
  have e : (some (Addr.mk b 0 none)).map (·.add (i * sz)) = some ⟨b, 0 + i * sz, none⟩ := by
    simp only [Option.map_some, Addr.add]
    split
    · next h => rw [h]
    · rfl
  rw [e]; exact h
theorem a_slcMx {sz b n c : Nat} {k : D → Prop} (i j m : Nat) (h1 : i ≤ j) (h2 : j ≤ m) (h3 : m ≤ c) (h : ∀ d, k d) : aslcM sz (.sl b 0 n c) (some (.i i)) (some (.i j)) (some (.i m)) k :=
  ⟨i, j, m, rfl, h3, ⟨.i64, rfl, h2⟩, ⟨.i64, rfl⟩, h1, h _⟩
theorem a_eqSnil {k : D → Prop} {s : Bool} (h : k (.b true)) : aeqS s .eql .nil .nil k := h
theorem a_eqSsl {k : D → Prop} {s : Bool} {b o n c : Nat} (h : k (.b false)) : aeqS s .eql (.sl b o n c) .nil k := h
theorem a_slcSrc {α : Type} {cs : α → List D} {sz b n c e : Nat} {L : List Bx} {l : List α} {ki : IntKind} {k : D → Prop} (hsz : ∀ x, (cs x).length = sz) (j i : Nat) (hL : L[j]? = some ⟨b, (l.map cs).flatten, .row e sz c⟩) (hn : n = l.length) (hi : i ≤ n) (hc : n ≤ c)
    (h : ∀ src, asrc sz src L (n - i) ((l.drop i).map cs).flatten → k src) : aslcL sz (.sl b 0 n c) (some (.val (.int ki i))) none k := by
  subst hn
  have hdl : (((l.drop i).map cs).flatten).length = (l.length - i) * sz := by rw [flat_len hsz, List.length_drop]
  by_cases hic : i < c
  · refine a_slcOf i hi hic (h _ ⟨rfl, j, _, _, hL, ?_, hdl⟩)
    rw [Nat.zero_add, flat_drop' hsz]
    exact List.take_of_length_le (Nat.le_of_eq hdl)
  · have hi2 : i = l.length := by omega
    have hc2 : c = i := by omega
    refine ⟨i, l.length, rfl, ⟨ki, rfl⟩, hi, ?_⟩
    rw [if_pos hc2]
    refine h _ ⟨rfl, j, _, _, hL, ?_, hdl⟩
    rw [hi2, Nat.sub_self, Nat.zero_mul, List.take_zero, List.drop_of_length_le (Nat.le_refl _)]; rfl
end Go.V
namespace Go.Proofs.YtdalobojhfafbaaGreatDoor
open Go Go.V
inductive PdR : List Pn → D → List Bx → Prop
  | nil : PdR [] .nil []
  | row (b c : Nat) (l : List Pn) : PdR l (.sl b 0 l.length c) [⟨b, (l.map Pn.cs).flatten, .row 64 2 c⟩]
theorem clone_pd {l : List Pn} {pd : D} {M : List Bx} (h : PdR l pd M) (hl : l.length ≤ 100000) : ASpec pr 50 [pd] M fun a L' => ∃ pd' M', a = .ret pd' ∧ L' = M' ++ M ∧ PdR l pd' M' := by
  refine s50 ?_
  unfold A50
  cases h with
  | nil =>
    refine a_eqSnil ?_
    refine a_cndbT rfl ?_
    exact ⟨.nil, [], rfl, rfl, .nil⟩
  | row b c =>
    refine a_eqSsl ?_
    refine a_cndbF rfl ?_
    refine a_bldO [] rfl rfl fun z1 => ?_
    refine a_app 0 [] l.length (l.map Pn.cs).flatten rfl rfl ⟨rfl, 1, _, _, rfl, ?_, flat_len Pn.cs_len l⟩ (flat_one Pn.cs_one l) (by omega) fun b' c' => ?_
    · rw [List.drop_zero, ← flat_len Pn.cs_len l, List.take_length]
    rw [Nat.zero_add]
    exact ⟨_, _, rfl, rfl, .row b' c' l⟩
theorem del_pd {l : List Pn} {b c : Nat} (i : Nat) (hi : i < l.length) : ASpec pr 62 [.sl b 0 l.length c, .i i, .i ((i + 1 : Nat) : Int)] [⟨b, (l.map Pn.cs).flatten, .row 64 2 c⟩]
    fun a L' => a = .ret (.sl b 0 (l.eraseIdx i).length c) ∧ L' = [⟨b, ((l.eraseIdx i).map Pn.cs).flatten, .row 64 2 c⟩] := by
  refine ASpec.small fun hsm => ?_
  have hnc : l.length ≤ c ∧ c ≤ 9223372036854775807 := by
    rw [Smalls, Small] at hsm; exact hsm.1
  have hfl := flat_len Pn.cs_len l
  have hel : (l.eraseIdx i).length = l.length - 1 := List.length_eraseIdx_of_lt hi
  have htk : ((l.map Pn.cs).flatten).take (i * 2) = ((l.take i).map Pn.cs).flatten := flat_take Pn.cs_len l i
  have hdr : ((l.map Pn.cs).flatten).drop ((i + 1) * 2) = ((l.drop (i + 1)).map Pn.cs).flatten := flat_drop' Pn.cs_len l (i + 1)
  have hdl : (((l.drop (i + 1)).map Pn.cs).flatten).length = (l.length - (i + 1)) * 2 := by rw [flat_len Pn.cs_len, List.length_drop]
  have hef := eraseIdx_flat (cs := Pn.cs) hi
  refine ASpec.ge (R := fun a L' => a = .ret (.sl b 0 (l.length - 1) c) ∧ ∃ X, L' = [⟨b, X, .row 64 2 c⟩] ∧ X.take ((l.length - 1) * 2) = ((l.eraseIdx i).map Pn.cs).flatten) ?_ (fun a L' ⟨h1, X, h2, h3⟩ => by
    subst h1 h2
    exact ⟨.ret (.sl b 0 (l.length - 1) c), _, ⟨trivial, Gl.shrink 0 (l.length - 1) rfl h3.symm⟩, by rw [hel], rfl⟩)
  refine s62 ?_
  unfold A62
  refine a_lenO ?_
  refine a_slcMx i (i + 1) l.length (by omega) (by omega) hnc.1 fun _ => ?_
  (refine a_eql ?_; refine a_cndF (by first | omega | assumption | decide) ?_; refine a_lenO ?_)
  refine a_slcOt (c := c) i (by omega) ?_
  refine a_slcSrc (L := [⟨b, (l.map Pn.cs).flatten, .row 64 2 c⟩]) Pn.cs_len 0 (i + 1) rfl rfl (by omega) hnc.1 fun src hsrc => ?_
  refine a_appR 0 _ (l.length - (i + 1)) _ (n := i) rfl hsrc (flat_one Pn.cs_one _) (by omega) (by rw [hdl, hfl]; omega) ?_
  rw [hdl, htk]
  have hX : ((((l.take i).map Pn.cs).flatten ++ ((l.drop (i + 1)).map Pn.cs).flatten) ++ ((l.map Pn.cs).flatten).drop (i * 2 + (l.length - (i + 1)) * 2)).length = l.length * 2 := by
    rw [List.length_append, List.length_append, hdl, flat_len Pn.cs_len, List.length_take, List.length_drop, hfl]; omega
  have hX2 : ((((l.take i).map Pn.cs).flatten ++ ((l.drop (i + 1)).map Pn.cs).flatten) ++ ((l.map Pn.cs).flatten).drop (i * 2 + (l.length - (i + 1)) * 2)).take ((l.length - 1) * 2) = ((l.eraseIdx i).map Pn.cs).flatten := by
    rw [hef, List.take_left']
    rw [List.length_append, hdl, flat_len Pn.cs_len, List.length_take]; omega
  generalize (((l.take i).map Pn.cs).flatten ++ ((l.drop (i + 1)).map Pn.cs).flatten) ++ ((l.map Pn.cs).flatten).drop (i * 2 + (l.length - (i + 1)) * 2) = X at *
  rw [show i + (l.length - (i + 1)) = l.length - 1 by omega]
  refine a_lenO ?_
  refine a_slcO2 (l.length - 1) l.length ?_ hnc.1 ?_ ?_
  · omega
  · omega
  rw [show l.length - (l.length - 1) = 1 by omega]
  show ast (1 * 2) (.p b (0 + (l.length - 1) * 2)) (.agg [.s ⟨#[]⟩, .i 0]) _ _
  refine V.a_st 0 (X.take ((l.length - 1) * 2) ++ [.s ⟨#[]⟩, .i 0]) rfl rfl rfl (Nat.ble_eq_true_of_le (by rw [hX]; omega)) ?_ ?_
  · rw [Nat.zero_add, List.drop_of_length_le (by rw [hX]; omega), List.append_nil]; rfl
  · refine ⟨rfl, _, rfl, ?_⟩
    rw [List.take_left' (by rw [List.length_take, hX]; omega), hX2]
end Go.Proofs.YtdalobojhfafbaaGreatDoor
