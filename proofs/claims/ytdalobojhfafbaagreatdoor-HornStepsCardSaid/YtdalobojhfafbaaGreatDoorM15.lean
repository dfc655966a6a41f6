/- Sets and bools obey their laws: the law alone. -/
import Derived.Test.YtdalobojhfafbaaGreatDoorM6
import Derived.Test.YtdalobojhfafbaaGreatDoorE3
import Derived.Test.YtdalobojhfafbaaGreatDoorN4
set_option linter.unusedVariables false
namespace Go.V
open Go
section
variable {w : Wd}
theorem ev1 {op : Int} {x : Tm} {v : Vl} (h : evV w x = .ok v) : evV w (mk op [x]) = opV w op ⟨#[]⟩ 0 [v] := by
  rw [ev_mk, evL1, h]
theorem ev2 {op : Int} {x y : Tm} {v u : Vl} (h : evV w x = .ok v) (h' : evV w y = .ok u) : evV w (mk op [x, y]) = opV w op ⟨#[]⟩ 0 [v, u] := by
  rw [ev_mk, evL2, h, h']
theorem evalF_of {t : Tm} {s : Int} (hw : rightW w = true) (h : sortF t = (s, 0)) : evalF t w = match evV w t with | .ok v => (v, 0) | .error e => (vz, e) := by
  unfold evalF
  rw [h, if_neg (fun h => h rfl), if_neg (by rw [hw]; decide)]
  rfl
end
end Go.V
set_option linter.unusedVariables false
namespace Go.V
open Go
section
variable {w u : Wd}
theorem opV_other {op : Int} {nm : ByteArray} {n : Int} {vs : List Vl} (hn : w.nodes = u.nodes) (h1 : 1 ≤ op) (h2 : op ≤ 28) (h : ¬ (op = 2 ∨ op = 7 ∨ op = 14 ∨ op = 15)) : opV w op nm n vs = opV u op nm n vs := by
  have hop : ∃ i : Fin 29, op = (i.1 : Int) := ⟨⟨op.toNat, by omega⟩, by simp only; omega⟩
  have hw : ∀ f, whereF w f = whereF u f := fun f => by unfold whereF; rw [hn]
  obtain ⟨i, rfl⟩ := hop
  unfold opV
  rw [Int.toNat_natCast]
  revert h1 h
  match i with
  | ⟨0, _⟩ => intro h1; simp at h1
  | ⟨1, _⟩ => intro _ _; rfl
  | ⟨2, _⟩ => intro _ h; exact absurd (.inl rfl) h
  | ⟨3, _⟩ => intro _ _; rfl
  | ⟨4, _⟩ => intro _ _; rfl
  | ⟨5, _⟩ => intro _ _; rfl
  | ⟨6, _⟩ => intro _ _; rfl
  | ⟨7, _⟩ => intro _ h; exact absurd (.inr (.inl rfl)) h
  | ⟨8, _⟩ => intro _ _; exact congrArg Except.ok (hw _)
  | ⟨9, _⟩ => intro _ _; exact congrArg Except.ok (hw _)
  | ⟨10, _⟩ => intro _ _; exact congrArg Except.ok (hw _)
  | ⟨11, _⟩ => intro _ _; exact congrArg Except.ok (hw _)
  | ⟨12, _⟩ => intro _ _; exact congrArg Except.ok (hw _)
  | ⟨13, _⟩ => intro _ _; exact congrArg Except.ok (hw _)
  | ⟨14, _⟩ => intro _ h; exact absurd (.inr (.inr (.inl rfl))) h
  | ⟨15, _⟩ => intro _ h; exact absurd (.inr (.inr (.inr rfl))) h
  | ⟨16, _⟩ => intro _ _; rfl
  | ⟨17, _⟩ => intro _ _; rfl
  | ⟨18, _⟩ => intro _ _; rfl
  | ⟨19, _⟩ => intro _ _; rfl
  | ⟨20, _⟩ => intro _ _; rfl
  | ⟨21, _⟩ => intro _ _; rfl
  | ⟨22, _⟩ => intro _ _; rfl
  | ⟨23, _⟩ => intro _ _; rfl
  | ⟨24, _⟩ => intro _ _; rfl
  | ⟨25, _⟩ => intro _ _; rfl
  | ⟨26, _⟩ => intro _ _; rfl
  | ⟨27, _⟩ => intro _ _; rfl
  | ⟨28, _⟩ => intro _ _; rfl
theorem opV_name {op : Int} {nm : ByteArray} {n : Int} {vs : List Vl} (h : op = 2 ∨ op = 7 ∨ op = 14 ∨ op = 15) : opV w op nm n vs = nameV w nm (shpAt op).sort := by
  rcases h with rfl | rfl | rfl | rfl <;> rfl
theorem evL_congr : ∀ (l : List Tm), (∀ x ∈ l, evV u x = evV w x) → evL u l = evL w l
  | [], _ => by rw [evL0, evL0]
  | x :: r, h => by rw [evL_cons, evL_cons, h x (by simp), evL_congr r fun y hy => h y (by simp [hy])]
theorem ev_apart (hn : w.nodes = u.nodes) (t : Tm) : ∀ s, rightT t s = true → (∀ x ∈ collT t, getF u.names (str x.1) (shpAt x.2).sort = getF w.names (str x.1) (shpAt x.2).sort) → evV u t = evV w t := by
  induction t using Tm.ind' with
  | h t ih =>
    intro s h hc
    have r := (right_iff t s).1 h
    by_cases ho : t.op = 2 ∨ t.op = 7 ∨ t.op = 14 ∨ t.op = 15
    · obtain ⟨ha, hcol⟩ := right_named h ho
      have hg := hc _ (by rw [hcol]; exact List.mem_singleton.2 rfl)
      simp only at hg
      rw [← str_of] at hg
      cases t with | mk op nm n a =>
      simp only [Tm.op, Tm.a, Tm.nm] at ho ha hg
      subst ha
      rw [evV_eq, evV_eq, evL0, evL0]
      show opV u op nm n [] = opV w op nm n []
      rw [opV_name ho, opV_name ho]
      unfold nameV
      rw [hg]
    · rw [right_bare' h ho] at hc
      have hl := evL_congr (u := u) (w := w) t.a fun x hx => by
        obtain ⟨i, hi, rfl⟩ := List.mem_iff_getElem.1 hx
        exact ih _ hx _ (r.kids i hi) fun z hz => hc z (collL_mem.2 ⟨_, hx, hz⟩)
      have h1 := r.op1
      have h2 := r.op2
      cases t with | mk op nm n a =>
      simp only [Tm.op, Tm.a] at ho hl h1 h2
      rw [evV_eq, evV_eq, hl]
      cases evL w a with
      | error e => rfl
      | ok vs => exact (opV_other hn h1 h2 ho).symm
theorem evL_there : ∀ (l : List Tm), (∀ x ∈ l, (∀ v, evV w x = .ok v → ∀ z ∈ collT x, (getF w.names (str z.1) (shpAt z.2).sort).isSome = true) ∧ (evV w x = .error 4 → ∃ z ∈ collT x, (getF w.names (str z.1) (shpAt z.2).sort).isSome = false)) →
    (∀ vs, evL w l = .ok vs → ∀ z ∈ collL l, (getF w.names (str z.1) (shpAt z.2).sort).isSome = true) ∧ (evL w l = .error 4 → ∃ z ∈ collL l, (getF w.names (str z.1) (shpAt z.2).sort).isSome = false)
  | [], _ => ⟨fun _ _ z hz => (by rw [collL] at hz; cases hz), fun h => (by rw [evL0] at h; cases h)⟩
  | x :: r, h => by
    obtain ⟨a1, a2⟩ := h x (by simp)
    obtain ⟨b1, b2⟩ := evL_there r fun y hy => h y (by simp [hy])
    rw [evL_cons, collL]
    cases hx : evV w x with
    | error e =>
      refine ⟨fun vs hh => (by cases hh), fun hh => ?_⟩
      injection hh with hh
      subst hh
      obtain ⟨z, hz, g⟩ := a2 hx
      exact ⟨z, List.mem_append_left _ hz, g⟩
    | ok v =>
      cases hr : evL w r with
      | error e =>
        refine ⟨fun vs hh => (by cases hh), fun hh => ?_⟩
        injection hh with hh
        subst hh
        obtain ⟨z, hz, g⟩ := b2 hr
        exact ⟨z, List.mem_append_right _ hz, g⟩
      | ok vs =>
        refine ⟨fun _ _ z hz => ?_, fun hh => (by cases hh)⟩
        rcases List.mem_append.1 hz with hz | hz
        · exact a1 v hx z hz
        · exact b1 vs hr z hz
theorem ev_there (t : Tm) : ∀ s, rightT t s = true → (∀ v, evV w t = .ok v → ∀ z ∈ collT t, (getF w.names (str z.1) (shpAt z.2).sort).isSome = true) ∧ (evV w t = .error 4 → ∃ z ∈ collT t, (getF w.names (str z.1) (shpAt z.2).sort).isSome = false) := by
  induction t using Tm.ind' with
  | h t ih =>
    intro s h
    have r := (right_iff t s).1 h
    by_cases ho : t.op = 2 ∨ t.op = 7 ∨ t.op = 14 ∨ t.op = 15
    · obtain ⟨ha, hcol⟩ := right_named h ho
      rw [hcol]
      cases t with | mk op nm n a =>
      simp only [Tm.op, Tm.a, Tm.nm] at ho ha ⊢
      subst ha
      have hs : str nm.data.toList = nm := (str_of nm).symm
      have e : evV w (.mk op nm n []) = nameV w nm (shpAt op).sort := by rw [evV_eq, evL0]; exact opV_name ho
      rw [e]
      unfold nameV
      cases hg : getF w.names nm (shpAt op).sort with
      | none => exact ⟨fun v hh => (by cases hh), fun _ => ⟨_, List.mem_singleton.2 rfl, by simp only; rw [hs, hg]; rfl⟩⟩
      | some v => exact ⟨fun _ _ z hz => (by rw [List.mem_singleton.1 hz]; simp only; rw [hs, hg]; rfl), fun hh => (by cases hh)⟩
    · rw [right_bare' h ho]
      have hl := evL_there (w := w) t.a fun x hx => by
        obtain ⟨i, hi, rfl⟩ := List.mem_iff_getElem.1 hx
        exact ih _ hx _ (r.kids i hi)
      have h1 := r.op1
      have h2 := r.op2
      cases t with | mk op nm n a =>
      simp only [Tm.op, Tm.a] at ho hl h1 h2 ⊢
      rw [evV_eq]
      cases he : evL w a with
      | error e =>
        refine ⟨fun v hh => (by cases hh), fun hh => ?_⟩
        injection hh with hh
        subst hh
        exact hl.2 he
      | ok vs =>
        refine ⟨fun v _ => hl.1 vs he, fun hh => ?_⟩
        exfalso
        have hh : opV w op nm n vs = .error 4 := hh
        have hf : ∀ v, fit v ≠ .error 4 := fun v => by
          unfold fit
          split
          · intro h; cases h
          · intro h; injection h with h; cases h
        unfold opV at hh
        have hop : ∃ i : Fin 29, op = (i.1 : Int) := ⟨⟨op.toNat, by omega⟩, by simp only; omega⟩
        obtain ⟨i, rfl⟩ := hop
        rw [Int.toNat_natCast] at hh
        split at hh
        all_goals first | exact hf _ hh | (cases hh; done) | (rename_i q; exact ho (by omega))
end
end Go.V
set_option maxRecDepth 100000
set_option linter.unusedVariables false
namespace Go.V
theorem AFn.borrow {P : Program} {g : FuncId} {args args' : List D} {L : List Bx} {v : Value} (h : AFn P g args' [] (.ret (.val v))) (hg : Gl args L args' []) : AFn P g args L (.ret (.val v)) := by
  intro F w vs a hr
  obtain ⟨F1, e1, a1, r1⟩ := hg F w vs a hr
  refine (h F1 w vs a1 r1).mono ?_
  rintro e w' ⟨ae, F2, L2, h1, h2, h3, rfl, rfl⟩
  have no : ∀ k : Nat, ∀ x ∈ ([] : List Bx), x.b ≠ k := fun k x hx => by cases hx
  have keep : Keeps F w F w' := ⟨h1.size, fun _ _ h => h, fun k hk _ => h1.block k hk (no k)⟩
  refine ⟨.ret (.val v), F, L, ⟨h1.os, h1.tape, h1.output, h1.size, fun k hk _ => h1.block k hk (no k), fun _ h => h, fun _ _ h => .inl h, fun x hx _ => ⟨x, hx, rfl⟩, h1.drawn⟩,
    ⟨fun x hx => (a.own x hx).keep keep (h1.block x.b (a.own x hx).lt (no _)), a.nodup, a.sep, fun b hb => Nat.lt_of_lt_of_le (a.lt b hb) h1.size⟩, ?_, rfl, rfl⟩
  obtain ⟨u, rfl, h4⟩ := h3
  exact ⟨u, rfl, by rw [Rep] at h4 ⊢; exact h4⟩
theorem gl_fzB' {α : Type} {f : α → List D} {sz b e c cap n : Nat} (hsz : ∀ x, (f x).length = sz) {ds ds' : List D} {L L' : List Bx} (l : List α) (i : Nat) (hi : L[i]? = some (Bx.mk b (l.map f).flatten (.row e sz cap))) (hn : n = l.length)
    (hd : WkL (.sl b 0 n c) (.row sz (l.map f)) ds ds') (hL : WkB (.sl b 0 n c) (.row sz (l.map f)) (L.eraseIdx i) L') : Gl ds L ds' L' := by
  subst hn
  refine Gl.fz (n := l.length) (c := c) i hi (flat_len hsz l) ?_ ?_
  · rw [chunk_flat hsz]; exact hd
  · rw [chunk_flat hsz]; exact hL
theorem set_val {nm : ByteArray} {v : Vl} : ∀ (l : List Nv) (j : Nat) (hj : j < l.length), l[j].nm = nm → (l.map Nv.cs).flatten.take (0 + j * 5 + 1) ++ cl v.d ++ (l.map Nv.cs).flatten.drop (0 + j * 5 + 1 + 4) = ((l.set j ⟨nm, v⟩).map Nv.cs).flatten
  | [], j, hj, _ => absurd hj (Nat.not_lt_zero _)
  | y :: r, 0, _, h => by
    have h : y.nm = nm := h
    subst h
    rfl
  | y :: r, j + 1, hj, h => by
    have ih := set_val r j (by simpa using hj) h (v := v)
    rw [List.map_cons, List.flatten_cons, List.set_cons_succ, List.map_cons, List.flatten_cons, ← ih]
    have e1 : (y.cs ++ (r.map Nv.cs).flatten).take (0 + (j + 1) * 5 + 1) = y.cs ++ (r.map Nv.cs).flatten.take (0 + j * 5 + 1) := by
      rw [List.take_append, Nv.cs_len, List.take_of_length_le (by rw [Nv.cs_len]; omega)]
      congr 2; omega
    have e2 : (y.cs ++ (r.map Nv.cs).flatten).drop (0 + (j + 1) * 5 + 1 + 4) = (r.map Nv.cs).flatten.drop (0 + j * 5 + 1 + 4) := by
      rw [List.drop_append, Nv.cs_len, List.drop_of_length_le (by rw [Nv.cs_len]; omega), List.nil_append]
      congr 1; omega
    rw [e1, e2, List.append_assoc, List.append_assoc, List.append_assoc]
def putL (nm : ByteArray) (v : Vl) (l : List Nv) : List Nv := if 0 ≤ findF nm v.sort l 0 then l.set (findF nm v.sort l 0).toNat ⟨nm, v⟩ else l ++ [⟨nm, v⟩]
def withF (w : Wd) (nm : ByteArray) (v : Vl) : Wd := ⟨w.nodes, putL nm v w.names⟩
end Go.V
namespace Go.Proofs.YtdalobojhfafbaaGreatDoor
open Go Go.V
theorem ge_world {n : Int} {l : List Nv} {b c e cap k : Nat} {L : List Bx} (hi : L[0]? = some ⟨b, (l.map Nv.cs).flatten, .row e 5 cap⟩) (hk : k = l.length) : Ge (.ret (.agg [.i n, .sl b 0 k c])) L (.ret (.agg [.i n, .row 5 (l.map Nv.cs)])) [] := by
  cases L with
  | nil => cases hi
  | cons x r =>
    injection hi with hi
    subst hi
    exact ⟨trivial, Gl.trans (Gl.drop (L' := [_]) (.cons_cons _ (List.nil_sublist _))) (gl_fzB' Nv.cs_len l 0 rfl hk (.cons (.agg (.cons (.refl _) (.cons .hit .nil))) .nil) .nil)⟩
theorem find_own {n : Int} {l : List Nv} {nm : ByteArray} {st : Int} {b c e cap : Nat} : AFn pr 53 [.agg [.i n, .sl b 0 l.length c], .s nm, .i st] [⟨b, (l.map Nv.cs).flatten, .row e 5 cap⟩] (.ret (.i (findF nm st l 0))) :=
  AFn.borrow (c53 ⟨n, l⟩ nm st) (gl_fzB' Nv.cs_len l 0 rfl rfl (.cons (.agg (.cons (.refl _) (.cons .hit .nil))) (WkL.refl _ _ _)) (WkB.refl _ _ _))
theorem c34 (w : Wd) (nm : ByteArray) (v : Vl) (hw : smallW w) (hn : w.names.length ≤ 64) (hv : v.s.length ≤ 140737488355328) : AFn pr 34 [w.d, .s nm, v.d] [] (.ret (withF w nm v).d) := by
  refine AFn.ofGe (s34 ?_)
  unfold A34
  refine a_bxv fun z1 => ?_
  refine a_bxv fun z2 => ?_
  refine a_bx fun z3 => ?_
  (refine a_fld ?_; (apply a_ld1 2; exact rfl; exact rfl); refine a_lenM ?_; refine a_add (by first | omega | assumption | decide) (by first | omega | assumption | decide) ?_)
  refine a_mkS 0 (w.names.length + 1) rfl rfl (Nat.zero_le _) (by omega) (by omega) fun lb0 => ?_
  (refine a_fld ?_; (apply a_ld1 3; exact rfl; exact rfl); refine a_lenM ?_)
  refine a_lp (σ := Nat × Nat × Nat) (fun x => [.sl x.2.1 0 x.1 x.2.2, .i x.1]) (fun x => [⟨x.2.1, ((w.names.take x.1).map Nv.cs).flatten, .row 70 5 x.2.2⟩, ⟨z3, [.i 0, .nil], .box⟩, ⟨z2, v.cs, .box⟩, ⟨z1, w.cs, .box⟩]) (fun x => x.1 ≤ w.names.length) (fun x => w.names.length - x.1) (0, lb0, w.names.length + 1) (Gl.refl _ _) (Nat.zero_le _) ?_
  rintro ⟨i, lb, c⟩ K hi hK
  dsimp only [aix0, aix1, aix2, aix3, aix4, aix5, aix6, aix7, aix8]
  (refine a_lss ?_)
  refine a_cnd (fun c1 => ?_) (fun c1 => ?_)
  · have hi1 : i < w.names.length := by omega
    have hxs := hw _ (List.getElem_mem hi1)
    have hli : (w.names.take i).length = i := by rw [List.length_take]; simp only at hi; omega
    refine a_idxM i hi1 ?_
    generalize hx : w.names[i] = x at *
    obtain ⟨xn, xv⟩ := x
    have ho := c54 xv hxs
    have e : ((w.names.take (i + 1)).map Nv.cs).flatten = ((w.names.take i).map Nv.cs).flatten ++ Nv.cs ⟨xn, xv⟩ := by
      rw [List.take_succ_eq_append_getElem hi1, hx, List.map_append, List.flatten_append]
      simp
    ((apply a_ldAp; exact rfl); refine a_bx fun z4 => ?_; refine a_stA 0 rfl rfl rfl rfl ?_; refine a_fld ?_; (apply a_ld1 0; exact rfl; exact rfl); refine a_fld ?_; (apply a_ldN 0 _; exact rfl; exact rfl; exact rfl); refine a_callS0 ho ?_; refine a_bldNv rfl rfl ?_; refine a_rowN1 rfl ?_)
    refine a_app 1 ((w.names.take i).map Nv.cs).flatten 1 (Nv.cs ⟨xn, xv⟩) rfl ((flat_len Nv.cs_len _).trans (by rw [hli])) ⟨rfl, rfl, rfl⟩ rfl (by simp only at hi; omega) fun b' c' => ?_
    (refine a_add (by first | omega | assumption | decide) (by first | omega | assumption | decide) ?_)
    refine hK (i + 1, b', c') _ _ (by simp only; omega) (by simp only; omega) ?_
    rw [e]
    exact Gl.drop (.cons _ (List.Sublist.refl _))
  · obtain rfl : i = w.names.length := by simp only at hi; omega
    rw [List.take_length]
    clear hK
    (refine a_fld ?_; (apply a_st 3 _; exact rfl; exact rfl; exact rfl; exact rfl; (try dsimp only [afill, aparts, cl, chunk, List.take, List.drop, List.nil_append, List.cons_append, List.append_nil, List.length_cons, List.length_nil, Nat.zero_add, Nat.reduceAdd, Nat.reduceMul]); try exact rfl); (apply a_ldA 3; exact rfl; exact rfl); refine a_fld ?_; (apply a_ld1 2; exact rfl; exact rfl))
    refine a_callF1 0 rfl (find_own (n := w.nodes) (l := w.names) (nm := nm) (st := v.sort) (b := lb) (c := c)) ?_
    have ho := c54 v hv
    rcases findF_at (nm := nm) (st := v.sort) w.names 0 with ⟨h1, h2⟩ | ⟨j, x, h1, h2, h3⟩
    · have hp : (withF w nm v).d = .agg [.i w.nodes, .row 5 ((w.names ++ [Nv.mk nm v]).map Nv.cs)] := by
        unfold withF putL
        rw [h1, if_neg (by decide)]
        rfl
      rw [h1, hp]
      (refine a_geq ?_; refine a_cndbF rfl ?_; refine a_fld ?_; (apply a_ld1 3; exact rfl; exact rfl); (apply a_ldA 2; exact rfl; exact rfl); refine a_callS0 ho ?_; refine a_bldNv rfl rfl ?_; refine a_rowN1 rfl ?_)
      refine a_app 0 (w.names.map Nv.cs).flatten 1 (Nv.cs (Nv.mk nm v)) rfl (flat_len Nv.cs_len _) ⟨rfl, rfl, rfl⟩ rfl (by omega) fun b' c' => ?_
      (refine a_fld ?_; (apply a_st 3 _; exact rfl; exact rfl; exact rfl; exact rfl; (try dsimp only [afill, aparts, cl, chunk, List.take, List.drop, List.nil_append, List.cons_append, List.append_nil, List.length_cons, List.length_nil, Nat.zero_add, Nat.reduceAdd, Nat.reduceMul]); try exact rfl); (apply a_ldA 3; exact rfl; exact rfl); refine a_stA 1 rfl rfl rfl rfl ?_; (apply a_ldA 1; exact rfl; exact rfl))
      have e : (w.names.map Nv.cs).flatten ++ Nv.cs (Nv.mk nm v) = ((w.names ++ [Nv.mk nm v]).map Nv.cs).flatten := by
        rw [List.map_append, List.flatten_append]
        simp
      have el : w.names.length + 1 = (w.names ++ [Nv.mk nm v]).length := by simp
      rw [e, el]
      exact ge_world rfl rfl
    · rw [Nat.zero_add] at h1
      obtain ⟨hj, hx⟩ := List.getElem?_eq_some_iff.1 h2
      have hp : (withF w nm v).d = .agg [.i w.nodes, .row 5 ((w.names.set j (Nv.mk nm v)).map Nv.cs)] := by
        unfold withF putL
        rw [h1, if_pos (by omega), Int.toNat_natCast]
        rfl
      rw [h1, hp]
      (refine a_geq ?_; refine a_cndbT rfl ?_; refine a_fld ?_; (apply a_ld1 3; exact rfl; exact rfl); (apply a_ldA 2; exact rfl; exact rfl); refine a_callS0 ho ?_)
      refine a_idxO (by omega) (by omega) ?_
      rw [Int.toNat_natCast]
      refine a_fld ?_
      have hst := set_val (nm := nm) (v := v) w.names j hj (by rw [hx]; exact h3.1)
      have hfl := flat_len Nv.cs_len w.names
      refine a_st 0 ((w.names.set j (Nv.mk nm v)).map Nv.cs).flatten rfl rfl rfl (Nat.ble_eq_true_of_le (show 0 + j * 5 + 1 + 4 ≤ _ by omega)) hst ?_
      ((apply a_ldA 3; exact rfl; exact rfl); refine a_stA 1 rfl rfl rfl rfl ?_; (apply a_ldA 1; exact rfl; exact rfl))
      exact ge_world rfl (by rw [List.length_set])
end Go.Proofs.YtdalobojhfafbaaGreatDoor
set_option linter.unusedVariables false
namespace Go.V
open Go
theorem find_at {nm : ByteArray} {st : Int} : ∀ (l : List Nv) (i : Nat), (findF nm st l i = -1 ∧ ∀ x ∈ l, ¬ (x.nm = nm ∧ x.v.sort = st)) ∨ ∃ j x, findF nm st l i = (i + j : Nat) ∧ l[j]? = some x ∧ x.nm = nm ∧ x.v.sort = st
  | [], i => .inl ⟨rfl, fun x hx => by cases hx⟩
  | x :: r, i => by
    rw [findF]
    by_cases h : x.nm = nm ∧ x.v.sort = st
    · rw [if_pos h]
      exact .inr ⟨0, x, rfl, rfl, h.1, h.2⟩
    · rw [if_neg h]
      rcases find_at r (i + 1) with ⟨h1, h2⟩ | ⟨j, y, h1, h2, h3⟩
      · refine .inl ⟨h1, fun y hy => ?_⟩
        rcases List.mem_cons.1 hy with rfl | hy
        · exact h
        · exact h2 y hy
      · exact .inr ⟨j + 1, y, by rw [h1]; congr 1; omega, h2, h3⟩
theorem put_cases (nm : ByteArray) (v : Vl) (l : List Nv) : (putL nm v l = l ++ [⟨nm, v⟩] ∧ ∀ x ∈ l, ¬ (x.nm = nm ∧ x.v.sort = v.sort)) ∨ ∃ j x, putL nm v l = l.set j ⟨nm, v⟩ ∧ l[j]? = some x ∧ x.nm = nm ∧ x.v.sort = v.sort := by
  unfold putL
  rcases find_at (nm := nm) (st := v.sort) l 0 with ⟨h1, h2⟩ | ⟨j, x, h1, h2, h3⟩
  · rw [h1, if_neg (by decide)]
    exact .inl ⟨rfl, h2⟩
  · rw [h1, if_pos (by omega), Nat.zero_add, Int.toNat_natCast]
    exact .inr ⟨j, x, rfl, h2, h3⟩
def keyN (x : Nv) : ByteArray × Int := (x.nm, x.v.sort)
theorem met_key {x y : Nv} : ∀ {l m : List Nv}, keyN x = keyN y → l.map keyN = m.map keyN → metB x l = metB y m
  | [], [], _, _ => rfl
  | [], _ :: _, _, h => by cases h
  | _ :: _, [], _, h => by cases h
  | a :: l, b :: m, hx, h => by
    rw [List.map_cons, List.map_cons] at h
    injection h with h1 h2
    have ih := met_key hx h2
    have hx1 := congrArg Prod.fst hx
    have hx2 := congrArg Prod.snd hx
    have h11 := congrArg Prod.fst h1
    have h12 := congrArg Prod.snd h1
    simp only [keyN] at hx1 hx2 h11 h12
    unfold metB at ih ⊢
    rw [List.any_cons, List.any_cons, ih, h11, h12, hx1, hx2]
theorem rightL_key {n : Int} : ∀ {l m seen seen' : List Nv}, l.map keyN = m.map keyN → seen.map keyN = seen'.map keyN → (∀ x ∈ m, isF x.v n = true) → rightLW n seen l = true → rightLW n seen' m = true
  | [], [], _, _, _, _, _, _ => rfl
  | [], _ :: _, _, _, h, _, _, _ => by cases h
  | _ :: _, [], _, _, h, _, _, _ => by cases h
  | a :: l, b :: m, seen, seen', h, hs, hi, hr => by
    rw [List.map_cons, List.map_cons] at h
    injection h with h1 h2
    rw [rightLW] at hr ⊢
    simp only [Bool.and_eq_true] at hr
    have h11 : a.nm = b.nm := congrArg Prod.fst h1
    rw [← met_key h1 hs, ← h11, hr.1.1.1, hr.1.2, hi b (by simp), rightL_key h2 (seen := seen ++ [a]) (seen' := seen' ++ [b]) (by rw [List.map_append, List.map_append, hs, List.map_cons, List.map_cons, h1]) (fun x hx => hi x (by simp [hx])) hr.2]
    rfl
theorem rightL_app {n : Int} {x : Nv} : ∀ (l seen : List Nv), rightLW n seen (l ++ [x]) = (rightLW n seen l && (nameF x.nm.data.toList && isF x.v n && !metB x (seen ++ l)))
  | [], seen => by rw [List.nil_append, rightLW, rightLW, rightLW, List.append_nil, Bool.and_true, Bool.true_and]
  | y :: r, seen => by
    rw [List.cons_append, rightLW, rightLW, rightL_app r (seen ++ [y]), List.append_assoc]
    simp only [List.cons_append, List.nil_append, Bool.and_assoc]
section
variable {w : Wd} {nm : ByteArray} {v : Vl}
theorem with_right (hw : rightW w = true) (hnm : nameF nm.data.toList = true) (hv : isF v w.nodes = true) (hl : w.names.length < 64) : rightW (withF w nm v) = true := by
  obtain ⟨h1, h2, h3, h4⟩ := rightW_spec hw
  unfold rightW withF
  simp only
  rw [decide_eq_true h1, decide_eq_true h2]
  rcases put_cases nm v w.names with ⟨e, hno⟩ | ⟨j, x, e, hj, hx1, hx2⟩
  · rw [e, rightL_app, h4, hnm, hv, List.nil_append]
    have hm : metB (Nv.mk nm v) w.names = false := by
      unfold metB
      rw [List.any_eq_false]
      intro y hy
      rw [Bool.and_eq_true, decide_eq_true_eq, decide_eq_true_eq]
      exact hno y hy
    rw [hm, List.length_append, decide_eq_true (by simp only [List.length_singleton]; omega)]
    rfl
  · obtain ⟨hlt, hjx⟩ := List.getElem?_eq_some_iff.1 hj
    rw [e, List.length_set, decide_eq_true h3]
    refine rightL_key (l := w.names) (seen := []) ?_ rfl ?_ h4
    · apply List.ext_getElem
      · simp
      · intro i q1 q2
        rw [List.getElem_map, List.getElem_map, List.getElem_set]
        split
        · next h =>
          subst h
          rw [hjx]
          exact Prod.ext hx1 hx2
        · rfl
    · intro y hy
      rcases List.mem_or_eq_of_mem_set hy with hy | rfl
      · exact (rightLW_mem h4 y hy).2
      · exact hv
theorem there_eval {t : Tm} (hw : rightW w = true) (h0 : (sortF t).2 = 0) :
    ((evalF t w).2 = 0 ∧ (∀ x ∈ NamesF t, (getF w.names (str x.1) (shpAt x.2).sort).isSome = true) ∧ OkV w (sortF t).1 (evalF t w).1) ∨
      ((evalF t w).1 = vz ∧ ((evalF t w).2 = 5 ∨ (evalF t w).2 = 4 ∧ ∃ x ∈ NamesF t, (getF w.names (str x.1) (shpAt x.2).sort).isSome = false)) := by
  obtain ⟨_, _, r, q⟩ := sortF_ok h0
  obtain ⟨g, n⟩ := right_self r
  rw [← q] at g n
  have e : sortF t = ((sortF t).1, 0) := Prod.ext rfl h0
  have hn : NamesF t = namesT t := by unfold NamesF; rw [if_neg (by rw [h0]; decide)]
  obtain ⟨t1, t2⟩ := ev_there (w := w) t 0 r
  rw [evalF_of hw e, hn]
  cases hv : evV w t with
  | ok u => exact .inl ⟨rfl, fun x hx => t1 u hv x ((namesT_mem _ _).1 hx), evV_ok hw g n hv⟩
  | error z =>
    refine .inr ⟨rfl, ?_⟩
    rcases evV_err t z hv with rfl | rfl
    · obtain ⟨x, hx, hs⟩ := t2 hv
      exact .inr ⟨rfl, x, (namesT_mem _ _).2 hx, hs⟩
    · exact .inl rfl
end
end Go.V
set_option linter.unusedVariables false
namespace Go.V
theorem getF_cons (x : Nv) (r : List Nv) (nm : ByteArray) (s : Int) : getF (x :: r) nm s = if x.nm = nm ∧ x.v.sort = s then some x.v else getF r nm s := by
  unfold getF
  rw [List.find?_cons]
  by_cases h : x.nm = nm ∧ x.v.sort = s
  · rw [if_pos h, decide_eq_true h.1, decide_eq_true h.2]; rfl
  · have : (decide (x.nm = nm) && decide (x.v.sort = s)) = false := by
      rw [← Bool.not_eq_true, Bool.and_eq_true, decide_eq_true_eq, decide_eq_true_eq]; exact h
    rw [if_neg h, this]
theorem getF_none {nm : ByteArray} {s : Int} : ∀ {l : List Nv}, (∀ x ∈ l, ¬ (x.nm = nm ∧ x.v.sort = s)) → getF l nm s = none
  | [], _ => rfl
  | x :: r, h => by rw [getF_cons, if_neg (h x (by simp)), getF_none fun y hy => h y (by simp [hy])]
theorem getF_app {nm : ByteArray} {s : Int} : ∀ (l m : List Nv), getF (l ++ m) nm s = (getF l nm s).or (getF m nm s)
  | [], m => rfl
  | x :: r, m => by
    rw [List.cons_append, getF_cons, getF_cons, getF_app r m]
    split <;> rfl
theorem put_at {nm : ByteArray} {v : Vl} : ∀ (l : List Nv) (i : Nat), (findF nm v.sort l i = -1 ∧ ∀ x ∈ l, ¬ (x.nm = nm ∧ x.v.sort = v.sort)) ∨
    ∃ j, findF nm v.sort l i = (i + j : Nat) ∧ j < l.length ∧ (getF l nm v.sort).isSome = true ∧ getF (l.set j ⟨nm, v⟩) nm v.sort = some v ∧ ∀ nm' s', ¬ (nm' = nm ∧ s' = v.sort) → getF (l.set j ⟨nm, v⟩) nm' s' = getF l nm' s'
  | [], i => .inl ⟨rfl, fun x hx => by cases hx⟩
  | x :: r, i => by
    rw [findF]
    by_cases h : x.nm = nm ∧ x.v.sort = v.sort
    · rw [if_pos h]
      refine .inr ⟨0, rfl, by simp, by rw [getF_cons, if_pos h]; rfl, by rw [List.set_cons_zero, getF_cons, if_pos ⟨rfl, rfl⟩], fun nm' s' hne => ?_⟩
      rw [List.set_cons_zero, getF_cons, getF_cons, if_neg (fun q => hne ⟨q.1.symm, q.2.symm⟩), if_neg (fun q => hne ⟨q.1.symm.trans h.1, q.2.symm.trans h.2⟩)]
    · rw [if_neg h]
      rcases put_at r (i + 1) with ⟨h1, h2⟩ | ⟨j, h1, h2, h3, h4, h5⟩
      · refine .inl ⟨h1, fun y hy => ?_⟩
        rcases List.mem_cons.1 hy with rfl | hy
        · exact h
        · exact h2 y hy
      · refine .inr ⟨j + 1, by rw [h1]; congr 1; omega, by simpa using h2, by rw [getF_cons, if_neg h]; exact h3, by rw [List.set_cons_succ, getF_cons, if_neg h]; exact h4, fun nm' s' hne => ?_⟩
        rw [List.set_cons_succ, getF_cons, getF_cons, h5 nm' s' hne]
theorem put_law (nm : ByteArray) (v : Vl) (l : List Nv) : getF (putL nm v l) nm v.sort = some v ∧ (∀ nm' s', ¬ (nm' = nm ∧ s' = v.sort) → getF (putL nm v l) nm' s' = getF l nm' s') ∧
    ((putL nm v l).length : Int) = if (getF l nm v.sort).isSome = true then (l.length : Int) else (l.length : Int) + 1 := by
  unfold putL
  rcases put_at (nm := nm) (v := v) l 0 with ⟨h1, h2⟩ | ⟨j, h1, h2, h3, h4, h5⟩
  · rw [h1, if_neg (by decide)]
    have hn := getF_none h2
    refine ⟨by rw [getF_app, hn, getF_cons, if_pos ⟨rfl, rfl⟩]; rfl, fun nm' s' hne => ?_, ?_⟩
    · rw [getF_app, getF_cons, if_neg (fun q => hne ⟨q.1.symm, q.2.symm⟩)]
      show (getF l nm' s').or none = _
      rw [Option.or_none]
    · rw [hn, if_neg (by decide), List.length_append]
      simp
  · rw [h1, if_pos (by omega), Nat.zero_add, Int.toNat_natCast, h3, if_pos rfl, List.length_set]
    exact ⟨h4, h5, rfl⟩
end Go.V
