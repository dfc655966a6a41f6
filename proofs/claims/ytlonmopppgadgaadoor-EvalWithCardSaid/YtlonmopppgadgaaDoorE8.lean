/- With: a world in which a name has a value. -/
import Derived.Test.YtlonmopppgadgaaDoorE3
import Derived.Test.YtlonmopppgadgaaDoorM9
set_option maxRecDepth 100000
set_option linter.unusedVariables false
namespace Go.V
/-- the same, of own blocks: they stay -/
theorem AFn.borrow {P : Program} {g : FuncId} {args args' : List D} {L : List Bx} {v : Value} (h : AFn P g args' [] (.ret (.val v))) (hg : Gl args L args' []) : AFn P g args L (.ret (.val v)) := by
  intro F w vs a hr
  obtain ⟨F1, e1, a1, r1⟩ := hg F w vs a hr
  refine (h F1 w vs a1 r1).mono ?_
  rintro e w' ⟨ae, F2, L2, h1, h2, h3, rfl, rfl⟩
  have no : ∀ k : Nat, ∀ x ∈ ([] : List Bx), x.b ≠ k := fun k x hx => by cases hx
  have keep : Keeps F w F w' := ⟨h1.size, fun _ _ h => h, fun k hk _ => h1.block k hk (no k)⟩
  refine ⟨.ret (.val v), F, L, ⟨h1.os, h1.tape, h1.output, h1.size, fun k hk _ => h1.block k hk (no k), fun _ h => h, fun _ _ h => .inl h, fun x hx _ => ⟨x, hx, rfl⟩, h1.drawn⟩,
    ⟨fun x hx => (a.own x hx).keep keep (h1.block x.b (a.own x hx).lt (no _)), a.nodup, a.sep, fun b hb => Nat.lt_of_lt_of_le (a.lt b hb) h1.size⟩, ?_, rfl, rfl⟩
  obtain ⟨u, rfl, h4⟩ := h3
  exact ⟨u, rfl, by rw [Rep] at h4 ⊢; exact h4⟩
/-- an own row is given up -/
theorem gl_fzB' {α : Type} {f : α → List D} {sz b e c cap n : Nat} (hsz : ∀ x, (f x).length = sz) {ds ds' : List D} {L L' : List Bx} (l : List α) (i : Nat) (hi : L[i]? = some (Bx.mk b (l.map f).flatten (.row e sz cap))) (hn : n = l.length)
    (hd : WkL (.sl b 0 n c) (.row sz (l.map f)) ds ds') (hL : WkB (.sl b 0 n c) (.row sz (l.map f)) (L.eraseIdx i) L') : Gl ds L ds' L' := by
  subst hn
  refine Gl.fz (n := l.length) (c := c) i hi (flat_len hsz l) ?_ ?_
  · rw [chunk_flat hsz]; exact hd
  · rw [chunk_flat hsz]; exact hL
theorem set_val {nm : ByteArray} {v : Vl} : ∀ (l : List Nv) (j : Nat) (hj : j < l.length), l[j].nm = nm → (l.map Nv.cs).flatten.take (0 + j * 5 + 1) ++ cl v.d ++ (l.map Nv.cs).flatten.drop (0 + j * 5 + 1 + 4) = ((l.set j ⟨nm, v⟩).map Nv.cs).flatten
  | [], j, hj, _ => absurd hj (Nat.not_lt_zero _)
  | y :: r, 0, _, h => by
    have h : y.nm = nm := h
    subst h
    rfl
  | y :: r, j + 1, hj, h => by
    have ih := set_val r j (by simpa using hj) h (v := v)
    rw [List.map_cons, List.flatten_cons, List.set_cons_succ, List.map_cons, List.flatten_cons, ← ih]
    have e1 : (y.cs ++ (r.map Nv.cs).flatten).take (0 + (j + 1) * 5 + 1) = y.cs ++ (r.map Nv.cs).flatten.take (0 + j * 5 + 1) := by
      rw [List.take_append, Nv.cs_len, List.take_of_length_le (by rw [Nv.cs_len]; omega)]
      congr 2; omega
    have e2 : (y.cs ++ (r.map Nv.cs).flatten).drop (0 + (j + 1) * 5 + 1 + 4) = (r.map Nv.cs).flatten.drop (0 + j * 5 + 1 + 4) := by
      rw [List.drop_append, Nv.cs_len, List.drop_of_length_le (by rw [Nv.cs_len]; omega), List.nil_append]
      congr 1; omega
    rw [e1, e2, List.append_assoc, List.append_assoc, List.append_assoc]
def putL (nm : ByteArray) (v : Vl) (l : List Nv) : List Nv := if 0 ≤ findF nm v.sort l 0 then l.set (findF nm v.sort l 0).toNat ⟨nm, v⟩ else l ++ [⟨nm, v⟩]
def withF (w : Wd) (nm : ByteArray) (v : Vl) : Wd := ⟨w.nodes, putL nm v w.names⟩
end Go.V
namespace Go.Proofs.YtlonmopppgadgaaDoor
open Go Go.V
theorem ge_world {n : Int} {l : List Nv} {b c e cap k : Nat} {L : List Bx} (hi : L[0]? = some ⟨b, (l.map Nv.cs).flatten, .row e 5 cap⟩) (hk : k = l.length) : Ge (.ret (.agg [.i n, .sl b 0 k c])) L (.ret (.agg [.i n, .row 5 (l.map Nv.cs)])) [] := by
  cases L with
  | nil => cases hi
  | cons x r =>
    injection hi with hi
    subst hi
    exact ⟨trivial, Gl.trans (Gl.drop (L' := [_]) (.cons_cons _ (List.nil_sublist _))) (gl_fzB' Nv.cs_len l 0 rfl hk (.cons (.agg (.cons (.refl _) (.cons .hit .nil))) .nil) .nil)⟩
theorem find_own {n : Int} {l : List Nv} {nm : ByteArray} {st : Int} {b c e cap : Nat} : AFn pr 57 [.agg [.i n, .sl b 0 l.length c], .s nm, .i st] [⟨b, (l.map Nv.cs).flatten, .row e 5 cap⟩] (.ret (.i (findF nm st l 0))) :=
  AFn.borrow (c57 ⟨n, l⟩ nm st) (gl_fzB' Nv.cs_len l 0 rfl rfl (.cons (.agg (.cons (.refl _) (.cons .hit .nil))) (WkL.refl _ _ _)) (WkB.refl _ _ _))
theorem c31 (w : Wd) (nm : ByteArray) (v : Vl) (hw : smallW w) (hn : w.names.length ≤ 64) (hv : v.s.length ≤ 140737488355328) : AFn pr 31 [w.d, .s nm, v.d] [] (.ret (withF w nm v).d) := by
  refine AFn.ofGe (s31 ?_)
  unfold A31
  refine a_bxv fun z1 => ?_
  refine a_bxv fun z2 => ?_
  refine a_bx fun z3 => ?_
  (refine a_fld ?_; (apply a_ld1 2; exact rfl; exact rfl); refine a_lenM ?_; refine a_add (by first | omega | assumption | decide) (by first | omega | assumption | decide) ?_)
  refine a_mkS 0 (w.names.length + 1) rfl rfl (Nat.zero_le _) (by omega) (by omega) fun lb0 => ?_
  (refine a_fld ?_; (apply a_ld1 3; exact rfl; exact rfl); refine a_lenM ?_)
  refine a_lp (σ := Nat × Nat × Nat) (fun x => [.sl x.2.1 0 x.1 x.2.2, .i x.1]) (fun x => [⟨x.2.1, ((w.names.take x.1).map Nv.cs).flatten, .row 47 5 x.2.2⟩, ⟨z3, [.i 0, .nil], .box⟩, ⟨z2, v.cs, .box⟩, ⟨z1, w.cs, .box⟩]) (fun x => x.1 ≤ w.names.length) (fun x => w.names.length - x.1) (0, lb0, w.names.length + 1) (Gl.refl _ _) (Nat.zero_le _) ?_
  rintro ⟨i, lb, c⟩ K hi hK
  dsimp only [aix0, aix1, aix2, aix3, aix4, aix5, aix6, aix7, aix8]
  (refine a_lss ?_)
  refine a_cnd (fun c1 => ?_) (fun c1 => ?_)
  · have hi1 : i < w.names.length := by omega
    have hxs := hw _ (List.getElem_mem hi1)
    have hli : (w.names.take i).length = i := by rw [List.length_take]; simp only at hi; omega
    refine a_idxM i hi1 ?_
    generalize hx : w.names[i] = x at *
    obtain ⟨xn, xv⟩ := x
    have ho := c56 xv hxs
    have e : ((w.names.take (i + 1)).map Nv.cs).flatten = ((w.names.take i).map Nv.cs).flatten ++ Nv.cs ⟨xn, xv⟩ := by
      rw [List.take_succ_eq_append_getElem hi1, hx, List.map_append, List.flatten_append]
      simp
    ((apply a_ldAp; exact rfl); refine a_bx fun z4 => ?_; refine a_stA 0 rfl rfl rfl rfl ?_; refine a_fld ?_; (apply a_ld1 0; exact rfl; exact rfl); refine a_fld ?_; (apply a_ldN 0 _; exact rfl; exact rfl; exact rfl); refine a_callS0 ho ?_; refine a_bldNv rfl rfl ?_; refine a_rowN1 rfl ?_)
    refine a_app 1 ((w.names.take i).map Nv.cs).flatten 1 (Nv.cs ⟨xn, xv⟩) rfl ((flat_len Nv.cs_len _).trans (by rw [hli])) ⟨rfl, rfl, rfl⟩ rfl (by simp only at hi; omega) fun b' c' => ?_
    (refine a_add (by first | omega | assumption | decide) (by first | omega | assumption | decide) ?_)
    refine hK (i + 1, b', c') _ _ (by simp only; omega) (by simp only; omega) ?_
    rw [e]
    exact Gl.drop (.cons _ (List.Sublist.refl _))
  · obtain rfl : i = w.names.length := by simp only at hi; omega
    rw [List.take_length]
    clear hK
    (refine a_fld ?_; (apply a_st 3 _; exact rfl; exact rfl; exact rfl; exact rfl; (try dsimp only [afill, aparts, cl, chunk, List.take, List.drop, List.nil_append, List.cons_append, List.append_nil, List.length_cons, List.length_nil, Nat.zero_add, Nat.reduceAdd, Nat.reduceMul]); try exact rfl); (apply a_ldA 3; exact rfl; exact rfl); refine a_fld ?_; (apply a_ld1 2; exact rfl; exact rfl))
    refine a_callF1 0 rfl (find_own (n := w.nodes) (l := w.names) (nm := nm) (st := v.sort) (b := lb) (c := c)) ?_
    have ho := c56 v hv
    rcases findF_at (nm := nm) (st := v.sort) w.names 0 with ⟨h1, h2⟩ | ⟨j, x, h1, h2, h3⟩
    · have hp : (withF w nm v).d = .agg [.i w.nodes, .row 5 ((w.names ++ [Nv.mk nm v]).map Nv.cs)] := by
        unfold withF putL
        rw [h1, if_neg (by decide)]
        rfl
      rw [h1, hp]
      (refine a_geq ?_; refine a_cndbF rfl ?_; refine a_fld ?_; (apply a_ld1 3; exact rfl; exact rfl); (apply a_ldA 2; exact rfl; exact rfl); refine a_callS0 ho ?_; refine a_bldNv rfl rfl ?_; refine a_rowN1 rfl ?_)
      refine a_app 0 (w.names.map Nv.cs).flatten 1 (Nv.cs (Nv.mk nm v)) rfl (flat_len Nv.cs_len _) ⟨rfl, rfl, rfl⟩ rfl (by omega) fun b' c' => ?_
      (refine a_fld ?_; (apply a_st 3 _; exact rfl; exact rfl; exact rfl; exact rfl; (try dsimp only [afill, aparts, cl, chunk, List.take, List.drop, List.nil_append, List.cons_append, List.append_nil, List.length_cons, List.length_nil, Nat.zero_add, Nat.reduceAdd, Nat.reduceMul]); try exact rfl); (apply a_ldA 3; exact rfl; exact rfl); refine a_stA 1 rfl rfl rfl rfl ?_; (apply a_ldA 1; exact rfl; exact rfl))
      have e : (w.names.map Nv.cs).flatten ++ Nv.cs (Nv.mk nm v) = ((w.names ++ [Nv.mk nm v]).map Nv.cs).flatten := by
        rw [List.map_append, List.flatten_append]
        simp
      have el : w.names.length + 1 = (w.names ++ [Nv.mk nm v]).length := by simp
      rw [e, el]
      exact ge_world rfl rfl
    · rw [Nat.zero_add] at h1
      obtain ⟨hj, hx⟩ := List.getElem?_eq_some_iff.1 h2
      have hp : (withF w nm v).d = .agg [.i w.nodes, .row 5 ((w.names.set j (Nv.mk nm v)).map Nv.cs)] := by
        unfold withF putL
        rw [h1, if_pos (by omega), Int.toNat_natCast]
        rfl
      rw [h1, hp]
      (refine a_geq ?_; refine a_cndbT rfl ?_; refine a_fld ?_; (apply a_ld1 3; exact rfl; exact rfl); (apply a_ldA 2; exact rfl; exact rfl); refine a_callS0 ho ?_)
      refine a_idxO (by omega) (by omega) ?_
      rw [Int.toNat_natCast]
      refine a_fld ?_
      have hst := set_val (nm := nm) (v := v) w.names j hj (by rw [hx]; exact h3.1)
      have hfl := flat_len Nv.cs_len w.names
      refine a_st 0 ((w.names.set j (Nv.mk nm v)).map Nv.cs).flatten rfl rfl rfl (Nat.ble_eq_true_of_le (show 0 + j * 5 + 1 + 4 ≤ _ by omega)) hst ?_
      ((apply a_ldA 3; exact rfl; exact rfl); refine a_stA 1 rfl rfl rfl rfl ?_; (apply a_ldA 1; exact rfl; exact rfl))
      exact ge_world rfl (by rw [List.length_set])
end Go.Proofs.YtlonmopppgadgaaDoor
