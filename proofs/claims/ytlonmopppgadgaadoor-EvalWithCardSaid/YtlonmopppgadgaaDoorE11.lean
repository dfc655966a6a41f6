/- With: the first name's set in an own row. -/
import Derived.Test.YtlonmopppgadgaaDoorE10
set_option maxRecDepth 100000
set_option linter.unusedVariables false
namespace Go.V
/-- a name's cells, its set in an own row -/
def FirstR (x : Nv) (f : List D) (M : List Bx) : Prop := ∃ sd y, f = [.s x.nm, .i x.v.sort, .i x.v.n, .b x.v.b, sd] ∧ M = [y] ∧ SetR sd y x.v.s
/-- a world's names, the first one's set in an own row -/
def NamesR (l : List Nv) (cells : List D) (M : List Bx) : Prop := (l = [] ∧ cells = [] ∧ M = []) ∨ ∃ x r f, l = x :: r ∧ cells = f ++ (r.map Nv.cs).flatten ∧ FirstR x f M
theorem NamesR.len {l : List Nv} {cells : List D} {M : List Bx} (h : NamesR l cells M) : cells.length = l.length * 5 := by
  rcases h with ⟨rfl, rfl, _⟩ | ⟨x, r, f, rfl, rfl, sd, y, rfl, _⟩
  · rfl
  · rw [List.length_append, flat_len Nv.cs_len]
    show 5 + r.length * 5 = (r.length + 1) * 5
    omega
theorem NamesR.one {l : List Nv} {cells : List D} {M : List Bx} (h : NamesR l cells M) : cells.all D.one = true := by
  rcases h with ⟨rfl, rfl, _⟩ | ⟨x, r, f, rfl, rfl, sd, y, rfl, _, hs⟩
  · rfl
  · rw [List.all_append, flat_one Nv.cs_one, Bool.and_true]
    show (true && (true && (true && (true && (sd.one && true))))) = true
    rw [hs.one]; rfl
/-- one more at the end -/
theorem NamesR.snoc {l : List Nv} {cells : List D} {M : List Bx} {x : Nv} (h : NamesR l cells M) (hl : l ≠ []) : NamesR (l ++ [x]) (cells ++ x.cs) M := by
  rcases h with ⟨rfl, _, _⟩ | ⟨y, r, f, rfl, rfl, hf⟩
  · exact absurd rfl hl
  · refine .inr ⟨y, r ++ [x], f, rfl, ?_, hf⟩
    rw [List.map_append, List.flatten_append, List.append_assoc]
    simp
/-- one more, or as many -/
theorem put_len (nm : ByteArray) (v : Vl) (l : List Nv) : (putL nm v l).length = l.length + 1 ∨ ((putL nm v l).length = l.length ∧ 0 < l.length) := by
  unfold putL
  split
  · right
    rw [List.length_set]
    refine ⟨rfl, ?_⟩
    cases l with
    | nil => rename_i h; exact absurd h (by rw [findF]; decide)
    | cons x r => simp
  · left; simp
/-- all of it may be given up -/
theorem NamesR.fz {l : List Nv} {cells : List D} {M : List Bx} (h : NamesR l cells M) {b e c cap k : Nat} {n : Int} {ds : List D} (hk : k = l.length) :
    Gl (.agg [.i n, .sl b 0 k c] :: ds) (M ++ [⟨b, cells, .row e 5 cap⟩]) (.agg [.i n, .row 5 (l.map Nv.cs)] :: ds) [] := by
  have last : Gl (.agg [.i n, .sl b 0 k c] :: ds) [⟨b, (l.map Nv.cs).flatten, .row e 5 cap⟩] (.agg [.i n, .row 5 (l.map Nv.cs)] :: ds) [] :=
    gl_fzB' Nv.cs_len l 0 rfl hk (.cons (.agg (.cons (.refl _) (.cons .hit .nil))) (WkL.refl _ _ _)) .nil
  rcases h with ⟨rfl, rfl, rfl⟩ | ⟨x, r, f, rfl, rfl, sd, y, rfl, rfl, hs⟩
  · exact last
  · refine Gl.trans (L1 := [⟨b, ((x :: r).map Nv.cs).flatten, .row e 5 cap⟩]) ?_ last
    refine hs.fz (WkL.refl _ _ _) (.cons ?_ .nil)
    rw [List.map_cons, List.flatten_cons]
    have app : ∀ (p q s : List D) , WkL sd (.row 1 (x.v.s.map bc)) p q → WkL sd (.row 1 (x.v.s.map bc)) (p ++ s) (q ++ s) := fun p q s hp => by
      induction p generalizing q with
      | nil => cases hp; exact WkL.refl _ _ _
      | cons d p ih => cases hp with | cons h1 h2 => exact .cons h1 (ih _ h2)
    exact app _ _ _ (.cons (.refl _) (.cons (.refl _) (.cons (.refl _) (.cons (.refl _) (.cons .hit .nil)))))
end Go.V
namespace Go.Proofs.YtlonmopppgadgaaDoor
open Go Go.V
theorem find_any {n : Int} {l : List Nv} {nm : ByteArray} {st : Int} {b c e cap k : Nat} {cells : List D} {M : List Bx} (h : NamesR l cells M) (hk : k = l.length) :
    AFn pr 57 [.agg [.i n, .sl b 0 k c], .s nm, .i st] (M ++ [⟨b, cells, .row e 5 cap⟩]) (.ret (.i (findF nm st l 0))) :=
  AFn.borrow (c57 ⟨n, l⟩ nm st) (h.fz hk)
theorem with_own (w : Wd) (nm : ByteArray) (v : Vl) (hw : smallW w) (hn : w.names.length ≤ 64) (hv : v.s.length ≤ 140737488355328) : ASpec pr 31 [w.d, .s nm, v.d] [] fun a L' =>
    ∃ b c cells M, a = .ret (.agg [.i w.nodes, .sl b 0 (putL nm v w.names).length c]) ∧ L'.Perm (M ++ [⟨b, cells, .row 47 5 c⟩]) ∧ NamesR (putL nm v w.names) cells M := by
  refine ASpec.sub (s31o ?_)
  unfold A31o
  refine a_bxv fun z1 => ?_
  refine a_bxv fun z2 => ?_
  refine a_bx fun z3 => ?_
  (refine a_fld ?_; (apply a_ld1 2; exact rfl; exact rfl); refine a_lenM ?_; refine a_add (by first | omega | assumption | decide) (by first | omega | assumption | decide) ?_)
  refine a_mkS 0 (w.names.length + 1) rfl rfl (Nat.zero_le _) (by omega) (by omega) fun lb0 => ?_
  (refine a_fld ?_; (apply a_ld1 3; exact rfl; exact rfl); refine a_lenM ?_)
  refine a_lp (σ := Nat × Nat × Nat × List D × List Bx) (fun x => [.sl x.2.1 0 x.1 x.2.2.1, .i x.1]) (fun x => ⟨x.2.1, x.2.2.2.1, .row 47 5 x.2.2.1⟩ :: ⟨z3, [.i 0, .nil], .box⟩ :: ⟨z2, v.cs, .box⟩ :: ⟨z1, w.cs, .box⟩ :: x.2.2.2.2) (fun x => x.1 ≤ w.names.length ∧ NamesR (w.names.take x.1) x.2.2.2.1 x.2.2.2.2) (fun x => w.names.length - x.1) (0, lb0, w.names.length + 1, [], []) (Gl.refl _ _) ⟨Nat.zero_le _, .inl ⟨List.take_zero, rfl, rfl⟩⟩ ?_
  rintro ⟨i, lb, c, cells, M⟩ K ⟨hi, hI⟩ hK
  dsimp only [aix0, aix1, aix2, aix3, aix4, aix5, aix6, aix7, aix8]
  (refine a_lss ?_)
  refine a_cnd (fun c1 => ?_) (fun c1 => ?_)
  · have hi1 : i < w.names.length := by omega
    have hxs := hw _ (List.getElem_mem hi1)
    simp only at hi hI
    have hli : (w.names.take i).length = i := by rw [List.length_take]; omega
    have hcl := hI.len
    rw [hli] at hcl
    have e0 : w.names.take (i + 1) = w.names.take i ++ [w.names[i]] := List.take_succ_eq_append_getElem hi1
    refine a_idxM i hi1 ?_
    generalize hx : w.names[i] = x at *
    obtain ⟨xn, xv⟩ := x
    ((apply a_ldAp; exact rfl); refine a_bx fun z4 => ?_; refine a_stA 0 rfl rfl rfl rfl ?_; refine a_fld ?_)
    refine ⟨_, List.mem_cons_self, rfl, ?_⟩
    by_cases h0 : i = 0
    · subst h0
      obtain ⟨rfl, rfl⟩ : cells = [] ∧ M = [] := by
        rcases hI with ⟨_, h1, h2⟩ | ⟨y, r, f, hh, _⟩
        · exact ⟨h1, h2⟩
        · rw [List.take_zero] at hh; cases hh
      ((apply a_ld1 0; exact rfl; exact rfl); refine a_fld ?_; (apply a_ldN 0 _; exact rfl; exact rfl; exact rfl); refine a_callF (L1 := []) (List.Perm.refl _) (own_any xv hxs) ?_)
      rintro a L' ⟨sd, y, rfl, rfl, hr⟩
      simp only [AE.on, List.cons_append, List.nil_append]
      refine ⟨fun p hp _ => List.mem_cons_of_mem _ hp, ?_⟩
      have hz : asizes [(0, 1, .s xn), (1, 4, .agg [.i xv.sort, .i xv.n, .b xv.b, sd])] = true := by
        simp [asizes, cl, D.one]
        exact hr.one
      refine V.a_bld [.s xn, .i xv.sort, .i xv.n, .b xv.b, sd] hz rfl ?_
      have hz2 : asizes [(0, 5, .agg [.s xn, .i xv.sort, .i xv.n, .b xv.b, sd])] = true := by
        simp [asizes, cl, D.one]
        exact hr.one
      refine V.a_bldF [[.s xn, .i xv.sort, .i xv.n, .b xv.b, sd]] hz2 rfl ?_
      have ho : ([.s xn, .i xv.sort, .i xv.n, .b xv.b, sd] : List D).all D.one = true := by
        show (true && (true && (true && (true && (sd.one && true))))) = true
        rw [hr.one]; rfl
      refine a_app 2 [] 1 [.s xn, .i xv.sort, .i xv.n, .b xv.b, sd] rfl rfl ⟨rfl, rfl, rfl⟩ ho (by omega) fun b' c' => ?_
      (refine a_add (by first | omega | assumption | decide) (by first | omega | assumption | decide) ?_)
      refine hK (1, b', c', [.s xn, .i xv.sort, .i xv.n, .b xv.b, sd], [y]) _ _ ⟨by simp only; omega, .inr ⟨⟨xn, xv⟩, [], _, ?_, (List.append_nil _).symm, sd, y, rfl, rfl, hr⟩⟩ (by simp only; omega) ?_
      · rw [List.take_zero, List.nil_append] at e0
        exact e0
      · exact (Gl.drop (.cons_cons _ (.cons _ (List.Sublist.refl _)))).trans (Gl.perm (List.perm_append_comm (l₁ := [_]) (l₂ := [_, _, _, _])))
    · have hne : w.names.take i ≠ [] := fun h => by rw [h] at hli; exact h0 hli.symm
      have ho := c56 xv hxs
      ((apply a_ld1 0; exact rfl; exact rfl); refine a_fld ?_; (apply a_ldN 0 _; exact rfl; exact rfl; exact rfl); refine a_call0 ho ?_)
      refine ⟨fun p hp _ => hp, ?_⟩
      (refine a_bldNv rfl rfl ?_; refine a_rowN1 rfl ?_)
      refine a_app 1 cells 1 (Nv.cs ⟨xn, xv⟩) rfl hcl ⟨rfl, rfl, rfl⟩ rfl (by omega) fun b' c' => ?_
      (refine a_add (by first | omega | assumption | decide) (by first | omega | assumption | decide) ?_)
      refine hK (i + 1, b', c', cells ++ Nv.cs ⟨xn, xv⟩, M) _ _ ⟨by simp only; omega, ?_⟩ (by simp only; omega) ?_
      · simp only
        rw [e0]
        exact hI.snoc hne
      · exact Gl.drop (.cons _ (List.Sublist.refl _))
  · obtain rfl : i = w.names.length := by simp only at hi; omega
    simp only at hI
    rw [List.take_length] at hI
    clear hK
    (refine a_fld ?_; (apply a_st 3 _; exact rfl; exact rfl; exact rfl; exact rfl; (try dsimp only [afill, aparts, cl, chunk, List.take, List.drop, List.nil_append, List.cons_append, List.append_nil, List.length_cons, List.length_nil, Nat.zero_add, Nat.reduceAdd, Nat.reduceMul]); try exact rfl); (apply a_ldA 3; exact rfl; exact rfl); refine a_fld ?_; (apply a_ld1 2; exact rfl; exact rfl))
    have hp : (⟨lb, cells, .row 47 5 c⟩ :: ⟨z3, [.i 0, .nil], .box⟩ :: ⟨z2, v.cs, .box⟩ :: ⟨z1, [.i w.nodes, .sl lb 0 w.names.length c], .box⟩ :: M : List Bx).Perm ((M ++ [⟨lb, cells, .row 47 5 c⟩]) ++ [⟨z3, [.i 0, .nil], .box⟩, ⟨z2, v.cs, .box⟩, ⟨z1, [.i w.nodes, .sl lb 0 w.names.length c], .box⟩]) := by
      rw [List.append_assoc]
      exact List.perm_append_comm (l₁ := [_, _, _, _]) (l₂ := M)
    have hfind : AFn pr 57 [.agg [.i w.nodes, .sl lb 0 w.names.length c], .s nm, .i v.sort] (⟨lb, cells, .row 47 5 c⟩ :: ⟨z3, [.i 0, .nil], .box⟩ :: ⟨z2, v.cs, .box⟩ :: ⟨z1, [.i w.nodes, .sl lb 0 w.names.length c], .box⟩ :: M) (.ret (.i (findF nm v.sort w.names 0))) :=
      (ASpec.frame (find_any (n := w.nodes) (nm := nm) (st := v.sort) hI rfl) hp).permOut fun a L' ⟨L2, h1, h2, h3⟩ => ⟨_, by rw [h1, h3]; exact hp.symm, h2, rfl⟩
    refine a_callR hfind ?_
    have hcl := hI.len
    rcases findF_at (nm := nm) (st := v.sort) w.names 0 with ⟨h1, h2⟩ | ⟨j, x, h1, h2, h3⟩
    · have hput : putL nm v w.names = w.names ++ [⟨nm, v⟩] := by
        unfold putL
        rw [h1, if_neg (by decide)]
      rw [h1, hput]
      (refine a_geq ?_; refine a_cndbF rfl ?_; refine a_fld ?_)
      refine ⟨_, .tail _ (.tail _ (.tail _ (.head _))), rfl, ?_⟩
      by_cases h0 : w.names = []
      · obtain ⟨rfl, rfl⟩ : cells = [] ∧ M = [] := by
          rcases hI with ⟨_, q1, q2⟩ | ⟨y, r, f, hh, _⟩
          · exact ⟨q1, q2⟩
          · rw [h0] at hh; cases hh
        rw [h0] at hcl hn ⊢
        ((apply a_ld1 0; exact rfl; exact rfl); (apply a_ldA 2; exact rfl; exact rfl); refine a_callF (L1 := []) (List.Perm.refl _) (own_any v hv) ?_)
        rintro a L' ⟨sd, y, rfl, rfl, hr⟩
        simp only [AE.on, List.cons_append, List.nil_append]
        refine ⟨fun p hp _ => List.mem_cons_of_mem _ hp, ?_⟩
        have hz : asizes [(0, 1, .s nm), (1, 4, .agg [.i v.sort, .i v.n, .b v.b, sd])] = true := by
          simp [asizes, cl, D.one]
          exact hr.one
        refine V.a_bld [.s nm, .i v.sort, .i v.n, .b v.b, sd] hz rfl ?_
        have hz2 : asizes [(0, 5, .agg [.s nm, .i v.sort, .i v.n, .b v.b, sd])] = true := by
          simp [asizes, cl, D.one]
          exact hr.one
        refine V.a_bldF [[.s nm, .i v.sort, .i v.n, .b v.b, sd]] hz2 rfl ?_
        have ho : ([.s nm, .i v.sort, .i v.n, .b v.b, sd] : List D).all D.one = true := by
          show (true && (true && (true && (true && (sd.one && true))))) = true
          rw [hr.one]; rfl
        refine a_app 1 [] 1 [.s nm, .i v.sort, .i v.n, .b v.b, sd] rfl rfl ⟨rfl, rfl, rfl⟩ ho (by omega) fun b' c' => ?_
        (refine a_fld ?_; (apply a_st 4 _; exact rfl; exact rfl; exact rfl; exact rfl; (try dsimp only [afill, aparts, cl, chunk, List.take, List.drop, List.nil_append, List.cons_append, List.append_nil, List.length_cons, List.length_nil, Nat.zero_add, Nat.reduceAdd, Nat.reduceMul]); try exact rfl); (apply a_ldA 4; exact rfl; exact rfl); refine a_stA 2 rfl rfl rfl rfl ?_; (apply a_ldA 2; exact rfl; exact rfl))
        exact ⟨[_, _], .cons_cons _ (.cons_cons _ (List.nil_sublist _)), b', c', _, [y], rfl, List.Perm.refl _, .inr ⟨⟨nm, v⟩, [], _, rfl, (List.append_nil _).symm, sd, y, rfl, rfl, hr⟩⟩
      · have ho := c56 v hv
        ((apply a_ld1 0; exact rfl; exact rfl); (apply a_ldA 2; exact rfl; exact rfl); refine a_call0 ho ?_)
        refine ⟨fun p hp _ => hp, ?_⟩
        (refine a_bldNv rfl rfl ?_; refine a_rowN1 rfl ?_)
        refine a_app 0 cells 1 (Nv.cs ⟨nm, v⟩) rfl hcl ⟨rfl, rfl, rfl⟩ rfl (by omega) fun b' c' => ?_
        (refine a_fld ?_; (apply a_st 3 _; exact rfl; exact rfl; exact rfl; exact rfl; (try dsimp only [afill, aparts, cl, chunk, List.take, List.drop, List.nil_append, List.cons_append, List.append_nil, List.length_cons, List.length_nil, Nat.zero_add, Nat.reduceAdd, Nat.reduceMul]); try exact rfl); (apply a_ldA 3; exact rfl; exact rfl); refine a_stA 1 rfl rfl rfl rfl ?_; (apply a_ldA 1; exact rfl; exact rfl))
        have el : (w.names ++ [Nv.mk nm v]).length = w.names.length + 1 := by simp
        rw [el]
        exact ⟨_ :: M, .cons_cons _ (.cons _ (.cons _ (.cons _ (List.Sublist.refl _)))), b', c', _, M, rfl, List.perm_append_comm (l₁ := [_]) (l₂ := M), hI.snoc h0⟩
    · rw [Nat.zero_add] at h1
      obtain ⟨hj, hx⟩ := List.getElem?_eq_some_iff.1 h2
      have hput : putL nm v w.names = w.names.set j ⟨nm, v⟩ := by
        unfold putL
        rw [h1, if_pos (by omega), Int.toNat_natCast]
      rw [h1, hput]
      (refine a_geq ?_; refine a_cndbT rfl ?_; refine a_fld ?_)
      refine ⟨_, .tail _ (.tail _ (.tail _ (.head _))), rfl, ?_⟩
      rcases hI with ⟨q, _, _⟩ | ⟨x0, r, f, hnr, rfl, sd0, y0, rfl, rfl, hs0⟩
      · rw [q] at hj; exact absurd hj (Nat.not_lt_zero _)
      have hnl : w.names.length = r.length + 1 := by rw [hnr]; rfl
      cases j with
      | zero =>
        ((apply a_ld1 0; exact rfl; exact rfl); (apply a_ldA 2; exact rfl; exact rfl); refine a_callF (L1 := []) (List.Perm.refl _) (own_any v hv) ?_)
        rintro a L' ⟨sd, y, rfl, rfl, hr⟩
        simp only [AE.on, List.cons_append, List.nil_append]
        refine ⟨fun p hp _ => List.mem_cons_of_mem _ hp, ?_⟩
        refine a_idxO (by omega) (by omega) ?_
        refine a_fld ?_
        have ho : (cl (.agg [.i v.sort, .i v.n, .b v.b, sd])).all D.one = true := by
          show (true && (true && (true && (sd.one && true)))) = true
          rw [hr.one]; rfl
        refine a_st 1 ([.s x0.nm, .i v.sort, .i v.n, .b v.b, sd] ++ (r.map Nv.cs).flatten) rfl rfl ho (Nat.ble_eq_true_of_le (by show 5 ≤ _; simp only [List.length_cons]; omega)) rfl ?_
        ((apply a_ldA 4; exact rfl; exact rfl); refine a_stA 2 rfl rfl rfl rfl ?_; (apply a_ldA 2; exact rfl; exact rfl))
        have hxn : x0.nm = nm := by
          have := hx
          simp only [hnr] at this
          rw [← h3.1, ← this]
          rfl
        have el : (w.names.set 0 (Nv.mk nm v)).length = w.names.length := by rw [List.length_set]
        rw [el, hxn]
        exact ⟨[_, _], .cons_cons _ (.cons_cons _ (List.nil_sublist _)), lb, c, _, [y], rfl, List.Perm.refl _, .inr ⟨⟨nm, v⟩, r, _, by rw [hnr]; rfl, rfl, sd, y, rfl, rfl, hr⟩⟩
      | succ j =>
        have ho := c56 v hv
        ((apply a_ld1 0; exact rfl; exact rfl); (apply a_ldA 2; exact rfl; exact rfl); refine a_call0 ho ?_)
        refine ⟨fun p hp _ => hp, ?_⟩
        refine a_idxO (by omega) (by omega) ?_
        rw [Int.toNat_natCast]
        refine a_fld ?_
        have hjr : j < r.length := by omega
        have hxr : r[j].nm = nm := by
          have := hx
          simp only [hnr] at this
          rw [← h3.1, ← this]
          rfl
        have hst := set_val (nm := nm) (v := v) r j hjr hxr
        have h5 : ([.s x0.nm, .i x0.v.sort, .i x0.v.n, .b x0.v.b, sd0] : List D).length = 5 := rfl
        have e1 : ([.s x0.nm, .i x0.v.sort, .i x0.v.n, .b x0.v.b, sd0] ++ (r.map Nv.cs).flatten).take (0 + (j + 1) * 5 + 1) = [.s x0.nm, .i x0.v.sort, .i x0.v.n, .b x0.v.b, sd0] ++ (r.map Nv.cs).flatten.take (0 + j * 5 + 1) := by
          rw [List.take_append, h5, List.take_of_length_le (by rw [h5]; omega)]
          congr 2; omega
        have e2 : ([.s x0.nm, .i x0.v.sort, .i x0.v.n, .b x0.v.b, sd0] ++ (r.map Nv.cs).flatten).drop (0 + (j + 1) * 5 + 1 + 4) = (r.map Nv.cs).flatten.drop (0 + j * 5 + 1 + 4) := by
          rw [List.drop_append, h5, List.drop_of_length_le (by rw [h5]; omega), List.nil_append]
          congr 1; omega
        refine a_st 0 ([.s x0.nm, .i x0.v.sort, .i x0.v.n, .b x0.v.b, sd0] ++ ((r.set j (Nv.mk nm v)).map Nv.cs).flatten) rfl rfl rfl (Nat.ble_eq_true_of_le (by rw [hcl]; show 0 + (j + 1) * 5 + 1 + 4 ≤ _; omega)) (by rw [e1, e2, List.append_assoc, List.append_assoc, ← hst, List.append_assoc]) ?_
        ((apply a_ldA 3; exact rfl; exact rfl); refine a_stA 1 rfl rfl rfl rfl ?_; (apply a_ldA 1; exact rfl; exact rfl))
        have el : (w.names.set (j + 1) (Nv.mk nm v)).length = w.names.length := by rw [List.length_set]
        rw [el]
        exact ⟨[_, _], .cons_cons _ (.cons _ (.cons _ (.cons _ (List.Sublist.refl _)))), lb, c, _, [y0], rfl, List.perm_append_comm (l₁ := [_]) (l₂ := [_]), .inr ⟨x0, r.set j ⟨nm, v⟩, _, by rw [hnr]; rfl, rfl, sd0, y0, rfl, rfl, hs0⟩⟩
/-- what With answers -/
def WithR (w : Wd) (nm : ByteArray) (v : Vl) (a : AE) (L' : List Bx) : Prop :=
  ∃ b c x r f sd y, putL nm v w.names = x :: r ∧ f = [.s x.nm, .i x.v.sort, .i x.v.n, .b x.v.b, sd] ∧ SetR sd y x.v.s ∧ a = .ret (.agg [.i w.nodes, .sl b 0 (r.length + 1) c]) ∧ L' = [y, ⟨b, f ++ (r.map Nv.cs).flatten, .row 47 5 c⟩]
theorem with_any (w : Wd) (nm : ByteArray) (v : Vl) (hw : smallW w) (hn : w.names.length ≤ 64) (hv : v.s.length ≤ 140737488355328) : ASpec pr 31 [w.d, .s nm, v.d] [] (WithR w nm v) := by
  refine (with_own w nm v hw hn hv).permOut ?_
  rintro a L' ⟨b, c, cells, M, rfl, hp, h⟩
  rcases h with ⟨q, _, _⟩ | ⟨x, r, f, hnr, rfl, sd, y, rfl, rfl, hs⟩
  · have : (putL nm v w.names).length ≠ 0 := by
      rcases put_len nm v w.names with h | ⟨h, h'⟩ <;> omega
    rw [q] at this
    exact absurd rfl this
  · exact ⟨_, hp, b, c, x, r, _, sd, y, hnr, rfl, hs, by rw [hnr]; rfl, rfl⟩
end Go.Proofs.YtlonmopppgadgaaDoor
