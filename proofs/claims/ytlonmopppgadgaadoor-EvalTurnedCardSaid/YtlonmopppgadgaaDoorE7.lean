/- EvalTurned: which node is which does not matter to what is counted. -/
import Derived.Test.YtlonmopppgadgaaDoorE3
import Derived.Test.YtlonmopppgadgaaDoorM8
set_option maxRecDepth 100000
set_option linter.unusedVariables false
namespace Go.V
theorem and_lo (a : Int) : ∃ n : Nat, bitsI .and .i64 a 65535 = n ∧ n ≤ 65535 := by
  refine ⟨(BitVec.ofInt 64 a &&& BitVec.ofInt 64 65535).toNat, ?_, ?_⟩
  · have h : (BitVec.ofInt 64 a &&& BitVec.ofInt 64 65535).toNat ≤ 65535 := by
      rw [BitVec.toNat_and]
      exact Nat.and_le_right
    show IntKind.i64.wrap _ = _
    rw [i64_wrap']
    show (((BitVec.ofInt 64 a &&& BitVec.ofInt 64 65535).toNat : Int) + 9223372036854775808) % 18446744073709551616 - 9223372036854775808 = _
    omega
  · rw [BitVec.toNat_and]
    exact Nat.and_le_right
theorem a_andM {a : Int} {k : D → Prop} (h : ∀ n : Nat, k (.i n)) : aar .and (.i a) (.i 65535) k := by
  obtain ⟨n, e, _⟩ := and_lo a
  refine ⟨rfl, ?_⟩
  have := h n
  rw [← e] at this
  exact this
theorem a_remM {n : Nat} {m : Int} {k : D → Prop} (hm : 0 < m) (h : ∀ j : Nat, j < m.toNat → k (.i j)) : aar .rem (.i n) (.i m) k := by
  refine ⟨rfl, by omega, ?_⟩
  obtain ⟨q, rfl⟩ : ∃ q : Nat, m = q := ⟨m.toNat, by omega⟩
  have := h (n % q) (Nat.mod_lt _ (by omega))
  rw [Int.natCast_emod] at this
  rw [Int.tmod_eq_emod_of_nonneg (by omega)]
  exact this
theorem flat_bc : ∀ l : List Bool, (l.map bc).flatten = l.map D.b
  | [] => rfl
  | x :: r => by rw [List.map_cons, List.flatten_cons, flat_bc r]; rfl
/-- one of a row of bools is read -/
theorem a_ldB {L : List Bx} {k : D → Prop} {b e c : Nat} {l : List Bool} (i j : Nat) (hi : L[i]? = some (Bx.mk b (l.map bc).flatten (.row e 1 c))) (hj : j < l.length) (h : k (.b (l.getD j false))) : ald1 (.p b (0 + j * 1)) L k := by
  refine a_ld1 i hi ?_ h
  rw [Nat.zero_add, Nat.mul_one, flat_bc, List.getElem?_map, List.getElem?_eq_getElem hj, List.getD_eq_getElem?_getD, List.getElem?_eq_getElem hj]
  rfl
/-- an own row is given up -/
theorem gl_fzB {α : Type} {f : α → List D} {sz b e c cap n : Nat} (hsz : ∀ x, (f x).length = sz) {ds ds' : List D} {L L' : List Bx} (l : List α) (i : Nat) (hi : L[i]? = some (Bx.mk b (l.map f).flatten (.row e sz cap))) (hn : n = l.length)
    (hd : WkL (.sl b 0 n c) (.row sz (l.map f)) ds ds') (hL : WkB (.sl b 0 n c) (.row sz (l.map f)) (L.eraseIdx i) L') : Gl ds L ds' L' := by
  subst hn
  refine Gl.fz (n := l.length) (c := c) i hi (flat_len hsz l) ?_ ?_
  · rw [chunk_flat hsz]; exact hd
  · rw [chunk_flat hsz]; exact hL
end Go.V
namespace Go.Proofs.YtlonmopppgadgaaDoor
open Go Go.V
theorem c7 (t : Tm) (w : Wd) (a b : Int) : AFn pr 7 [t.d, w.d, .i a, .i b] [] (.ret (.b true)) := by
  refine AFn.of (s7 ?_)
  unfold A7
  (refine a_bxv fun z1 => ?_; refine a_bxv fun z2 => ?_; refine a_call0 (c26) ?_; (apply a_ldA 1; exact rfl; exact rfl); refine a_call0 (c23 _) ?_; (apply a_ext; exact rfl); (apply a_ext; exact rfl))
  refine a_jn (σ := Unit) (fun _ => []) (fun _ => [⟨z2, w.cs, .box⟩, ⟨z1, t.cs, .box⟩]) (fun _ => (sortF t).2 = 0 ∧ ((sortF t).1 = 1 ∨ (sortF t).1 = 4) ∧ rightW w = true) ?_ fun J hJ => ?_
  · rintro _ ⟨h1, h2, hw⟩
    obtain ⟨w1, w2, w3, w4⟩ := rightW_spec hw
    refine a_andM fun a1 => ?_
    (refine a_fld ?_; (apply a_ld1 0; exact rfl; exact rfl))
    refine a_remM (by omega) fun a hla => ?_
    refine a_andM fun b1 => ?_
    (refine a_fld ?_; (apply a_ld1 0; exact rfl; exact rfl))
    refine a_remM (by omega) fun b hlb => ?_
    have ev := turn_eval hw hla hlb h1 h2
    (refine a_fld ?_; (apply a_ld1 0; exact rfl; exact rfl); refine V.a_bld [.i w.nodes, .nil] rfl rfl ?_; refine a_bx fun z3 => ?_; refine a_stA 0 rfl rfl rfl rfl ?_)
    obtain ⟨rows, hrows⟩ : ∃ rows : List (List D), rows = w.names.map fun y => (turnN a b y).cs := ⟨_, rfl⟩
    refine a_lp (σ := Nat × D × List Bx) (fun x => [.i x.1]) (fun x => ⟨z3, [.i w.nodes, x.2.1], .box⟩ :: ⟨z2, w.cs, .box⟩ :: ⟨z1, t.cs, .box⟩ :: x.2.2)
      (fun x => x.1 ≤ w.names.length ∧ ((x.1 < w.names.length ∧ ((x.1 = 0 ∧ x.2.1 = .nil ∧ x.2.2 = []) ∨ ∃ zb c, x.2.1 = .sl zb 0 x.1 c ∧ x.2.2 = [⟨zb, ((w.names.take x.1).map fun y => (turnN a b y).cs).flatten, .row 47 5 c⟩])) ∨ (x.1 = w.names.length ∧ x.2.1 = .row 5 (w.names.map fun y => (turnN a b y).cs) ∧ x.2.2 = [])))
      (fun x => w.names.length - x.1) (0, if w.names.length = 0 then .row 5 [] else .nil, []) ?_ ?_ ?_
    · by_cases h : w.names.length = 0
      · simp only [if_pos h]
        exact Gl.nil 5 (WkL.refl _ _ _) (.cons (.cons (.refl _) (.cons .hit .nil)) (WkB.refl _ _ _))
      · simp only [if_neg h]
        exact Gl.refl _ _
    · refine ⟨Nat.zero_le _, ?_⟩
      by_cases h : w.names.length = 0
      · right
        simp only [if_pos h]
        exact ⟨h.symm, by rw [List.length_eq_zero_iff.1 h]; rfl, trivial⟩
      · left
        simp only [if_neg h]
        exact ⟨by omega, .inl ⟨trivial, trivial, trivial⟩⟩
    rintro ⟨i, d, M⟩ K ⟨hi, hI⟩ hK
    dsimp only [aix0, aix1, aix2, aix3, aix4, aix5, aix6, aix7, aix8]
    (refine a_fld ?_; (apply a_ld1 1; exact rfl; exact rfl); refine a_lenM ?_; refine a_lss ?_)
    refine a_cnd (fun q => ?_) (fun q => ?_)
    · have hi1 : i < w.names.length := by omega
      have hI := (hI.resolve_right (fun h => by simp only at h; omega)).2
      (refine a_fld ?_; (apply a_ld1 1; exact rfl; exact rfl))
      refine a_idxM i hi1 ?_
      obtain ⟨hm1, hm2⟩ := rightLW_mem w4 _ (List.getElem_mem hi1)
      obtain ⟨ov, hst⟩ := isF_ok w1 hm2
      have hl := ov.len
      have hl64 : w.names[i].v.s.length ≤ 64 := by split at hl <;> omega
      generalize hx : w.names[i] = x at *
      obtain ⟨nm, v⟩ := x
      simp only at hm1 hm2 ov hst hl hl64
      (refine a_fldp ?_; (apply a_ldAp; exact rfl); refine a_bx fun z4 => ?_; refine a_stA 0 rfl rfl rfl rfl ?_; refine a_bldO [] rfl rfl fun z5 => ?_; refine a_fld ?_; (apply a_ld1 1; exact rfl; exact rfl))
      refine a_app 0 [] v.s.length (v.s.map bc).flatten rfl rfl ⟨rfl, by rw [List.length_map], rfl⟩ (flat_one bc_one v.s) (by omega) fun b' c' => ?_
      rw [Nat.zero_add, List.nil_append]
      (refine a_fld ?_; (apply a_st 1 _; exact rfl; exact rfl; exact rfl; exact rfl; (try dsimp only [afill, aparts, cl, chunk, List.take, List.drop, List.nil_append, List.cons_append, List.append_nil, List.length_cons, List.length_nil, Nat.zero_add, Nat.reduceAdd, Nat.reduceMul]); try exact rfl))
      refine a_jn (σ := Unit) (fun _ => []) (fun _ => ⟨z4, [.i v.sort, .i v.n, .b v.b, .row 1 ((if v.sort = 2 then sw a b v.s else v.s).map bc)], .box⟩ :: ⟨z3, [.i w.nodes, d], .box⟩ :: ⟨z2, w.cs, .box⟩ :: ⟨z1, t.cs, .box⟩ :: M) (fun _ => True) ?_ fun J2 hJ2 => ?_
      · rintro _ _
        refine a_jn (σ := Unit) (fun _ => []) (fun _ => ⟨z4, (turnV a b v).cs, .box⟩ :: ⟨z3, [.i w.nodes, d], .box⟩ :: ⟨z2, w.cs, .box⟩ :: ⟨z1, t.cs, .box⟩ :: M) (fun _ => True) ?_ fun J3 hJ3 => ?_
        · rintro _ _
          have e : ((w.names.take (i + 1)).map fun y => (turnN a b y).cs).flatten = ((w.names.take i).map fun y => (turnN a b y).cs).flatten ++ (turnN a b ⟨nm, v⟩).cs := by
            rw [List.take_succ_eq_append_getElem hi1, hx, List.map_append, List.flatten_append]
            simp
          have fin : ∀ (zb c : Nat) (l : List Bx), Gl [.i ((i + 1 : Nat) : Int)] l [.i ((i + 1 : Nat) : Int)] [⟨z3, [.i w.nodes, .sl zb 0 (i + 1) c], .box⟩, ⟨z2, w.cs, .box⟩, ⟨z1, t.cs, .box⟩, ⟨zb, ((w.names.take (i + 1)).map fun y => (turnN a b y).cs).flatten, .row 47 5 c⟩] → K [.i ((i + 1 : Nat) : Int)] l := by
            intro zb c l hg
            by_cases hlast : i + 1 = w.names.length
            · refine hK (i + 1, .row 5 (w.names.map fun y => (turnN a b y).cs), []) _ _ ⟨by simp only; omega, .inr ⟨hlast, rfl, rfl⟩⟩ (by simp only; omega) (Gl.trans hg ?_)
              refine gl_fzB (α := Nv) (f := fun y => (turnN a b y).cs) (e := 47) (cap := c) (c := c) (fun _ => rfl) w.names 3 ?_ hlast (WkL.refl _ _ _) (.cons (.cons (.refl _) (.cons .hit .nil)) (WkB.refl _ _ _))
              rw [hlast, List.take_length]
              rfl
            · exact hK (i + 1, .sl zb 0 (i + 1) c, [⟨zb, ((w.names.take (i + 1)).map fun y => (turnN a b y).cs).flatten, .row 47 5 c⟩]) _ _ ⟨by simp only; omega, .inl ⟨by simp only; omega, .inr ⟨zb, c, rfl, rfl⟩⟩⟩ (by simp only; omega) hg
          clear hK
          (refine a_fld ?_; (apply a_ld1 1; exact rfl; exact rfl); refine a_fld ?_; (apply a_ld1 2; exact rfl; exact rfl))
          refine a_idxM i hi1 ?_
          rw [hx]
          (refine a_fldp ?_; (apply a_ld1p; exact rfl); (apply a_ldA 0; exact rfl; exact rfl); refine a_bldNv rfl rfl ?_; refine a_rowN1 rfl ?_)
          rcases hI with ⟨hi0, hd, hM⟩ | ⟨zb, c, hd, hM⟩
          · simp only at hi0 hd hM
            subst hi0
            subst hd
            subst hM
            refine a_app0 1 (turnN a b ⟨nm, v⟩).cs ⟨rfl, rfl, rfl⟩ rfl (by decide) (by decide) fun zb c => ?_
            (refine a_fld ?_; (apply a_st 2 _; exact rfl; exact rfl; exact rfl; exact rfl; (try dsimp only [afill, aparts, cl, chunk, List.take, List.drop, List.nil_append, List.cons_append, List.append_nil, List.length_cons, List.length_nil, Nat.zero_add, Nat.reduceAdd, Nat.reduceMul]); try exact rfl); refine a_add (by first | omega | assumption | decide) (by first | omega | assumption | decide) ?_)
            refine fin zb c _ ?_
            rw [e]
            exact (Gl.drop (.cons_cons _ (.cons _ (List.Sublist.refl _)))).trans (Gl.perm (List.perm_append_comm (l₁ := [_]) (l₂ := [_, _, _])))
          · simp only at hd hM
            subst hd
            subst hM
            refine a_app 4 ((w.names.take i).map fun y => (turnN a b y).cs).flatten 1 (turnN a b ⟨nm, v⟩).cs rfl ((flat_len (cs := fun y => (turnN a b y).cs) (sz := 5) (fun _ => rfl) _).trans (by rw [List.length_take]; omega)) ⟨rfl, rfl, rfl⟩ rfl (by omega) fun zb' c' => ?_
            (refine a_fld ?_; (apply a_st 1 _; exact rfl; exact rfl; exact rfl; exact rfl; (try dsimp only [afill, aparts, cl, chunk, List.take, List.drop, List.nil_append, List.cons_append, List.append_nil, List.length_cons, List.length_nil, Nat.zero_add, Nat.reduceAdd, Nat.reduceMul]); try exact rfl); refine a_add (by first | omega | assumption | decide) (by first | omega | assumption | decide) ?_)
            refine fin zb' c' _ ?_
            rw [e]
            exact Gl.drop (.cons _ (List.Sublist.refl _))
        · (refine a_fld ?_; (apply a_ld1 0; exact rfl; exact rfl); refine a_eql ?_)
          refine a_cnd (fun c1 => ?_) (fun c1 => ?_)
          · (refine a_fld ?_; (apply a_ld1 0; exact rfl; exact rfl); refine a_eql ?_)
            have c0 : ¬ v.sort = 2 := by omega
            have ht : ∀ m, sgI a b v.n = m → (turnV a b v).cs = [.i v.sort, .i m, .b v.b, .row 1 ((if v.sort = 2 then sw a b v.s else v.s).map bc)] := fun m h => by
              rw [turn_node c1, if_neg c0, h]; rfl
            refine a_cnd (fun c2 => ?_) (fun c2 => ?_)
            · rw [ht b (by unfold sgI; rw [if_pos c2])] at hJ3
              (refine a_fld ?_; (apply a_st 0 _; exact rfl; exact rfl; exact rfl; exact rfl; (try dsimp only [afill, aparts, cl, chunk, List.take, List.drop, List.nil_append, List.cons_append, List.append_nil, List.length_cons, List.length_nil, Nat.zero_add, Nat.reduceAdd, Nat.reduceMul]); try exact rfl))
              exact hJ3 () _ _ trivial (by first | exact Gl.refl _ _ | exact Gl.drop (by repeat (first | exact List.Sublist.refl _ | exact List.Sublist.slnil | apply List.Sublist.cons_cons | apply List.Sublist.cons)))
            · (refine a_fld ?_; (apply a_ld1 0; exact rfl; exact rfl); refine a_eql ?_)
              refine a_cnd (fun c3 => ?_) (fun c3 => ?_)
              · rw [ht a (by unfold sgI; rw [if_neg c2, if_pos c3])] at hJ3
                (refine a_fld ?_; (apply a_st 0 _; exact rfl; exact rfl; exact rfl; exact rfl; (try dsimp only [afill, aparts, cl, chunk, List.take, List.drop, List.nil_append, List.cons_append, List.append_nil, List.length_cons, List.length_nil, Nat.zero_add, Nat.reduceAdd, Nat.reduceMul]); try exact rfl))
                exact hJ3 () _ _ trivial (by first | exact Gl.refl _ _ | exact Gl.drop (by repeat (first | exact List.Sublist.refl _ | exact List.Sublist.slnil | apply List.Sublist.cons_cons | apply List.Sublist.cons)))
              · rw [ht v.n (by unfold sgI; rw [if_neg c2, if_neg c3])] at hJ3
                exact hJ3 () _ _ trivial (by first | exact Gl.refl _ _ | exact Gl.drop (by repeat (first | exact List.Sublist.refl _ | exact List.Sublist.slnil | apply List.Sublist.cons_cons | apply List.Sublist.cons)))
          · have ht : (turnV a b v).cs = [.i v.sort, .i v.n, .b v.b, .row 1 ((if v.sort = 2 then sw a b v.s else v.s).map bc)] := by
              by_cases c0 : v.sort = 2
              · rw [turn_set c0, if_pos c0]; rfl
              · rw [turn_other c0 c1, if_neg c0]; rfl
            rw [ht] at hJ3
            exact hJ3 () _ _ trivial (by first | exact Gl.refl _ _ | exact Gl.drop (by repeat (first | exact List.Sublist.refl _ | exact List.Sublist.slnil | apply List.Sublist.cons_cons | apply List.Sublist.cons)))
      · clear hK
        (refine a_fld ?_; (apply a_ld1 1; exact rfl; exact rfl); refine a_eql ?_)
        refine a_cnd (fun c1 => ?_) (fun c1 => ?_)
        · rw [if_pos c1] at hl
          rw [if_pos c1] at hJ2
          (refine a_fld ?_; (apply a_ld1 1; exact rfl; exact rfl))
          refine a_idxO (by omega) (by omega) ?_
          rw [Int.toNat_natCast]
          refine a_ldB 0 a rfl (by omega) ?_
          (refine a_fld ?_; (apply a_ld1 1; exact rfl; exact rfl); refine a_fld ?_; (apply a_ld1 1; exact rfl; exact rfl))
          refine a_idxO (by omega) (by omega) ?_
          rw [Int.toNat_natCast]
          refine a_ldB 0 b rfl (by omega) ?_
          refine a_idxO (by omega) (by omega) ?_
          rw [Int.toNat_natCast]
          refine a_stB 0 a rfl (by omega) ?_
          (refine a_fld ?_; (apply a_ld1 1; exact rfl; exact rfl))
          refine a_idxO (by omega) (by omega) ?_
          rw [Int.toNat_natCast]
          refine a_stB 0 b rfl (by rw [List.length_set]; omega) ?_
          refine hJ2 () _ _ trivial ?_
          exact gl_fzB (c := c') bc_len (sw a b v.s) 0 rfl (sw_len _).symm .nil (.cons (.cons (.refl _) (.cons (.refl _) (.cons (.refl _) (.cons .hit .nil)))) (WkB.refl _ _ _))
        · rw [if_neg c1] at hJ2
          refine hJ2 () _ _ trivial ?_
          exact gl_fzB (c := c') bc_len v.s 0 rfl rfl .nil (.cons (.cons (.refl _) (.cons (.refl _) (.cons (.refl _) (.cons .hit .nil)))) (WkB.refl _ _ _))
    · have hin : i = w.names.length := by omega
      obtain ⟨_, hd, hM⟩ := hI.resolve_left (fun h => by simp only at h; omega)
      simp only at hd hM
      subst hd
      subst hM
      have ht : (turnW a b w).cs = [.i w.nodes, .row 5 (w.names.map fun y => (turnN a b y).cs)] := by
        unfold turnW Wd.cs
        rw [List.map_map]
        rfl
      rw [← ht]
      ((apply a_ldA 2; exact rfl; exact rfl); (apply a_ldA 1; exact rfl; exact rfl); refine a_call0 (c27 _ _) ?_; (apply a_ext; exact rfl); (apply a_ext; exact rfl); refine a_bx fun z4 => ?_; refine a_stA 0 rfl rfl rfl rfl ?_; (apply a_ldA 3; exact rfl; exact rfl); (apply a_ldA 1; exact rfl; exact rfl); refine a_call0 (c27 _ _) ?_; (apply a_ext; exact rfl); (apply a_ext; exact rfl); refine a_bx fun z5 => ?_; refine a_stA 0 rfl rfl rfl rfl ?_; refine a_cndbT rfl ?_; refine a_eql ?_)
      rw [ev]
      (refine a_cndT (by first | omega | assumption | decide) ?_; (apply a_ldA 1; exact rfl; exact rfl); (apply a_ldA 0; exact rfl; exact rfl); refine a_call0 (c30 _ _) ?_)
      exact ret_b (by simp)
  · (refine a_neq ?_)
    refine a_cnd (fun k1 => ?_) (fun k1 => ?_)
    · rfl
    (refine a_neq ?_)
    refine a_jn (σ := Bool) (fun x => [.b x]) (fun _ => [⟨z2, w.cs, .box⟩, ⟨z1, t.cs, .box⟩]) (fun x => x = false → (sortF t).1 = 1 ∨ (sortF t).1 = 4) ?_ fun J2 hJ2 => ?_
    · rintro x hx
      refine a_cndb (fun k2 => ?_) (fun k2 => ?_)
      · rfl
      ((apply a_ldA 0; exact rfl; exact rfl); refine a_call0 (c29 _) ?_; refine a_not ?_)
      cases hw : rightW w with
      | false => rfl
      | true => exact hJ () _ _ ⟨Classical.not_not.1 k1, hx (by simpa using k2), hw⟩ (by first | exact Gl.refl _ _ | exact Gl.drop (by repeat (first | exact List.Sublist.refl _ | exact List.Sublist.slnil | apply List.Sublist.cons_cons | apply List.Sublist.cons)))
    · refine a_cnd (fun k2 => ?_) (fun k2 => ?_)
      · (refine a_neq ?_)
        exact hJ2 (decide ((sortF t).1 ≠ 4)) _ _ (fun h => .inr (by simpa using h)) (by first | exact Gl.refl _ _ | exact Gl.drop (by repeat (first | exact List.Sublist.refl _ | exact List.Sublist.slnil | apply List.Sublist.cons_cons | apply List.Sublist.cons)))
      · exact hJ2 false _ _ (fun _ => .inl (Classical.not_not.1 k2)) (by first | exact Gl.refl _ _ | exact Gl.drop (by repeat (first | exact List.Sublist.refl _ | exact List.Sublist.slnil | apply List.Sublist.cons_cons | apply List.Sublist.cons)))
end Go.Proofs.YtlonmopppgadgaaDoor
