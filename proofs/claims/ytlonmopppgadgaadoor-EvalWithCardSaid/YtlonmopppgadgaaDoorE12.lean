/- EvalWith: a name has the value that it was given, and all others theirs. -/
import Derived.Test.YtlonmopppgadgaaDoorE11
import Derived.Test.YtlonmopppgadgaaDoorM10
set_option maxRecDepth 100000
set_option linter.unusedVariables false
namespace Go.V
theorem small_rightO {w : Wd} (hw : rightW w = true) : ∀ x ∈ w.names, x.v.s.length ≤ 64 := fun x hx => by
  obtain ⟨h1, h2, _, h4⟩ := rightW_spec hw
  have hl := (isF_ok h1 (rightLW_mem h4 x hx).2).1.len
  split at hl <;> omega
theorem getF_cons (x : Nv) (r : List Nv) (nm : ByteArray) (s : Int) : getF (x :: r) nm s = if x.nm = nm ∧ x.v.sort = s then some x.v else getF r nm s := by
  unfold getF
  rw [List.find?_cons]
  by_cases h : x.nm = nm ∧ x.v.sort = s
  · rw [if_pos h, decide_eq_true h.1, decide_eq_true h.2]; rfl
  · have : (decide (x.nm = nm) && decide (x.v.sort = s)) = false := by
      rw [← Bool.not_eq_true, Bool.and_eq_true, decide_eq_true_eq, decide_eq_true_eq]; exact h
    rw [if_neg h, this]
theorem getF_none {nm : ByteArray} {s : Int} : ∀ {l : List Nv}, (∀ x ∈ l, ¬ (x.nm = nm ∧ x.v.sort = s)) → getF l nm s = none
  | [], _ => rfl
  | x :: r, h => by rw [getF_cons, if_neg (h x (by simp)), getF_none fun y hy => h y (by simp [hy])]
theorem getF_app {nm : ByteArray} {s : Int} : ∀ (l m : List Nv), getF (l ++ m) nm s = (getF l nm s).or (getF m nm s)
  | [], m => rfl
  | x :: r, m => by
    rw [List.cons_append, getF_cons, getF_cons, getF_app r m]
    split <;> rfl
/-- where it is found -/
theorem put_at {nm : ByteArray} {v : Vl} : ∀ (l : List Nv) (i : Nat), (findF nm v.sort l i = -1 ∧ ∀ x ∈ l, ¬ (x.nm = nm ∧ x.v.sort = v.sort)) ∨
    ∃ j, findF nm v.sort l i = (i + j : Nat) ∧ j < l.length ∧ (getF l nm v.sort).isSome = true ∧ getF (l.set j ⟨nm, v⟩) nm v.sort = some v ∧ ∀ nm' s', ¬ (nm' = nm ∧ s' = v.sort) → getF (l.set j ⟨nm, v⟩) nm' s' = getF l nm' s'
  | [], i => .inl ⟨rfl, fun x hx => by cases hx⟩
  | x :: r, i => by
    rw [findF]
    by_cases h : x.nm = nm ∧ x.v.sort = v.sort
    · rw [if_pos h]
      refine .inr ⟨0, rfl, by simp, by rw [getF_cons, if_pos h]; rfl, by rw [List.set_cons_zero, getF_cons, if_pos ⟨rfl, rfl⟩], fun nm' s' hne => ?_⟩
      rw [List.set_cons_zero, getF_cons, getF_cons, if_neg (fun q => hne ⟨q.1.symm, q.2.symm⟩), if_neg (fun q => hne ⟨q.1.symm.trans h.1, q.2.symm.trans h.2⟩)]
    · rw [if_neg h]
      rcases put_at r (i + 1) with ⟨h1, h2⟩ | ⟨j, h1, h2, h3, h4, h5⟩
      · refine .inl ⟨h1, fun y hy => ?_⟩
        rcases List.mem_cons.1 hy with rfl | hy
        · exact h
        · exact h2 y hy
      · refine .inr ⟨j + 1, by rw [h1]; congr 1; omega, by simpa using h2, by rw [getF_cons, if_neg h]; exact h3, by rw [List.set_cons_succ, getF_cons, if_neg h]; exact h4, fun nm' s' hne => ?_⟩
        rw [List.set_cons_succ, getF_cons, getF_cons, h5 nm' s' hne]
/-- of what was put -/
theorem put_law (nm : ByteArray) (v : Vl) (l : List Nv) : getF (putL nm v l) nm v.sort = some v ∧ (∀ nm' s', ¬ (nm' = nm ∧ s' = v.sort) → getF (putL nm v l) nm' s' = getF l nm' s') ∧
    ((putL nm v l).length : Int) = if (getF l nm v.sort).isSome = true then (l.length : Int) else (l.length : Int) + 1 := by
  unfold putL
  rcases put_at (nm := nm) (v := v) l 0 with ⟨h1, h2⟩ | ⟨j, h1, h2, h3, h4, h5⟩
  · rw [h1, if_neg (by decide)]
    have hn := getF_none h2
    refine ⟨by rw [getF_app, hn, getF_cons, if_pos ⟨rfl, rfl⟩]; rfl, fun nm' s' hne => ?_, ?_⟩
    · rw [getF_app, getF_cons, if_neg (fun q => hne ⟨q.1.symm, q.2.symm⟩)]
      show (getF l nm' s').or none = _
      rw [Option.or_none]
    · rw [hn, if_neg (by decide), List.length_append]
      simp
  · rw [h1, if_pos (by omega), Nat.zero_add, Int.toNat_natCast, h3, if_pos rfl, List.length_set]
    exact ⟨h4, h5, rfl⟩
end Go.V
namespace Go.Proofs.YtlonmopppgadgaaDoor
open Go Go.V
theorem get_row {n : Int} {l : List Nv} {nm : ByteArray} {st : Int} {b c e cap k : Nat} {cells : List D} {M : List Bx} (h : NamesR l cells M) (hk : k = l.length) (hs : ∀ x ∈ l, x.v.s.length ≤ 140737488355328) :
    ASpec pr 32 [.agg [.i n, .sl b 0 k c], .s nm, .i st] (M ++ [⟨b, cells, .row e 5 cap⟩]) fun a L' => ∃ L2, L' = L2 ++ (M ++ [⟨b, cells, .row e 5 cap⟩]) ∧ GetR (getF l nm st) a L2 :=
  ASpec.borrow (get_any ⟨n, l⟩ nm st hs) (h.fz hk) fun a L' ⟨sd, x, ha, hL, hr⟩ => by
    subst ha
    subst hL
    refine ⟨⟨_, rfl, .tuple fun d hd => ?_⟩, fun y hy => ?_⟩
    · simp only [List.mem_cons, List.not_mem_nil, or_false] at hd
      rcases hd with rfl | rfl
      · refine .agg fun d hd => ?_
        simp only [List.mem_cons, List.not_mem_nil, or_false] at hd
        rcases hd with rfl | rfl | rfl | rfl
        · exact .val _
        · exact .val _
        · exact .val _
        · exact hr.plain
      · exact .val _
    · rw [List.mem_singleton.1 hy]
      exact ⟨hr.cells, hr.kind⟩
theorem same_row {g u : Vl} {sd : D} {x : Bx} (h : SetR sd x g.s) : AFn pr 30 [.agg [.i g.sort, .i g.n, .b g.b, sd], u.d] [x] (.ret (.b (decide (g.sort = u.sort) && decide (g.n = u.n) && decide (g.b = u.b) && decide (g.s = u.s)))) :=
  AFn.borrow (c30 g u) (h.fz (.cons (.agg (.cons (.refl _) (.cons (.refl _) (.cons (.refl _) (.cons .hit .nil))))) (WkL.refl _ _ _)) .nil)
theorem c8 (w : Wd) (nm : ByteArray) (v : Vl) (nm' : ByteArray) (st : Int) (hv : v.s.length ≤ 140737488355328) : AFn pr 8 [w.d, .s nm, v.d, .s nm', .i st] [] (.ret (.b true)) := by
  refine AFn.of (s8 ?_)
  unfold A8
  refine a_bxv fun z1 => ?_
  refine a_bxv fun z2 => ?_
  (refine a_call0 (c26) ?_; (apply a_ldA 1; exact rfl; exact rfl); refine a_call0 (c29 _) ?_; refine a_not ?_)
  cases hw : rightW w with
  | false => rfl
  | true =>
    have hsm := small_rightO hw
    obtain ⟨w1, w2, w3, w4⟩ := rightW_spec hw
    have hsw : smallW w := fun x hx => by have := hsm x hx; omega
    obtain ⟨p1, p2, p3⟩ := put_law nm v w.names
    (refine a_cndbF rfl ?_; (apply a_ldA 1; exact rfl; exact rfl); (apply a_ldA 0; exact rfl; exact rfl); refine a_callF (L1 := []) (List.Perm.refl _) (with_any w nm v hsw w3 hv) ?_)
    rintro a L' ⟨b, c, x0, r, f, sd, y, hF, hf, hr, rfl, rfl⟩
    simp only [AE.on, List.cons_append, List.nil_append]
    have hN : NamesR (x0 :: r) (f ++ (r.map Nv.cs).flatten) [y] := .inr ⟨x0, r, f, rfl, rfl, sd, y, hf, rfl, hr⟩
    have hsF : ∀ x ∈ x0 :: r, x.v.s.length ≤ 140737488355328 := fun x hx => by
      rw [← hF] at hx
      rcases put_cases nm v w.names with ⟨e, _⟩ | ⟨j, _, e, _⟩
      · rw [e] at hx
        rcases List.mem_append.1 hx with hx | hx
        · have := hsm x hx; omega
        · rw [List.mem_singleton.1 hx]; exact hv
      · rw [e] at hx
        rcases List.mem_or_eq_of_mem_set hx with hx | rfl
        · have := hsm x hx; omega
        · exact hv
    rw [hF] at p1 p2 p3
    (refine a_bx fun z3 => ?_; refine a_stA 0 rfl rfl rfl rfl ?_; (apply a_ldA 0; exact rfl; exact rfl); refine a_fld ?_; (apply a_ld1 3; exact rfl; exact rfl))
    have hB : ∀ {st' : Int} {nn : ByteArray}, ASpec pr 32 [.agg [.i w.nodes, .sl b 0 (r.length + 1) c], .s nn, .i st'] [y, ⟨b, f ++ (r.map Nv.cs).flatten, .row 47 5 c⟩] fun a L' => ∃ L2, L' = L2 ++ [y, ⟨b, f ++ (r.map Nv.cs).flatten, .row 47 5 c⟩] ∧ GetR (getF (x0 :: r) nn st') a L2 := fun {st'} {nn} => get_row hN rfl hsF
    have one4 : ∀ {p q : Int} {t : Bool} {sd x s}, SetR sd x s → (cl (.agg [.i p, .i q, .b t, sd])).all D.one = true := fun h => by
      show (true && (true && (true && (_ && true)))) = true
      rw [h.one]; rfl
    refine a_callF (L1 := [y, ⟨b, f ++ (r.map Nv.cs).flatten, .row 47 5 c⟩]) (M := [⟨z3, [.i w.nodes, .sl b 0 (r.length + 1) c], .box⟩, ⟨z2, v.cs, .box⟩, ⟨z1, w.cs, .box⟩]) (List.Perm.append_right [_, _] (List.perm_append_comm (l₁ := [_]) (l₂ := [_, _]))) hB ?_
    rintro a L' ⟨L2, rfl, hG⟩
    rw [p1] at hG
    obtain ⟨sd1, y1, rfl, rfl, hr1⟩ := hG
    simp only [AE.on, List.cons_append, List.nil_append, Option.getD_some, Option.isSome_some] at hr1 ⊢
    ((apply a_ext; exact rfl); (apply a_ext; exact rfl); refine a_bx fun z4 => ?_)
    refine a_st 0 [.i v.sort, .i v.n, .b v.b, sd1] rfl rfl (one4 hr1) rfl rfl ?_
    refine a_jn (σ := Unit) (fun _ => []) (fun _ => [y, ⟨b, f ++ (r.map Nv.cs).flatten, .row 47 5 c⟩, ⟨z3, [.i w.nodes, .sl b 0 (r.length + 1) c], .box⟩, ⟨z2, v.cs, .box⟩, ⟨z1, w.cs, .box⟩]) (fun _ => True) ?_ fun J8 hJ8 => ?_
    · rintro _ _
      refine a_jn (σ := Unit) (fun _ => []) (fun _ => [y, ⟨b, f ++ (r.map Nv.cs).flatten, .row 47 5 c⟩, ⟨z3, [.i w.nodes, .sl b 0 (r.length + 1) c], .box⟩, ⟨z2, v.cs, .box⟩, ⟨z1, w.cs, .box⟩]) (fun _ => True) ?_ fun J13 hJ13 => ?_
      · rintro _ _
        clear hB hsF hN
        have hg := c32 w nm v.sort hsw
        unfold getD' at hg
        ((apply a_ldA 4; exact rfl; exact rfl); refine a_fld ?_; (apply a_ld1 3; exact rfl; exact rfl); refine a_call0 hg ?_; (apply a_ext; exact rfl); (apply a_ext; exact rfl); refine a_bx fun z5 => ?_; refine a_stA 0 rfl rfl rfl rfl ?_; refine a_fld ?_; (apply a_ld1 5; exact rfl; exact rfl); refine a_lenM ?_)
        refine a_jn (σ := Unit) (fun _ => [.i ((x0 :: r).length : Int)]) (fun _ => [y, ⟨b, f ++ (r.map Nv.cs).flatten, .row 47 5 c⟩, ⟨z3, [.i w.nodes, .sl b 0 (r.length + 1) c], .box⟩, ⟨z2, v.cs, .box⟩, ⟨z1, w.cs, .box⟩]) (fun _ => True) ?_ fun J17 hJ17 => ?_
        · rintro _ _
          (refine a_fld ?_; (apply a_ld1 2; exact rfl; exact rfl); refine a_lenO ?_; refine a_neq ?_)
          refine a_cndF (by simp) ?_
          clear hg
          subst hf
          refine a_jn (σ := Bool) (fun x => [.b x]) (fun _ => [y, ⟨b, [.s x0.nm, .i x0.v.sort, .i x0.v.n, .b x0.v.b, sd] ++ (r.map Nv.cs).flatten, .row 47 5 c⟩, ⟨z3, [.i w.nodes, .sl b 0 (r.length + 1) c], .box⟩, ⟨z2, v.cs, .box⟩, ⟨z1, w.cs, .box⟩]) (fun x => x = true → x0.v.s ≠ [] ∧ ∃ q rest, w.names = q :: rest ∧ q.v.s ≠ []) ?_ fun J20 hJ20 => ?_
          · rintro q hq
            cases q with
            | false =>
              refine a_cndbF rfl ?_
              trivial
            | true =>
              obtain ⟨hx, q, rest, hq1, hq2⟩ := hq rfl
              rcases hr.shape with ⟨_, h⟩ | ⟨b1, e1, c1, cp, rfl, rfl⟩
              · exact absurd h hx
              have l1 : 0 < w.names.length := by rw [hq1]; simp
              have l2 : 0 < q.v.s.length := List.length_pos_iff.2 hq2
              have l3 : 0 < x0.v.s.length := List.length_pos_iff.2 hx
              have e0 : w.names[0] = q := by simp only [hq1]; rfl
              have hld : ((x0.v.s.map bc).flatten)[0 + (0 : Int).toNat * 1]? = some (.b x0.v.s[0]) := by
                rw [flat_bcO]
                show (x0.v.s.map D.b)[0]? = _
                rw [List.getElem?_map, List.getElem?_eq_getElem l3]; rfl
              (refine a_cndbT rfl ?_; refine a_fld ?_; (apply a_ld1 4; exact rfl; exact rfl))
              refine a_idxM 0 l1 ?_
              rw [e0]
              (refine a_fldp ?_; refine a_fldp ?_; (apply a_ld1p; exact rfl))
              refine a_idxM 0 l2 ?_
              ((apply a_ld1 2; exact rfl; exact rfl); refine a_idxO (by omega) (by omega) ?_; refine a_fld ?_; refine a_fld ?_; (apply a_ld1 1; exact rfl; exact rfl); refine a_fld ?_; (apply a_ld1 2; exact rfl; exact rfl); refine a_idxO (by omega) (by omega) ?_; refine a_fld ?_; refine a_fld ?_; (apply a_ld1 1; exact rfl; exact rfl); refine a_idxO (by omega) (by omega) ?_; refine a_ld1 0 rfl hld ?_; refine a_not ?_; refine a_idxO (by omega) (by omega) ?_)
              refine a_stB 0 (Int.toNat 0) rfl (by simpa using l3) ?_
              (refine a_cndbT rfl ?_; refine a_fld ?_; (apply a_ld1 4; exact rfl; exact rfl))
              refine a_idxM 0 l1 ?_
              rw [e0]
              (refine a_fldp ?_; refine a_fldp ?_; (apply a_ld1p; exact rfl))
              refine a_idxM 0 l2 ?_
              ((apply a_ld1p; exact rfl); refine a_eqlB ?_)
              exact ret_b (beq_self_eq_true _)
          · rcases hr.shape with ⟨rfl, h⟩ | ⟨b1, e1, c1, cp, rfl, rfl⟩
            · (refine a_fld ?_; (apply a_ld1 2; exact rfl; exact rfl); refine a_lenO ?_; refine a_gtr ?_; refine a_cndT (by first | omega | assumption | decide) ?_; refine a_fld ?_; (apply a_ld1 2; exact rfl; exact rfl); refine a_idxO (by omega) (by omega) ?_; refine a_fld ?_; refine a_fld ?_; (apply a_ld1 1; exact rfl; exact rfl); refine a_lenO ?_; refine a_gtr ?_; refine a_cndbF rfl ?_)
              exact hJ20 false _ _ (fun h => by cases h) (by first | exact Gl.refl _ _ | exact Gl.drop (by repeat (first | exact List.Sublist.refl _ | exact List.Sublist.slnil | apply List.Sublist.cons_cons | apply List.Sublist.cons)))
            · (refine a_fld ?_; (apply a_ld1 2; exact rfl; exact rfl); refine a_lenO ?_; refine a_gtr ?_; refine a_cndT (by first | omega | assumption | decide) ?_; refine a_fld ?_; (apply a_ld1 2; exact rfl; exact rfl); refine a_idxO (by omega) (by omega) ?_; refine a_fld ?_; refine a_fld ?_; (apply a_ld1 1; exact rfl; exact rfl); refine a_lenO ?_; refine a_gtr ?_)
              refine a_cnd (fun c2 => ?_) (fun c2 => ?_)
              · have hx : x0.v.s ≠ [] := fun h => by rw [h] at c2; simp at c2
                (refine a_fld ?_; (apply a_ld1 4; exact rfl; exact rfl); refine a_lenM ?_; refine a_gtr ?_)
                refine a_cnd (fun c3 => ?_) (fun c3 => ?_)
                · have l1 : 0 < w.names.length := by omega
                  (refine a_fld ?_; (apply a_ld1 4; exact rfl; exact rfl))
                  refine a_idxM 0 l1 ?_
                  (refine a_fldp ?_; refine a_fldp ?_; (apply a_ld1p; exact rfl); refine a_lenM ?_; refine a_gtr ?_)
                  refine hJ20 _ _ _ (fun h => ⟨hx, w.names[0], w.names.drop 1, ?_, fun h' => ?_⟩) (by first | exact Gl.refl _ _ | exact Gl.drop (by repeat (first | exact List.Sublist.refl _ | exact List.Sublist.slnil | apply List.Sublist.cons_cons | apply List.Sublist.cons)))
                  · rw [← List.drop_eq_getElem_cons l1, List.drop_zero]
                  · have h := of_decide_eq_true h
                    rw [h'] at h
                    simp at h
                · exact hJ20 false _ _ (fun h => by cases h) (by first | exact Gl.refl _ _ | exact Gl.drop (by repeat (first | exact List.Sublist.refl _ | exact List.Sublist.slnil | apply List.Sublist.cons_cons | apply List.Sublist.cons)))
              · exact hJ20 false _ _ (fun h => by cases h) (by first | exact Gl.refl _ _ | exact Gl.drop (by repeat (first | exact List.Sublist.refl _ | exact List.Sublist.slnil | apply List.Sublist.cons_cons | apply List.Sublist.cons)))
        · cases hh : (getF w.names nm v.sort).isSome with
          | false =>
            have e : ((x0 :: r).length : Int) = (w.names.length : Int) + 1 := by rw [p3, hh]; simp
            rw [e] at hJ17
            (refine a_not ?_; refine a_cndbT rfl ?_; refine a_add (by first | omega | assumption | decide) (by first | omega | assumption | decide) ?_)
            exact hJ17 () _ _ trivial (by first | exact Gl.refl _ _ | exact Gl.drop (by repeat (first | exact List.Sublist.refl _ | exact List.Sublist.slnil | apply List.Sublist.cons_cons | apply List.Sublist.cons)))
          | true =>
            have e : ((x0 :: r).length : Int) = (w.names.length : Int) := by rw [p3, hh]; simp
            rw [e] at hJ17
            (refine a_not ?_; refine a_cndbF rfl ?_)
            exact hJ17 () _ _ trivial (by first | exact Gl.refl _ _ | exact Gl.drop (by repeat (first | exact List.Sublist.refl _ | exact List.Sublist.slnil | apply List.Sublist.cons_cons | apply List.Sublist.cons)))
      · refine a_jn (σ := Bool) (fun x => [.b x]) (fun _ => [y, ⟨b, f ++ (r.map Nv.cs).flatten, .row 47 5 c⟩, ⟨z3, [.i w.nodes, .sl b 0 (r.length + 1) c], .box⟩, ⟨z2, v.cs, .box⟩, ⟨z1, w.cs, .box⟩]) (fun x => x = true → ¬ (nm' = nm ∧ st = v.sort)) ?_ fun J9 hJ9 => ?_
        · rintro q hq
          cases q with
          | false =>
            (refine a_cndbF rfl ?_)
            exact hJ13 () _ _ trivial (by first | exact Gl.refl _ _ | exact Gl.drop (by repeat (first | exact List.Sublist.refl _ | exact List.Sublist.slnil | apply List.Sublist.cons_cons | apply List.Sublist.cons)))
          | true =>
            have hne := hq rfl
            (refine a_cndbT rfl ?_; (apply a_ldA 2; exact rfl; exact rfl); refine a_callF (L1 := [y, ⟨b, f ++ (r.map Nv.cs).flatten, .row 47 5 c⟩]) (M := [⟨z3, [.i w.nodes, .sl b 0 (r.length + 1) c], .box⟩, ⟨z2, v.cs, .box⟩, ⟨z1, w.cs, .box⟩]) (List.Perm.refl _) hB ?_)
            rintro a L' ⟨L2, rfl, hG⟩
            rw [p2 nm' st hne] at hG
            obtain ⟨sd2, y2, rfl, rfl, hr2⟩ := hG
            clear hB
            have hg := c32 w nm' st hsw
            unfold getD' at hg
            simp only [AE.on, List.cons_append, List.nil_append]
            ((apply a_ext; exact rfl); (apply a_ext; exact rfl); refine a_bx fun z5 => ?_)
            refine a_st 0 [.i ((getF w.names nm' st).getD vz).sort, .i ((getF w.names nm' st).getD vz).n, .b ((getF w.names nm' st).getD vz).b, sd2] rfl rfl (one4 hr2) rfl rfl ?_
            ((apply a_ldA 6; exact rfl; exact rfl); refine a_call0 hg ?_; (apply a_ext; exact rfl); (apply a_ext; exact rfl); refine a_bx fun z6 => ?_; refine a_stA 0 rfl rfl rfl rfl ?_; refine a_neqB ?_)
            refine a_cndbF (by simp) ?_
            ((apply a_ldA 1; exact rfl; exact rfl); (apply a_ldA 0; exact rfl; exact rfl))
            refine a_callF1 2 rfl (same_row (g := (getF w.names nm' st).getD vz) (u := (getF w.names nm' st).getD vz) hr2) ?_
            generalize (getF w.names nm' st).getD vz = g
            rw [show (decide (g.sort = g.sort) && decide (g.n = g.n) && decide (g.b = g.b) && decide (g.s = g.s)) = true by simp]
            (refine a_not ?_; refine a_cndbF rfl ?_)
            exact hJ13 () _ _ trivial (Gl.drop (.cons _ (.cons _ (.cons _ (List.Sublist.refl _)))))
        · (refine a_neqS ?_)
          refine a_cnd (fun c1 => ?_) (fun c1 => ?_)
          · exact hJ9 true _ _ (fun _ h => c1 h.1) (by first | exact Gl.refl _ _ | exact Gl.drop (by repeat (first | exact List.Sublist.refl _ | exact List.Sublist.slnil | apply List.Sublist.cons_cons | apply List.Sublist.cons)))
          · (refine a_fld ?_; (apply a_ld1 3; exact rfl; exact rfl); refine a_neq ?_)
            exact hJ9 (decide (st ≠ v.sort)) _ _ (fun h h' => (of_decide_eq_true h) h'.2) (by first | exact Gl.refl _ _ | exact Gl.drop (by repeat (first | exact List.Sublist.refl _ | exact List.Sublist.slnil | apply List.Sublist.cons_cons | apply List.Sublist.cons)))
    · (refine a_not ?_; refine a_cndbF rfl ?_; (apply a_ldA 0; exact rfl; exact rfl); (apply a_ldA 5; exact rfl; exact rfl))
      refine a_callF1 1 rfl (same_row (g := v) (u := v) hr1) ?_
      rw [show (decide (v.sort = v.sort) && decide (v.n = v.n) && decide (v.b = v.b) && decide (v.s = v.s)) = true by simp]
      (refine a_not ?_; refine a_cndbF rfl ?_; refine a_fld ?_; (apply a_ld1 4; exact rfl; exact rfl); refine a_fld ?_; (apply a_ld1 6; exact rfl; exact rfl); refine a_neq ?_; refine a_cndF (by first | omega | assumption | decide) ?_)
      exact hJ8 () _ _ trivial (Gl.drop (.cons _ (.cons _ (List.Sublist.refl _))))
end Go.Proofs.YtlonmopppgadgaaDoor
