/- HornMany. -/
import Derived.Test.YtdalobojhfafbaaDoorC65
import Derived.Test.YtdalobojhfafbaaDoorW21
set_option maxRecDepth 100000
set_option linter.unusedVariables false
namespace Go.V
open Go
theorem failE_zero {l : List (Cl × Int)} : failE l = 0 ↔ ∀ x ∈ l, x.2 = 0 := by
  induction l with
  | nil => exact ⟨fun _ x hx => (by cases hx), fun _ => rfl⟩
  | cons y r ih =>
    show seqE y.2 (failE r) = 0 ↔ _
    rw [seqE_zero, ih]
    constructor
    · rintro ⟨h1, h2⟩ x hx
      rcases List.mem_cons.1 hx with rfl | hx
      · exact h1
      · exact h2 x hx
    · intro h
      exact ⟨h y List.mem_cons_self, fun x hx => h x (List.mem_cons_of_mem _ hx)⟩
theorem failE_seven {l : List (Cl × Int)} (h : ∀ x ∈ l, x.2 = 0 ∨ x.2 = 7) : failE l = 0 ∨ failE l = 7 := by
  induction l with
  | nil => exact .inl rfl
  | cons y r ih =>
    show seqE y.2 (failE r) = 0 ∨ seqE y.2 (failE r) = 7
    have i := ih fun x hx => h x (List.mem_cons_of_mem _ hx)
    unfold seqE
    split
    · exact i
    · exact h y List.mem_cons_self
theorem wholeE_cases (t : Tm) : wholeE t = (t, 0) ∨ wholeE t = (tz, 7) := by
  unfold wholeE
  split
  · exact .inr rfl
  · exact .inl rfl
theorem putE_cases (q : Tm) (l : List As) : (putE q l).2 = 0 ∨ (putE q l).2 = 7 := by
  unfold putE
  split
  · exact .inr rfl
  · exact .inl rfl
theorem asked_known {p : Pr} (h : CheckF p = 0) {t : Tm} (ht : t ∈ p.safe :: p.known) : askedE p t = 0 := by
  have hp := CheckF_ok h
  obtain ⟨h1, h2⟩ := saidE_all hp.said t ht
  unfold askedE
  rw [h, seqE_0, h1, if_neg (fun hh => hh rfl), if_neg (fun hh => hh rfl)]
  rw [if_neg]
  intro hany
  obtain ⟨x, hx, hx2⟩ := List.any_eq_true.1 hany
  have hm := h2 x hx
  have h14 : x.2 = 14 := by simpa using hx2
  unfold mayN at hm
  rw [h14] at hm
  by_cases ho : opD (dictP p) (str x.1) = 0
  · rw [ho] at hm; simp at hm
  · have := dict_opsN (opD_mem ho)
    simp only at this
    simp at hm
    omega
theorem first_cases {p : Pr} {t : Tm} (h : askedE p t = 0) : (FirstF p t).2 = 0 ∨ (FirstF p t).2 = 7 := by
  unfold FirstF
  rw [if_neg (fun hh => hh h)]
  exact putE_cases _ _
theorem step_cases {p : Pr} {t : Tm} {i : Nat} (h : askedE p t = 0) (hi : i < p.hs.length) : (StepF p i t).2 = 0 ∨ (StepF p i t).2 = 7 := by
  unfold StepF
  rw [if_neg (fun hh => hh h), if_neg (by omega)]
  split
  · exact putE_cases _ _
  · rcases wholeE_cases (mk 21 [aheadT (p.hs.getD (i : Int).toNat hz), (putE t (becT (p.hs.getD (i : Int).toNat hz))).1]) with h | h <;> rw [h]
    · exact .inl rfl
    · exact .inr rfl
theorem imp_cases {kn : List Tm} {r : Tm × Int} (h : r.2 = 0 ∨ r.2 = 7) : (impE kn r).2 = 0 ∨ (impE kn r).2 = 7 := by
  unfold impE
  split
  · exact h
  · rcases wholeE_cases (mk 21 [mk 19 kn, r.1]) with h | h <;> rw [h]
    · exact .inl rfl
    · exact .inr rfl
theorem imp_ok {kn : List Tm} {r : Tm × Int} (h : (impE kn r).2 = 0) : r.2 = 0 ∧ (impE kn r).1 = mk 21 [mk 19 kn, r.1] := by
  unfold impE at h ⊢
  split at h
  · next g => exact absurd h g
  · next g =>
    rw [if_neg g]
    rcases wholeE_cases (mk 21 [mk 19 kn, r.1]) with h1 | h1
    · rw [h1]; exact ⟨Decidable.of_not_not g, rfl⟩
    · rw [h1] at h; cases h
theorem cls2_get (p : Pr) (kept : List Int) (kn : List Tm) {h i : Nat} (hi : i < kept.length) : ∀ n, h < n → (cls2 p kept kn n)[kept.length * (h + 1) + i]? = some (c2F p kn h kept[i])
  | 0, hn => absurd hn (Nat.not_lt_zero _)
  | n + 1, hn => by
    rw [cls2_succ]
    by_cases hh : h < n
    · rw [List.getElem?_append_left]
      · exact cls2_get p kept kn hi n hh
      · rw [cls2_len]
        have : kept.length * (h + 1) + kept.length ≤ kept.length * (n + 1) := by rw [← Nat.mul_succ]; exact Nat.mul_le_mul_left _ (by omega)
        omega
    · obtain rfl : h = n := by omega
      rw [List.getElem?_append_right (by rw [cls2_len]; omega), cls2_len, Nat.add_sub_cancel_left, List.getElem?_map, List.getElem?_eq_getElem hi]
      rfl
theorem cls2_get0 (p : Pr) (kept : List Int) (kn : List Tm) {i : Nat} (hi : i < kept.length) (n : Nat) : (cls2 p kept kn n)[i]? = some (c1F p kept[i]) := by
  unfold cls2
  rw [List.getElem?_append_left (by rw [List.length_map]; exact hi), List.getElem?_map, List.getElem?_eq_getElem hi]; rfl
/-- what is known of all clauses -/
structure Many (p : Pr) (ks : List Int) (l : List Cl) : Prop where
  len : l.length = ks.length * (1 + p.hs.length) + 1
  last : ∃ c, l[l.length - 1]? = some c ∧ c.k = -1
  firsts : ∀ (i : Nat) (hi : i < ks.length), ∃ c, l[i]? = some c ∧ c.h = -1 ∧ c.k = ks[i]
  steps : ∀ (i h : Nat) (hi : i < ks.length), h < p.hs.length → ∃ c u kn, l[ks.length * (1 + h) + i]? = some c ∧ c.h = h ∧ c.k = ks[i] ∧ c.t = mk 21 [mk 19 kn, u] ∧ kn.length = ks.length
theorem many_of {p : Pr} {ks : List Int} (hc : CheckF p = 0) (hk : ∀ k ∈ ks, 0 ≤ k ∧ k < p.known.length) :
    (ClausesF p ks).2 = 7 ∨ ((ClausesF p ks).2 = 0 ∧ Many p ks (ClausesF p ks).1) := by
  have hin : inKnown p ks = true := List.all_eq_true.2 fun k hkm => by rw [decide_eq_true (hk k hkm).1, decide_eq_true (hk k hkm).2]; rfl
  have hget : ∀ k ∈ ks, p.known.getD k.toNat tz ∈ p.safe :: p.known := fun k hkm => by
    have := hk k hkm
    rw [List.getD_eq_getElem?_getD, List.getElem?_eq_getElem (by omega)]
    exact List.mem_cons_of_mem _ (List.getElem_mem _)
  have h7 : ∀ x ∈ clsL p ks, x.2 = 0 ∨ x.2 = 7 := by
    intro x hx
    rw [clsL_eq] at hx
    unfold cls2 at hx
    simp only [List.mem_append, List.mem_map, List.mem_flatMap, List.mem_range, List.mem_singleton] at hx
    rcases hx with (⟨k, hkm, rfl⟩ | ⟨h, hh, k, hkm, rfl⟩) | rfl
    · exact first_cases (asked_known hc (hget k hkm))
    · exact imp_cases (step_cases (asked_known hc (hget k hkm)) hh)
    · exact imp_cases (.inl rfl)
  have hu : ClausesF p ks = if failE (clsL p ks) ≠ 0 then ([], failE (clsL p ks)) else ((clsL p ks).map (·.1), 0) := by
    unfold ClausesF
    rw [hin, if_neg (by decide), if_neg (fun hh => hh hc)]
  rw [hu]
  by_cases he : failE (clsL p ks) ≠ 0
  · rw [if_pos he]
    rcases failE_seven h7 with h | h
    · exact absurd h he
    · exact .inl h
  · rw [if_neg he]
    refine .inr ⟨rfl, ?_⟩
    have hz := failE_zero.1 (Decidable.of_not_not he)
    have hkl : (knownL p ks).length = ks.length := List.length_map ..
    rw [clsL_eq] at hz ⊢
    generalize knownL p ks = kn at *
    have hl2 := cls2_len p ks kn p.hs.length
    refine ⟨?_, ?_, fun i hi => ?_, fun i h hi hh => ?_⟩
    · simp only [List.map_append, List.length_append, List.length_map, hl2, List.length_cons, List.length_nil]
      rw [Nat.add_comm 1 p.hs.length]
    · refine ⟨(c3F p kn).1, ?_, rfl⟩
      rw [List.map_append, List.length_append, List.getElem?_append_right (by simp)]
      simp
    · refine ⟨(c1F p ks[i]).1, ?_, rfl, rfl⟩
      rw [List.getElem?_map, List.getElem?_append_left, cls2_get0 p ks kn hi]
      · rfl
      · rw [hl2]; exact Nat.lt_of_lt_of_le hi (Nat.le_mul_of_pos_right _ (by omega))
    · have hg := cls2_get p ks kn hi p.hs.length hh
      have hmem : c2F p kn h ks[i] ∈ cls2 p ks kn p.hs.length ++ [c3F p kn] := List.mem_append_left _ (List.mem_of_getElem? hg)
      obtain ⟨_, ht⟩ := imp_ok (hz _ hmem)
      refine ⟨(c2F p kn h ks[i]).1, (StepF p h (p.known.getD ks[i].toNat tz)).1, kn, ?_, rfl, rfl, ht, hkl⟩
      rw [List.getElem?_map, List.getElem?_append_left (List.getElem?_eq_some_iff.1 (Nat.add_comm 1 h ▸ hg)).1, Nat.add_comm 1 h, hg]
      rfl
theorem none_of {p : Pr} (hc : CheckF p = 0) : ClausesF p [] = ([], 7) ∨ ClausesF p [] = ([⟨-1, -1, mk 21 [mk 19 [], p.safe]⟩], 0) := by
  have hl : clsL p [] = [c3F p []] := by
    unfold clsL c3F knownL
    simp
  have hu : ClausesF p [] = if failE (clsL p []) ≠ 0 then ([], failE (clsL p [])) else ((clsL p []).map (·.1), 0) := by
    unfold ClausesF
    rw [show inKnown p [] = true from rfl, if_neg (by decide), if_neg (fun hh => hh hc)]
  have hi : impE [] (p.safe, 0) = wholeE (mk 21 [mk 19 [], p.safe]) := by
    unfold impE
    rw [if_neg (fun hh => hh rfl)]
  rw [hu, hl]
  unfold c3F
  rw [hi]
  rcases wholeE_cases (mk 21 [mk 19 [], p.safe]) with h | h <;> rw [h]
  · exact .inr rfl
  · exact .inl rfl
theorem ld_gv {ks : List Int} {b c e : Nat} {N : List Bx} {k : D → Prop} (A : List Bx) {i : Nat} (hi : i < ks.length) (h : k (.i ks[i])) : aidxS 1 (gv b c ks) (.i i) fun p => ald1 p (A ++ (gb (fun n : Int => [D.i n]) e 1 b c ks ++ N)) k := by
  have hne : ks ≠ [] := by intro hh; rw [hh] at hi; exact absurd hi (Nat.not_lt_zero _)
  refine a_idxGv i hi ?_
  rw [gb_ne hne]
  refine a_ldr1 0 rfl (d := .i ks[i]) ?_ h
  have := flat_at (cs := fun n : Int => [D.i n]) (sz := 1) (fun _ => rfl) ks i hi
  have h1 := congrArg (fun l : List D => l[0]?) this
  simp only [List.getElem?_take, List.getElem?_drop] at h1
  simpa using h1
theorem idxC {l : List Cl} {i : Nat} {c : Cl} {k : D → Prop} {ki : IntKind} (h : l[i]? = some c) (hk : k (.pin c.cs)) : aidxS 6 (.row 6 (l.map Cl.cs)) (.val (.int ki i)) k := V.a_idx i c.cs (by rw [List.getElem?_map, h]; rfl) hk
end Go.V
namespace Go.Proofs.YtdalobojhfafbaaDoor
open Go Go.V
theorem many_core {p : Pr} {kept : List Int} {R : AE → List Bx → Prop} (hf : ClausesF p [] = ([⟨-1, -1, mk 21 [mk 19 [], p.safe]⟩], 0)) (hc : CheckF p = 0) (hR : ∀ L, R (.ret (.b true)) L) : ASpec pr 3 [p.d, .row 1 (nD kept)] [] R := by
  refine ASpec.small fun hsm => s3a ?_
  unfold A3a
  have hC := c6 p
  rw [hc] at hC
  refine a_bxv fun z1 => ?_
  (refine a_call0 (c5) ?_; refine V.a_ldN 0 _ rfl rfl p.cs_len ?_; refine a_call0 hC ?_; refine a_neq ?_; refine a_cndbF rfl ?_)
  have hN := clauses_any p [] (by decide) (a1 := .nil) (Lk := []) (fun k h => h) (fun i hi => absurd hi (Nat.not_lt_zero _))
  rw [hf] at hN
  dsimp only at hN
  have hsd : p.safe.dep ≤ 100 := (sortF_ok (t := p.safe) (by rw [(saidE_all (CheckF_ok hc).said p.safe List.mem_cons_self).1])).2.1
  have hSS := c8 p.safe p.safe
  rw [sameF_refl hsd] at hSS
  have h32 : p.hs.length ≤ 32 := ((fewB_iff p).1 (CheckF_ok hc).few).1.2.1
  refine a_lp (σ := Nat × Nat × Nat × List Int) (fun x => [gv x.2.1 x.2.2.1 x.2.2.2, .i x.1]) (fun x => gb (fun n : Int => [D.i n]) 3 1 x.2.1 x.2.2.1 x.2.2.2 ++ [⟨z1, p.cs, .box⟩]) (fun x => x.1 ≤ kept.length ∧ x.1 ≤ 10 ∧ x.2.2.2.length = x.1 ∧ ∀ k ∈ x.2.2.2, 0 ≤ k ∧ k < p.known.length) (fun x => kept.length - x.1) (0, 0, 0, []) (Gl.refl _ _) ⟨Nat.zero_le _, Nat.zero_le _, rfl, fun k hk => by cases hk⟩ ?_
  rintro ⟨i, b, c, ks⟩ K ⟨hi, hi10, hkl, hks⟩ hK
  dsimp only at hi hi10 hkl hks hK ⊢
  dsimp only [aix0, aix1, aix2, aix3, aix4, aix5, aix6, aix7, aix8]
  refine a_jn (σ := Unit) (fun _ => []) (fun _ => gb (fun n : Int => [D.i n]) 3 1 b c ks ++ [⟨z1, p.cs, .box⟩]) (fun _ => i < kept.length ∧ i < 10 ∧ 0 < p.known.length) ?_ fun J hJ => ?_
  · rintro _ ⟨h1, h2, h3⟩
    unfold nD
    refine a_idxM i h1 ?_
    generalize kept[i] = k
    ((apply a_ld1p; exact rfl))
    refine a_andI fun m => ?_
    (refine a_fld ?_; (apply a_ldr1 0; exact rfl; exact rfl); refine Tm.a_len ?_)
    refine a_remI h3 fun j hj => ?_
    ((apply a_bldF _; exact rfl; (try dsimp only [afill, aparts, cl, chunk, List.take, List.drop, List.nil_append, List.cons_append, List.append_nil, List.length_cons, List.length_nil, Nat.zero_add, Nat.reduceAdd, Nat.reduceMul]); try exact rfl))
    refine a_appH1 (cs := fun n : Int => [D.i n]) (x := (j : Int)) (fun _ => rfl) (fun _ => rfl) ?_ fun b' c' => ?_
    · omega
    (refine a_add (by first | omega | assumption | decide) (by first | omega | assumption | decide) ?_)
    refine hK (i + 1, b', c', ks ++ [(j : Int)]) _ _ ⟨by dsimp only; omega, by dsimp only; omega, by simp [hkl], fun k hk => ?_⟩ (by dsimp only; omega) (Gl.refl _ _)
    rcases List.mem_append.1 hk with hk | hk
    · exact hks k hk
    · rw [List.mem_singleton.1 hk]; omega
  · have hM := many_of hc hks
    have hA := clauses_any p ks (by omega) (a1 := gv b c ks) (Lk := gb (fun n : Int => [D.i n]) 3 1 b c ks) (fun k h => a_lenG h) (fun i hi A x y k h => by
      have := ld_gv (b := b) (c := c) (e := 3) (N := []) (A ++ [x, y]) hi h
      rwa [List.append_nil, List.append_assoc] at this)
    generalize ClausesF p ks = r at *
    clear hK
    unfold nD
    refine a_lenM ?_
    refine a_lss ?_
    refine a_cnd (fun q1 => ?_) (fun q1 => ?_)
    (refine a_lss ?_)
    refine a_cnd (fun q2 => ?_) (fun q2 => ?_)
    (refine a_fld ?_; (apply a_ldr1 0; exact rfl; exact rfl); refine Tm.a_len ?_; refine a_gtr ?_)
    refine a_cnd (fun q3 => ?_) (fun q3 => ?_)
    · exact hJ () _ _ ⟨by omega, by omega, by omega⟩ (Gl.refl _ _)
    all_goals
      (refine a_ldrN 0 _ rfl rfl p.cs_len ?_; refine a_callR (AFn.frameL _ hA) ?_; (apply a_ext; exact rfl); (apply a_ext; exact rfl); refine a_ldrN 0 _ rfl rfl p.cs_len ?_; refine a_call0 hN ?_; (apply a_ext; exact rfl); (apply a_ext; exact rfl))
      refine a_jn (σ := Unit) (fun _ => []) (fun _ => gb (fun n : Int => [D.i n]) 3 1 b c ks ++ [⟨z1, p.cs, .box⟩]) (fun _ => True) ?_ fun J2 hJ2 => ?_
      · rintro _ _
        (refine a_neq ?_)
        by_cases he : r.2 = 7
        · refine a_cndT (by omega) ?_
          (refine a_cndbT rfl ?_; refine a_eql ?_)
          rw [decide_eq_true he]
          exact hR _
        · obtain ⟨h0, hm⟩ := hM.resolve_left he
          obtain ⟨l, e⟩ := r
          dsimp only at h0 hm he ⊢
          obtain ⟨cl, hl1, hl2⟩ := hm.last
          have hlen := hm.len
          have hmul : ks.length * (1 + p.hs.length) ≤ 10 * 33 := Nat.mul_le_mul (by omega) (by omega)
          refine a_cndF (by omega) ?_
          refine a_jn (σ := Unit) (fun _ => []) (fun _ => gb (fun n : Int => [D.i n]) 3 1 b c ks ++ [⟨z1, p.cs, .box⟩]) (fun _ => True) ?_ fun J3 hJ3 => ?_
          · rintro _ _
            refine a_lp (σ := Nat) (fun i => [.i i]) (fun _ => gb (fun n : Int => [D.i n]) 3 1 b c ks ++ [⟨z1, p.cs, .box⟩]) (fun i => i ≤ ks.length) (fun i => ks.length - i) 0 (Gl.refl _ _) (Nat.zero_le _) ?_
            rintro i2 K2 hi2 hK2
            dsimp only [aix0, aix1, aix2, aix3, aix4, aix5, aix6, aix7, aix8]
            (refine a_lenG ?_; refine a_lss ?_)
            refine a_cnd (fun q4 => ?_) (fun q4 => ?_)
            · have hlt : i2 < ks.length := by omega
              obtain ⟨c1, hc1, hc2, hc3⟩ := hm.firsts i2 hlt
              refine a_jn (σ := Unit) (fun _ => []) (fun _ => gb (fun n : Int => [D.i n]) 3 1 b c ks ++ [⟨z1, p.cs, .box⟩]) (fun _ => True) ?_ fun J4 hJ4 => ?_
              · rintro _ _
                refine a_lp (σ := Nat) (fun i => [.i i]) (fun _ => gb (fun n : Int => [D.i n]) 3 1 b c ks ++ [⟨z1, p.cs, .box⟩]) (fun i => i ≤ p.hs.length) (fun i => p.hs.length - i) 0 (Gl.refl _ _) (Nat.zero_le _) ?_
                rintro h K3 hh hK3
                dsimp only [aix0, aix1, aix2, aix3, aix4, aix5, aix6, aix7, aix8]
                (refine a_fld ?_; (apply a_ldr1 0; exact rfl; exact rfl); refine a_lenM ?_; refine a_lss ?_)
                refine a_cnd (fun q5 => ?_) (fun q5 => ?_)
                · have hlh : h < p.hs.length := by omega
                  obtain ⟨cc, u, kn, e1, e2, e3, e4, e5⟩ := hm.steps i2 h hlt hlh
                  have e6 : (mk 19 kn).a.length = ks.length := e5
                  have ecs : cc.cs = [.i h, .i ks[i2], .i 21, .s ⟨#[]⟩, .i 0, .row 4 (Tm.rows [mk 19 kn, u])] := by
                    cases cc with | mk ch ck ct =>
                    dsimp only at e2 e3 e4
                    subst e4 e2 e3
                    rfl
                  have hmI : (ks.length : Int) * (1 + (h : Int)) = ((ks.length * (1 + h) : Nat) : Int) := by simp
                  have hmb : ks.length * (1 + h) ≤ 10 * 33 := Nat.mul_le_mul (by omega) (by omega)
                  generalize ks.length * (1 + h) = M2 at *
                  (refine a_lenG ?_; refine a_add (by first | omega | assumption | decide) (by first | omega | assumption | decide) ?_)
                  refine a_mul (by omega) (by omega) ?_
                  rw [hmI]
                  (refine a_add (by first | omega | assumption | decide) (by first | omega | assumption | decide) ?_)
                  rw [show (M2 : Int) + (i2 : Int) = ((M2 + i2 : Nat) : Int) by omega]
                  refine idxC e1 ?_
                  rw [ecs]
                  ((apply a_ldAp; exact rfl); refine a_bx fun z2 => ?_; refine a_stA 0 rfl rfl rfl rfl ?_; refine a_fld ?_; (apply a_ld1 0; exact rfl; exact rfl); refine a_neq ?_; refine a_cndF (by first | omega | assumption | decide) ?_; refine a_fld ?_; (apply a_ld1 0; exact rfl; exact rfl); refine ld_gv [_] hlt ?_; refine a_neq ?_; refine a_cndF (by first | omega | assumption | decide) ?_; refine a_fld ?_; refine a_fld ?_; (apply a_ld1 0; exact rfl; exact rfl); refine a_neq ?_; refine a_cndbF rfl ?_; refine a_fld ?_; refine a_fld ?_; (apply a_ld1 0; exact rfl; exact rfl); refine a_idxT0 ?_; refine a_fldp ?_; (apply a_ld1p; exact rfl); refine Tm.a_len ?_; refine a_lenG ?_; refine a_neq ?_; refine a_cndF (by first | omega | assumption | decide) ?_; refine a_add (by first | omega | assumption | decide) (by first | omega | assumption | decide) ?_)
                  exact hK3 (h + 1) _ _ (by omega) (by omega) (by first | exact Gl.refl _ _ | exact Gl.drop (by repeat (first | exact List.Sublist.refl _ | exact List.Sublist.slnil | apply List.Sublist.cons_cons | apply List.Sublist.cons)))
                · (refine a_add (by first | omega | assumption | decide) (by first | omega | assumption | decide) ?_)
                  exact hK2 (i2 + 1) _ _ (by omega) (by omega) (Gl.refl _ _)
              · refine idxC hc1 ?_
                (refine a_fldp ?_; (apply a_ld1p; exact rfl); refine a_neq ?_; refine a_cndF (by first | omega | assumption | decide) ?_; refine idxC hc1 ?_; refine ld_gv [] hlt ?_; refine a_neq ?_; refine a_cndF (by first | omega | assumption | decide) ?_)
                exact hJ4 () _ _ trivial (Gl.refl _ _)
            · exact hR _
          · have hmI : (ks.length : Int) * (1 + (p.hs.length : Int)) = ((ks.length * (1 + p.hs.length) : Nat) : Int) := by simp
            generalize ks.length * (1 + p.hs.length) = M at *
            (refine a_lenM ?_; refine a_lenG ?_; refine a_fld ?_; (apply a_ldr1 0; exact rfl; exact rfl); refine a_lenM ?_; refine a_add (by first | omega | assumption | decide) (by first | omega | assumption | decide) ?_)
            refine a_mul (by omega) (by omega) ?_
            rw [hmI]
            (refine a_add (by first | omega | assumption | decide) (by first | omega | assumption | decide) ?_; refine a_neq ?_; refine a_cndF (by first | omega | assumption | decide) ?_; refine a_lenM ?_; refine a_sub (by first | omega | assumption | decide) (by first | omega | assumption | decide) ?_)
            rw [show (l.length : Int) - 1 = ((l.length - 1 : Nat) : Int) by omega]
            refine idxC hl1 ?_
            (refine a_fldp ?_; (apply a_ld1p; exact rfl); refine a_neq ?_; refine a_cndF (by first | omega | assumption | decide) ?_)
            exact hJ3 () _ _ trivial (Gl.refl _ _)
      · (refine a_neq ?_; refine a_lenM ?_; refine a_neq ?_; refine a_cndbF rfl ?_)
        refine idxC (c := ⟨-1, -1, mk 21 [mk 19 [], p.safe]⟩) (i := 0) rfl ?_
        (refine a_fldp ?_; refine a_fldp ?_; (apply a_ld1p; exact rfl); refine a_neq ?_; refine idxC (c := ⟨-1, -1, mk 21 [mk 19 [], p.safe]⟩) (i := 0) rfl ?_; refine a_fldp ?_; refine a_fldp ?_; (apply a_ld1p; exact rfl); refine a_idxT1 ?_; (apply a_ldAp; exact rfl); refine a_fld ?_; (apply a_ldrN 0 _; exact rfl; exact rfl; exact rfl); refine a_callS0 hSS ?_; refine a_not ?_; refine a_cndbF rfl ?_)
        exact hJ2 () _ _ trivial (Gl.refl _ _)
theorem many_coreB {p : Pr} {kept : List Int} {R : AE → List Bx → Prop} (hf : ClausesF p [] = ([], 7)) (hc : CheckF p = 0) (hR : ∀ L, R (.ret (.b true)) L) : ASpec pr 3 [p.d, .row 1 (nD kept)] [] R := by
  refine ASpec.small fun hsm => s3b ?_
  unfold A3b
  have hC := c6 p
  rw [hc] at hC
  refine a_bxv fun z1 => ?_
  (refine a_call0 (c5) ?_; refine V.a_ldN 0 _ rfl rfl p.cs_len ?_; refine a_call0 hC ?_; refine a_neq ?_; refine a_cndbF rfl ?_)
  have hN := clauses_any p [] (by decide) (a1 := .nil) (Lk := []) (fun k h => h) (fun i hi => absurd hi (Nat.not_lt_zero _))
  rw [hf] at hN
  dsimp only at hN
  have hsd : p.safe.dep ≤ 100 := (sortF_ok (t := p.safe) (by rw [(saidE_all (CheckF_ok hc).said p.safe List.mem_cons_self).1])).2.1
  have hSS := c8 p.safe p.safe
  rw [sameF_refl hsd] at hSS
  have h32 : p.hs.length ≤ 32 := ((fewB_iff p).1 (CheckF_ok hc).few).1.2.1
  refine a_lp (σ := Nat × Nat × Nat × List Int) (fun x => [gv x.2.1 x.2.2.1 x.2.2.2, .i x.1]) (fun x => gb (fun n : Int => [D.i n]) 3 1 x.2.1 x.2.2.1 x.2.2.2 ++ [⟨z1, p.cs, .box⟩]) (fun x => x.1 ≤ kept.length ∧ x.1 ≤ 10 ∧ x.2.2.2.length = x.1 ∧ ∀ k ∈ x.2.2.2, 0 ≤ k ∧ k < p.known.length) (fun x => kept.length - x.1) (0, 0, 0, []) (Gl.refl _ _) ⟨Nat.zero_le _, Nat.zero_le _, rfl, fun k hk => by cases hk⟩ ?_
  rintro ⟨i, b, c, ks⟩ K ⟨hi, hi10, hkl, hks⟩ hK
  dsimp only at hi hi10 hkl hks hK ⊢
  dsimp only [aix0, aix1, aix2, aix3, aix4, aix5, aix6, aix7, aix8]
  refine a_jn (σ := Unit) (fun _ => []) (fun _ => gb (fun n : Int => [D.i n]) 3 1 b c ks ++ [⟨z1, p.cs, .box⟩]) (fun _ => i < kept.length ∧ i < 10 ∧ 0 < p.known.length) ?_ fun J hJ => ?_
  · rintro _ ⟨h1, h2, h3⟩
    unfold nD
    refine a_idxM i h1 ?_
    generalize kept[i] = k
    ((apply a_ld1p; exact rfl))
    refine a_andI fun m => ?_
    (refine a_fld ?_; (apply a_ldr1 0; exact rfl; exact rfl); refine Tm.a_len ?_)
    refine a_remI h3 fun j hj => ?_
    ((apply a_bldF _; exact rfl; (try dsimp only [afill, aparts, cl, chunk, List.take, List.drop, List.nil_append, List.cons_append, List.append_nil, List.length_cons, List.length_nil, Nat.zero_add, Nat.reduceAdd, Nat.reduceMul]); try exact rfl))
    refine a_appH1 (cs := fun n : Int => [D.i n]) (x := (j : Int)) (fun _ => rfl) (fun _ => rfl) ?_ fun b' c' => ?_
    · omega
    (refine a_add (by first | omega | assumption | decide) (by first | omega | assumption | decide) ?_)
    refine hK (i + 1, b', c', ks ++ [(j : Int)]) _ _ ⟨by dsimp only; omega, by dsimp only; omega, by simp [hkl], fun k hk => ?_⟩ (by dsimp only; omega) (Gl.refl _ _)
    rcases List.mem_append.1 hk with hk | hk
    · exact hks k hk
    · rw [List.mem_singleton.1 hk]; omega
  · have hM := many_of hc hks
    have hA := clauses_any p ks (by omega) (a1 := gv b c ks) (Lk := gb (fun n : Int => [D.i n]) 3 1 b c ks) (fun k h => a_lenG h) (fun i hi A x y k h => by
      have := ld_gv (b := b) (c := c) (e := 3) (N := []) (A ++ [x, y]) hi h
      rwa [List.append_nil, List.append_assoc] at this)
    generalize ClausesF p ks = r at *
    clear hK
    unfold nD
    refine a_lenM ?_
    refine a_lss ?_
    refine a_cnd (fun q1 => ?_) (fun q1 => ?_)
    (refine a_lss ?_)
    refine a_cnd (fun q2 => ?_) (fun q2 => ?_)
    (refine a_fld ?_; (apply a_ldr1 0; exact rfl; exact rfl); refine Tm.a_len ?_; refine a_gtr ?_)
    refine a_cnd (fun q3 => ?_) (fun q3 => ?_)
    · exact hJ () _ _ ⟨by omega, by omega, by omega⟩ (Gl.refl _ _)
    all_goals
      (refine a_ldrN 0 _ rfl rfl p.cs_len ?_; refine a_callR (AFn.frameL _ hA) ?_; (apply a_ext; exact rfl); (apply a_ext; exact rfl); refine a_ldrN 0 _ rfl rfl p.cs_len ?_; refine a_call0 hN ?_; (apply a_ext; exact rfl); (apply a_ext; exact rfl))
      refine a_jn0 fun J2 => ?_
      (refine a_neq ?_; refine a_cndbT rfl ?_; refine a_cndbT rfl ?_; refine a_eql ?_)
      rw [decide_eq_true (show (7 : Int) = 7 from rfl)]
      exact hR _
theorem c3 (p : Pr) (kept : List Int) : AFn pr 3 [p.d, .row 1 (nD kept)] [] (.ret (.b true)) := by
  refine AFn.ofGe ?_
  by_cases hc : CheckF p ≠ 0
  · refine ASpec.small fun hsm => s3a ?_
    unfold A3a
    have hC := c6 p
    refine a_bxv fun z1 => ?_
    (refine a_call0 (c5) ?_; refine V.a_ldN 0 _ rfl rfl p.cs_len ?_; refine a_call0 hC ?_; refine a_neq ?_; refine a_cndT (by first | omega | assumption | decide) ?_)
    exact ge_drop _ _
  · rcases none_of (Decidable.of_not_not hc) with hf | hf
    · exact many_coreB hf (Decidable.of_not_not hc) fun L => ge_drop _ _
    · exact many_core hf (Decidable.of_not_not hc) fun L => ge_drop _ _
end Go.Proofs.YtdalobojhfafbaaDoor
