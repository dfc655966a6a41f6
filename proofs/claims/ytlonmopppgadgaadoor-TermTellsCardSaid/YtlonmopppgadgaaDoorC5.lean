/- Contracts of norm. -/
import Derived.Test.YtlonmopppgadgaaDoorC4
import Derived.Test.YtlonmopppgadgaaDoorT1
set_option maxRecDepth 100000
set_option linter.unusedVariables false
namespace Go.Proofs.YtlonmopppgadgaaDoor
open Go Go.V
theorem norm_step {t p : Tm} (no : Bool) (hp : AFn pr 74 [t.d] [] (.ret p.d)) (hlen : p.a.length ≤ 2000)
    (h18 : p.op = 18 → ∃ x, p.a = [x] ∧ ∀ no, AFn pr 43 [x.d, .b no] [] (.ret (normT x no).d))
    (hm : p.op = 19 ∨ p.op = 20 ∨ p.op = 16 ∨ p.op = 17 → ∀ x ∈ p.a, ∀ no, AFn pr 43 [x.d, .b no] [] (.ret (normT x no).d)) :
    AFn pr 43 [t.d, .b no] [] (.ret (normS p no).d) := by
  refine AFn.ofGe (s43 ?_)
  unfold A43 normS
  (refine a_bxv fun z1 => ?_; refine a_bx fun z2 => ?_; (apply a_ldA 1; exact rfl; exact rfl))
  refine a_call0 hp ?_
  (refine a_stA 1 rfl rfl rfl rfl ?_)
  refine a_jn (σ := Unit) (fun _ => []) (fun _ => [⟨z2, [.i 0, .s ⟨#[]⟩, .i 0, .nil], .box⟩, ⟨z1, p.cs, .box⟩]) (fun _ => p.op ≠ 18 ∧ ¬ (p.op = 19 ∨ p.op = 20 ∨ p.op = 16 ∨ p.op = 17)) ?_ fun J hJ => ?_
  · rintro _ ⟨h1, h2⟩
    rw [if_neg h1, if_neg h2]
    refine a_cndb (fun h => ?_) (fun h => ?_)
    · subst h
      ((apply a_ldA 1; exact rfl; exact rfl); refine a_rowS1 rfl ?_; refine a_call0 (c76 _ _) ?_; refine a_stA 0 rfl rfl rfl rfl ?_; (apply a_ldA 0; exact rfl; exact rfl))
      exact ge_of rfl
    · subst h
      ((apply a_ldA 1; exact rfl; exact rfl); refine a_stA 0 rfl rfl rfl rfl ?_; (apply a_ldA 0; exact rfl; exact rfl))
      exact ge_of rfl
  · (refine a_fld ?_; (apply a_ld1 1; exact rfl; exact rfl); refine a_eql ?_)
    refine a_cnd (fun h => ?_) (fun h => ?_)
    · obtain ⟨x, hx, hc⟩ := h18 h
      rw [if_pos h]
      cases p with | mk op nm n a =>
      simp only [Tm.a] at hx
      subst hx
      (refine a_fld ?_; (apply a_ld1 1; exact rfl; exact rfl); refine a_idxT0 ?_; (apply a_ldAp; exact rfl); refine a_not ?_)
      refine a_call0 (hc _) ?_
      (refine a_stA 0 rfl rfl rfl rfl ?_; (apply a_ldA 0; exact rfl; exact rfl))
      exact ge_of rfl
    · rw [if_neg h] at *
      refine a_jn (σ := Bool) (fun b => [.b b]) (fun _ => [⟨z2, [.i 0, .s ⟨#[]⟩, .i 0, .nil], .box⟩, ⟨z1, p.cs, .box⟩]) (fun b => b = decide (p.op = 19 ∨ p.op = 20 ∨ p.op = 16 ∨ p.op = 17)) ?_ fun J2 hJ2 => ?_
      · rintro _ rfl
        dsimp only [aix0, aix1, aix2, aix3, aix4, aix5, aix6, aix7, aix8]
        refine a_cnd (fun hop => ?_) (fun hop => ?_)
        · rw [if_pos hop]
          replace hm := hm hop
          (refine a_fld ?_; (apply a_ld1 1; exact rfl; exact rfl); refine a_bld [_, _, _, .nil] rfl rfl ?_; refine a_bx fun z3 => ?_; refine a_stA 0 rfl rfl rfl rfl ?_)
          refine a_jn1 [] [⟨z3, [.i (if no then turnedF p.op else p.op), .s ⟨#[]⟩, .i 0, .nil], .box⟩, ⟨z2, [.i 0, .s ⟨#[]⟩, .i 0, .nil], .box⟩, ⟨z1, p.cs, .box⟩] ?_ fun J3 hJ3 => ?_
          · (refine a_fld ?_; (apply a_ld1 2; exact rfl; exact rfl); refine Tm.a_len ?_)
            refine a_lp3 (σ := Nat) (τ := Nat) (ρ := Nat) (fun i _ _ => [.i i]) (fun i b c => bbT 24 b c ((p.a.take i).map (normT · no)) ++ [⟨z3, [.i (if no then turnedF p.op else p.op), .s ⟨#[]⟩, .i 0, bvT b c ((p.a.take i).map (normT · no))], .box⟩, ⟨z2, [.i 0, .s ⟨#[]⟩, .i 0, .nil], .box⟩, ⟨z1, p.cs, .box⟩]) (fun i _ _ => i ≤ p.a.length) (fun i _ _ => p.a.length - i) 0 0 0 (by first | exact Gl.refl _ _ | exact Gl.drop (by repeat (first | exact List.Sublist.refl _ | exact List.Sublist.slnil | apply List.Sublist.cons_cons | apply List.Sublist.cons))) (Nat.zero_le _) ?_
            rintro i b c K hi hK
            dsimp only [aix0, aix1, aix2, aix3, aix4, aix5, aix6, aix7, aix8]
            (refine a_lss ?_)
            refine a_cnd (fun h5 => ?_) (fun h5 => ?_)
            · have hlt : i < p.a.length := by omega
              have et : (p.a.take (i + 1)).map (normT · no) = (p.a.take i).map (normT · no) ++ [normT p.a[i] no] := by
                rw [List.take_succ_eq_append_getElem hlt, List.map_append]; rfl
              have el : ((p.a.take i).map (normT · no)).length = i := by rw [List.length_map, List.length_take]; omega
              refine Tm.a_idx i hlt ?_
              specialize hK (i + 1)
              rw [et] at hK
              generalize (p.a.take i).map (normT · no) = l at hK el ⊢
              cases l with
              | nil =>
                ((apply a_ldAp; exact rfl); refine a_bx fun z4 => ?_; refine a_stA 0 rfl rfl rfl rfl ?_; refine a_fld ?_; (apply a_ld1 1; exact rfl; exact rfl); (apply a_ldA 0; exact rfl; exact rfl))
                refine a_callS0 (hm _ (List.getElem_mem hlt) _) ?_
                (refine a_rowT1 rfl ?_)
                refine a_appT0 fun b' c' => ?_
                (refine a_fld ?_; (apply a_st 2 _; exact rfl; exact rfl; exact rfl; exact rfl; (try dsimp only [afill, aparts, cl, chunk, List.take, List.drop, List.nil_append, List.cons_append, List.append_nil, List.length_cons, List.length_nil, Nat.zero_add, Nat.reduceAdd, Nat.reduceMul]); try exact rfl); refine a_add (by first | omega | assumption | decide) (by first | omega | assumption | decide) ?_)
                exact hK b' c' _ _ (by omega) (by omega) (by first | exact Gl.refl _ _ | exact Gl.drop (by repeat (first | exact List.Sublist.refl _ | exact List.Sublist.slnil | apply List.Sublist.cons_cons | apply List.Sublist.cons)))
              | cons y l =>
                simp only [bbT, List.cons_append, List.nil_append]
                ((apply a_ldAp; exact rfl); refine a_bx fun z4 => ?_; refine a_stA 0 rfl rfl rfl rfl ?_; refine a_fld ?_; (apply a_ld1 2; exact rfl; exact rfl); (apply a_ldA 0; exact rfl; exact rfl))
                refine a_callS0 (hm _ (List.getElem_mem hlt) _) ?_
                (refine a_rowT1 rfl ?_)
                refine a_appT1 1 rfl (by simp only [List.length_cons] at el; omega) fun b' c' => ?_
                (refine a_fld ?_; (apply a_st 2 _; exact rfl; exact rfl; exact rfl; exact rfl; (try dsimp only [afill, aparts, cl, chunk, List.take, List.drop, List.nil_append, List.cons_append, List.append_nil, List.length_cons, List.length_nil, Nat.zero_add, Nat.reduceAdd, Nat.reduceMul]); try exact rfl); refine a_add (by first | omega | assumption | decide) (by first | omega | assumption | decide) ?_)
                exact hK b' c' _ _ (by omega) (by omega) (by first | exact Gl.refl _ _ | exact Gl.drop (by repeat (first | exact List.Sublist.refl _ | exact List.Sublist.slnil | apply List.Sublist.cons_cons | apply List.Sublist.cons)))
            · have : i = p.a.length := by omega
              subst this
              rw [List.take_length]
              generalize p.a.map (normT · no) = l
              cases l with
              | nil =>
                ((apply a_ldA 0; exact rfl; exact rfl); refine a_stA 1 rfl rfl rfl rfl ?_; (apply a_ldA 1; exact rfl; exact rfl))
                exact ge_mkT (e := 0) (.inl rfl)
              | cons y l =>
                simp only [bbT, List.cons_append, List.nil_append]
                ((apply a_ldA 1; exact rfl; exact rfl); refine a_stA 2 rfl rfl rfl rfl ?_; (apply a_ldA 2; exact rfl; exact rfl))
                exact ge_mkT (.inr ⟨0, rfl⟩)
          · refine a_cndb (fun h6 => ?_) (fun h6 => ?_)
            · subst h6
              simp only [if_true] at hJ3
              (refine a_fld ?_; (apply a_ld1 2; exact rfl; exact rfl); refine a_call0 (c75 _) ?_; refine a_fld ?_; (apply a_st 0 _; exact rfl; exact rfl; exact rfl; exact rfl; (try dsimp only [afill, aparts, cl, chunk, List.take, List.drop, List.nil_append, List.cons_append, List.append_nil, List.length_cons, List.length_nil, Nat.zero_add, Nat.reduceAdd, Nat.reduceMul]); try exact rfl))
              exact hJ3 _ _ (by first | exact Gl.refl _ _ | exact Gl.drop (by repeat (first | exact List.Sublist.refl _ | exact List.Sublist.slnil | apply List.Sublist.cons_cons | apply List.Sublist.cons)))
            · subst h6
              simp only [Bool.false_eq_true, if_false] at hJ3
              exact hJ3 _ _ (by first | exact Gl.refl _ _ | exact Gl.drop (by repeat (first | exact List.Sublist.refl _ | exact List.Sublist.slnil | apply List.Sublist.cons_cons | apply List.Sublist.cons)))
        · exact hJ () _ _ ⟨h, hop⟩ (by first | exact Gl.refl _ _ | exact Gl.drop (by repeat (first | exact List.Sublist.refl _ | exact List.Sublist.slnil | apply List.Sublist.cons_cons | apply List.Sublist.cons)))
      · (refine a_eql ?_)
        refine a_cnd (fun h5 => ?_) (fun h5 => ?_)
        · exact hJ2 true _ _ (by simp [h5]) (by rw [decide_eq_true h5]; exact Gl.refl _ _)
        (refine a_eql ?_)
        refine a_cnd (fun h6 => ?_) (fun h6 => ?_)
        · exact hJ2 true _ _ (by simp [h6]) (by rw [decide_eq_true h6]; exact Gl.refl _ _)
        (refine a_eql ?_)
        refine a_cnd (fun h7 => ?_) (fun h7 => ?_)
        · exact hJ2 true _ _ (by simp [h7]) (by rw [decide_eq_true h7]; exact Gl.refl _ _)
        (refine a_eql ?_)
        have e : decide (p.op = 17) = decide (p.op = 19 ∨ p.op = 20 ∨ p.op = 16 ∨ p.op = 17) := by simp [h5, h6, h7]
        exact hJ2 _ _ _ rfl (by rw [e]; exact Gl.refl _ _)
theorem norm_le (x y : Tm) (no : Bool) : AFn pr 43 [(leT x y).d, .b no] [] (.ret (normT (leT x y) no).d) := by
  have hp : AFn pr 74 [(leT x y).d] [] (.ret (leT x y).d) := by
    have := c74 (leT x y) (fun _ _ => rfl)
    rwa [plainT_no (by simp [leT, Tm.op])] at this
  have h := norm_step (p := leT x y) no hp (by simp [leT, Tm.a]) (fun h => by simp [leT, Tm.op] at h) (fun h => by simp [leT, Tm.op] at h)
  rw [normT_le]
  unfold normS at h
  rw [if_neg (by simp [leT, Tm.op]), if_neg (by simp [leT, Tm.op])] at h
  exact h
theorem norm_not {x : Tm} (hx : ∀ no, AFn pr 43 [x.d, .b no] [] (.ret (normT x no).d)) (no : Bool) : AFn pr 43 [(mk 18 [x]).d, .b no] [] (.ret (normT (mk 18 [x]) no).d) := by
  have hp : AFn pr 74 [(mk 18 [x]).d] [] (.ret (mk 18 [x]).d) := by
    have := c74 (mk 18 [x]) (fun h => by simp [mk, Tm.op] at h)
    rwa [plainT_no (by simp [mk, Tm.op])] at this
  have h := norm_step (p := mk 18 [x]) no hp (by simp [mk, Tm.a]) (fun _ => ⟨x, rfl, hx⟩) (fun h => by simp [mk, Tm.op] at h)
  rw [normT_not]
  exact h
theorem arL_of {a : List Tm} (h : ∀ x ∈ a, arT x = true) : arL a = true := by
  induction a with
  | nil => rfl
  | cons x r ih => rw [arL, h x (by simp), ih fun y hy => h y (by simp [hy])]; rfl
theorem arT_of (t : Tm) : ∀ m, rightT t m = true → arT t = true := by
  induction t using Tm.ind' with
  | h t ih =>
    intro m h
    rw [right_iff] at h
    rw [arT_eq]
    simp only [Bool.and_eq_true, Bool.or_eq_true, decide_eq_true_eq]
    refine ⟨⟨?_, ?_⟩, arL_of fun x hx => ?_⟩
    · by_cases e : t.op = 18
      · have := h.len; rw [e] at this; exact .inr (this rfl)
      · exact .inl e
    · have h2 := h.op2
      by_cases e : t.op < 21
      · exact .inl (.inl e)
      · have hop : t.op = 21 ∨ t.op = 22 ∨ t.op = 23 ∨ t.op = 24 ∨ t.op = 25 ∨ t.op = 26 ∨ t.op = 27 ∨ t.op = 28 := by omega
        have := h.len
        refine .inr ?_
        rcases hop with e | e | e | e | e | e | e | e <;> (rw [e] at this; exact this rfl)
    · obtain ⟨i, hi, rfl⟩ := List.getElem_of_mem hx
      exact ih _ (List.getElem_mem hi) _ (h.kids i hi)
theorem c43 (t : Tm) : rightT t 4 = true → t.size ≤ 2000 → ∀ no, AFn pr 43 [t.d, .b no] [] (.ret (normT t no).d) := by
  induction t using Tm.ind' with
  | h t ih =>
    intro h
    have har := arT_of t _ h
    have hlen2 : 21 ≤ t.op → t.op ≤ 28 → t.a.length = 2 := by
      intro h1 h2
      rw [arT_eq] at har
      simp only [Bool.and_eq_true, Bool.or_eq_true, decide_eq_true_eq] at har
      omega
    have hplain := c74 t hlen2
    revert ih
    intro ih hsz no
    rw [normT_step har]
    have hrun : ∀ x ∈ t.a, rightT x 4 = true → ∀ no, AFn pr 43 [x.d, .b no] [] (.ret (normT x no).d) := fun x hx hr => ih x hx hr (by have := Tm.size_mem hx; rw [Tm.size_eq] at hsz; omega)
    have hl : t.a.length ≤ 2000 := by have := Tm.len_size t.a; rw [Tm.size_eq] at hsz; omega
    clear ih hlen2 hsz har
    revert hplain hrun hl
    refine bool_cases (P := fun t => AFn pr 74 [t.d] [] (.ret (plainT t).d) → (∀ x ∈ t.a, rightT x 4 = true → ∀ no, AFn pr 43 [x.d, .b no] [] (.ret (normT x no).d)) → t.a.length ≤ 2000 → AFn pr 43 [t.d, .b no] [] (.ret (normS (plainT t) no).d)) h ?_ ?_ ?_ ?_ ?_ ?_ ?_
    · intro nm n a hp _ hl
      have e : plainT (.mk 15 nm n a) = .mk 15 nm n a := plainT_no (by simp [Tm.op])
      rw [e] at hp ⊢
      exact norm_step no hp hl (fun h => by simp [Tm.op] at h) (fun h => by simp [Tm.op] at h)
    · intro op ho hp _ hl
      have e : plainT (mk op []) = mk op [] := plainT_no (by simp only [mk, Tm.op]; omega)
      rw [e] at hp ⊢
      exact norm_step no hp hl (fun h => by simp only [mk, Tm.op] at h; omega) (fun _ x hx => by simp [mk, Tm.a] at hx)
    · intro x hx hp hr hl
      have e : plainT (mk 18 [x]) = mk 18 [x] := plainT_no (by simp [mk, Tm.op])
      rw [e] at hp ⊢
      exact norm_step no hp hl (fun _ => ⟨x, rfl, hr x (by simp [mk, Tm.a]) hx⟩) (fun h => by simp [mk, Tm.op] at h)
    · intro op a ho hx hp hr hl
      have e : plainT (mk op a) = mk op a := plainT_no (by simp only [mk, Tm.op]; omega)
      rw [e] at hp ⊢
      exact norm_step no hp hl (fun h => by simp only [mk, Tm.op] at h; omega) (fun _ x hx' => hr x hx' (hx x hx'))
    · intro x y hx hy hp hr hl
      have e : plainT (mk 21 [x, y]) = mk 20 [mk 18 [x], y] := plainT_21 rfl
      rw [e] at hp ⊢
      refine norm_step no hp (by simp [mk, Tm.a]) (fun h => by simp [mk, Tm.op] at h) (fun _ z hz => ?_)
      simp only [mk, Tm.a, List.mem_cons, List.not_mem_nil, or_false] at hz
      rcases hz with rfl | rfl
      · exact norm_not (hr x (by simp [mk, Tm.a]) hx)
      · exact hr z (by simp [mk, Tm.a]) hy
    · intro x y hp _ hl
      have e : plainT (leT x y) = leT x y := plainT_no (by simp [leT, Tm.op])
      rw [e] at hp ⊢
      exact norm_step no hp hl (fun h => by simp [leT, Tm.op] at h) (fun h => by simp [leT, Tm.op] at h)
    · intro op x y h1 h2 hp _ hl
      have hop : op = 23 ∨ op = 24 ∨ op = 25 ∨ op = 26 ∨ op = 27 ∨ op = 28 := by omega
      rcases hop with rfl | rfl | rfl | rfl | rfl | rfl
      · rw [plainT_23 (t := mk 23 [x, y]) rfl] at hp ⊢
        exact norm_step no hp (by simp [mk, Tm.a]) (fun _ => ⟨_, rfl, norm_le _ _⟩) (fun h => by simp [mk, Tm.op] at h)
      · rw [plainT_24 (t := mk 24 [x, y]) rfl] at hp ⊢
        refine norm_step no hp (by simp [mk, Tm.a]) (fun h => by simp [mk, Tm.op] at h) (fun _ z hz => ?_)
        simp only [mk, Tm.a, List.mem_cons, List.not_mem_nil, or_false] at hz
        rcases hz with rfl | rfl <;> exact norm_le _ _
      · rw [plainT_25 (t := mk 25 [x, y]) rfl] at hp ⊢
        exact norm_step no hp (by simp [emptyT, leT, Tm.a]) (fun h => by simp [emptyT, leT, Tm.op] at h) (fun h => by simp [emptyT, leT, Tm.op] at h)
      · rw [plainT_26 (t := mk 26 [x, y]) rfl] at hp ⊢
        exact norm_step no hp (by simp [emptyT, leT, Tm.a]) (fun h => by simp [emptyT, leT, Tm.op] at h) (fun h => by simp [emptyT, leT, Tm.op] at h)
      · rw [plainT_27 (t := mk 27 [x, y]) rfl] at hp ⊢
        refine norm_step no hp (by simp [mk, Tm.a]) (fun h => by simp [mk, Tm.op] at h) (fun _ z hz => ?_)
        simp only [mk, Tm.a, List.mem_cons, List.not_mem_nil, or_false] at hz
        rcases hz with rfl | rfl <;> exact norm_le _ _
      · rw [plainT_28 (t := mk 28 [x, y]) rfl] at hp ⊢
        exact norm_step no hp (by simp [emptyT, leT, Tm.a]) (fun h => by simp [emptyT, leT, Tm.op] at h) (fun h => by simp [emptyT, leT, Tm.op] at h)
end Go.Proofs.YtlonmopppgadgaaDoor
