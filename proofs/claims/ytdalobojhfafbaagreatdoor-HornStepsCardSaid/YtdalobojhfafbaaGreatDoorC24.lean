/- Contracts of subst: what is put, and counted; the loop over slices.Backward. -/
import Derived.Test.YtdalobojhfafbaaGreatDoorM13
import Derived.Test.YtdalobojhfafbaaGreatDoorW10
import Derived.Test.YtdalobojhfafbaaGreatDoorT3
import Derived.Test.YtdalobojhfafbaaGreatDoorC4
set_option maxRecDepth 100000
set_option linter.unusedVariables false
namespace Go.V
open Go
theorem kids_sort {t : Tm} (h : (sortF t).2 = 0) : ∀ x ∈ t.a, (sortF x).2 = 0 := fun x hx => by
  obtain ⟨h1, h2, h3, _⟩ := sortF_ok h
  obtain ⟨i, hi, rfl⟩ := List.mem_iff_getElem.1 hx
  have hr := right_any (((right_iff _ _).1 h3).kids i hi)
  have hs := Tm.size_mem hx
  have hd := Tm.dep_mem hx
  rw [Tm.size_eq] at h1
  rw [Tm.dep_eq] at h2
  rw [sortF_eq, if_neg (by omega), if_pos hr]
theorem ge_mkTL {L M : List Bx} {e b c : Nat} {o : Int} {s : ByteArray} {n : Int} {l : List Tm} (h : (l = [] ∧ M.Sublist L) ∨ ∃ i : Nat, L[i]? = some (Bx.mk b (Tm.rows l).flatten (.row e 4 c)) ∧ M.Sublist (L.eraseIdx i)) :
    Ge (.ret (.agg [.i o, .s s, .i n, bvT b c l])) L (.ret (Tm.mk o s n l).d) M := by
  refine ⟨trivial, ?_⟩
  rcases h with ⟨rfl, hM⟩ | ⟨i, hi, hM⟩
  · refine Gl.trans (L1 := L) (Gl.nil 4 (ds' := [(Tm.mk o s n []).d]) ?_ (WkB.refl _ _ _)) (Gl.drop hM)
    rw [Tm.d, Tm.mk_d, Tm.rows_nil]
    exact .cons (.agg (.cons (.refl _) (.cons (.refl _) (.cons (.refl _) (.cons .hit .nil))))) .nil
  · cases l with
    | nil =>
      refine Gl.trans (L1 := L) (Gl.nil 4 (ds' := [(Tm.mk o s n []).d]) ?_ (WkB.refl _ _ _)) (Gl.drop (hM.trans (List.eraseIdx_sublist ..)))
      rw [Tm.d, Tm.mk_d, Tm.rows_nil]
      exact .cons (.agg (.cons (.refl _) (.cons (.refl _) (.cons (.refl _) (.cons .hit .nil))))) .nil
    | cons y l =>
      refine Gl.trans (Gl.fz (n := l.length + 1) (c := c) (ds' := [(Tm.mk o s n (y :: l)).d]) i hi (by rw [Tm.flat_len]; rfl) ?_ (WkB.refl _ _ _)) (Gl.drop hM)
      rw [Tm.d, Tm.mk_d, show l.length + 1 = (y :: l).length from rfl, chunk_rows]
      exact .cons (.agg (.cons (.refl _) (.cons (.refl _) (.cons (.refl _) (.cons .hit .nil))))) .nil
theorem sortF_mk' {t : Tm} (h : (sortF t).2 = 0) : sortF t = ((shpAt t.op).sort, 0) := by
  obtain ⟨_, _, _, h4⟩ := sortF_ok h
  exact Prod.ext h4 h
theorem box_stays {L r : List Bx} {y y' : Bx} (q : Nat) (h : L.drop q = y :: r) (hy : y.k ≠ .box) : ∀ x ∈ L, x.k = .box → x ∈ L.take q ++ y' :: r := fun x hx hk => by
  rw [← List.take_append_drop q L, h] at hx
  rcases List.mem_append.1 hx with hx | hx
  · exact List.mem_append_left _ hx
  · rcases List.mem_cons.1 hx with rfl | hx
    · exact absurd hk hy
    · exact List.mem_append_right _ (List.mem_cons_of_mem _ hx)
def tmZ : D := .agg [.val (.int .i64 0), .val (.string ⟨#[]⟩), .val (.int .i64 0), .val (.slice none 0 0)]
end Go.V
namespace Go.Proofs.YtdalobojhfafbaaGreatDoor
open Go Go.V
def LookOk (mp : D) (Lm : List Bx) (g : Tm → Option Tm) : Prop :=
  ∀ (t : Tm) (s : Int) (L : List Bx) (k : D → Prop), rightT t s = true → t.nm ≠ ⟨#[]⟩ → t.nm.size ≤ 9223372036854775807 → (∀ x ∈ Lm, x ∈ L) → k (match g t with | some u => .tuple [u.d, .b true] | none => .tuple [tmZ, .b false]) →
    alkM pr 212 true tmZ mp (.agg [.s t.nm, .i (shpAt t.op).sort]) L k
def pB (B : Nat) (mp : D) (c : Int) : Bx := ⟨B, [mp, .i c], .cel⟩
abbrev PutA (mp : D) (Lm : List Bx) (t : Tm) (B : Nat) (c : Int) (r : Tm × Int) : Prop := AUp pr 156 [.p B 0, t.d] (pB B mp c :: Lm) (.ret r.1.d) (pB B mp r.2 :: Lm)
theorem put_of {mp : D} {Lm : List Bx} {g : Tm → Option Tm} (hmp : mp.one = true) (hLm : ∀ x ∈ Lm, x.k ≠ .box) (hlook : LookOk mp Lm g) (hg0 : ∀ t, t.nm = ⟨#[]⟩ → g t = none)
    (hput : ∀ t u, g t = some u → ∀ (B : Nat) (c : Int), 0 ≤ c → c ≤ 2000 → PutA (.val (.map none)) [] u B c (cp0 u c)) (t : Tm) :
    (sortF t).2 = 0 → ∀ (B : Nat) (c : Int), 0 ≤ c → c ≤ 2000 → PutA mp Lm t B c (cpT g t c) := by
  induction t using Tm.ind' with
  | h t ih =>
    intro hok B c h0 h1
    have hkids := kids_sort hok
    obtain ⟨hs, hd, hr, he⟩ := sortF_ok hok
    have hso : sortF t = ((shpAt t.op).sort, 0) := sortF_mk' hok
    have hlen : t.a.length ≤ 2000 := by have := Tm.len_size t.a; rw [Tm.size_eq] at hs; omega
    refine AUp.ofGe (ASpec.small fun hsm => s156 ?_)
    unfold A156 pB
    have csort : AFn pr 69 [t.d] [] (.ret (.tuple [.i (shpAt t.op).sort, .i 0])) := by have := c69 t; rwa [hso] at this
    rw [Smalls, Smalls] at hsm
    have hnm := (Tm.small (Tm.small_d hsm.2.1)).1
    (refine a_bxv fun z1 => ?_; refine a_bx fun z2 => ?_)
    refine a_jn (σ := Unit) (fun _ => []) (fun _ => ⟨z2, [.i 0, .s ⟨#[]⟩, .i 0, .nil], .box⟩ :: ⟨z1, t.cs, .box⟩ :: ⟨B, [mp, .i c], .cel⟩ :: Lm) (fun _ => g t = none) ?_ fun J hJ => ?_
    · rintro _ hg
      dsimp only [aix0, aix1, aix2, aix3, aix4, aix5, aix6, aix7, aix8]
      have hfin : ∀ (l : List Tm) (cc : Int), cpL g t.a (c + 1) = (l, cc) → cpT g t c = (.mk t.op t.nm t.n l, cc) := fun l cc h => by rw [cpT_eq, hg]; simp only; rw [h]
      (refine a_nil ?_; refine a_fld ?_; (apply a_ld1 2; exact rfl; exact rfl); refine a_add (by first | omega | assumption | decide) (by first | omega | assumption | decide) ?_; refine a_nil ?_; refine a_fld ?_; (apply a_st 2 _; exact rfl; exact rfl; exact rfl; exact rfl; (try dsimp only [afill, aparts, cl, chunk, List.take, List.drop, List.nil_append, List.cons_append, List.append_nil, List.length_cons, List.length_nil, Nat.zero_add, Nat.reduceAdd, Nat.reduceMul]); try exact rfl); (apply a_ldA 1; exact rfl; exact rfl); refine a_bx fun z3 => ?_; refine a_stA 0 rfl rfl rfl rfl ?_; refine a_fld ?_; (apply a_st 0 _; exact rfl; exact rfl; exact rfl; exact rfl; (try dsimp only [afill, aparts, cl, chunk, List.take, List.drop, List.nil_append, List.cons_append, List.append_nil, List.length_cons, List.length_nil, Nat.zero_add, Nat.reduceAdd, Nat.reduceMul]); try exact rfl); refine a_fld ?_; (apply a_ld1 2; exact rfl; exact rfl); refine Tm.a_len ?_)
      refine a_lp (σ := Nat × List Tm × Int × Nat × Nat) (fun x => [.i x.1]) (fun x => bbT 27 x.2.2.2.1 x.2.2.2.2 x.2.1 ++ (⟨z3, [.i t.op, .s t.nm, .i t.n, bvT x.2.2.2.1 x.2.2.2.2 x.2.1], .box⟩ :: ⟨z2, [.i 0, .s ⟨#[]⟩, .i 0, .nil], .box⟩ :: ⟨z1, t.cs, .box⟩ :: ⟨B, [mp, .i x.2.2.1], .cel⟩ :: Lm))
        (fun x => x.1 ≤ t.a.length ∧ x.2.1.length = x.1 ∧ 0 ≤ x.2.2.1 ∧ x.2.2.1 ≤ 2001 ∧ cpL g t.a (c + 1) = (x.2.1 ++ (cpL g (t.a.drop x.1) x.2.2.1).1, (cpL g (t.a.drop x.1) x.2.2.1).2)) (fun x => t.a.length - x.1) (0, [], c + 1, 0, 0) (by first | exact Gl.refl _ _ | exact Gl.drop (by repeat (first | exact List.Sublist.refl _ | exact List.Sublist.slnil | apply List.Sublist.cons_cons | apply List.Sublist.cons))) ⟨Nat.zero_le _, rfl, by simp only; omega, by simp only; omega, by simp⟩ ?_
      rintro ⟨i, l, cc, b, cp⟩ K ⟨hi, hl, c0, c1, hc⟩ hK
      dsimp only at hi hl c0 c1 hc hK ⊢
      dsimp only [aix0, aix1, aix2, aix3, aix4, aix5, aix6, aix7, aix8]
      have hbreak : i < t.a.length → cc > 2000 → cpT g t c = (.mk t.op t.nm t.n l, cc) := fun hlt hcc => hfin l cc (by rw [hc, List.drop_eq_getElem_cons hlt, cpL, if_pos hcc, List.append_nil])
      have hdone : ¬ i < t.a.length → cpT g t c = (.mk t.op t.nm t.n l, cc) := fun hlt => hfin l cc (by rw [hc, List.drop_eq_nil_of_le (by omega), cpL, List.append_nil])
      have hnext : ∀ hlt : i < t.a.length, ¬ cc > 2000 → cpL g t.a (c + 1) = ((l ++ [(cpT g t.a[i] cc).1]) ++ (cpL g (t.a.drop (i + 1)) (cpT g t.a[i] cc).2).1, (cpL g (t.a.drop (i + 1)) (cpT g t.a[i] cc).2).2) := fun hlt hcc => by
        rw [hc, List.drop_eq_getElem_cons hlt, cpL, if_neg hcc, List.append_assoc]; rfl
      cases l with
      | nil =>
        simp only [bbT, bvT, List.nil_append] at hK ⊢
        (refine a_lss ?_)
        refine a_cnd (fun q1 => ?_) (fun q1 => ?_)
        · have hlt : i < t.a.length := by omega
          refine Tm.a_idx i hlt ?_
          ((apply a_ldAp; exact rfl); refine a_bx fun z4 => ?_; refine a_stA 0 rfl rfl rfl rfl ?_; refine a_nil ?_; refine a_fld ?_; (apply a_ld1 4; exact rfl; exact rfl); refine a_gtr ?_)
          refine a_cnd (fun q2 => ?_) (fun q2 => ?_)
          · rw [hbreak hlt q2]
            ((apply a_ldA 1; exact rfl; exact rfl); refine a_stA 2 rfl rfl rfl rfl ?_; (apply a_ldA 2; exact rfl; exact rfl))
            exact ge_mkTL (b := 0) (c := 0) (e := 0) (.inl ⟨rfl, (by repeat (first | exact List.Sublist.refl _ | exact List.Sublist.slnil | apply List.Sublist.cons_cons | apply List.Sublist.cons))⟩)
          · have says := cpT_says g t.a[i] cc c0 (by omega)
            have hcall := ih _ (List.getElem_mem hlt) (hkids _ (List.getElem_mem hlt)) B cc c0 (by omega)
            have hn := hnext hlt q2
            obtain ⟨s1, s2, _, _⟩ := says
            have hp := Tm.size_pos (cpT g t.a[i] cc).1
            (refine a_fld ?_)
            refine ⟨⟨z3, [.i t.op, .s t.nm, .i t.n, .nil], .box⟩, List.mem_of_getElem? (i := 1) rfl, rfl, ?_⟩
            ((apply a_ld1 0; exact rfl; exact rfl); (apply a_ldA 0; exact rfl; exact rfl))
            refine a_callB 4 rfl hcall ?_
            unfold pB
            refine ⟨box_stays 4 rfl (fun h => by cases h), ?_⟩
            (refine a_rowT1 rfl ?_; refine a_appT0 fun b' c' => ?_; refine a_fld ?_; (apply a_st 2 _; exact rfl; exact rfl; exact rfl; exact rfl; (try dsimp only [afill, aparts, cl, chunk, List.take, List.drop, List.nil_append, List.cons_append, List.append_nil, List.length_cons, List.length_nil, Nat.zero_add, Nat.reduceAdd, Nat.reduceMul]); try exact rfl); refine a_add (by first | omega | assumption | decide) (by first | omega | assumption | decide) ?_)
            refine hK (i + 1, [(cpT g t.a[i] cc).1], (cpT g t.a[i] cc).2, b', c') _ _ ⟨hlt, by simp only [List.length_cons, List.length_nil] at hl ⊢; omega, by simp only; omega, s2, hn⟩ (by simp only; omega) ?_
            exact (by first | exact Gl.refl _ _ | exact Gl.drop (by repeat (first | exact List.Sublist.refl _ | exact List.Sublist.slnil | apply List.Sublist.cons_cons | apply List.Sublist.cons)))
        · rw [hdone (by omega)]
          ((apply a_ldA 0; exact rfl; exact rfl); refine a_stA 1 rfl rfl rfl rfl ?_; (apply a_ldA 1; exact rfl; exact rfl))
          exact ge_mkTL (b := 0) (c := 0) (e := 0) (.inl ⟨rfl, (by repeat (first | exact List.Sublist.refl _ | exact List.Sublist.slnil | apply List.Sublist.cons_cons | apply List.Sublist.cons))⟩)
      | cons y l =>
        simp only [bbT, List.cons_append, List.nil_append] at hK ⊢
        (refine a_lss ?_)
        refine a_cnd (fun q1 => ?_) (fun q1 => ?_)
        · have hlt : i < t.a.length := by omega
          refine Tm.a_idx i hlt ?_
          ((apply a_ldAp; exact rfl); refine a_bx fun z4 => ?_; refine a_stA 0 rfl rfl rfl rfl ?_; refine a_nil ?_; refine a_fld ?_; (apply a_ld1 5; exact rfl; exact rfl); refine a_gtr ?_)
          refine a_cnd (fun q2 => ?_) (fun q2 => ?_)
          · rw [hbreak hlt q2]
            ((apply a_ldA 2; exact rfl; exact rfl); refine a_stA 3 rfl rfl rfl rfl ?_; (apply a_ldA 3; exact rfl; exact rfl))
            exact ge_mkTL (.inr ⟨1, rfl, (by repeat (first | exact List.Sublist.refl _ | exact List.Sublist.slnil | apply List.Sublist.cons_cons | apply List.Sublist.cons))⟩)
          · have says := cpT_says g t.a[i] cc c0 (by omega)
            have hcall := ih _ (List.getElem_mem hlt) (hkids _ (List.getElem_mem hlt)) B cc c0 (by omega)
            have hn := hnext hlt q2
            obtain ⟨s1, s2, _, _⟩ := says
            have hp := Tm.size_pos (cpT g t.a[i] cc).1
            (refine a_fld ?_)
            refine ⟨⟨z3, [.i t.op, .s t.nm, .i t.n, bvT b cp (y :: l)], .box⟩, List.mem_of_getElem? (i := 2) rfl, rfl, ?_⟩
            ((apply a_ld1 0; exact rfl; exact rfl); (apply a_ldA 0; exact rfl; exact rfl))
            refine a_callB 5 rfl hcall ?_
            unfold pB
            refine ⟨box_stays 5 rfl (fun h => by cases h), ?_⟩
            (refine a_rowT1 rfl ?_; refine a_appT1 1 rfl (by simp only [List.length_cons] at hl; omega) fun b' c' => ?_; refine a_fld ?_; (apply a_st 2 _; exact rfl; exact rfl; exact rfl; exact rfl; (try dsimp only [afill, aparts, cl, chunk, List.take, List.drop, List.nil_append, List.cons_append, List.append_nil, List.length_cons, List.length_nil, Nat.zero_add, Nat.reduceAdd, Nat.reduceMul]); try exact rfl); refine a_add (by first | omega | assumption | decide) (by first | omega | assumption | decide) ?_)
            refine hK (i + 1, y :: l ++ [(cpT g t.a[i] cc).1], (cpT g t.a[i] cc).2, b', c') _ _ ⟨hlt, by simp only [List.length_cons, List.length_append, List.length_nil] at hl ⊢; omega, by simp only; omega, s2, hn⟩ (by simp only; omega) ?_
            exact (by first | exact Gl.refl _ _ | exact Gl.drop (by repeat (first | exact List.Sublist.refl _ | exact List.Sublist.slnil | apply List.Sublist.cons_cons | apply List.Sublist.cons)))
        · rw [hdone (by omega)]
          ((apply a_ldA 1; exact rfl; exact rfl); refine a_stA 2 rfl rfl rfl rfl ?_; (apply a_ldA 2; exact rfl; exact rfl))
          exact ge_mkTL (.inr ⟨0, rfl, (by repeat (first | exact List.Sublist.refl _ | exact List.Sublist.slnil | apply List.Sublist.cons_cons | apply List.Sublist.cons))⟩)
    · (refine a_fld ?_; (apply a_ld1 1; exact rfl; exact rfl); refine a_neqS ?_)
      refine a_cnd (fun q => ?_) (fun q => ?_)
      · ((apply a_ldA 1; exact rfl; exact rfl); refine a_call0 csort ?_; (apply a_ext; exact rfl); (apply a_ext; exact rfl); refine a_nil ?_; refine a_fld ?_; (apply a_ld1 2; exact rfl; exact rfl); refine a_fld ?_; (apply a_ld1 1; exact rfl; exact rfl); (apply a_bld _; exact rfl; (try dsimp only [afill, aparts, cl, chunk, List.take, List.drop, List.nil_append, List.cons_append, List.append_nil, List.length_cons, List.length_nil, Nat.zero_add, Nat.reduceAdd, Nat.reduceMul]); try exact rfl))
        refine hlook t 0 _ _ hr q hnm (fun x hx => by simp [hx]) ?_
        cases hg : g t with
        | none =>
          ((apply a_ext; exact rfl); (apply a_ext; exact rfl); refine a_bx fun z3 => ?_; refine a_stA 0 rfl rfl rfl rfl ?_; refine a_cndbF rfl ?_)
          exact hJ () _ _ hg (by first | exact Gl.refl _ _ | exact Gl.drop (by repeat (first | exact List.Sublist.refl _ | exact List.Sublist.slnil | apply List.Sublist.cons_cons | apply List.Sublist.cons)))
        | some u =>
          ((apply a_ext; exact rfl); (apply a_ext; exact rfl); refine a_bx fun z3 => ?_; refine a_stA 0 rfl rfl rfl rfl ?_; refine a_cndbT rfl ?_; refine a_nil ?_; refine a_fld ?_; (apply a_ld1 3; exact rfl; exact rfl); (apply a_bld _; exact rfl; (try dsimp only [afill, aparts, cl, chunk, List.take, List.drop, List.nil_append, List.cons_append, List.append_nil, List.length_cons, List.length_nil, Nat.zero_add, Nat.reduceAdd, Nat.reduceMul]); try exact rfl); refine a_bxv fun z4 => ?_; (apply a_ldA 1; exact rfl; exact rfl))
          refine a_callg (Gl.cel 0 rfl) ?_
          refine a_callA 1 rfl (hput t u hg z4 c h0 h1) ?_
          unfold pB
          simp only [AE.on]
          have e : cpT g t c = cp0 u c := by rw [cpT_eq, hg]
          rw [e]
          (refine a_stA 1 rfl rfl rfl rfl ?_; refine a_nil ?_; refine a_fld ?_; (apply a_ld1 0; exact rfl; exact rfl); refine a_nil ?_; refine a_fld ?_; (apply a_st 4 _; exact rfl; exact rfl; exact rfl; exact rfl; (try dsimp only [afill, aparts, cl, chunk, List.take, List.drop, List.nil_append, List.cons_append, List.append_nil, List.length_cons, List.length_nil, Nat.zero_add, Nat.reduceAdd, Nat.reduceMul]); try exact rfl); (apply a_ldA 1; exact rfl; exact rfl); refine a_stA 2 rfl rfl rfl rfl ?_; (apply a_ldA 2; exact rfl; exact rfl))
          exact ⟨trivial, (by first | exact Gl.refl _ _ | exact Gl.drop (by repeat (first | exact List.Sublist.refl _ | exact List.Sublist.slnil | apply List.Sublist.cons_cons | apply List.Sublist.cons)))⟩
      · skip
        exact hJ () _ _ (hg0 t (Classical.not_not.1 q)) (by first | exact Gl.refl _ _ | exact Gl.drop (by repeat (first | exact List.Sublist.refl _ | exact List.Sublist.slnil | apply List.Sublist.cons_cons | apply List.Sublist.cons)))
end Go.Proofs.YtdalobojhfafbaaGreatDoor
set_option maxRecDepth 100000
set_option linter.unusedVariables false
namespace Go.V
open Go
def WithR (l : List As) (es : List (Value × D)) : Prop :=
  (∀ e ∈ es, PairK e.1) ∧ ∀ nm s, match pickA l nm s with | some u => (pairV nm s, u.d) ∈ es | none => ∀ e ∈ es, e.1 ≠ pairV nm s
theorem with_nil : WithR [] [] := ⟨fun e he => (by cases he), fun nm s => fun e he => (by cases he)⟩
theorem with_skip {x : As} {l : List As} {es : List (Value × D)} (h : WithR l es) (hx : (sortF x.to).2 ≠ 0) : WithR (x :: l) es := by
  refine ⟨h.1, fun nm s => ?_⟩
  rw [pickA_cons, if_neg (fun hh => hx (by rw [hh.2]))]
  exact h.2 nm s
theorem with_new {x : As} {l : List As} {es : List (Value × D)} {s0 : Int} (h : WithR l es) (hx : sortF x.to = (s0, 0)) (hk : PairK (pairV x.nm s0)) (hno : ∀ e ∈ es, e.1 ≠ pairV x.nm s0) : WithR (x :: l) (es ++ [(pairV x.nm s0, x.to.d)]) := by
  refine ⟨fun e he => ?_, fun nm s => ?_⟩
  · rcases List.mem_append.1 he with he | he
    · exact h.1 e he
    · rw [List.mem_singleton] at he; subst he; exact hk
  · rw [pickA_cons, hx]
    split
    · next u hu =>
      split at hu
      · next hh =>
        obtain ⟨rfl, e2⟩ := hh
        cases e2
        cases hu
        exact List.mem_append_right _ (List.mem_singleton.2 rfl)
      · have := h.2 nm s
        rw [hu] at this
        exact List.mem_append_left _ this
    · next hu =>
      split at hu
      · cases hu
      · next hh =>
        have := h.2 nm s
        rw [hu] at this
        intro e he
        rcases List.mem_append.1 he with he | he
        · exact this e he
        · rw [List.mem_singleton] at he; subst he
          intro e2
          obtain ⟨e3, e4⟩ := pairV_inj e2
          exact hh ⟨e3, by rw [e4]⟩
theorem with_set {x : As} {l : List As} {es : List (Value × D)} {s0 : Int} {m : Nat} {d : D} (h : WithR l es) (hx : sortF x.to = (s0, 0)) (hk : PairK (pairV x.nm s0)) (hm : es[m]? = some (pairV x.nm s0, d)) : WithR (x :: l) (es.set m (pairV x.nm s0, x.to.d)) := by
  have hml : m < es.length := (List.getElem?_eq_some_iff.1 hm).1
  have hmv : es[m] = (pairV x.nm s0, d) := (List.getElem?_eq_some_iff.1 hm).2
  have other : ∀ e ∈ es, e.1 ≠ pairV x.nm s0 → e ∈ es.set m (pairV x.nm s0, x.to.d) := fun e he hne => by
    obtain ⟨j, hj, rfl⟩ := List.mem_iff_getElem.1 he
    have : m ≠ j := fun e => hne (by subst e; rw [hmv])
    exact List.mem_iff_getElem.2 ⟨j, by simpa using hj, by rw [List.getElem_set_ne this]⟩
  have back : ∀ e ∈ es.set m (pairV x.nm s0, x.to.d), e ∈ es ∨ e = (pairV x.nm s0, x.to.d) := fun e he => List.mem_or_eq_of_mem_set he
  refine ⟨fun e he => ?_, fun nm s => ?_⟩
  · rcases back e he with he | rfl
    · exact h.1 e he
    · exact hk
  · rw [pickA_cons, hx]
    split
    · next u hu =>
      split at hu
      · next hh =>
        obtain ⟨rfl, e2⟩ := hh
        cases e2
        cases hu
        exact List.mem_set hml _
      · next hh =>
        have := h.2 nm s
        rw [hu] at this
        refine other _ this fun e2 => ?_
        obtain ⟨e3, e4⟩ := pairV_inj e2
        exact hh ⟨e3.symm, by rw [e4]⟩
    · next hu =>
      split at hu
      · cases hu
      · next hh =>
        have := h.2 nm s
        rw [hu] at this
        intro e he
        rcases back e he with he | rfl
        · exact this e he
        · intro e2
          obtain ⟨e3, e4⟩ := pairV_inj e2
          exact hh ⟨e3, by rw [e4]⟩
end Go.V
namespace Go.Proofs.YtdalobojhfafbaaGreatDoor
open Go Go.V
theorem laidOutS : laidOutB pr = true := by kernel_rfl
theorem keyS : MapKey pr 212 PairK :=
  mapKey_pair laidOutS (of_decide_eq_true (by kernel_rfl)) (of_decide_eq_true (by kernel_rfl)) (by kernel_rfl) (fs := _) (a := _) (b := _) rfl rfl rfl rfl rfl rfl rfl rfl rfl rfl rfl
theorem shp_rng (op : Int) : -9223372036854775808 ≤ (shpAt op).sort ∧ (shpAt op).sort ≤ 9223372036854775807 := by
  by_cases h : op.toNat < 29
  · have : ∀ i : Fin 29, -9223372036854775808 ≤ (shpAt (i.1 : Int)).sort ∧ (shpAt (i.1 : Int)).sort ≤ 9223372036854775807 := by decide +kernel
    have h2 := this ⟨op.toNat, h⟩
    simp only [Int.toNat_natCast, shpAt] at h2 ⊢
    exact h2
  · unfold shpAt
    rw [List.getD_eq_getElem?_getD, List.getElem?_eq_none (by show 29 ≤ op.toNat; omega)]
    decide
theorem look0 : LookOk (.val (.map none)) [] (fun _ => none) := by
  intro t s L k hr hn hs _ hk
  exact ⟨PairK, pairV t.nm (shpAt t.op).sort, keyS, dkv_pair _ _, ⟨t.nm, _, rfl, hs, (shp_rng _).1, (shp_rng _).2⟩, hk⟩
theorem put0 {u : Tm} (h : (sortF u).2 = 0) (B : Nat) (c : Int) (h0 : 0 ≤ c) (h1 : c ≤ 2000) : PutA (.val (.map none)) [] u B c (cp0 u c) := by
  have := put_of (mp := .val (.map none)) (Lm := []) (g := fun _ => none) rfl (fun x hx => by cases hx) look0 (fun _ _ => rfl) (fun t u hu => by cases hu) u h B c h0 h1
  rwa [← cp0_eq] at this
theorem lookM {l : List As} {es : List (Value × D)} {m : Nat} (hw : WithR l es) : LookOk (.val (.map (some m))) [⟨m, [], .map es⟩] (pickT l) := by
  intro t s L k hr hn hs hL hk
  obtain ⟨j, hj, e⟩ := List.mem_iff_getElem.1 (hL _ (List.mem_singleton.2 rfl))
  have hj' : L[j]? = some (Bx.mk m [] (.map es)) := by rw [List.getElem?_eq_getElem hj, e]
  have hkey : PairK (pairV t.nm (shpAt t.op).sort) := ⟨t.nm, _, rfl, hs, (shp_rng _).1, (shp_rng _).2⟩
  have h2 := hw.2 t.nm (shpAt t.op).sort
  have e2 : pickT l t = pickA l t.nm (shpAt t.op).sort := by unfold pickT; rw [if_neg hn]
  rw [e2] at hk
  cases hp : pickA l t.nm (shpAt t.op).sort with
  | some u =>
    rw [hp] at h2 hk
    exact a_lkT j hj' keyS hw.1 (dkv_pair _ _) hkey h2 hk
  | none =>
    rw [hp] at h2 hk
    exact a_lkF j hj' keyS hw.1 (dkv_pair _ _) hkey h2 hk
theorem putM {l : List As} {es : List (Value × D)} {m : Nat} (hw : WithR l es) {t : Tm} (h : (sortF t).2 = 0) (B : Nat) (c : Int) (h0 : 0 ≤ c) (h1 : c ≤ 2000) : PutA (.val (.map (some m))) [⟨m, [], .map es⟩] t B c (cpT (pickT l) t c) :=
  put_of rfl (fun x hx => by rw [List.mem_singleton] at hx; subst hx; exact fun h => by cases h) (lookM hw) (fun t ht => by unfold pickT; rw [if_pos ht])
    (fun t u hu B c h0 h1 => put0 (by
      unfold pickT at hu
      split at hu
      · cases hu
      · obtain ⟨_, _, _, _, e⟩ := pickA_mem hu; rw [e]) B c h0 h1) t h B c h0 h1
theorem c155 (r : List (List D)) : ASpec pr 155 [.row 5 r] [] fun a L' => ∃ b, a = .ret (.fn 187 [] [.p b 0]) ∧ L' = [⟨b, [.row 5 r], .box⟩] := by
  refine s155 ?_
  unfold A155
  (refine a_bxr fun z1 => ?_)
  exact ⟨z1, rfl, rfl⟩
noncomputable abbrev bwB : Code := bodyOf fn187
noncomputable abbrev bwL : Code := cA (cA (cB bwB))
noncomputable abbrev bwR : Code := cA (cA (cA (cB bwL)))
noncomputable abbrev bwO : Oper := hdO ((opsC bwR).drop 6)
theorem iterB : Iter pr 187 5 := by
  refine iter_of (fn := fn187) (C0 := cA bwB) (C1 := cA (cA bwL)) (C2 := cB (cB bwL)) (O3 := (opsC bwR).toArray) (pre := (opsC bwR).take 6) (post := (opsC bwR).drop 7) (oy := bwO) (cy := callC bwO) (i0 := 0) (i1 := 1) (r3 := 3)
    Tryz.func187 (by decide) rfl (by decide) (by kernel_rfl) (by kernel_rfl) (by kernel_rfl) (by kernel_rfl) (by kernel_rfl) (by kernel_rfl) (by kernel_rfl) (by kernel_rfl) (by kernel_rfl) ?_ ?_ ?_ ?_ ?_
  · intro y b l L i k hi hl hk
    have h : I0 (.val y) (.p b 0) L k := by
      unfold I0
      refine a_ld1 i hi rfl ?_
      refine a_lenL ?_
      refine a_sub (by omega) (by omega) ?_
      exact hk
    rw [I0_eq] at h
    exact h
  · intro j L k hk
    have h : I1 (.i j) L k := by
      unfold I1
      refine a_geq ?_
      exact hk
    rw [I1_eq] at h
    exact h
  · intro y b l L i j k hi hj hs hk
    have h : I3 (.val y) (.p b 0) (.i (j : Int)) L k := by
      unfold I3
      refine a_ld1 i hi rfl ?_
      refine V.a_idx j _ (List.getElem?_eq_getElem hj) ?_
      refine a_ldAp hs ?_
      exact hk
    rw [I3_eq] at h
    exact h
  · intro c L k hk
    have h : I4 (.b c) L k := by
      unfold I4
      refine a_not ?_
      exact hk
    rw [I4_eq] at h
    exact h
  · intro j L k h0 h1 hk
    have h : I2 (.i j) L k := by
      unfold I2
      refine a_sub (by omega) (by omega) ?_
      exact hk
    rw [I2_eq] at h
    exact h
theorem key_or (es : List (Value × D)) (key : Value) : (∀ e ∈ es, e.1 ≠ key) ∨ ∃ (m : Nat) (d : D), es[m]? = some (key, d) := by
  by_cases h : ∃ e ∈ es, e.1 = key
  · obtain ⟨e, he, rfl⟩ := h
    obtain ⟨m, hm, rfl⟩ := List.mem_iff_getElem.1 he
    exact .inr ⟨m, es[m].2, List.getElem?_eq_getElem hm⟩
  · exact .inl fun e he hh => h ⟨e, he, hh⟩
theorem rngPut {l : List As} (hl : l.length ≤ 9223372036854775807) (hnm : ∀ x ∈ l, x.nm.size ≤ 9223372036854775807) {zb z4 z3 : Nat} {M : List Bx} {K : List Bx → Prop}
    (hK : ∀ es, WithR l es → K (⟨zb, [.row 5 (l.map As.cr)], .box⟩ :: ⟨z4, [.val (.map (some z3))], .box⟩ :: ⟨z3, [], .map es⟩ :: M)) :
    arng pr (rngC (bodyOf fn107)) [8, 32] [.p z4 0, .fn 187 [] [.p zb 0]] (⟨zb, [.row 5 (l.map As.cr)], .box⟩ :: ⟨z4, [.val (.map (some z3))], .box⟩ :: ⟨z3, [], .map []⟩ :: M) K := by
  have e : rngC (bodyOf fn107) = .block 0 (.rangeFunc (.tmp 32) #[33, 34] (cA (cA (rngC (bodyOf fn107)))) (cB (cA (rngC (bodyOf fn107))))) := by kernel_rfl
  rw [e]
  refine arng_back (l := l.map As.cr) (b := zb) iterB (by rw [List.length_map]; exact hl) (fun x hx => by obtain ⟨y, _, rfl⟩ := List.mem_map.1 hx; rfl) rfl
    (fun k L1 => ∃ es, L1 = ⟨zb, [.row 5 (l.map As.cr)], .box⟩ :: ⟨z4, [.val (.map (some z3))], .box⟩ :: ⟨z3, [], .map es⟩ :: M ∧ WithR (l.drop (l.length - k)) es)
    ⟨[], rfl, by rw [Nat.sub_zero, List.drop_length]; exact with_nil⟩ (fun k L1 ⟨es, h, _⟩ => ⟨0, by rw [h]; rfl⟩) [8, 10] (fun _ _ => rfl) ?_ ?_
  · rintro k L1 ⟨es, rfl, hw⟩ hk
    rw [List.length_map] at hk
    have hj : l.length - 1 - k < l.length := by omega
    have hx : (l.map As.cr)[(l.map As.cr).length - 1 - k]'(by rw [List.length_map]; omega) = l[l.length - 1 - k].cr := by simp
    rw [hx]
    have hd : l.drop (l.length - (k + 1)) = l[l.length - 1 - k] :: l.drop (l.length - k) := by
      have e1 : l.length - (k + 1) = l.length - 1 - k := by omega
      have e2 : l.length - k = l.length - 1 - k + 1 := by omega
      rw [e1, e2]
      exact List.drop_eq_getElem_cons hj
    have hxn := hnm _ (List.getElem_mem hj)
    generalize l[l.length - 1 - k] = x at hd hxn ⊢
    generalize ((l.map As.cr).length - 1 - k : Nat) = q
    have hA : PA (.i (q : Int)) (.agg x.cr) (.p z4 0) (.fn 187 [] [.p zb 0]) (⟨zb, [.row 5 (l.map As.cr)], .box⟩ :: ⟨z4, [.val (.map (some z3))], .box⟩ :: ⟨z3, [], .map es⟩ :: M)
        (fun ds L2 => aexI pr (cB (cA (rngC (bodyOf fn107)))) (envV [8, 10] ds) L2 fun _ L3 => ∃ L4, Gl [] L3 [] L4 ∧ ∃ es, L4 = ⟨zb, [.row 5 (l.map As.cr)], .box⟩ :: ⟨z4, [.val (.map (some z3))], .box⟩ :: ⟨z3, [], .map es⟩ :: M ∧ WithR (l.drop (l.length - (k + 1))) es) := by
      unfold PA
      refine a_bx fun z10 => ?_
      refine a_st 0 x.cr rfl rfl rfl rfl rfl ?_
      rw [hd]
      have hB : PB (.p z4 0) (.p z10 0) (⟨z10, x.cr, .box⟩ :: ⟨zb, [.row 5 (l.map As.cr)], .box⟩ :: ⟨z4, [.val (.map (some z3))], .box⟩ :: ⟨z3, [], .map es⟩ :: M)
          (fun _ L3 => ∃ L4, Gl [] L3 [] L4 ∧ ∃ es, L4 = ⟨zb, [.row 5 (l.map As.cr)], .box⟩ :: ⟨z4, [.val (.map (some z3))], .box⟩ :: ⟨z3, [], .map es⟩ :: M ∧ WithR (x :: l.drop (l.length - k)) es) := by
        unfold PB
        refine a_fld ?_
        refine a_ldN (n := 4) (l := x.cr) (o := 0 + 1) 0 x.to.cs rfl rfl rfl ?_
        refine a_call0 (c69 x.to) ?_
        ((apply a_ext; exact rfl); (apply a_ext; exact rfl); refine a_eql ?_)
        refine a_cnd (fun h0 => ?_) (fun h0 => ?_)
        · have hs : sortF x.to = ((sortF x.to).1, 0) := Prod.ext rfl h0
          obtain ⟨_, _, _, h4⟩ := sortF_ok h0
          have hkey : PairK (pairV x.nm (sortF x.to).1) := ⟨x.nm, _, rfl, hxn, by rw [h4]; exact (shp_rng _).1, by rw [h4]; exact (shp_rng _).2⟩
          ((apply a_ld1 2; exact rfl; exact rfl); refine a_fld ?_; (apply a_ld1 0; exact rfl; exact rfl); (apply a_bld _; exact rfl; (try dsimp only [afill, aparts, cl, chunk, List.take, List.drop, List.nil_append, List.cons_append, List.append_nil, List.length_cons, List.length_nil, Nat.zero_add, Nat.reduceAdd, Nat.reduceMul]); try exact rfl); refine a_fld ?_; (apply a_ldN 0 _; exact rfl; exact rfl; exact rfl))
          rcases key_or es (pairV x.nm (sortF x.to).1) with hno | ⟨m, d, hm⟩
          · refine a_upN 3 rfl keyS hw.1 (dkv_pair _ _) hkey hno ?_
            exact ⟨_, (by first | exact Gl.refl _ _ | exact Gl.drop (by repeat (first | exact List.Sublist.refl _ | exact List.Sublist.slnil | apply List.Sublist.cons_cons | apply List.Sublist.cons))), _, rfl, with_new hw hs hkey hno⟩
          · refine a_upO 3 m rfl keyS hw.1 (dkv_pair _ _) hkey hm ?_
            exact ⟨_, (by first | exact Gl.refl _ _ | exact Gl.drop (by repeat (first | exact List.Sublist.refl _ | exact List.Sublist.slnil | apply List.Sublist.cons_cons | apply List.Sublist.cons))), _, rfl, with_set hw hs hkey hm⟩
        · exact ⟨_, (by first | exact Gl.refl _ _ | exact Gl.drop (by repeat (first | exact List.Sublist.refl _ | exact List.Sublist.slnil | apply List.Sublist.cons_cons | apply List.Sublist.cons))), _, rfl, with_skip hw h0⟩
      rw [PB_eq] at hB
      exact hB
    rw [PA_eq] at hA
    exact hA
  · rintro L1 ⟨es, rfl, hw⟩
    rw [List.length_map, Nat.sub_self, List.drop_zero] at hw
    exact hK es hw
theorem ret_di' {u v : Tm} {a b : Int} (h : (u, a) = (v, b)) : AE.ret (.tuple [u.d, .i a]) = .ret (.tuple [v.d, .i b]) := by injection h with h1 h2; rw [h1, h2]
theorem c107 (t : Tm) (l : List As) : AFn pr 107 [t.d, .row 5 (l.map As.cr)] [] (.ret (.tuple [(PutF t l).1.d, .i (PutF t l).2])) := by
  refine AFn.small fun hsm => AFn.of (s107 ?_)
  rw [Smalls, Smalls, Small, Small, List.length_map] at hsm
  have hl : l.length ≤ 9223372036854775807 := hsm.2.1.1
  have hnm : ∀ x ∈ l, x.nm.size ≤ 9223372036854775807 := fun x hx => by
    have := smallr_mem hsm.2.1.2 _ (List.mem_map_of_mem hx)
    unfold As.cr at this
    rw [Smalls, Small] at this
    exact this.1
  unfold A107
  (refine a_bxv fun z1 => ?_; refine a_bx fun z2 => ?_; (apply a_ldA 1; exact rfl; exact rfl); refine a_call0 (c69 _) ?_; (apply a_ext; exact rfl); (apply a_ext; exact rfl); refine a_neq ?_)
  refine a_cnd (fun h0 => ?_) (fun h0 => ?_)
  · (refine a_bldT0 rfl rfl ?_; refine a_stA 0 rfl rfl rfl rfl ?_; (apply a_ldA 0; exact rfl; exact rfl))
    exact ret_di' (u := mk 0 []) (by unfold PutF; rw [if_pos h0])
  · have h0 := Classical.not_not.1 h0
    refine a_mkM fun z3 => ?_
    (refine a_bx fun z4 => ?_; (apply a_st 0 _; exact rfl; exact rfl; exact rfl; exact rfl; (try dsimp only [afill, aparts, cl, chunk, List.take, List.drop, List.nil_append, List.cons_append, List.append_nil, List.length_cons, List.length_nil, Nat.zero_add, Nat.reduceAdd, Nat.reduceMul]); try exact rfl))
    refine a_callF (L1 := []) (List.Perm.refl _) (c155 _) ?_
    rintro _ _ ⟨zb, rfl, rfl⟩
    refine rngPut hl hnm fun es hw => ?_
    (refine a_lenM ?_)
    refine a_lp (σ := Nat) (fun i => [.i i]) (fun _ => [⟨zb, [.row 5 (l.map As.cr)], .box⟩, ⟨z4, [.val (.map (some z3))], .box⟩, ⟨z3, [], .map es⟩, ⟨z2, [.i 0, .s ⟨#[]⟩, .i 0, .nil], .box⟩, ⟨z1, t.cs, .box⟩]) (fun i => i ≤ l.length ∧ badA (l.drop i) = badA l) (fun i => l.length - i) 0 (by first | exact Gl.refl _ _ | exact Gl.drop (by repeat (first | exact List.Sublist.refl _ | exact List.Sublist.slnil | apply List.Sublist.cons_cons | apply List.Sublist.cons))) ⟨Nat.zero_le _, rfl⟩ ?_
    rintro i K ⟨hi, hb⟩ hK
    dsimp only [aix0, aix1, aix2, aix3, aix4, aix5, aix6, aix7, aix8]
    (refine a_lss ?_)
    refine a_cnd (fun q => ?_) (fun q => ?_)
    · have hlt : i < l.length := by omega
      rw [List.drop_eq_getElem_cons hlt, badA] at hb
      refine a_idxM i hlt ?_
      refine a_ldAp rfl ?_
      refine a_bx fun z6 => ?_
      refine a_st 0 l[i].cr rfl rfl rfl rfl rfl ?_
      refine a_fld ?_
      refine a_ldN (n := 4) (l := l[i].cr) (o := 0 + 1) 0 l[i].to.cs rfl rfl rfl ?_
      refine a_call0 (c69 l[i].to) ?_
      ((apply a_ext; exact rfl); (apply a_ext; exact rfl); refine a_neq ?_)
      refine a_cnd (fun q2 => ?_) (fun q2 => ?_)
      · rw [if_pos q2] at hb
        (refine a_bldT0 rfl rfl ?_; refine a_stA 4 rfl rfl rfl rfl ?_; (apply a_ldA 4; exact rfl; exact rfl))
        exact ret_di' (u := mk 0 []) (by unfold PutF; rw [if_neg (by omega), if_pos (by omega), ← hb])
      · rw [if_neg q2] at hb
        (refine a_add (by first | omega | assumption | decide) (by first | omega | assumption | decide) ?_)
        exact hK (i + 1) _ _ ⟨by omega, hb⟩ (by omega) (by first | exact Gl.refl _ _ | exact Gl.drop (by repeat (first | exact List.Sublist.refl _ | exact List.Sublist.slnil | apply List.Sublist.cons_cons | apply List.Sublist.cons)))
    · rw [List.drop_eq_nil_of_le (by omega), badA] at hb
      clear hK
      ((apply a_ld1 1; exact rfl; exact rfl); (apply a_bld _; exact rfl; (try dsimp only [afill, aparts, cl, chunk, List.take, List.drop, List.nil_append, List.cons_append, List.append_nil, List.length_cons, List.length_nil, Nat.zero_add, Nat.reduceAdd, Nat.reduceMul]); try exact rfl); refine a_bxv fun z5 => ?_; (apply a_ldA 5; exact rfl; exact rfl))
      have hP : PutF t l = outF (cpT (pickT l) t 0).1 := by rw [PutF_mk h0 (badA_ok.1 hb.symm), ← out_count]
      refine a_callg (Gl.cel 0 rfl) ?_
      refine a_callF (L1 := [pB z5 (.val (.map (some z3))) 0, ⟨z3, [], .map es⟩]) (M := [⟨zb, [.row 5 (l.map As.cr)], .box⟩, ⟨z4, [.val (.map (some z3))], .box⟩, ⟨z2, [.i 0, .s ⟨#[]⟩, .i 0, .nil], .box⟩, ⟨z1, t.cs, .box⟩])
        (List.Perm.cons _ (List.perm_middle (l₁ := [_, _]))) (putM hw h0 z5 0 (by omega) (by omega)) ?_
      rintro _ _ ⟨rfl, rfl⟩
      rw [hP]
      generalize cpT (pickT l) t 0 = r
      unfold pB
      simp only [AE.on]
      (refine a_bx fun z6 => ?_; refine a_stA 0 rfl rfl rfl rfl ?_; (apply a_ldA 0; exact rfl; exact rfl); refine a_call0 (c69 _) ?_; (apply a_ext; exact rfl); (apply a_ext; exact rfl); refine a_neq ?_)
      refine a_cnd (fun q3 => ?_) (fun q3 => ?_)
      · (refine a_bldT0 rfl rfl ?_; refine a_stA 5 rfl rfl rfl rfl ?_; (apply a_ldA 5; exact rfl; exact rfl))
        exact ret_di' (u := mk 0 []) (by unfold outF; rw [if_pos q3])
      · ((apply a_ldA 0; exact rfl; exact rfl); refine a_stA 5 rfl rfl rfl rfl ?_; (apply a_ldA 5; exact rfl; exact rfl))
        exact ret_di' (by unfold outF; rw [if_neg q3])
end Go.Proofs.YtdalobojhfafbaaGreatDoor
