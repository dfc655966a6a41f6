/- Contracts of subst: what is put, and counted; the loop over slices.Backward. -/
import Derived.Test.YtaigilchnadmpaaGreatDoorM11
import Derived.Test.YtaigilchnadmpaaGreatDoorW10
import Derived.Test.YtaigilchnadmpaaGreatDoorT2
import Derived.Test.YtaigilchnadmpaaGreatDoorT3
import Derived.Test.YtaigilchnadmpaaGreatDoorC3
set_option maxRecDepth 100000
set_option linter.unusedVariables false
namespace Go.V
open Go
theorem kids_sort {t : Tm} (h : (sortF t).2 = 0) : ∀ x ∈ t.a, (sortF x).2 = 0 := fun x hx => by
  obtain ⟨h1, h2, h3, _⟩ := sortF_ok h
  obtain ⟨i, hi, rfl⟩ := List.mem_iff_getElem.1 hx
  have hr := right_any (((right_iff _ _).1 h3).kids i hi)
  have hs := Tm.size_mem hx
  have hd := Tm.dep_mem hx
  rw [Tm.size_eq] at h1
  rw [Tm.dep_eq] at h2
  rw [sortF_eq, if_neg (by omega), if_pos hr]
/-- what has grown is a term's from now on; others stay -/
theorem ge_mkTL {L M : List Bx} {e b c : Nat} {o : Int} {s : ByteArray} {n : Int} {l : List Tm} (h : (l = [] ∧ M.Sublist L) ∨ ∃ i : Nat, L[i]? = some (Bx.mk b (Tm.rows l).flatten (.row e 4 c)) ∧ M.Sublist (L.eraseIdx i)) :
    Ge (.ret (.agg [.i o, .s s, .i n, bvT b c l])) L (.ret (Tm.mk o s n l).d) M := by
  refine ⟨trivial, ?_⟩
  rcases h with ⟨rfl, hM⟩ | ⟨i, hi, hM⟩
  · refine Gl.trans (L1 := L) (Gl.nil 4 (ds' := [(Tm.mk o s n []).d]) ?_ (WkB.refl _ _ _)) (Gl.drop hM)
    rw [Tm.d, Tm.mk_d, Tm.rows_nil]
    exact .cons (.agg (.cons (.refl _) (.cons (.refl _) (.cons (.refl _) (.cons .hit .nil))))) .nil
  · cases l with
    | nil =>
      refine Gl.trans (L1 := L) (Gl.nil 4 (ds' := [(Tm.mk o s n []).d]) ?_ (WkB.refl _ _ _)) (Gl.drop (hM.trans (List.eraseIdx_sublist ..)))
      rw [Tm.d, Tm.mk_d, Tm.rows_nil]
      exact .cons (.agg (.cons (.refl _) (.cons (.refl _) (.cons (.refl _) (.cons .hit .nil))))) .nil
    | cons y l =>
      refine Gl.trans (Gl.fz (n := l.length + 1) (c := c) (ds' := [(Tm.mk o s n (y :: l)).d]) i hi (by rw [Tm.flat_len]; rfl) ?_ (WkB.refl _ _ _)) (Gl.drop hM)
      rw [Tm.d, Tm.mk_d, show l.length + 1 = (y :: l).length from rfl, chunk_rows]
      exact .cons (.agg (.cons (.refl _) (.cons (.refl _) (.cons (.refl _) (.cons .hit .nil))))) .nil
theorem sortF_mk' {t : Tm} (h : (sortF t).2 = 0) : sortF t = ((shpAt t.op).sort, 0) := by
  obtain ⟨_, _, _, h4⟩ := sortF_ok h
  exact Prod.ext h4 h
theorem box_stays {L r : List Bx} {y y' : Bx} (q : Nat) (h : L.drop q = y :: r) (hy : y.k ≠ .box) : ∀ x ∈ L, x.k = .box → x ∈ L.take q ++ y' :: r := fun x hx hk => by
  rw [← List.take_append_drop q L, h] at hx
  rcases List.mem_append.1 hx with hx | hx
  · exact List.mem_append_left _ hx
  · rcases List.mem_cons.1 hx with rfl | hx
    · exact absurd hk hy
    · exact List.mem_append_right _ (List.mem_cons_of_mem _ hx)
def tmZ : D := .agg [.val (.int .i64 0), .val (.string ⟨#[]⟩), .val (.int .i64 0), .val (.slice none 0 0)]
end Go.V
namespace Go.Proofs.YtaigilchnadmpaaGreatDoor
open Go Go.V
/-- what a map says of names -/
def LookOk (mp : D) (Lm : List Bx) (g : Tm → Option Tm) : Prop :=
  ∀ (t : Tm) (s : Int) (L : List Bx) (k : D → Prop), rightT t s = true → t.nm ≠ ⟨#[]⟩ → t.nm.size ≤ 9223372036854775807 → (∀ x ∈ Lm, x ∈ L) → k (match g t with | some u => .tuple [u.d, .b true] | none => .tuple [tmZ, .b false]) →
    alkM pr 103 true tmZ mp (.agg [.s t.nm, .i (shpAt t.op).sort]) L k
/-- a putter -/
def pB (B : Nat) (mp : D) (c : Int) : Bx := ⟨B, [mp, .i c], .cel⟩
abbrev PutA (mp : D) (Lm : List Bx) (t : Tm) (B : Nat) (c : Int) (r : Tm × Int) : Prop := AUp pr 53 [.p B 0, t.d] (pB B mp c :: Lm) (.ret r.1.d) (pB B mp r.2 :: Lm)
theorem put_of {mp : D} {Lm : List Bx} {g : Tm → Option Tm} (hmp : mp.one = true) (hLm : ∀ x ∈ Lm, x.k ≠ .box) (hlook : LookOk mp Lm g) (hg0 : ∀ t, t.nm = ⟨#[]⟩ → g t = none)
    (hput : ∀ t u, g t = some u → ∀ (B : Nat) (c : Int), 0 ≤ c → c ≤ 2000 → PutA (.val (.map none)) [] u B c (cp0 u c)) (t : Tm) :
    (sortF t).2 = 0 → ∀ (B : Nat) (c : Int), 0 ≤ c → c ≤ 2000 → PutA mp Lm t B c (cpT g t c) := by
  induction t using Tm.ind' with
  | h t ih =>
    intro hok B c h0 h1
    have hkids := kids_sort hok
    obtain ⟨hs, hd, hr, he⟩ := sortF_ok hok
    have hso : sortF t = ((shpAt t.op).sort, 0) := sortF_mk' hok
    have hlen : t.a.length ≤ 2000 := by have := Tm.len_size t.a; rw [Tm.size_eq] at hs; omega
    refine AUp.ofGe (ASpec.small fun hsm => s53 ?_)
    unfold A53 pB
    have csort : AFn pr 12 [t.d] [] (.ret (.tuple [.i (shpAt t.op).sort, .i 0])) := by have := c12 t; rwa [hso] at this
    rw [Smalls, Smalls] at hsm
    have hnm := (Tm.small (Tm.small_d hsm.2.1)).1
    (refine a_bxv fun z1 => ?_; refine a_bx fun z2 => ?_)
    refine a_jn (σ := Unit) (fun _ => []) (fun _ => ⟨z2, [.i 0, .s ⟨#[]⟩, .i 0, .nil], .box⟩ :: ⟨z1, t.cs, .box⟩ :: ⟨B, [mp, .i c], .cel⟩ :: Lm) (fun _ => g t = none) ?_ fun J hJ => ?_
    · rintro _ hg
      dsimp only [aix0, aix1, aix2, aix3, aix4, aix5, aix6, aix7, aix8]
      have hfin : ∀ (l : List Tm) (cc : Int), cpL g t.a (c + 1) = (l, cc) → cpT g t c = (.mk t.op t.nm t.n l, cc) := fun l cc h => by rw [cpT_eq, hg]; simp only; rw [h]
      (refine a_nil ?_; refine a_fld ?_; (apply a_ld1 2; exact rfl; exact rfl); refine a_add (by first | omega | assumption | decide) (by first | omega | assumption | decide) ?_; refine a_nil ?_; refine a_fld ?_; (apply a_st 2 _; exact rfl; exact rfl; exact rfl; exact rfl; (try dsimp only [afill, aparts, cl, chunk, List.take, List.drop, List.nil_append, List.cons_append, List.append_nil, List.length_cons, List.length_nil, Nat.zero_add, Nat.reduceAdd, Nat.reduceMul]); try exact rfl); (apply a_ldA 1; exact rfl; exact rfl); refine a_bx fun z3 => ?_; refine a_stA 0 rfl rfl rfl rfl ?_; refine a_fld ?_; (apply a_st 0 _; exact rfl; exact rfl; exact rfl; exact rfl; (try dsimp only [afill, aparts, cl, chunk, List.take, List.drop, List.nil_append, List.cons_append, List.append_nil, List.length_cons, List.length_nil, Nat.zero_add, Nat.reduceAdd, Nat.reduceMul]); try exact rfl); refine a_fld ?_; (apply a_ld1 2; exact rfl; exact rfl); refine Tm.a_len ?_)
      refine a_lp (σ := Nat × List Tm × Int × Nat × Nat) (fun x => [.i x.1]) (fun x => bbT 24 x.2.2.2.1 x.2.2.2.2 x.2.1 ++ (⟨z3, [.i t.op, .s t.nm, .i t.n, bvT x.2.2.2.1 x.2.2.2.2 x.2.1], .box⟩ :: ⟨z2, [.i 0, .s ⟨#[]⟩, .i 0, .nil], .box⟩ :: ⟨z1, t.cs, .box⟩ :: ⟨B, [mp, .i x.2.2.1], .cel⟩ :: Lm))
        (fun x => x.1 ≤ t.a.length ∧ x.2.1.length = x.1 ∧ 0 ≤ x.2.2.1 ∧ x.2.2.1 ≤ 2001 ∧ cpL g t.a (c + 1) = (x.2.1 ++ (cpL g (t.a.drop x.1) x.2.2.1).1, (cpL g (t.a.drop x.1) x.2.2.1).2)) (fun x => t.a.length - x.1) (0, [], c + 1, 0, 0) (by first | exact Gl.refl _ _ | exact Gl.drop (by repeat (first | exact List.Sublist.refl _ | exact List.Sublist.slnil | apply List.Sublist.cons_cons | apply List.Sublist.cons))) ⟨Nat.zero_le _, rfl, by simp only; omega, by simp only; omega, by simp⟩ ?_
      rintro ⟨i, l, cc, b, cp⟩ K ⟨hi, hl, c0, c1, hc⟩ hK
      dsimp only at hi hl c0 c1 hc hK ⊢
      dsimp only [aix0, aix1, aix2, aix3, aix4, aix5, aix6, aix7, aix8]
      have hbreak : i < t.a.length → cc > 2000 → cpT g t c = (.mk t.op t.nm t.n l, cc) := fun hlt hcc => hfin l cc (by rw [hc, List.drop_eq_getElem_cons hlt, cpL, if_pos hcc, List.append_nil])
      have hdone : ¬ i < t.a.length → cpT g t c = (.mk t.op t.nm t.n l, cc) := fun hlt => hfin l cc (by rw [hc, List.drop_eq_nil_of_le (by omega), cpL, List.append_nil])
      have hnext : ∀ hlt : i < t.a.length, ¬ cc > 2000 → cpL g t.a (c + 1) = ((l ++ [(cpT g t.a[i] cc).1]) ++ (cpL g (t.a.drop (i + 1)) (cpT g t.a[i] cc).2).1, (cpL g (t.a.drop (i + 1)) (cpT g t.a[i] cc).2).2) := fun hlt hcc => by
        rw [hc, List.drop_eq_getElem_cons hlt, cpL, if_neg hcc, List.append_assoc]; rfl
      cases l with
      | nil =>
        simp only [bbT, bvT, List.nil_append] at hK ⊢
        (refine a_lss ?_)
        refine a_cnd (fun q1 => ?_) (fun q1 => ?_)
        · have hlt : i < t.a.length := by omega
          refine Tm.a_idx i hlt ?_
          ((apply a_ldAp; exact rfl); refine a_bx fun z4 => ?_; refine a_stA 0 rfl rfl rfl rfl ?_; refine a_nil ?_; refine a_fld ?_; (apply a_ld1 4; exact rfl; exact rfl); refine a_gtr ?_)
          refine a_cnd (fun q2 => ?_) (fun q2 => ?_)
          · rw [hbreak hlt q2]
            ((apply a_ldA 1; exact rfl; exact rfl); refine a_stA 2 rfl rfl rfl rfl ?_; (apply a_ldA 2; exact rfl; exact rfl))
            exact ge_mkTL (b := 0) (c := 0) (e := 0) (.inl ⟨rfl, (by repeat (first | exact List.Sublist.refl _ | exact List.Sublist.slnil | apply List.Sublist.cons_cons | apply List.Sublist.cons))⟩)
          · have says := cpT_says g t.a[i] cc c0 (by omega)
            have hcall := ih _ (List.getElem_mem hlt) (hkids _ (List.getElem_mem hlt)) B cc c0 (by omega)
            have hn := hnext hlt q2
            obtain ⟨s1, s2, _, _⟩ := says
            have hp := Tm.size_pos (cpT g t.a[i] cc).1
            (refine a_fld ?_)
            refine ⟨⟨z3, [.i t.op, .s t.nm, .i t.n, .nil], .box⟩, List.mem_of_getElem? (i := 1) rfl, rfl, ?_⟩
            ((apply a_ld1 0; exact rfl; exact rfl); (apply a_ldA 0; exact rfl; exact rfl))
            refine a_callB 4 rfl hcall ?_
            unfold pB
            refine ⟨box_stays 4 rfl (fun h => by cases h), ?_⟩
            (refine a_rowT1 rfl ?_; refine a_appT0 fun b' c' => ?_; refine a_fld ?_; (apply a_st 2 _; exact rfl; exact rfl; exact rfl; exact rfl; (try dsimp only [afill, aparts, cl, chunk, List.take, List.drop, List.nil_append, List.cons_append, List.append_nil, List.length_cons, List.length_nil, Nat.zero_add, Nat.reduceAdd, Nat.reduceMul]); try exact rfl); refine a_add (by first | omega | assumption | decide) (by first | omega | assumption | decide) ?_)
            refine hK (i + 1, [(cpT g t.a[i] cc).1], (cpT g t.a[i] cc).2, b', c') _ _ ⟨hlt, by simp only [List.length_cons, List.length_nil] at hl ⊢; omega, by simp only; omega, s2, hn⟩ (by simp only; omega) ?_
            exact (by first | exact Gl.refl _ _ | exact Gl.drop (by repeat (first | exact List.Sublist.refl _ | exact List.Sublist.slnil | apply List.Sublist.cons_cons | apply List.Sublist.cons)))
        · rw [hdone (by omega)]
          ((apply a_ldA 0; exact rfl; exact rfl); refine a_stA 1 rfl rfl rfl rfl ?_; (apply a_ldA 1; exact rfl; exact rfl))
          exact ge_mkTL (b := 0) (c := 0) (e := 0) (.inl ⟨rfl, (by repeat (first | exact List.Sublist.refl _ | exact List.Sublist.slnil | apply List.Sublist.cons_cons | apply List.Sublist.cons))⟩)
      | cons y l =>
        simp only [bbT, List.cons_append, List.nil_append] at hK ⊢
        (refine a_lss ?_)
        refine a_cnd (fun q1 => ?_) (fun q1 => ?_)
        · have hlt : i < t.a.length := by omega
          refine Tm.a_idx i hlt ?_
          ((apply a_ldAp; exact rfl); refine a_bx fun z4 => ?_; refine a_stA 0 rfl rfl rfl rfl ?_; refine a_nil ?_; refine a_fld ?_; (apply a_ld1 5; exact rfl; exact rfl); refine a_gtr ?_)
          refine a_cnd (fun q2 => ?_) (fun q2 => ?_)
          · rw [hbreak hlt q2]
            ((apply a_ldA 2; exact rfl; exact rfl); refine a_stA 3 rfl rfl rfl rfl ?_; (apply a_ldA 3; exact rfl; exact rfl))
            exact ge_mkTL (.inr ⟨1, rfl, (by repeat (first | exact List.Sublist.refl _ | exact List.Sublist.slnil | apply List.Sublist.cons_cons | apply List.Sublist.cons))⟩)
          · have says := cpT_says g t.a[i] cc c0 (by omega)
            have hcall := ih _ (List.getElem_mem hlt) (hkids _ (List.getElem_mem hlt)) B cc c0 (by omega)
            have hn := hnext hlt q2
            obtain ⟨s1, s2, _, _⟩ := says
            have hp := Tm.size_pos (cpT g t.a[i] cc).1
            (refine a_fld ?_)
            refine ⟨⟨z3, [.i t.op, .s t.nm, .i t.n, bvT b cp (y :: l)], .box⟩, List.mem_of_getElem? (i := 2) rfl, rfl, ?_⟩
            ((apply a_ld1 0; exact rfl; exact rfl); (apply a_ldA 0; exact rfl; exact rfl))
            refine a_callB 5 rfl hcall ?_
            unfold pB
            refine ⟨box_stays 5 rfl (fun h => by cases h), ?_⟩
            (refine a_rowT1 rfl ?_; refine a_appT1 1 rfl (by simp only [List.length_cons] at hl; omega) fun b' c' => ?_; refine a_fld ?_; (apply a_st 2 _; exact rfl; exact rfl; exact rfl; exact rfl; (try dsimp only [afill, aparts, cl, chunk, List.take, List.drop, List.nil_append, List.cons_append, List.append_nil, List.length_cons, List.length_nil, Nat.zero_add, Nat.reduceAdd, Nat.reduceMul]); try exact rfl); refine a_add (by first | omega | assumption | decide) (by first | omega | assumption | decide) ?_)
            refine hK (i + 1, y :: l ++ [(cpT g t.a[i] cc).1], (cpT g t.a[i] cc).2, b', c') _ _ ⟨hlt, by simp only [List.length_cons, List.length_append, List.length_nil] at hl ⊢; omega, by simp only; omega, s2, hn⟩ (by simp only; omega) ?_
            exact (by first | exact Gl.refl _ _ | exact Gl.drop (by repeat (first | exact List.Sublist.refl _ | exact List.Sublist.slnil | apply List.Sublist.cons_cons | apply List.Sublist.cons)))
        · rw [hdone (by omega)]
          ((apply a_ldA 1; exact rfl; exact rfl); refine a_stA 2 rfl rfl rfl rfl ?_; (apply a_ldA 2; exact rfl; exact rfl))
          exact ge_mkTL (.inr ⟨0, rfl, (by repeat (first | exact List.Sublist.refl _ | exact List.Sublist.slnil | apply List.Sublist.cons_cons | apply List.Sublist.cons))⟩)
    · (refine a_fld ?_; (apply a_ld1 1; exact rfl; exact rfl); refine a_neqS ?_)
      refine a_cnd (fun q => ?_) (fun q => ?_)
      · ((apply a_ldA 1; exact rfl; exact rfl); refine a_call0 csort ?_; (apply a_ext; exact rfl); (apply a_ext; exact rfl); refine a_nil ?_; refine a_fld ?_; (apply a_ld1 2; exact rfl; exact rfl); refine a_fld ?_; (apply a_ld1 1; exact rfl; exact rfl); (apply a_bld _; exact rfl; (try dsimp only [afill, aparts, cl, chunk, List.take, List.drop, List.nil_append, List.cons_append, List.append_nil, List.length_cons, List.length_nil, Nat.zero_add, Nat.reduceAdd, Nat.reduceMul]); try exact rfl))
        refine hlook t 0 _ _ hr q hnm (fun x hx => by simp [hx]) ?_
        cases hg : g t with
        | none =>
          ((apply a_ext; exact rfl); (apply a_ext; exact rfl); refine a_bx fun z3 => ?_; refine a_stA 0 rfl rfl rfl rfl ?_; refine a_cndbF rfl ?_)
          exact hJ () _ _ hg (by first | exact Gl.refl _ _ | exact Gl.drop (by repeat (first | exact List.Sublist.refl _ | exact List.Sublist.slnil | apply List.Sublist.cons_cons | apply List.Sublist.cons)))
        | some u =>
          ((apply a_ext; exact rfl); (apply a_ext; exact rfl); refine a_bx fun z3 => ?_; refine a_stA 0 rfl rfl rfl rfl ?_; refine a_cndbT rfl ?_; refine a_nil ?_; refine a_fld ?_; (apply a_ld1 3; exact rfl; exact rfl); (apply a_bld _; exact rfl; (try dsimp only [afill, aparts, cl, chunk, List.take, List.drop, List.nil_append, List.cons_append, List.append_nil, List.length_cons, List.length_nil, Nat.zero_add, Nat.reduceAdd, Nat.reduceMul]); try exact rfl); refine a_bxv fun z4 => ?_; (apply a_ldA 1; exact rfl; exact rfl))
          refine a_callg (Gl.cel 0 rfl) ?_
          refine a_callA 1 rfl (hput t u hg z4 c h0 h1) ?_
          unfold pB
          simp only [AE.on]
          have e : cpT g t c = cp0 u c := by rw [cpT_eq, hg]
          rw [e]
          (refine a_stA 1 rfl rfl rfl rfl ?_; refine a_nil ?_; refine a_fld ?_; (apply a_ld1 0; exact rfl; exact rfl); refine a_nil ?_; refine a_fld ?_; (apply a_st 4 _; exact rfl; exact rfl; exact rfl; exact rfl; (try dsimp only [afill, aparts, cl, chunk, List.take, List.drop, List.nil_append, List.cons_append, List.append_nil, List.length_cons, List.length_nil, Nat.zero_add, Nat.reduceAdd, Nat.reduceMul]); try exact rfl); (apply a_ldA 1; exact rfl; exact rfl); refine a_stA 2 rfl rfl rfl rfl ?_; (apply a_ldA 2; exact rfl; exact rfl))
          exact ⟨trivial, (by first | exact Gl.refl _ _ | exact Gl.drop (by repeat (first | exact List.Sublist.refl _ | exact List.Sublist.slnil | apply List.Sublist.cons_cons | apply List.Sublist.cons)))⟩
      · skip
        exact hJ () _ _ (hg0 t (Classical.not_not.1 q)) (by first | exact Gl.refl _ _ | exact Gl.drop (by repeat (first | exact List.Sublist.refl _ | exact List.Sublist.slnil | apply List.Sublist.cons_cons | apply List.Sublist.cons)))
end Go.Proofs.YtaigilchnadmpaaGreatDoor
