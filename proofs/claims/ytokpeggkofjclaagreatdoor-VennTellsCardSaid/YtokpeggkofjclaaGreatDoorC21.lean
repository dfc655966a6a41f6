/- Contracts: with. -/
import Derived.Test.YtokpeggkofjclaaGreatDoorC16
import Derived.Test.YtokpeggkofjclaaGreatDoorC9
import Derived.Test.YtokpeggkofjclaaGreatDoorW4
import Derived.Test.YtokpeggkofjclaaGreatDoorT3
set_option maxRecDepth 100000
set_option linter.unusedVariables false
namespace Go.V
/-- the names of a row, rising, each once -/
def canonN (l : List Nm) : List Nm := compactN (sortN l)
theorem canon_rising (l : List Nm) : Rising (canonN l) := compactN_rising (sortN_sorted _)
theorem canon_mem (l : List Nm) (x : Nm) : x ∈ canonN l ↔ x ∈ l := by unfold canonN; rw [compactN_mem, sortN_mem]
theorem canon_eq {l m : List Nm} (h : Rising m) (h' : ∀ x, x ∈ m ↔ x ∈ l) : canonN l = m := rising_ext (canon_rising l) h fun x => by rw [canon_mem, h']
theorem canon_same {l : List Nm} {x : Nm} (h : Rising l) (hx : x ∈ l) : canonN (l ++ [x]) = l := canon_eq h fun y => by
  rw [List.mem_append, List.mem_singleton]
  exact ⟨.inl, fun h => h.elim id fun e => e ▸ hx⟩
theorem ins_canon {l : List Nm} {x : Nm} {i : Nat} (h : Rising l) (hi : i ≤ l.length) (hlow : ∀ (j : Nat) (hj : j < l.length), j < i → ltN l[j] x = true) (hhi : ∀ hj : i < l.length, ltN l[i] x = false) (hne : ∀ hj : i < l.length, l[i] ≠ x) :
    canonN (l ++ [x]) = l.take i ++ x :: l.drop i := by
  refine canon_eq ?_ fun y => ?_
  · have h1 : ∀ y ∈ l.take i, ltN y x = true := fun y hy => by
      obtain ⟨j, hj, rfl⟩ := List.mem_iff_getElem.1 hy
      rw [List.getElem_take]
      exact hlow j (by simp at hj; omega) (by simp at hj; omega)
    have h2 : ∀ y ∈ l.drop i, ltN x y = true := fun y hy => by
      obtain ⟨j, hj, rfl⟩ := List.mem_iff_getElem.1 hy
      rw [List.getElem_drop]
      have hj' : i + j < l.length := by simp at hj; omega
      have h0 : ltN x l[i] = true := by
        cases h3 : ltN x l[i]
        · exact absurd (ltN_tri (hhi (by omega)) h3) (hne (by omega))
        · rfl
      rcases Nat.eq_zero_or_pos j with rfl | hp
      · exact h0
      · exact ltN_trans h0 (List.pairwise_iff_getElem.1 h i (i + j) (by omega) hj' (by omega))
    refine List.pairwise_append.2 ⟨h.sublist (List.take_sublist _ _), List.pairwise_cons.2 ⟨h2, h.sublist (List.drop_sublist _ _)⟩, fun y hy z hz => ?_⟩
    rcases List.mem_cons.1 hz with rfl | hz
    · exact h1 y hy
    · exact ltN_trans (h1 y hy) (h2 z hz)
  · rw [List.mem_append, List.mem_cons, List.mem_append, List.mem_singleton]
    have : y ∈ l ↔ y ∈ l.take i ∨ y ∈ l.drop i := by rw [← List.mem_append, List.take_append_drop]
    rw [this]
    constructor
    · rintro (h | h | h)
      · exact .inl (.inl h)
      · exact .inr h
      · exact .inl (.inr h)
    · rintro ((h | h) | h)
      · exact .inl h
      · exact .inr (.inr h)
      · exact .inr (.inl h)
end Go.V
namespace Go.Proofs.YtokpeggkofjclaaGreatDoor
open Go Go.V
theorem Nm.a_slcT {l : List Nm} {ki : IntKind} {k : D → Prop} (i : Nat) (hi : i ≤ l.length) (h : k (.row 5 ((l.take i).map Nm.cr))) : aslcL 5 (.row 5 (l.map Nm.cr)) none (some (.val (.int ki i))) k :=
  ⟨rfl, 0, i, ⟨_, rfl⟩, rfl, Nat.zero_le _, by rw [List.length_map]; exact hi, _, rfl, by rw [List.drop_zero, ← List.map_take]; exact h⟩
theorem Nm.a_slcF {l : List Nm} {ki : IntKind} {k : D → Prop} (i : Nat) (hi : i ≤ l.length) (h : k (.row 5 ((l.drop i).map Nm.cr))) : aslcL 5 (.row 5 (l.map Nm.cr)) (some (.val (.int ki i))) none k :=
  ⟨rfl, i, (l.map Nm.cr).length, rfl, ⟨_, rfl⟩, by rw [List.length_map]; exact hi, Nat.le_refl _, _, rfl, by rw [List.take_length, ← List.map_drop]; exact h⟩
theorem named_op {t : Tm} {s : Int} (h : rightT t s = true) : (decide (t.op = 2) || decide (t.op = 7) || decide (t.op = 14) || decide (t.op = 15)) = (shpAt t.op).name := by
  have r := (right_iff t s).1 h
  have : ∀ k : Fin 29, (decide ((k.1 : Int) = 2) || decide ((k.1 : Int) = 7) || decide ((k.1 : Int) = 14) || decide ((k.1 : Int) = 15)) = (shpAt (k.1 : Int)).name := by decide
  have h := this ⟨t.op.toNat, by have := r.op1; have := r.op2; omega⟩
  have h0 := r.op1
  simp only [Int.toNat_of_nonneg (show 0 ≤ t.op by omega)] at h
  exact h
theorem c81 (t : Tm) : ∀ {s : Int} {l : List Nm}, rightT t s = true → Rising l → l.length + t.size ≤ 1000000 → AFn pr 81 [.row 5 (l.map Nm.cr), t.d] [] (.ret (.row 5 ((canonN (l ++ collT t)).map Nm.cr))) := by
  induction t using Tm.ind' with
  | h t ih =>
    intro s l hr hl hsz
    refine AFn.ofGe (s81 ?_)
    unfold A81
    refine a_bxv fun z1 => ?_
    have hv := c121 t.op
    rw [named_op hr] at hv
    have r := (right_iff t s).1 hr
    cases hnm : (shpAt t.op).name with
    | true =>
      rw [hnm] at hv
      have ha : t.a = [] := by
        have h1 := r.op1
        have h2 := r.op2
        have hop : t.op = 2 ∨ t.op = 7 ∨ t.op = 14 ∨ t.op = 15 := by
          have := named_op hr
          rw [hnm] at this
          simp only [Bool.or_eq_true, decide_eq_true_eq] at this
          omega
        have hlen := r.len
        rcases hop with e | e | e | e <;> (rw [e] at hlen; exact List.length_eq_zero_iff.1 (hlen rfl))
      have hnn : t.nm ≠ ⟨#[]⟩ := fun e => by
        have := r.nm1 hnm
        rw [e] at this
        cases this
      have hc : collT t = [(t.nm.data.toList, t.op)] := by
        rw [collT_eq, if_neg hnn, ha, collL]; rfl
      rw [hc]
      have ho := named_op hr
      rw [hnm] at ho
      obtain ⟨op, nm, n, a⟩ := t
      obtain ⟨q, rfl⟩ : ∃ q, nm = str q := ⟨_, str_of nm⟩
      simp only [Tm.a, Tm.op, Tm.nm] at *
      subst ha
      have hq : (str q).data.toList = q := by simp [str]
      rw [hq]
      (refine a_fld ?_; (apply a_ld1 0; exact rfl; exact rfl); refine a_call0 (c121 _) ?_; refine a_cndbT (by first | omega | assumption | decide) ?_)
      refine a_lp (σ := Nat) (fun i => [.i i]) (fun _ => [⟨z1, (Tm.mk op (str q) n []).cs, .box⟩]) (fun i => i ≤ l.length ∧ ∀ (j : Nat) (hj : j < l.length), j < i → ltN l[j] (q, op) = true) (fun i => l.length - i) 0 (by first | exact Gl.refl _ _ | exact Gl.drop (by repeat (first | exact List.Sublist.refl _ | exact List.Sublist.slnil | apply List.Sublist.cons_cons | apply List.Sublist.cons))) ⟨Nat.zero_le _, fun j _ h => absurd h (Nat.not_lt_zero _)⟩ ?_
      rintro i K ⟨hi, hlow⟩ hK
      dsimp only [aix0, aix1, aix2, aix3, aix4, aix5, aix6, aix7, aix8]
      (refine a_lenM ?_; refine a_lss ?_)
      refine a_cnd (fun c1 => ?_) (fun c1 => ?_)
      · have hi1 : i < l.length := by omega
        have hnext : ltN l[i] (q, op) = true → i + 1 ≤ l.length ∧ ∀ (j : Nat) (hj : j < l.length), j < i + 1 → ltN l[j] (q, op) = true := fun h => ⟨by omega, fun j hj hji => by
          rcases Nat.lt_or_ge j i with h1 | h1
          · exact hlow j hj h1
          · obtain rfl : j = i := by omega
            exact h⟩
        (refine Nm.a_idx i hi1 ?_; refine Nm.a_f0 ?_; refine Nm.a_ld ?_; refine a_fld ?_; (apply a_ld1 0; exact rfl; exact rfl); refine a_lssS ?_)
        refine a_cndb (fun c2 => ?_) (fun c2 => ?_)
        · (refine a_add (by first | omega | assumption | decide) (by first | omega | assumption | decide) ?_)
          exact hK (i + 1) _ _ (hnext ((ltN_iff _ _).2 (.inl c2))) (by omega) (by first | exact Gl.refl _ _ | exact Gl.drop (by repeat (first | exact List.Sublist.refl _ | exact List.Sublist.slnil | apply List.Sublist.cons_cons | apply List.Sublist.cons)))
        · (refine Nm.a_idx i hi1 ?_; refine Nm.a_f0 ?_; refine Nm.a_ld ?_; refine a_fld ?_; (apply a_ld1 0; exact rfl; exact rfl); refine a_eqlS ?_)
          refine a_cnd (fun c3 => ?_) (fun c3 => ?_)
          · (refine Nm.a_idx i hi1 ?_; refine Nm.a_f1 ?_; refine a_fldp ?_; (apply a_ld1 0; exact rfl; exact rfl); refine a_lss ?_)
            refine a_cnd (fun c4 => ?_) (fun c4 => ?_)
            · (refine a_add (by first | omega | assumption | decide) (by first | omega | assumption | decide) ?_)
              exact hK (i + 1) _ _ (hnext ((ltN_iff _ _).2 (.inr ⟨str_inj c3, c4⟩))) (by omega) (by first | exact Gl.refl _ _ | exact Gl.drop (by repeat (first | exact List.Sublist.refl _ | exact List.Sublist.slnil | apply List.Sublist.cons_cons | apply List.Sublist.cons)))
            · have hhi : ∀ hj : i < l.length, ltN l[i] (q, op) = false := fun _ => by
                cases h : ltN l[i] (q, op)
                · rfl
                · rcases (ltN_iff _ _).1 h with h | h
                  · exact Bool.noConfusion (c2.symm.trans h)
                  · exact absurd h.2 c4
              refine a_jn (σ := Unit) (fun _ => []) (fun _ => [⟨z1, (Tm.mk op (str q) n []).cs, .box⟩]) (fun _ => ∀ h : i < l.length, l[i] ≠ (q, op)) ?_ fun J hJ => ?_
              · rintro _ hne
                have hcan := ins_canon hl hi hlow hhi hne
                (refine a_fld ?_; (apply a_ld1 0; exact rfl; exact rfl); refine a_fld ?_; (apply a_ld1 0; exact rfl; exact rfl); refine a_fld ?_; (apply a_ld1 0; exact rfl; exact rfl); refine a_bldT0 rfl rfl ?_; (apply a_bld _; exact rfl; (try dsimp only [afill, aparts, cl, chunk, List.take, List.drop, List.nil_append, List.cons_append, List.append_nil, List.length_cons, List.length_nil, Nat.zero_add, Nat.reduceAdd, Nat.reduceMul]); try exact rfl); refine a_bx fun z2 => ?_; refine a_stA 0 rfl rfl rfl rfl ?_; refine Nm.a_slcT i hi ?_)
                refine ⟨_, List.mem_cons_self, rfl, ?_⟩
                have ecr : D.s (Tm.mk op (str q) n []).nm :: ((Tm.mk (Tm.mk op (str q) n []).op (Tm.mk op (str q) n []).nm 0 []).cs ++ List.drop (1 + (Tm.mk (Tm.mk op (str q) n []).op (Tm.mk op (str q) n []).nm 0 []).cs.length) [D.s (Tm.mk op (str q) n []).nm, D.i 0, D.s { data := #[] }, D.i 0, D.nil]) = Nm.cr (q, op) := by
                  rw [Tm.cs_len]
                  exact congrArg _ (List.append_nil _)
                rw [ecr]
                ((apply a_ldA 0; exact rfl; exact rfl); (apply a_bldF _; exact rfl; (try dsimp only [afill, aparts, cl, chunk, List.take, List.drop, List.nil_append, List.cons_append, List.append_nil, List.length_cons, List.length_nil, Nat.zero_add, Nat.reduceAdd, Nat.reduceMul]); try exact rfl); refine Nm.a_slcF i hi ?_; refine a_bldO [] rfl rfl fun z5 => ?_)
                refine ⟨fun y hy _ => List.mem_cons_of_mem _ hy, ?_⟩
                have li : (l.take i).length = i := by rw [List.length_take]; omega
                have ld : (l.drop i).length = l.length - i := List.length_drop
                refine a_app 0 [] i ((l.take i).map Nm.cr).flatten rfl rfl ⟨rfl, by rw [List.length_map, li], rfl⟩ (flat_one Nm.cr_one _) (by omega) fun b1 c7 => ?_
                refine ⟨fun y hy hk => (List.mem_cons.1 hy).elim (fun h => by subst h; cases hk) fun h => List.mem_cons_of_mem _ h, ?_⟩
                rw [Nat.zero_add, List.nil_append]
                refine a_app 0 ((l.take i).map Nm.cr).flatten 1 (Nm.cr (q, op)) rfl ((flat_len Nm.cr_len _).trans (by rw [li])) ⟨rfl, rfl, rfl⟩ rfl (by omega) fun b2 c8 => ?_
                refine a_app 0 (((l.take i).map Nm.cr).flatten ++ Nm.cr (q, op)) (l.length - i) ((l.drop i).map Nm.cr).flatten rfl (by rw [List.length_append, flat_len Nm.cr_len, li, Nm.cr_len]; omega) ⟨rfl, by rw [List.length_map, ld], rfl⟩ (flat_one Nm.cr_one _) (by omega) fun b3 c9 => ?_
                have eflat : ((l.take i).map Nm.cr).flatten ++ Nm.cr (q, op) ++ ((l.drop i).map Nm.cr).flatten = ((l.take i ++ (q, op) :: l.drop i).map Nm.cr).flatten := by
                  rw [List.map_append, List.flatten_append, List.map_cons, List.flatten_cons, List.append_assoc]
                have elen : i + 1 + (l.length - i) = (l.take i ++ (q, op) :: l.drop i).length := by
                  rw [List.length_append, List.length_cons, li, ld]; omega
                rw [hcan, eflat, elen]
                exact ge_row Nm.cr_len 0 rfl
              · (refine a_lenM ?_; refine a_lss ?_; refine a_cndT (by first | omega | assumption | decide) ?_; refine Nm.a_idx i hi1 ?_; refine Nm.a_f0 ?_; refine Nm.a_ld ?_; refine a_fld ?_; (apply a_ld1 0; exact rfl; exact rfl); refine a_eqlS ?_; refine a_cndT (by first | omega | assumption | decide) ?_; refine Nm.a_idx i hi1 ?_; refine Nm.a_f1 ?_; refine a_fldp ?_; (apply a_ld1 0; exact rfl; exact rfl); refine a_eql ?_)
                refine a_cnd (fun c6 => ?_) (fun c6 => ?_)
                · have hx : l[i] = (q, op) := Prod.ext (str_inj c3) c6
                  rw [canon_same hl (hx ▸ List.getElem_mem hi1)]
                  exact ge_gl (Gl.drop (List.nil_sublist _))
                · exact hJ () _ _ (fun _ e => c6 (by rw [e]; rfl)) (by first | exact Gl.refl _ _ | exact Gl.drop (by repeat (first | exact List.Sublist.refl _ | exact List.Sublist.slnil | apply List.Sublist.cons_cons | apply List.Sublist.cons)))
          · have hhi : ∀ hj : i < l.length, ltN l[i] (q, op) = false := fun _ => by
              cases h : ltN l[i] (q, op)
              · rfl
              · rcases (ltN_iff _ _).1 h with h | h
                · exact Bool.noConfusion (c2.symm.trans h)
                · exact absurd (congrArg str h.1) c3
            refine a_jn (σ := Unit) (fun _ => []) (fun _ => [⟨z1, (Tm.mk op (str q) n []).cs, .box⟩]) (fun _ => ∀ h : i < l.length, l[i] ≠ (q, op)) ?_ fun J hJ => ?_
            · rintro _ hne
              have hcan := ins_canon hl hi hlow hhi hne
              (refine a_fld ?_; (apply a_ld1 0; exact rfl; exact rfl); refine a_fld ?_; (apply a_ld1 0; exact rfl; exact rfl); refine a_fld ?_; (apply a_ld1 0; exact rfl; exact rfl); refine a_bldT0 rfl rfl ?_; (apply a_bld _; exact rfl; (try dsimp only [afill, aparts, cl, chunk, List.take, List.drop, List.nil_append, List.cons_append, List.append_nil, List.length_cons, List.length_nil, Nat.zero_add, Nat.reduceAdd, Nat.reduceMul]); try exact rfl); refine a_bx fun z2 => ?_; refine a_stA 0 rfl rfl rfl rfl ?_; refine Nm.a_slcT i hi ?_)
              refine ⟨_, List.mem_cons_self, rfl, ?_⟩
              have ecr : D.s (Tm.mk op (str q) n []).nm :: ((Tm.mk (Tm.mk op (str q) n []).op (Tm.mk op (str q) n []).nm 0 []).cs ++ List.drop (1 + (Tm.mk (Tm.mk op (str q) n []).op (Tm.mk op (str q) n []).nm 0 []).cs.length) [D.s (Tm.mk op (str q) n []).nm, D.i 0, D.s { data := #[] }, D.i 0, D.nil]) = Nm.cr (q, op) := by
                rw [Tm.cs_len]
                exact congrArg _ (List.append_nil _)
              rw [ecr]
              ((apply a_ldA 0; exact rfl; exact rfl); (apply a_bldF _; exact rfl; (try dsimp only [afill, aparts, cl, chunk, List.take, List.drop, List.nil_append, List.cons_append, List.append_nil, List.length_cons, List.length_nil, Nat.zero_add, Nat.reduceAdd, Nat.reduceMul]); try exact rfl); refine Nm.a_slcF i hi ?_; refine a_bldO [] rfl rfl fun z5 => ?_)
              refine ⟨fun y hy _ => List.mem_cons_of_mem _ hy, ?_⟩
              have li : (l.take i).length = i := by rw [List.length_take]; omega
              have ld : (l.drop i).length = l.length - i := List.length_drop
              refine a_app 0 [] i ((l.take i).map Nm.cr).flatten rfl rfl ⟨rfl, by rw [List.length_map, li], rfl⟩ (flat_one Nm.cr_one _) (by omega) fun b1 c7 => ?_
              refine ⟨fun y hy hk => (List.mem_cons.1 hy).elim (fun h => by subst h; cases hk) fun h => List.mem_cons_of_mem _ h, ?_⟩
              rw [Nat.zero_add, List.nil_append]
              refine a_app 0 ((l.take i).map Nm.cr).flatten 1 (Nm.cr (q, op)) rfl ((flat_len Nm.cr_len _).trans (by rw [li])) ⟨rfl, rfl, rfl⟩ rfl (by omega) fun b2 c8 => ?_
              refine a_app 0 (((l.take i).map Nm.cr).flatten ++ Nm.cr (q, op)) (l.length - i) ((l.drop i).map Nm.cr).flatten rfl (by rw [List.length_append, flat_len Nm.cr_len, li, Nm.cr_len]; omega) ⟨rfl, by rw [List.length_map, ld], rfl⟩ (flat_one Nm.cr_one _) (by omega) fun b3 c9 => ?_
              have eflat : ((l.take i).map Nm.cr).flatten ++ Nm.cr (q, op) ++ ((l.drop i).map Nm.cr).flatten = ((l.take i ++ (q, op) :: l.drop i).map Nm.cr).flatten := by
                rw [List.map_append, List.flatten_append, List.map_cons, List.flatten_cons, List.append_assoc]
              have elen : i + 1 + (l.length - i) = (l.take i ++ (q, op) :: l.drop i).length := by
                rw [List.length_append, List.length_cons, li, ld]; omega
              rw [hcan, eflat, elen]
              exact ge_row Nm.cr_len 0 rfl
            · (refine a_lenM ?_; refine a_lss ?_; refine a_cndT (by first | omega | assumption | decide) ?_; refine Nm.a_idx i hi1 ?_; refine Nm.a_f0 ?_; refine Nm.a_ld ?_; refine a_fld ?_; (apply a_ld1 0; exact rfl; exact rfl); refine a_eqlS ?_; refine a_cndF (by first | omega | assumption | decide) ?_)
              exact hJ () _ _ (fun _ e => c3 (by rw [e]; rfl)) (by first | exact Gl.refl _ _ | exact Gl.drop (by repeat (first | exact List.Sublist.refl _ | exact List.Sublist.slnil | apply List.Sublist.cons_cons | apply List.Sublist.cons)))
      · have hhi : ∀ hj : i < l.length, ltN l[i] (q, op) = false := fun hj => absurd (by omega) c1
        refine a_jn (σ := Unit) (fun _ => []) (fun _ => [⟨z1, (Tm.mk op (str q) n []).cs, .box⟩]) (fun _ => ∀ h : i < l.length, l[i] ≠ (q, op)) ?_ fun J hJ => ?_
        · rintro _ hne
          have hcan := ins_canon hl hi hlow hhi hne
          (refine a_fld ?_; (apply a_ld1 0; exact rfl; exact rfl); refine a_fld ?_; (apply a_ld1 0; exact rfl; exact rfl); refine a_fld ?_; (apply a_ld1 0; exact rfl; exact rfl); refine a_bldT0 rfl rfl ?_; (apply a_bld _; exact rfl; (try dsimp only [afill, aparts, cl, chunk, List.take, List.drop, List.nil_append, List.cons_append, List.append_nil, List.length_cons, List.length_nil, Nat.zero_add, Nat.reduceAdd, Nat.reduceMul]); try exact rfl); refine a_bx fun z2 => ?_; refine a_stA 0 rfl rfl rfl rfl ?_; refine Nm.a_slcT i hi ?_)
          refine ⟨_, List.mem_cons_self, rfl, ?_⟩
          have ecr : D.s (Tm.mk op (str q) n []).nm :: ((Tm.mk (Tm.mk op (str q) n []).op (Tm.mk op (str q) n []).nm 0 []).cs ++ List.drop (1 + (Tm.mk (Tm.mk op (str q) n []).op (Tm.mk op (str q) n []).nm 0 []).cs.length) [D.s (Tm.mk op (str q) n []).nm, D.i 0, D.s { data := #[] }, D.i 0, D.nil]) = Nm.cr (q, op) := by
            rw [Tm.cs_len]
            exact congrArg _ (List.append_nil _)
          rw [ecr]
          ((apply a_ldA 0; exact rfl; exact rfl); (apply a_bldF _; exact rfl; (try dsimp only [afill, aparts, cl, chunk, List.take, List.drop, List.nil_append, List.cons_append, List.append_nil, List.length_cons, List.length_nil, Nat.zero_add, Nat.reduceAdd, Nat.reduceMul]); try exact rfl); refine Nm.a_slcF i hi ?_; refine a_bldO [] rfl rfl fun z5 => ?_)
          refine ⟨fun y hy _ => List.mem_cons_of_mem _ hy, ?_⟩
          have li : (l.take i).length = i := by rw [List.length_take]; omega
          have ld : (l.drop i).length = l.length - i := List.length_drop
          refine a_app 0 [] i ((l.take i).map Nm.cr).flatten rfl rfl ⟨rfl, by rw [List.length_map, li], rfl⟩ (flat_one Nm.cr_one _) (by omega) fun b1 c7 => ?_
          refine ⟨fun y hy hk => (List.mem_cons.1 hy).elim (fun h => by subst h; cases hk) fun h => List.mem_cons_of_mem _ h, ?_⟩
          rw [Nat.zero_add, List.nil_append]
          refine a_app 0 ((l.take i).map Nm.cr).flatten 1 (Nm.cr (q, op)) rfl ((flat_len Nm.cr_len _).trans (by rw [li])) ⟨rfl, rfl, rfl⟩ rfl (by omega) fun b2 c8 => ?_
          refine a_app 0 (((l.take i).map Nm.cr).flatten ++ Nm.cr (q, op)) (l.length - i) ((l.drop i).map Nm.cr).flatten rfl (by rw [List.length_append, flat_len Nm.cr_len, li, Nm.cr_len]; omega) ⟨rfl, by rw [List.length_map, ld], rfl⟩ (flat_one Nm.cr_one _) (by omega) fun b3 c9 => ?_
          have eflat : ((l.take i).map Nm.cr).flatten ++ Nm.cr (q, op) ++ ((l.drop i).map Nm.cr).flatten = ((l.take i ++ (q, op) :: l.drop i).map Nm.cr).flatten := by
            rw [List.map_append, List.flatten_append, List.map_cons, List.flatten_cons, List.append_assoc]
          have elen : i + 1 + (l.length - i) = (l.take i ++ (q, op) :: l.drop i).length := by
            rw [List.length_append, List.length_cons, li, ld]; omega
          rw [hcan, eflat, elen]
          exact ge_row Nm.cr_len 0 rfl
        · (refine a_lenM ?_; refine a_lss ?_; refine a_cndF (by first | omega | assumption | decide) ?_)
          exact hJ () _ _ (fun h => absurd (by omega) c1) (by first | exact Gl.refl _ _ | exact Gl.drop (by repeat (first | exact List.Sublist.refl _ | exact List.Sublist.slnil | apply List.Sublist.cons_cons | apply List.Sublist.cons)))
    | false =>
      rw [hnm] at hv
      have ho := named_op hr
      rw [hnm] at ho
      have hc : collT t = collL t.a := by rw [collT_eq, if_pos (r.nm2 hnm)]; rfl
      rw [hc]
      have hcl : ∀ a : List Tm, (collL a).length ≤ Tm.sizeL a := fun a => by
        induction a with
        | nil => rw [collL]; simp
        | cons x r ihr => rw [collL, List.length_append, Tm.sizeL_cons]; have := collT_len x; omega
      rw [Tm.size_eq] at hsz
      have hal := Tm.len_size t.a
      (refine a_fld ?_; (apply a_ld1 0; exact rfl; exact rfl); refine a_call0 (c121 _) ?_; refine a_cndbF (by first | omega | assumption | decide) ?_)
      refine a_lp (σ := Nat) (fun i => [.row 5 ((canonN (l ++ collL (t.a.take i))).map Nm.cr), .i i]) (fun _ => [⟨z1, t.cs, .box⟩]) (fun i => i ≤ t.a.length) (fun i => t.a.length - i) 0 ?_ (Nat.zero_le _) ?_
      · have e0 : canonN (l ++ collL (t.a.take 0)) = l := canon_eq hl fun x => by rw [List.take_zero, collL, List.append_nil]
        rw [e0]
        exact Gl.refl _ _
      rintro i K hi hK
      dsimp only [aix0, aix1, aix2, aix3, aix4, aix5, aix6, aix7, aix8]
      (refine a_fld ?_; (apply a_ld1 0; exact rfl; exact rfl); refine Tm.a_len ?_; refine a_lss ?_)
      refine a_cnd (fun c1 => ?_) (fun c1 => ?_)
      · have hlt : i < t.a.length := by omega
        have et : canonN (canonN (l ++ collL (t.a.take i)) ++ collT t.a[i]) = canonN (l ++ collL (t.a.take (i + 1))) := canon_eq (canon_rising _) fun x => by
          rw [canon_mem, List.mem_append, List.mem_append, canon_mem, List.mem_append, List.take_succ_eq_append_getElem hlt, collL_app, collL, collL, List.append_nil, List.mem_append, or_assoc]
        have hb : (canonN (l ++ collL (t.a.take i))).length + t.a[i].size ≤ 1000000 := by
          have h1 : (canonN (l ++ collL (t.a.take i))).length ≤ (l ++ collL (t.a.take i)).length := Nat.le_trans (compactN_len _) (Nat.le_of_eq (sortN_len _))
          rw [List.length_append] at h1
          have h2 := hcl (t.a.take i)
          have e : t.a = t.a.take i ++ (t.a[i] :: t.a.drop (i + 1)) := by rw [← List.drop_eq_getElem_cons hlt, List.take_append_drop]
          have happ : ∀ p q : List Tm, Tm.sizeL (p ++ q) = Tm.sizeL p + Tm.sizeL q := fun p q => by
            induction p with
            | nil => rw [Tm.sizeL_nil]; simp
            | cons x r ihr => rw [List.cons_append, Tm.sizeL_cons, Tm.sizeL_cons, ihr]; omega
          have h3 := congrArg Tm.sizeL e
          rw [happ, Tm.sizeL_cons] at h3
          omega
        have hih := ih _ (List.getElem_mem hlt) (r.kids i hlt) (canon_rising (l ++ collL (t.a.take i))) hb
        rw [et] at hih
        clear ih hv
        (refine a_fld ?_; (apply a_ld1 0; exact rfl; exact rfl); refine Tm.a_idx i hlt ?_; (apply a_ldAp; exact rfl); refine a_call0 hih ?_; refine a_add (by first | omega | assumption | decide) (by first | omega | assumption | decide) ?_)
        exact hK (i + 1) _ _ (by omega) (by omega) (by first | exact Gl.refl _ _ | exact Gl.drop (by repeat (first | exact List.Sublist.refl _ | exact List.Sublist.slnil | apply List.Sublist.cons_cons | apply List.Sublist.cons)))
      · obtain rfl : i = t.a.length := by omega
        rw [List.take_length]
        exact ge_gl (Gl.drop (List.nil_sublist _))
end Go.Proofs.YtokpeggkofjclaaGreatDoor
