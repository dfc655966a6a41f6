/- Contracts: rows of names, each told once. -/
import Derived.Test.YtaigilchnadmpaaDoorC11
set_option maxRecDepth 100000
set_option linter.unusedVariables false
namespace Go.Proofs.YtaigilchnadmpaaDoor
open Go Go.V
theorem compactN_id : ∀ {l : List Nm}, (∀ (i : Nat) (h : i + 1 < l.length), l[i + 1] ≠ l[i]) → compactN l = l
  | [], _ => rfl
  | [x], _ => rfl
  | x :: y :: r, h => by
    rw [compactN, if_neg (fun e => h 0 (by simp) e.symm), compactN_id (l := y :: r) fun i hi => h (i + 1) (by simpa using hi)]
/-- one more at the end -/
theorem compactN_snoc : ∀ (l : List Nm) (x y : Nm), compactN (l ++ [x, y]) = if x = y then compactN (l ++ [x]) else compactN (l ++ [x]) ++ [y]
  | [], x, y => by
    show compactN [x, y] = _
    rw [compactN]
    split
    · next h => subst h; rfl
    · rfl
  | [z], x, y => by
    have ih := compactN_snoc [] x y
    simp only [List.nil_append, List.cons_append] at ih ⊢
    rw [compactN, ih, compactN.eq_def [z, x]]
    split <;> split <;> simp_all [compactN]
  | z :: u :: l, x, y => by
    have ih := compactN_snoc (u :: l) x y
    simp only [List.cons_append] at ih ⊢
    rw [compactN, ih, compactN]
    split <;> split <;> simp_all
theorem compactN_len : ∀ l : List Nm, (compactN l).length ≤ l.length
  | [] => Nat.le_refl _
  | [x] => Nat.le_refl _
  | x :: y :: r => by
    rw [compactN]
    have := compactN_len (y :: r)
    simp only [List.length_cons] at this ⊢
    split
    · omega
    · simp only [List.length_cons]; omega
theorem take_two {l : List Nm} {j : Nat} (h : j + 1 < l.length) : l.take (j + 2) = l.take j ++ [l[j], l[j + 1]] := by
  have a := List.take_succ_eq_append_getElem h
  have b := List.take_succ_eq_append_getElem (show j < l.length by omega)
  rw [show j + 2 = j + 1 + 1 from rfl, a, b, List.append_assoc]; rfl
theorem take_one {l : List Nm} {j : Nat} (h : j < l.length) : l.take (j + 1) = l.take j ++ [l[j]] := List.take_succ_eq_append_getElem h
theorem a_ldG' {L : List Bx} {k : D → Prop} {l : List Nm} {e b c : Nat} (i j o : Nat) (ho : o = 0 + j * 5) (hi : L[i]? = some ⟨b, (l.map Nm.cs).flatten, .row e 5 c⟩) (hj : j < l.length) (h : k (.agg (Nm.cs l[j]))) : aldN 5 (.p b o) L k := by
  subst ho; exact a_ldG Nm.cs_len i j hi hj h
theorem a_stG' {L : List Bx} {ks : List Bx → Prop} {l : List Nm} {y : Nm} {e b c : Nat} (i j o : Nat) (ho : o = 0 + j * 5) (hi : L[i]? = some ⟨b, (l.map Nm.cs).flatten, .row e 5 c⟩) (hj : j < l.length) (h : ks (L.set i ⟨b, ((l.set j y).map Nm.cs).flatten, .row e 5 c⟩)) : ast 5 (.p b o) (.agg (Nm.cs y)) L ks := by
  subst ho; exact a_stG Nm.cs_len Nm.cs_one i j hi hj h
theorem vals_zero (n : Nat) : vals (reps n [.string ⟨#[]⟩, .int .i64 0, .string ⟨#[]⟩, .int .i64 0, .slice none 0 0]) = ((List.replicate n (([], 0) : Nm)).map Nm.cs).flatten := by
  induction n with
  | zero => rfl
  | succ n ih => rw [List.replicate_succ, List.map_cons, List.flatten_cons, ← ih]; rfl
theorem c28 {b c e cp z : Nat} {l : List Nm} (h0 : 0 < l.length) (hl : l.length ≤ 1000000) :
    AUp pr 28 [.sl b 0 l.length c, .fn 29 [] [.p z 0]] [⟨b, (l.map Nm.cs).flatten, .row e 5 cp⟩, ⟨z, [.fn 23 [] []], .box⟩]
      (.ret (.sl b 0 (compactN l).length c)) [⟨b, ((compactN l).map Nm.cs).flatten, .row e 5 cp⟩, ⟨z, [.fn 23 [] []], .box⟩] := by
  refine ASpec.small fun hsm => AUp.ofGe (s28 ?_)
  rw [Smalls, Small] at hsm
  have hc : l.length ≤ c := hsm.1.1
  clear hsm
  unfold A28
  (refine a_lenO ?_; refine a_lss ?_)
  refine a_cnd (fun h1 => ?_) (fun h1 => ?_)
  · have : compactN l = l := compactN_id fun i hi => by omega
    rw [this]
    exact Ge.refl _ _
  refine a_lp (σ := Nat) (fun i => [.i i]) (fun _ => [⟨b, (l.map Nm.cs).flatten, .row e 5 cp⟩, ⟨z, [.fn 23 [] []], .box⟩]) (fun i => 1 ≤ i ∧ i ≤ l.length ∧ ∀ (j : Nat) (hj : j + 1 < l.length), j + 1 < i → l[j + 1] ≠ l[j]) (fun i => l.length - i) 1 (by first | exact Gl.refl _ _ | exact Gl.drop (by repeat (first | exact List.Sublist.refl _ | exact List.Sublist.slnil | apply List.Sublist.cons_cons | apply List.Sublist.cons))) ⟨by omega, by omega, fun j _ _ => by omega⟩ ?_
  rintro i K ⟨hi1, hi, hd⟩ hK
  dsimp only [aix0, aix1, aix2, aix3, aix4, aix5, aix6, aix7, aix8]
  (refine a_lenO ?_; refine a_lss ?_)
  refine a_cnd (fun h2 => ?_) (fun h2 => ?_)
  · have hlt : i < l.length := by omega
    have e1 : ((i : Nat) : Int) - 1 = ((i - 1 : Nat) : Int) := by omega
    refine a_idxON i hlt ?_
    refine a_ldG' 0 i _ rfl rfl hlt ?_
    (refine a_sub (by first | omega | assumption | decide) (by first | omega | assumption | decide) ?_)
    rw [e1]
    refine a_idxON (i - 1) (by omega) ?_
    refine a_ldG' 0 (i - 1) _ rfl rfl (by omega) ?_
    refine a_cfS ?_
    refine a_callSF1 1 rfl (c29 _ _) ?_
    refine a_cnd (fun h3 => ?_) (fun h3 => ?_)
    · -- a first one is told twice
      refine a_slcOf i (by omega) (by omega) ?_
      refine a_lp3 (σ := Nat) (τ := Nat) (ρ := List Nm) (fun k q _ => [.i k, .i q]) (fun k q m => [⟨b, (m.map Nm.cs).flatten, .row e 5 cp⟩, ⟨z, [.fn 23 [] []], .box⟩])
        (fun k q m => 1 ≤ q ∧ i + q ≤ l.length ∧ k < i + q ∧ m.length = l.length ∧ m.take k = compactN (l.take (i + q)) ∧ (∀ (j : Nat) (h : j < m.length) (h' : j < l.length), i + q ≤ j + 1 → m[j] = l[j])) (fun _ q _ => l.length - q) i 1 l (by first | exact Gl.refl _ _ | exact Gl.drop (by repeat (first | exact List.Sublist.refl _ | exact List.Sublist.slnil | apply List.Sublist.cons_cons | apply List.Sublist.cons))) ?_ ?_
      · refine ⟨Nat.le_refl _, by omega, by omega, rfl, ?_, fun j h h' _ => rfl⟩
        obtain ⟨q, rfl⟩ : ∃ q, i = q + 1 := ⟨i - 1, by omega⟩
        rw [show q + 1 + 1 = q + 2 from rfl, take_two hlt, compactN_snoc, if_pos (by simpa using h3.symm), ← take_one (by omega)]
        refine (compactN_id fun j hj => ?_).symm
        simp only [List.length_take] at hj
        rw [List.getElem_take, List.getElem_take]
        exact hd j (by omega) (by omega)
      rintro k q m K2 ⟨hq1, hq, hk, hm, ht, hr⟩ hK2
      dsimp only [aix0, aix1, aix2, aix3, aix4, aix5, aix6, aix7, aix8]
      (refine a_lenO ?_; refine a_lss ?_)
      refine a_cnd (fun h4 => ?_) (fun h4 => ?_)
      · have hlt2 : i + q < l.length := by omega
        have e2 : ((q : Nat) : Int) - 1 = ((q - 1 : Nat) : Int) := by omega
        have v1 : m[i + q]'(by omega) = l[i + q] := hr _ (by omega) hlt2 (by omega)
        have v2 : m[i + (q - 1)]'(by omega) = l[i + (q - 1)] := hr _ (by omega) (by omega) (by omega)
        refine a_idxON q (by omega) ?_
        refine a_ldG' 0 (i + q) _ (by omega) rfl (by omega) ?_
        (refine a_sub (by first | omega | assumption | decide) (by first | omega | assumption | decide) ?_)
        rw [e2]
        refine a_idxON (q - 1) (by omega) ?_
        refine a_ldG' 0 (i + (q - 1)) _ (by omega) rfl (by omega) ?_
        refine a_cfS ?_
        refine a_callSF1 1 rfl (c29 _ _) ?_
        (refine a_notd ?_)
        rw [v1, v2]
        have et : l.take (i + (q + 1)) = l.take (i + (q - 1)) ++ [l[i + (q - 1)]'(by omega), l[i + q]] := by
          have := take_two (l := l) (j := i + (q - 1)) (by omega)
          rw [show i + (q + 1) = i + (q - 1) + 2 by omega, this]
          congr 3
          congr 1; omega
        have et1 : l.take (i + q) = l.take (i + (q - 1)) ++ [l[i + (q - 1)]'(by omega)] := by
          rw [show i + q = i + (q - 1) + 1 by omega]; exact take_one (by omega)
        refine a_cnd (fun h5 => ?_) (fun h5 => ?_)
        · refine a_idxON q (by omega) ?_
          refine a_ldG' 0 (i + q) _ (by omega) rfl (by omega) ?_
          refine a_idxON k (by omega) ?_
          refine a_stG' 0 k _ rfl rfl (by omega) ?_
          (refine a_add (by first | omega | assumption | decide) (by first | omega | assumption | decide) ?_; refine a_add (by first | omega | assumption | decide) (by first | omega | assumption | decide) ?_)
          refine hK2 (k + 1) (q + 1) (m.set k (m[i + q]'(by omega))) _ _ ⟨by omega, by omega, by omega, by rw [List.length_set]; exact hm, ?_, ?_⟩ (by omega) (by first | exact Gl.refl _ _ | exact Gl.drop (by repeat (first | exact List.Sublist.refl _ | exact List.Sublist.slnil | apply List.Sublist.cons_cons | apply List.Sublist.cons)))
          · rw [et, compactN_snoc, if_neg (fun e => h5 e.symm), ← et1, ← ht, v1, List.take_succ_eq_append_getElem (by rw [List.length_set]; omega), List.take_set_of_le (Nat.le_refl _), List.getElem_set_self]
          · intro j h h' hj
            rw [List.getElem_set, if_neg (by omega)]
            exact hr j (by simpa using h) h' (by omega)
        · have h5' := Classical.not_not.1 h5
          (refine a_add (by first | omega | assumption | decide) (by first | omega | assumption | decide) ?_)
          refine hK2 k (q + 1) m _ _ ⟨by omega, by omega, by omega, hm, ?_, fun j h h' hj => hr j h h' (by omega)⟩ (by omega) (by first | exact Gl.refl _ _ | exact Gl.drop (by repeat (first | exact List.Sublist.refl _ | exact List.Sublist.slnil | apply List.Sublist.cons_cons | apply List.Sublist.cons)))
          rw [et, compactN_snoc, if_pos h5'.symm, ← et1, ← ht]
      · have hend : i + q = l.length := by omega
        rw [hend, List.take_length] at ht
        have hkc : (compactN l).length = k := by rw [← ht, List.length_take]; omega
        refine a_slcOf k (by omega) (by omega) ?_
        have hclr : ∀ {L : List Bx} {ks : List Bx → Prop}, L[0]? = some ⟨b, (m.map Nm.cs).flatten, .row e 5 cp⟩ → ks (L.set 0 ⟨b, ((m.take k ++ List.replicate (l.length - k) (([], 0) : Nm)).map Nm.cs).flatten, .row e 5 cp⟩) →
            aclr [.string ⟨#[]⟩, .int .i64 0, .string ⟨#[]⟩, .int .i64 0, .slice none 0 0] 5 (.sl b (0 + k * 5) (l.length - k) (c - k)) L ks := by
          intro L ks hL h
          show (bif Nat.beq (l.length - k) 0 then _ else _)
          rw [Bool.cond_eq_ite, if_neg (by rw [Nat.beq_eq]; omega), vals_zero]
          refine V.a_st 0 _ hL (by show (((List.replicate (l.length - k) (([], 0) : Nm)).map Nm.cs).flatten).length = _; rw [flat_len Nm.cs_len, List.length_replicate]) (flat_one Nm.cs_one _) (Nat.ble_eq_true_of_le (by rw [flat_len Nm.cs_len, hm]; omega)) ?_ h
          show _ ++ ((List.replicate (l.length - k) (([], 0) : Nm)).map Nm.cs).flatten ++ _ = _
          rw [Nat.zero_add, flat_take Nm.cs_len, List.drop_eq_nil_of_le (by rw [flat_len Nm.cs_len, hm]; omega), List.append_nil, List.map_append, List.flatten_append]
        refine hclr rfl ?_
        refine a_slcOt k (by omega) ?_
        rw [hkc]
        refine ge_gl ?_
        have hcut := Gl.cut (L := [⟨b, ((m.take k ++ List.replicate (l.length - k) (([], 0) : Nm)).map Nm.cs).flatten, .row e 5 cp⟩, ⟨z, [.fn 23 [] []], .box⟩]) (ds := AE.ds (.ret (.sl b 0 k c))) (n := k) 0 rfl (by rw [flat_len Nm.cs_len, List.length_append, List.length_replicate, List.length_take]; omega)
        rw [flat_take Nm.cs_len, List.take_left' (by rw [List.length_take]; omega), ht] at hcut
        rw [ht]
        exact hcut
    · (refine a_add (by first | omega | assumption | decide) (by first | omega | assumption | decide) ?_)
      refine hK (i + 1) _ _ ⟨by omega, by omega, fun j hj hji => ?_⟩ (by omega) (by first | exact Gl.refl _ _ | exact Gl.drop (by repeat (first | exact List.Sublist.refl _ | exact List.Sublist.slnil | apply List.Sublist.cons_cons | apply List.Sublist.cons)))
      by_cases hji' : j + 1 = i
      · subst hji'; simpa using h3
      · exact hd j hj (by omega)
  · have : compactN l = l := compactN_id fun j hj => hd j hj (by omega)
    rw [this]
    exact Ge.refl _ _
theorem c28n {f : D} : AFn pr 28 [.nil, f] [] (.ret .nil) := by
  refine AFn.of (s28 ?_)
  unfold A28
  (refine a_lenO ?_; refine a_lss ?_; refine a_cndbT rfl ?_)
  rfl
end Go.Proofs.YtaigilchnadmpaaDoor
