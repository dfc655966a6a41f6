/- Contracts: the names of a term, gathered, sorted, each told once. -/
import Derived.Test.YtdalobojhfafbaaGreatDoorN4
import Derived.Test.YtdalobojhfafbaaGreatDoorW2
import Derived.Test.YtdalobojhfafbaaGreatDoorC4
set_option maxRecDepth 100000
set_option linter.unusedVariables false
namespace Go.Proofs.YtdalobojhfafbaaGreatDoor
open Go Go.V
theorem c183 {s : ByteArray} : AFn pr 183 [.s s] [] (.ret (.b false)) := by
  refine AFn.of (s183 ?_)
  unfold A183
  (refine a_neqS ?_)
  exact ret_b (by simp)
theorem c184 {n : Int} : AFn pr 184 [.i n] [] (.ret (.b false)) := by
  refine AFn.of (s184 ?_)
  unfold A184
  (refine a_neq ?_)
  exact ret_b (by simp)
theorem c149 {a b : List UInt8} : AFn pr 149 [.s (str a), .s (str b)] [] (.ret (.i (cmpS a b))) := by
  refine AFn.of (s149 ?_)
  unfold A149
  (refine a_call0 (c183) ?_; refine a_call0 (c183) ?_; refine a_cndbF rfl ?_; refine a_cndbF rfl ?_)
  refine a_lssS ?_
  unfold cmpS
  refine a_cndb (fun h1 => ?_) (fun h1 => ?_)
  · rw [h1]; rfl
  rw [h1]
  refine a_gtrS ?_
  refine a_cndb (fun h2 => ?_) (fun h2 => ?_)
  · rw [h2]; rfl
  · rw [h2]; rfl
theorem c150 {a b : Int} : AFn pr 150 [.i a, .i b] [] (.ret (.i (cmpI a b))) := by
  refine AFn.of (s150 ?_)
  unfold A150
  (refine a_call0 (c184) ?_; refine a_call0 (c184) ?_; refine a_cndbF rfl ?_; refine a_cndbF rfl ?_; refine a_lss ?_)
  unfold cmpI
  refine a_cnd (fun h1 => ?_) (fun h1 => ?_)
  · rw [if_pos h1]
  rw [if_neg h1]
  (refine a_gtr ?_)
  refine a_cnd (fun h2 => ?_) (fun h2 => ?_)
  · rw [if_pos h2]
  · rw [if_neg h2]
theorem c148 {x y : Int} : AFn pr 148 [.row 1 [[.i x], [.i y]]] [] (.ret (.i (if x ≠ 0 then x else y))) := by
  refine AFn.of (s148 ?_)
  unfold A148
  (refine a_lenL ?_)
  refine a_lp (σ := Nat) (fun i => [.i i]) (fun _ => []) (fun i => i ≤ 2 ∧ (1 ≤ i → x = 0) ∧ (2 ≤ i → y = 0)) (fun i => 2 - i) 0 (by first | exact Gl.refl _ _ | exact Gl.drop (by repeat (first | exact List.Sublist.refl _ | exact List.Sublist.slnil | apply List.Sublist.cons_cons | apply List.Sublist.cons))) ⟨by omega, by omega, by omega⟩ ?_
  rintro i K ⟨hi, h1, h2⟩ hK
  dsimp only [aix0, aix1, aix2, aix3, aix4, aix5, aix6, aix7, aix8]
  have hl : ([[D.i x], [D.i y]] : List (List D)).length = 2 := rfl
  (refine a_lss ?_)
  refine a_cnd (fun h => ?_) (fun h => ?_)
  · have hi' : i = 0 ∨ i = 1 := by omega
    rcases hi' with rfl | rfl
    · refine V.a_idx 0 [.i x] rfl ?_
      ((apply a_ld1p; exact rfl); refine a_neq ?_)
      refine a_cnd (fun h3 => ?_) (fun h3 => ?_)
      · rw [if_pos h3]
      (refine a_add (by first | omega | assumption | decide) (by first | omega | assumption | decide) ?_)
      exact hK 1 _ _ ⟨by omega, fun _ => by omega, by omega⟩ (by omega) (by first | exact Gl.refl _ _ | exact Gl.drop (by repeat (first | exact List.Sublist.refl _ | exact List.Sublist.slnil | apply List.Sublist.cons_cons | apply List.Sublist.cons)))
    · refine V.a_idx 1 [.i y] rfl ?_
      ((apply a_ld1p; exact rfl); refine a_neq ?_)
      refine a_cnd (fun h3 => ?_) (fun h3 => ?_)
      · rw [if_neg (by simpa using h1 (by omega))]
      (refine a_add (by first | omega | assumption | decide) (by first | omega | assumption | decide) ?_)
      exact hK 2 _ _ ⟨by omega, fun _ => h1 (by omega), fun _ => by omega⟩ (by omega) (by first | exact Gl.refl _ _ | exact Gl.drop (by repeat (first | exact List.Sublist.refl _ | exact List.Sublist.slnil | apply List.Sublist.cons_cons | apply List.Sublist.cons)))
  · rw [if_neg (by simpa using h1 (by omega)), h2 (by omega)]
theorem c147 (x y : Nm) : AFn pr 147 [.agg (Nm.cs x), .agg (Nm.cs y)] [] (.ret (.i (cmpN x y))) := by
  refine AFn.of (s147 ?_)
  unfold A147
  (refine a_bxv fun z1 => ?_; refine a_bxv fun z2 => ?_; refine a_fld ?_; (apply a_ld1 1; exact rfl; exact rfl); refine a_fld ?_; (apply a_ld1 0; exact rfl; exact rfl); refine a_callS0 (c149) ?_; refine a_fld ?_; refine a_fld ?_; (apply a_ld1 1; exact rfl; exact rfl); refine a_fld ?_; refine a_fld ?_; (apply a_ld1 0; exact rfl; exact rfl); refine a_callS0 (c150) ?_; (apply a_bldF _; exact rfl; (try dsimp only [afill, aparts, cl, chunk, List.take, List.drop, List.nil_append, List.cons_append, List.append_nil, List.length_cons, List.length_nil, Nat.zero_add, Nat.reduceAdd, Nat.reduceMul]); try exact rfl); refine a_callS0 (c148) ?_)
  rfl
theorem c153 (x y : Nm) {z : Nat} : AFn pr 153 [.agg (Nm.cs x), .agg (Nm.cs y), .p z 0] [⟨z, [.fn 147 [] []], .box⟩] (.ret (.b (decide (x = y)))) := by
  refine AFn.ofL (s153 ?_)
  unfold A153
  (refine a_bxv fun z1 => ?_; refine a_bxv fun z2 => ?_; (apply a_ld1 2; exact rfl; exact rfl); (apply a_ldA 1; exact rfl; exact rfl); (apply a_ldA 0; exact rfl; exact rfl); refine a_call0 (c147 x y) ?_; refine a_eql ?_)
  exact ⟨ret_b (decide_eq_decide.2 (cmpN_zero x y)), (by repeat (first | exact List.Sublist.refl _ | exact List.Sublist.slnil | apply List.Sublist.cons_cons | apply List.Sublist.cons))⟩
end Go.Proofs.YtdalobojhfafbaaGreatDoor
set_option maxRecDepth 100000
set_option linter.unusedVariables false
namespace Go.Proofs.YtdalobojhfafbaaGreatDoor
open Go Go.V
theorem compactN_id : ∀ {l : List Nm}, (∀ (i : Nat) (h : i + 1 < l.length), l[i + 1] ≠ l[i]) → compactN l = l
  | [], _ => rfl
  | [x], _ => rfl
  | x :: y :: r, h => by
    rw [compactN, if_neg (fun e => h 0 (by simp) e.symm), compactN_id (l := y :: r) fun i hi => h (i + 1) (by simpa using hi)]
theorem compactN_snoc : ∀ (l : List Nm) (x y : Nm), compactN (l ++ [x, y]) = if x = y then compactN (l ++ [x]) else compactN (l ++ [x]) ++ [y]
  | [], x, y => by
    show compactN [x, y] = _
    rw [compactN]
    split
    · next h => subst h; rfl
    · rfl
  | [z], x, y => by
    have ih := compactN_snoc [] x y
    simp only [List.nil_append, List.cons_append] at ih ⊢
    rw [compactN, ih, compactN.eq_def [z, x]]
    split <;> split <;> simp_all [compactN]
  | z :: u :: l, x, y => by
    have ih := compactN_snoc (u :: l) x y
    simp only [List.cons_append] at ih ⊢
    rw [compactN, ih, compactN]
    split <;> split <;> simp_all
theorem compactN_len : ∀ l : List Nm, (compactN l).length ≤ l.length
  | [] => Nat.le_refl _
  | [x] => Nat.le_refl _
  | x :: y :: r => by
    rw [compactN]
    have := compactN_len (y :: r)
    simp only [List.length_cons] at this ⊢
    split
    · omega
    · simp only [List.length_cons]; omega
theorem take_two {l : List Nm} {j : Nat} (h : j + 1 < l.length) : l.take (j + 2) = l.take j ++ [l[j], l[j + 1]] := by
  have a := List.take_succ_eq_append_getElem h
  have b := List.take_succ_eq_append_getElem (show j < l.length by omega)
  rw [show j + 2 = j + 1 + 1 from rfl, a, b, List.append_assoc]; rfl
theorem take_one {l : List Nm} {j : Nat} (h : j < l.length) : l.take (j + 1) = l.take j ++ [l[j]] := List.take_succ_eq_append_getElem h
theorem a_ldG' {L : List Bx} {k : D → Prop} {l : List Nm} {e b c : Nat} (i j o : Nat) (ho : o = 0 + j * 5) (hi : L[i]? = some ⟨b, (l.map Nm.cs).flatten, .row e 5 c⟩) (hj : j < l.length) (h : k (.agg (Nm.cs l[j]))) : aldN 5 (.p b o) L k := by
  subst ho; exact a_ldG Nm.cs_len i j hi hj h
theorem a_stG' {L : List Bx} {ks : List Bx → Prop} {l : List Nm} {y : Nm} {e b c : Nat} (i j o : Nat) (ho : o = 0 + j * 5) (hi : L[i]? = some ⟨b, (l.map Nm.cs).flatten, .row e 5 c⟩) (hj : j < l.length) (h : ks (L.set i ⟨b, ((l.set j y).map Nm.cs).flatten, .row e 5 c⟩)) : ast 5 (.p b o) (.agg (Nm.cs y)) L ks := by
  subst ho; exact a_stG Nm.cs_len Nm.cs_one i j hi hj h
theorem vals_zero (n : Nat) : vals (reps n [.string ⟨#[]⟩, .int .i64 0, .string ⟨#[]⟩, .int .i64 0, .slice none 0 0]) = ((List.replicate n (([], 0) : Nm)).map Nm.cs).flatten := by
  induction n with
  | zero => rfl
  | succ n ih => rw [List.replicate_succ, List.map_cons, List.flatten_cons, ← ih]; rfl
theorem c152 {b c e cp z : Nat} {l : List Nm} (h0 : 0 < l.length) (hl : l.length ≤ 1000000) :
    AUp pr 152 [.sl b 0 l.length c, .fn 153 [] [.p z 0]] [⟨b, (l.map Nm.cs).flatten, .row e 5 cp⟩, ⟨z, [.fn 147 [] []], .box⟩]
      (.ret (.sl b 0 (compactN l).length c)) [⟨b, ((compactN l).map Nm.cs).flatten, .row e 5 cp⟩, ⟨z, [.fn 147 [] []], .box⟩] := by
  refine ASpec.small fun hsm => AUp.ofGe (s152 ?_)
  rw [Smalls, Small] at hsm
  have hc : l.length ≤ c := hsm.1.1
  clear hsm
  unfold A152
  (refine a_lenO ?_; refine a_lss ?_)
  refine a_cnd (fun h1 => ?_) (fun h1 => ?_)
  · have : compactN l = l := compactN_id fun i hi => by omega
    rw [this]
    exact Ge.refl _ _
  refine a_lp (σ := Nat) (fun i => [.i i]) (fun _ => [⟨b, (l.map Nm.cs).flatten, .row e 5 cp⟩, ⟨z, [.fn 147 [] []], .box⟩]) (fun i => 1 ≤ i ∧ i ≤ l.length ∧ ∀ (j : Nat) (hj : j + 1 < l.length), j + 1 < i → l[j + 1] ≠ l[j]) (fun i => l.length - i) 1 (by first | exact Gl.refl _ _ | exact Gl.drop (by repeat (first | exact List.Sublist.refl _ | exact List.Sublist.slnil | apply List.Sublist.cons_cons | apply List.Sublist.cons))) ⟨by omega, by omega, fun j _ _ => by omega⟩ ?_
  rintro i K ⟨hi1, hi, hd⟩ hK
  dsimp only [aix0, aix1, aix2, aix3, aix4, aix5, aix6, aix7, aix8]
  (refine a_lenO ?_; refine a_lss ?_)
  refine a_cnd (fun h2 => ?_) (fun h2 => ?_)
  · have hlt : i < l.length := by omega
    have e1 : ((i : Nat) : Int) - 1 = ((i - 1 : Nat) : Int) := by omega
    refine a_idxON i hlt ?_
    refine a_ldG' 0 i _ rfl rfl hlt ?_
    (refine a_sub (by first | omega | assumption | decide) (by first | omega | assumption | decide) ?_)
    rw [e1]
    refine a_idxON (i - 1) (by omega) ?_
    refine a_ldG' 0 (i - 1) _ rfl rfl (by omega) ?_
    refine a_cfS ?_
    refine a_callSF1 1 rfl (c153 _ _) ?_
    refine a_cnd (fun h3 => ?_) (fun h3 => ?_)
    · -- a first one is told twice
      refine a_slcOf i (by omega) (by omega) ?_
      refine a_lp3 (σ := Nat) (τ := Nat) (ρ := List Nm) (fun k q _ => [.i k, .i q]) (fun k q m => [⟨b, (m.map Nm.cs).flatten, .row e 5 cp⟩, ⟨z, [.fn 147 [] []], .box⟩])
        (fun k q m => 1 ≤ q ∧ i + q ≤ l.length ∧ k < i + q ∧ m.length = l.length ∧ m.take k = compactN (l.take (i + q)) ∧ (∀ (j : Nat) (h : j < m.length) (h' : j < l.length), i + q ≤ j + 1 → m[j] = l[j])) (fun _ q _ => l.length - q) i 1 l (by first | exact Gl.refl _ _ | exact Gl.drop (by repeat (first | exact List.Sublist.refl _ | exact List.Sublist.slnil | apply List.Sublist.cons_cons | apply List.Sublist.cons))) ?_ ?_
      · refine ⟨Nat.le_refl _, by omega, by omega, rfl, ?_, fun j h h' _ => rfl⟩
        obtain ⟨q, rfl⟩ : ∃ q, i = q + 1 := ⟨i - 1, by omega⟩
        rw [show q + 1 + 1 = q + 2 from rfl, take_two hlt, compactN_snoc, if_pos (by simpa using h3.symm), ← take_one (by omega)]
        refine (compactN_id fun j hj => ?_).symm
        simp only [List.length_take] at hj
        rw [List.getElem_take, List.getElem_take]
        exact hd j (by omega) (by omega)
      rintro k q m K2 ⟨hq1, hq, hk, hm, ht, hr⟩ hK2
      dsimp only [aix0, aix1, aix2, aix3, aix4, aix5, aix6, aix7, aix8]
      (refine a_lenO ?_; refine a_lss ?_)
      refine a_cnd (fun h4 => ?_) (fun h4 => ?_)
      · have hlt2 : i + q < l.length := by omega
        have e2 : ((q : Nat) : Int) - 1 = ((q - 1 : Nat) : Int) := by omega
        have v1 : m[i + q]'(by omega) = l[i + q] := hr _ (by omega) hlt2 (by omega)
        have v2 : m[i + (q - 1)]'(by omega) = l[i + (q - 1)] := hr _ (by omega) (by omega) (by omega)
        refine a_idxON q (by omega) ?_
        refine a_ldG' 0 (i + q) _ (by omega) rfl (by omega) ?_
        (refine a_sub (by first | omega | assumption | decide) (by first | omega | assumption | decide) ?_)
        rw [e2]
        refine a_idxON (q - 1) (by omega) ?_
        refine a_ldG' 0 (i + (q - 1)) _ (by omega) rfl (by omega) ?_
        refine a_cfS ?_
        refine a_callSF1 1 rfl (c153 _ _) ?_
        (refine a_notd ?_)
        rw [v1, v2]
        have et : l.take (i + (q + 1)) = l.take (i + (q - 1)) ++ [l[i + (q - 1)]'(by omega), l[i + q]] := by
          have := take_two (l := l) (j := i + (q - 1)) (by omega)
          rw [show i + (q + 1) = i + (q - 1) + 2 by omega, this]
          congr 3
          congr 1; omega
        have et1 : l.take (i + q) = l.take (i + (q - 1)) ++ [l[i + (q - 1)]'(by omega)] := by
          rw [show i + q = i + (q - 1) + 1 by omega]; exact take_one (by omega)
        refine a_cnd (fun h5 => ?_) (fun h5 => ?_)
        · refine a_idxON q (by omega) ?_
          refine a_ldG' 0 (i + q) _ (by omega) rfl (by omega) ?_
          refine a_idxON k (by omega) ?_
          refine a_stG' 0 k _ rfl rfl (by omega) ?_
          (refine a_add (by first | omega | assumption | decide) (by first | omega | assumption | decide) ?_; refine a_add (by first | omega | assumption | decide) (by first | omega | assumption | decide) ?_)
          refine hK2 (k + 1) (q + 1) (m.set k (m[i + q]'(by omega))) _ _ ⟨by omega, by omega, by omega, by rw [List.length_set]; exact hm, ?_, ?_⟩ (by omega) (by first | exact Gl.refl _ _ | exact Gl.drop (by repeat (first | exact List.Sublist.refl _ | exact List.Sublist.slnil | apply List.Sublist.cons_cons | apply List.Sublist.cons)))
          · rw [et, compactN_snoc, if_neg (fun e => h5 e.symm), ← et1, ← ht, v1, List.take_succ_eq_append_getElem (by rw [List.length_set]; omega), List.take_set_of_le (Nat.le_refl _), List.getElem_set_self]
          · intro j h h' hj
            rw [List.getElem_set, if_neg (by omega)]
            exact hr j (by simpa using h) h' (by omega)
        · have h5' := Classical.not_not.1 h5
          (refine a_add (by first | omega | assumption | decide) (by first | omega | assumption | decide) ?_)
          refine hK2 k (q + 1) m _ _ ⟨by omega, by omega, by omega, hm, ?_, fun j h h' hj => hr j h h' (by omega)⟩ (by omega) (by first | exact Gl.refl _ _ | exact Gl.drop (by repeat (first | exact List.Sublist.refl _ | exact List.Sublist.slnil | apply List.Sublist.cons_cons | apply List.Sublist.cons)))
          rw [et, compactN_snoc, if_pos h5'.symm, ← et1, ← ht]
      · have hend : i + q = l.length := by omega
        rw [hend, List.take_length] at ht
        have hkc : (compactN l).length = k := by rw [← ht, List.length_take]; omega
        refine a_slcOf k (by omega) (by omega) ?_
        have hclr : ∀ {L : List Bx} {ks : List Bx → Prop}, L[0]? = some ⟨b, (m.map Nm.cs).flatten, .row e 5 cp⟩ → ks (L.set 0 ⟨b, ((m.take k ++ List.replicate (l.length - k) (([], 0) : Nm)).map Nm.cs).flatten, .row e 5 cp⟩) →
            aclr [.string ⟨#[]⟩, .int .i64 0, .string ⟨#[]⟩, .int .i64 0, .slice none 0 0] 5 (.sl b (0 + k * 5) (l.length - k) (c - k)) L ks := by
          intro L ks hL h
          show (bif Nat.beq (l.length - k) 0 then _ else _)
          rw [Bool.cond_eq_ite, if_neg (by rw [Nat.beq_eq]; omega), vals_zero]
          refine V.a_st 0 _ hL (by show (((List.replicate (l.length - k) (([], 0) : Nm)).map Nm.cs).flatten).length = _; rw [flat_len Nm.cs_len, List.length_replicate]) (flat_one Nm.cs_one _) (Nat.ble_eq_true_of_le (by rw [flat_len Nm.cs_len, hm]; omega)) ?_ h
          show _ ++ ((List.replicate (l.length - k) (([], 0) : Nm)).map Nm.cs).flatten ++ _ = _
          rw [Nat.zero_add, flat_take Nm.cs_len, List.drop_eq_nil_of_le (by rw [flat_len Nm.cs_len, hm]; omega), List.append_nil, List.map_append, List.flatten_append]
        refine hclr rfl ?_
        refine a_slcOt k (by omega) ?_
        rw [hkc]
        refine ge_gl ?_
        have hcut := Gl.cut (L := [⟨b, ((m.take k ++ List.replicate (l.length - k) (([], 0) : Nm)).map Nm.cs).flatten, .row e 5 cp⟩, ⟨z, [.fn 147 [] []], .box⟩]) (ds := AE.ds (.ret (.sl b 0 k c))) (n := k) 0 rfl (by rw [flat_len Nm.cs_len, List.length_append, List.length_replicate, List.length_take]; omega)
        rw [flat_take Nm.cs_len, List.take_left' (by rw [List.length_take]; omega), ht] at hcut
        rw [ht]
        exact hcut
    · (refine a_add (by first | omega | assumption | decide) (by first | omega | assumption | decide) ?_)
      refine hK (i + 1) _ _ ⟨by omega, by omega, fun j hj hji => ?_⟩ (by omega) (by first | exact Gl.refl _ _ | exact Gl.drop (by repeat (first | exact List.Sublist.refl _ | exact List.Sublist.slnil | apply List.Sublist.cons_cons | apply List.Sublist.cons)))
      by_cases hji' : j + 1 = i
      · subst hji'; simpa using h3
      · exact hd j hj (by omega)
  · have : compactN l = l := compactN_id fun j hj => hd j hj (by omega)
    rw [this]
    exact Ge.refl _ _
theorem c152n {f : D} : AFn pr 152 [.nil, f] [] (.ret .nil) := by
  refine AFn.of (s152 ?_)
  unfold A152
  (refine a_lenO ?_; refine a_lss ?_; refine a_cndbT rfl ?_)
  rfl
end Go.Proofs.YtdalobojhfafbaaGreatDoor
set_option maxRecDepth 100000
set_option linter.unusedVariables false
namespace Go.Proofs.YtdalobojhfafbaaGreatDoor
open Go Go.V
theorem collT_len (t : Tm) : (collT t).length ≤ t.size := by
  induction t using Tm.ind' with
  | h t ih =>
    rw [collT_eq, Tm.size_eq, List.length_append]
    have key : ∀ a : List Tm, (∀ x ∈ a, (collT x).length ≤ x.size) → (collL a).length ≤ Tm.sizeL a := by
      intro a
      induction a with
      | nil => intro _; rw [collL]; simp
      | cons x r ihr => intro h; rw [collL, List.length_append, Tm.sizeL_cons]; have := h x (by simp); have := ihr fun y hy => h y (by simp [hy]); omega
    have := key t.a ih
    split
    · simp only [List.length_nil]; omega
    · simp only [List.length_singleton]; omega
def gat (bl ba b c : Nat) (l : List Nm) : List Bx :=
  gb Nm.cs 68 5 b c l ++ [⟨ba, [.fn 146 [] [.p bl 0, .p ba 0]], .box⟩, ⟨bl, [gv b c l], .box⟩]
theorem c146 (t : Tm) : ∀ {b c bl ba : Nat} {l : List Nm}, l.length + t.size ≤ 1000000 →
    ASpec pr 146 [t.d, .p bl 0, .p ba 0] (gat bl ba b c l) fun a L' => a = .ret (.tuple []) ∧ ∃ b' c', L' = gat bl ba b' c' (l ++ collT t) := by
  induction t using Tm.ind' with
  | h t ih =>
    intro b c bl ba l hsz
    refine ASpec.small fun hsm => ASpec.sub (s146 ?_)
    rw [Smalls] at hsm
    have hs := Tm.small (Tm.small_d hsm.1)
    rw [Tm.size_eq] at hsz
    unfold A146
    refine a_bxv fun z1 => ?_
    generalize hn : (if t.nm = ⟨#[]⟩ then [] else [(t.nm.data.toList, t.op)] : List Nm) = mine
    have hml : mine.length ≤ 1 := by rw [← hn]; split <;> simp
    rw [collT_eq, hn]
    refine a_jn (σ := Nat × Nat) (fun _ => []) (fun x => ⟨z1, t.cs, .box⟩ :: gat bl ba x.1 x.2 (l ++ mine)) (fun _ => True) ?_ fun J hJ => ?_
    · rintro ⟨b1, c1⟩ _
      (refine a_fld ?_; (apply a_ld1 0; exact rfl; exact rfl); refine Tm.a_len ?_)
      refine a_lp3 (σ := Nat) (τ := Nat) (ρ := Nat) (fun i _ _ => [.i i]) (fun i b c => ⟨z1, t.cs, .box⟩ :: gat bl ba b c (l ++ mine ++ collL (t.a.take i))) (fun i _ _ => i ≤ t.a.length) (fun i _ _ => t.a.length - i) 0 b1 c1 (by rw [List.take_zero, collL, List.append_nil]; exact Gl.refl _ _) (Nat.zero_le _) ?_
      rintro i b2 c2 K hi hK
      dsimp only [aix0, aix1, aix2, aix3, aix4, aix5, aix6, aix7, aix8]
      (refine a_lss ?_)
      refine a_cnd (fun h => ?_) (fun h => ?_)
      · have hlt : i < t.a.length := by omega
        refine Tm.a_idx i hlt ?_
        have hcl : (collL (t.a.take i)).length + t.a[i].size ≤ Tm.sizeL t.a := by
          have e : t.a = t.a.take i ++ (t.a[i] :: t.a.drop (i + 1)) := by rw [← List.drop_eq_getElem_cons hlt, List.take_append_drop]
          have happ : ∀ p q : List Tm, Tm.sizeL (p ++ q) = Tm.sizeL p + Tm.sizeL q := fun p q => by
            induction p with
            | nil => rw [Tm.sizeL_nil]; simp
            | cons x r ihr => rw [List.cons_append, Tm.sizeL_cons, Tm.sizeL_cons, ihr]; omega
          have hcc : ∀ p : List Tm, (collL p).length ≤ Tm.sizeL p := fun p => by
            induction p with
            | nil => rw [collL]; simp
            | cons x r ihr => rw [collL, List.length_append, Tm.sizeL_cons]; have := collT_len x; omega
          have h1 := congrArg Tm.sizeL e
          rw [happ, Tm.sizeL_cons] at h1
          have := hcc (t.a.take i)
          omega
        have hih := fun b c => ih _ (List.getElem_mem hlt) (b := b) (c := c) (bl := bl) (ba := ba) (l := l ++ mine ++ collL (t.a.take i)) (by rw [List.length_append, List.length_append]; omega)
        have et : l ++ mine ++ collL (t.a.take i) ++ collT t.a[i] = l ++ mine ++ collL (t.a.take (i + 1)) := by
          rw [List.take_succ_eq_append_getElem hlt, collL_app, collL, collL, List.append_nil, List.append_assoc]
        simp only [et] at hih
        specialize hK (i + 1)
        generalize l ++ mine ++ collL (t.a.take (i + 1)) = l3 at hih hK
        generalize l ++ mine ++ collL (t.a.take i) = l2 at hih ⊢
        have fin : ∀ {x : Tm} {M : List Bx} {b c}, ASpec pr 146 [x.d, .p bl 0, .p ba 0] (gat bl ba b c l2) (fun a L' => a = .ret (.tuple []) ∧ ∃ b' c', L' = gat bl ba b' c' l3) → True := fun _ => trivial
        cases l2 with
        | nil =>
          ((apply a_ldAp; exact rfl); refine a_bx fun z2 => ?_; refine a_stA 0 rfl rfl rfl rfl ?_; (apply a_ld1 2; exact rfl; exact rfl); (apply a_ldA 0; exact rfl; exact rfl); refine a_cfW ?_)
          refine a_callM [⟨z2, t.a[i].cs, .box⟩, ⟨z1, t.cs, .box⟩] rfl (hih 0 0) ?_
          rintro a L' ⟨rfl, b3, c3, rfl⟩
          show aar _ _ _ _
          (refine a_add (by first | omega | assumption | decide) (by first | omega | assumption | decide) ?_)
          exact hK b3 c3 _ _ (by omega) (by omega) (by first | exact Gl.refl _ _ | exact Gl.drop (by repeat (first | exact List.Sublist.refl _ | exact List.Sublist.slnil | apply List.Sublist.cons_cons | apply List.Sublist.cons)))
        | cons y l2 =>
          ((apply a_ldAp; exact rfl); refine a_bx fun z2 => ?_; refine a_stA 0 rfl rfl rfl rfl ?_; (apply a_ld1 3; exact rfl; exact rfl); (apply a_ldA 0; exact rfl; exact rfl); refine a_cfW ?_)
          refine a_callM [⟨z2, t.a[i].cs, .box⟩, ⟨z1, t.cs, .box⟩] rfl (hih b2 c2) ?_
          rintro a L' ⟨rfl, b3, c3, rfl⟩
          show aar _ _ _ _
          (refine a_add (by first | omega | assumption | decide) (by first | omega | assumption | decide) ?_)
          exact hK b3 c3 _ _ (by omega) (by omega) (by first | exact Gl.refl _ _ | exact Gl.drop (by repeat (first | exact List.Sublist.refl _ | exact List.Sublist.slnil | apply List.Sublist.cons_cons | apply List.Sublist.cons)))
      · have hi : i = t.a.length := by omega
        subst hi
        rw [List.take_length]
        exact ⟨gat bl ba b2 c2 (l ++ mine ++ collL t.a), List.sublist_cons_self _ _, rfl, b2, c2, by rw [List.append_assoc]⟩
    · (refine a_fld ?_; (apply a_ld1 0; exact rfl; exact rfl); refine a_neqS ?_)
      refine a_cnd (fun h => ?_) (fun h => ?_)
      · rw [if_neg h] at hn
        obtain ⟨s, hs'⟩ : ∃ s, t.nm = str s := ⟨_, str_of _⟩
        have hx : mine = [(s, t.op)] := by rw [← hn, hs']; simp [str]
        rw [hx] at hJ
        cases l with
        | nil =>
          unfold gat
          simp only [gb, gv, List.nil_append]
          ((apply a_ld1 2; exact rfl; exact rfl); refine a_fld ?_; (apply a_ld1 0; exact rfl; exact rfl); refine a_fld ?_; (apply a_ld1 0; exact rfl; exact rfl); refine a_fld ?_; (apply a_ld1 0; exact rfl; exact rfl); refine a_bld [_, _, _, .nil] rfl rfl ?_; (apply a_bld _; exact rfl; (try dsimp only [afill, aparts, cl, chunk, List.take, List.drop, List.nil_append, List.cons_append, List.append_nil, List.length_cons, List.length_nil, Nat.zero_add, Nat.reduceAdd, Nat.reduceMul]); try exact rfl); (apply a_bldS _; exact rfl; (try dsimp only [afill, aparts, cl, chunk, List.take, List.drop, List.nil_append, List.cons_append, List.append_nil, List.length_cons, List.length_nil, Nat.zero_add, Nat.reduceAdd, Nat.reduceMul]); try exact rfl))
          rw [hs']
          refine a_appG0 (cs := Nm.cs) (x := (s, t.op)) Nm.cs_len Nm.cs_one (by omega) fun b' c' => ?_
          (refine a_stA 3 rfl rfl rfl rfl ?_)
          exact hJ (b', c') _ _ trivial (Gl.perm (List.Perm.swap _ _ _))
        | cons y l =>
          unfold gat
          simp only [gb, List.cons_append, List.nil_append]
          ((apply a_ld1 3; exact rfl; exact rfl); refine a_fld ?_; (apply a_ld1 0; exact rfl; exact rfl); refine a_fld ?_; (apply a_ld1 0; exact rfl; exact rfl); refine a_fld ?_; (apply a_ld1 0; exact rfl; exact rfl); refine a_bld [_, _, _, .nil] rfl rfl ?_; (apply a_bld _; exact rfl; (try dsimp only [afill, aparts, cl, chunk, List.take, List.drop, List.nil_append, List.cons_append, List.append_nil, List.length_cons, List.length_nil, Nat.zero_add, Nat.reduceAdd, Nat.reduceMul]); try exact rfl); (apply a_bldS _; exact rfl; (try dsimp only [afill, aparts, cl, chunk, List.take, List.drop, List.nil_append, List.cons_append, List.append_nil, List.length_cons, List.length_nil, Nat.zero_add, Nat.reduceAdd, Nat.reduceMul]); try exact rfl))
          rw [hs']
          refine a_appG1 (cs := Nm.cs) (x := (s, t.op)) Nm.cs_len Nm.cs_one 1 rfl (by simp only [List.length_cons] at hsz; omega) fun b' c' => ?_
          (refine a_stA 3 rfl rfl rfl rfl ?_)
          exact hJ (b', c') _ _ trivial (by first | exact Gl.refl _ _ | exact Gl.drop (by repeat (first | exact List.Sublist.refl _ | exact List.Sublist.slnil | apply List.Sublist.cons_cons | apply List.Sublist.cons)))
      · have h := Classical.not_not.1 h
        rw [if_pos h] at hn
        subst hn
        rw [List.append_nil] at hJ
        exact hJ (b, c) _ _ trivial (by first | exact Gl.refl _ _ | exact Gl.drop (by repeat (first | exact List.Sublist.refl _ | exact List.Sublist.slnil | apply List.Sublist.cons_cons | apply List.Sublist.cons)))
end Go.Proofs.YtdalobojhfafbaaGreatDoor
