/- Contracts of the document's names, sizes, sorts, and its Norm. -/
import Derived.Test.YtokpeggkofjclaaGreatDoorC7
import Derived.Test.YtokpeggkofjclaaGreatDoorN4
set_option maxRecDepth 100000
set_option linter.unusedVariables false
namespace Go.Proofs.YtokpeggkofjclaaGreatDoor
open Go Go.V
theorem c141 {x : UInt8} : AFn pr 141 [.val (.int .u8 x.toNat)] [] (.ret (.b (letterB x))) := by
  refine AFn.of (s141 ?_)
  unfold A141
  (refine a_geq ?_)
  refine a_jn (σ := Bool) (fun b => [.b b]) (fun _ => []) (fun b => b = (decide (97 ≤ x.toNat) && decide (x.toNat ≤ 122))) ?_ fun J hJ => ?_
  · rintro _ rfl
    dsimp only [aix0, aix1, aix2, aix3, aix4, aix5, aix6, aix7, aix8]
    refine a_cndb (fun h => ?_) (fun h => ?_)
    · exact ret_b (by unfold letterB; rw [h]; rfl)
    (refine a_geq ?_)
    refine a_jn (σ := Bool) (fun b => [.b b]) (fun _ => []) (fun b => b = (decide (65 ≤ x.toNat) && decide (x.toNat ≤ 90))) ?_ fun J hJ => ?_
    · rintro _ rfl
      exact ret_b (by unfold letterB; rw [h]; rfl)
    · refine a_cnd (fun h1 => ?_) (fun h1 => ?_)
      · (refine a_leq ?_)
        exact hJ (decide (((x.toNat : Nat) : Int) ≤ 90)) _ _ (by rw [decide_eq_true (show 65 ≤ x.toNat by omega), Bool.true_and]; exact decide_eq_decide.2 (by omega)) (by first | exact Gl.refl _ _ | exact Gl.drop (by repeat (first | exact List.Sublist.refl _ | exact List.Sublist.slnil | apply List.Sublist.cons_cons | apply List.Sublist.cons)))
      · exact hJ false _ _ (by rw [decide_eq_false (show ¬ 65 ≤ x.toNat by omega), Bool.false_and]) (by first | exact Gl.refl _ _ | exact Gl.drop (by repeat (first | exact List.Sublist.refl _ | exact List.Sublist.slnil | apply List.Sublist.cons_cons | apply List.Sublist.cons)))
  · refine a_cnd (fun h1 => ?_) (fun h1 => ?_)
    · (refine a_leq ?_)
      exact hJ (decide (((x.toNat : Nat) : Int) ≤ 122)) _ _ (by rw [decide_eq_true (show 97 ≤ x.toNat by omega), Bool.true_and]; exact decide_eq_decide.2 (by omega)) (by first | exact Gl.refl _ _ | exact Gl.drop (by repeat (first | exact List.Sublist.refl _ | exact List.Sublist.slnil | apply List.Sublist.cons_cons | apply List.Sublist.cons)))
    · exact hJ false _ _ (by rw [decide_eq_false (show ¬ 97 ≤ x.toNat by omega), Bool.false_and]) (by first | exact Gl.refl _ _ | exact Gl.drop (by repeat (first | exact List.Sublist.refl _ | exact List.Sublist.slnil | apply List.Sublist.cons_cons | apply List.Sublist.cons)))
theorem c121 (op : Int) : AFn pr 121 [.i op] [] (.ret (.b (decide (op = 2) || decide (op = 7) || decide (op = 14) || decide (op = 15)))) := by
  refine AFn.of (s121 ?_)
  unfold A121
  (refine a_eql ?_)
  refine a_cnd (fun h1 => ?_) (fun h1 => ?_)
  · exact ret_b (by simp [h1])
  (refine a_eql ?_)
  refine a_cnd (fun h2 => ?_) (fun h2 => ?_)
  · exact ret_b (by simp [h2])
  (refine a_eql ?_)
  refine a_cnd (fun h3 => ?_) (fun h3 => ?_)
  · exact ret_b (by simp [h3])
  (refine a_eql ?_)
  exact ret_b (by simp [h1, h2, h3])
theorem c118 (t : Tm) : ∀ {n : Int}, 0 ≤ n → n ≤ 2001 → AFn pr 118 [t.d, .i n] [] (.ret (.i (leftT t n))) := by
  induction t using Tm.ind' with
  | h t ih =>
    intro n h0 h1
    refine AFn.small fun hs => AFn.of (s118 ?_)
    rw [Smalls] at hs
    have hs := Tm.small (Tm.small_d hs.1)
    unfold A118
    (refine a_bxv fun z1 => ?_; refine a_eql ?_)
    refine a_cnd (fun h => ?_) (fun h => ?_)
    · exact ret_i (by rw [leftT_eq, if_pos h])
    rw [leftT_eq, if_neg h]
    (refine a_sub (by first | omega | assumption | decide) (by first | omega | assumption | decide) ?_)
    refine a_lp2 (σ := Int) (τ := Nat) (fun m i => [.i m, .i i]) (fun _ _ => [⟨z1, t.cs, .box⟩]) (fun m i => i ≤ t.a.length ∧ 0 ≤ m ∧ m ≤ 2000 ∧ leftL (t.a.drop i) m = leftL t.a (n - 1)) (fun _ i => t.a.length - i) (n - 1) 0 (by first | exact Gl.refl _ _ | exact Gl.drop (by repeat (first | exact List.Sublist.refl _ | exact List.Sublist.slnil | apply List.Sublist.cons_cons | apply List.Sublist.cons))) ⟨Nat.zero_le _, by omega, by omega, rfl⟩ ?_
    rintro m i K ⟨hi, hm0, hm1, hd⟩ hK
    dsimp only [aix0, aix1, aix2, aix3, aix4, aix5, aix6, aix7, aix8]
    refine a_jn (σ := Unit) (fun _ => []) (fun _ => [⟨z1, t.cs, .box⟩]) (fun _ => i < t.a.length ∧ m > 0) ?_ fun J hJ => ?_
    · rintro _ ⟨hlt, hpos⟩
      rw [List.drop_eq_getElem_cons hlt, leftL, if_pos hpos] at hd
      have hb := leftT_min t.a[i] m hm0
      (refine a_fld ?_; (apply a_ld1 0; exact rfl; exact rfl))
      refine Tm.a_idx i hlt ?_
      ((apply a_ldAp; exact rfl))
      refine a_call0 (ih _ (List.getElem_mem hlt) hm0 (by omega)) ?_
      (refine a_add (by first | omega | assumption | decide) (by first | omega | assumption | decide) ?_)
      exact hK _ (i + 1) _ _ ⟨by omega, by rw [hb]; omega, by rw [hb]; have := t.a[i].size_pos; omega, hd⟩ (by omega) (by first | exact Gl.refl _ _ | exact Gl.drop (by repeat (first | exact List.Sublist.refl _ | exact List.Sublist.slnil | apply List.Sublist.cons_cons | apply List.Sublist.cons)))
    · (refine a_fld ?_; (apply a_ld1 0; exact rfl; exact rfl); refine Tm.a_len ?_; refine a_lss ?_)
      refine a_cnd (fun h2 => ?_) (fun h2 => ?_)
      · (refine a_gtr ?_)
        refine a_cnd (fun h3 => ?_) (fun h3 => ?_)
        · exact hJ () _ _ ⟨by omega, by omega⟩ (by first | exact Gl.refl _ _ | exact Gl.drop (by repeat (first | exact List.Sublist.refl _ | exact List.Sublist.slnil | apply List.Sublist.cons_cons | apply List.Sublist.cons)))
        · rw [List.drop_eq_getElem_cons (by omega), leftL, if_neg (by omega)] at hd
          exact ret_i hd
      · rw [List.drop_eq_nil_of_le (by omega), leftL] at hd
        exact ret_i hd
theorem c78 (t : Tm) : AFn pr 78 [t.d] [] (.ret (.i (2001 - leftT t 2001))) := by
  refine AFn.of (s78 ?_)
  unfold A78
  have hb := leftT_min t 2001 (by omega)
  have := t.size_pos
  (refine a_bxv fun z1 => ?_; (apply a_ldA 0; exact rfl; exact rfl); refine a_call0 (c118 _ (by first | omega | assumption | decide) (by first | omega | assumption | decide)) ?_; refine a_sub (by first | omega | assumption | decide) (by first | omega | assumption | decide) ?_)
  rfl
theorem c98 {s : ByteArray} : AFn pr 98 [.s s] [] (.ret (.b (nameF s.data.toList))) := by
  refine AFn.small fun hs => AFn.of (s98 ?_)
  rw [Smalls, Small] at hs
  have hs : s.size ≤ 9223372036854775807 := hs.1
  obtain ⟨l, rfl⟩ : ∃ l, s = str l := ⟨_, str_of s⟩
  have e : (str l).data.toList = l := by simp [str]
  rw [e, nameF_ref]
  rw [str_size] at hs
  clear e
  unfold A98
  refine a_jn (σ := Unit) (fun _ => []) (fun _ => []) (fun _ => l.length ≤ 16 ∧ refName l = l.all otherB) ?_ fun J hJ => ?_
  · rintro _ ⟨hl, hr⟩
    rw [hr]
    refine a_lp (σ := Nat) (fun i => [.i i]) (fun _ => []) (fun i => i ≤ l.length ∧ (l.drop i).all otherB = l.all otherB) (fun i => l.length - i) 0 (by first | exact Gl.refl _ _ | exact Gl.drop (by repeat (first | exact List.Sublist.refl _ | exact List.Sublist.slnil | apply List.Sublist.cons_cons | apply List.Sublist.cons))) ⟨Nat.zero_le _, rfl⟩ ?_
    rintro i K ⟨hi, hd⟩ hK
    dsimp only [aix0, aix1, aix2, aix3, aix4, aix5, aix6, aix7, aix8]
    (refine a_lenStr ?_; refine a_lss ?_)
    refine a_cnd (fun h => ?_) (fun h => ?_)
    · have hlt : i < l.length := by omega
      rw [List.drop_eq_getElem_cons hlt, List.all_cons] at hd
      obtain ⟨x, hx⟩ : ∃ x, l[i]? = some x := ⟨_, List.getElem?_eq_getElem hlt⟩
      have ex : l[i] = x := by rw [List.getElem?_eq_getElem hlt] at hx; exact Option.some.inj hx
      rw [ex] at hd
      refine a_idxStr i hx ?_
      (refine a_call0 (c141) ?_; refine a_not ?_)
      refine a_cndb (fun h1 => ?_) (fun h1 => ?_)
      · have h1 : letterB x = false := by simpa using h1
        rw [otherB_no h1] at hd
        refine a_idxStr i hx ?_
        (refine a_lss ?_)
        refine a_jn (σ := Bool) (fun b => [.b b]) (fun _ => []) (fun b => b = !(decide (48 ≤ x.toNat) && decide (x.toNat ≤ 57))) ?_ fun J hJ => ?_
        · rintro _ rfl
          dsimp only [aix0, aix1, aix2, aix3, aix4, aix5, aix6, aix7, aix8]
          refine a_cndb (fun h2 => ?_) (fun h2 => ?_)
          · have h2 : (decide (48 ≤ x.toNat) && decide (x.toNat ≤ 57)) = false := by rw [Bool.not_eq_true'] at h2; exact h2
            rw [h2, Bool.false_or] at hd
            refine a_idxStr i hx ?_
            (refine a_neq ?_)
            refine a_cnd (fun h3 => ?_) (fun h3 => ?_)
            · rw [decide_eq_false (by omega)] at hd
              exact ret_b hd
            · rw [decide_eq_true (by omega)] at hd
              (refine a_add (by first | omega | assumption | decide) (by first | omega | assumption | decide) ?_)
              exact hK (i + 1) _ _ ⟨by omega, by rw [← hd]; rfl⟩ (by omega) (by first | exact Gl.refl _ _ | exact Gl.drop (by repeat (first | exact List.Sublist.refl _ | exact List.Sublist.slnil | apply List.Sublist.cons_cons | apply List.Sublist.cons)))
          · have h2 : (decide (48 ≤ x.toNat) && decide (x.toNat ≤ 57)) = true := by rw [Bool.not_eq_false'] at h2; exact h2
            rw [h2] at hd
            (refine a_add (by first | omega | assumption | decide) (by first | omega | assumption | decide) ?_)
            exact hK (i + 1) _ _ ⟨by omega, by rw [← hd]; rfl⟩ (by omega) (by first | exact Gl.refl _ _ | exact Gl.drop (by repeat (first | exact List.Sublist.refl _ | exact List.Sublist.slnil | apply List.Sublist.cons_cons | apply List.Sublist.cons)))
        · refine a_cnd (fun h2 => ?_) (fun h2 => ?_)
          · exact hJ true _ _ (by rw [decide_eq_false (show ¬ 48 ≤ x.toNat by omega)]; rfl) (by first | exact Gl.refl _ _ | exact Gl.drop (by repeat (first | exact List.Sublist.refl _ | exact List.Sublist.slnil | apply List.Sublist.cons_cons | apply List.Sublist.cons)))
          · refine a_idxStr i hx ?_
            (refine a_gtr ?_)
            exact hJ (decide (((x.toNat : Nat) : Int) > 57)) _ _ (by rw [decide_eq_true (show 48 ≤ x.toNat by omega), Bool.true_and, ← decide_not]; exact decide_eq_decide.2 (by omega)) (by first | exact Gl.refl _ _ | exact Gl.drop (by repeat (first | exact List.Sublist.refl _ | exact List.Sublist.slnil | apply List.Sublist.cons_cons | apply List.Sublist.cons)))
      · have h1 : letterB x = true := by simpa using h1
        (refine a_add (by first | omega | assumption | decide) (by first | omega | assumption | decide) ?_)
        refine hK (i + 1) _ _ ⟨by omega, ?_⟩ (by omega) (by first | exact Gl.refl _ _ | exact Gl.drop (by repeat (first | exact List.Sublist.refl _ | exact List.Sublist.slnil | apply List.Sublist.cons_cons | apply List.Sublist.cons)))
        rw [← hd, otherB_yes h1]; rfl
    · rw [List.drop_eq_nil_of_le (by omega)] at hd
      exact ret_b hd
  · (refine a_eqlS ?_)
    refine a_cnd (fun h1 => ?_) (fun h1 => ?_)
    · have h1 := str_inj h1
      subst h1
      exact ret_b rfl
    cases l with
    | nil => exact absurd rfl h1
    | cons x r =>
    (refine a_lenStr ?_; refine a_gtr ?_)
    refine a_cnd (fun h2 => ?_) (fun h2 => ?_)
    · exact ret_b (by rw [refName, decide_eq_false (by omega)]; rfl)
    refine a_idxStr 0 (c := x) rfl ?_
    (refine a_call0 (c141) ?_; refine a_not ?_)
    refine a_cndb (fun h3 => ?_) (fun h3 => ?_)
    · exact ret_b (by rw [refName, show letterB x = false by simpa using h3, Bool.and_false]; rfl)
    · exact hJ () _ _ ⟨by omega, by rw [refName, show letterB x = true by simpa using h3, decide_eq_true (by omega)]; rfl⟩ (by first | exact Gl.refl _ _ | exact Gl.drop (by repeat (first | exact List.Sublist.refl _ | exact List.Sublist.slnil | apply List.Sublist.cons_cons | apply List.Sublist.cons)))
theorem c120 {op : Int} (h1 : 1 ≤ op) (h2 : op ≤ 28) : AFn pr 120 [.i op] [] (.ret (.tuple [.i (shpAt op).sort, wantD op])) := by
  refine AFn.of (s120 ?_)
  unfold A120
  have hop : op = 1 ∨ op = 2 ∨ op = 3 ∨ op = 4 ∨ op = 5 ∨ op = 6 ∨ op = 7 ∨ op = 8 ∨ op = 9 ∨ op = 10 ∨ op = 11 ∨ op = 12 ∨ op = 13 ∨ op = 14 ∨ op = 15 ∨ op = 16 ∨ op = 17 ∨ op = 18 ∨ op = 19 ∨ op = 20 ∨ op = 21 ∨ op = 22 ∨ op = 23 ∨ op = 24 ∨ op = 25 ∨ op = 26 ∨ op = 27 ∨ op = 28 := by omega
  rcases hop with rfl | rfl | rfl | rfl | rfl | rfl | rfl | rfl | rfl | rfl | rfl | rfl | rfl | rfl | rfl | rfl | rfl | rfl | rfl | rfl | rfl | rfl | rfl | rfl | rfl | rfl | rfl | rfl
  · ((apply a_jnX; intro J hJ); refine a_eql ?_; refine a_cndbT rfl ?_; exact hJ; dsimp only [aix0, aix1, aix2, aix3, aix4, aix5, aix6, aix7, aix8]; refine a_cndbT rfl ?_)
    try rfl
  · ((apply a_jnX; intro J hJ); refine a_eql ?_; refine a_cndbF rfl ?_; refine a_eql ?_; exact hJ; dsimp only [aix0, aix1, aix2, aix3, aix4, aix5, aix6, aix7, aix8]; refine a_cndbT rfl ?_)
    try rfl
  · ((apply a_jnX; intro J hJ); refine a_eql ?_; refine a_cndbF rfl ?_; refine a_eql ?_; exact hJ; dsimp only [aix0, aix1, aix2, aix3, aix4, aix5, aix6, aix7, aix8]; refine a_cndbF rfl ?_; refine a_eql ?_; refine a_cndbT rfl ?_; (apply a_bldS _; exact rfl; (try dsimp only [afill, aparts, cl, chunk, List.take, List.drop, List.nil_append, List.cons_append, List.append_nil, List.length_cons, List.length_nil, Nat.zero_add, Nat.reduceAdd, Nat.reduceMul]); try exact rfl))
    try rfl
  · ((apply a_jnX; intro J hJ); refine a_eql ?_; refine a_cndbF rfl ?_; refine a_eql ?_; exact hJ; dsimp only [aix0, aix1, aix2, aix3, aix4, aix5, aix6, aix7, aix8]; refine a_cndbF rfl ?_; refine a_eql ?_; refine a_cndbF rfl ?_; (apply a_jnX; intro J hJ); refine a_eql ?_; refine a_cndbT rfl ?_; exact hJ; dsimp only [aix0, aix1, aix2, aix3, aix4, aix5, aix6, aix7, aix8]; refine a_cndbT rfl ?_; (apply a_bldS _; exact rfl; (try dsimp only [afill, aparts, cl, chunk, List.take, List.drop, List.nil_append, List.cons_append, List.append_nil, List.length_cons, List.length_nil, Nat.zero_add, Nat.reduceAdd, Nat.reduceMul]); try exact rfl))
    try rfl
  · ((apply a_jnX; intro J hJ); refine a_eql ?_; refine a_cndbF rfl ?_; refine a_eql ?_; exact hJ; dsimp only [aix0, aix1, aix2, aix3, aix4, aix5, aix6, aix7, aix8]; refine a_cndbF rfl ?_; refine a_eql ?_; refine a_cndbF rfl ?_; (apply a_jnX; intro J hJ); refine a_eql ?_; refine a_cndbF rfl ?_; refine a_eql ?_; exact hJ; dsimp only [aix0, aix1, aix2, aix3, aix4, aix5, aix6, aix7, aix8]; refine a_cndbT rfl ?_; (apply a_bldS _; exact rfl; (try dsimp only [afill, aparts, cl, chunk, List.take, List.drop, List.nil_append, List.cons_append, List.append_nil, List.length_cons, List.length_nil, Nat.zero_add, Nat.reduceAdd, Nat.reduceMul]); try exact rfl))
    try rfl
  · ((apply a_jnX; intro J hJ); refine a_eql ?_; refine a_cndbF rfl ?_; refine a_eql ?_; exact hJ; dsimp only [aix0, aix1, aix2, aix3, aix4, aix5, aix6, aix7, aix8]; refine a_cndbF rfl ?_; refine a_eql ?_; refine a_cndbF rfl ?_; (apply a_jnX; intro J hJ); refine a_eql ?_; refine a_cndbF rfl ?_; refine a_eql ?_; exact hJ; dsimp only [aix0, aix1, aix2, aix3, aix4, aix5, aix6, aix7, aix8]; refine a_cndbF rfl ?_; refine a_eql ?_; refine a_cndbT rfl ?_; (apply a_bldS _; exact rfl; (try dsimp only [afill, aparts, cl, chunk, List.take, List.drop, List.nil_append, List.cons_append, List.append_nil, List.length_cons, List.length_nil, Nat.zero_add, Nat.reduceAdd, Nat.reduceMul]); try exact rfl))
    try rfl
  · ((apply a_jnX; intro J hJ); refine a_eql ?_; refine a_cndbF rfl ?_; refine a_eql ?_; exact hJ; dsimp only [aix0, aix1, aix2, aix3, aix4, aix5, aix6, aix7, aix8]; refine a_cndbF rfl ?_; refine a_eql ?_; refine a_cndbF rfl ?_; (apply a_jnX; intro J hJ); refine a_eql ?_; refine a_cndbF rfl ?_; refine a_eql ?_; exact hJ; dsimp only [aix0, aix1, aix2, aix3, aix4, aix5, aix6, aix7, aix8]; refine a_cndbF rfl ?_; refine a_eql ?_; refine a_cndbF rfl ?_; (apply a_jnX; intro J hJ); refine a_eql ?_; refine a_cndbT rfl ?_; exact hJ; dsimp only [aix0, aix1, aix2, aix3, aix4, aix5, aix6, aix7, aix8]; refine a_cndbT rfl ?_)
    try rfl
  · ((apply a_jnX; intro J hJ); refine a_eql ?_; refine a_cndbF rfl ?_; refine a_eql ?_; exact hJ; dsimp only [aix0, aix1, aix2, aix3, aix4, aix5, aix6, aix7, aix8]; refine a_cndbF rfl ?_; refine a_eql ?_; refine a_cndbF rfl ?_; (apply a_jnX; intro J hJ); refine a_eql ?_; refine a_cndbF rfl ?_; refine a_eql ?_; exact hJ; dsimp only [aix0, aix1, aix2, aix3, aix4, aix5, aix6, aix7, aix8]; refine a_cndbF rfl ?_; refine a_eql ?_; refine a_cndbF rfl ?_; (apply a_jnX; intro J hJ); refine a_eql ?_; refine a_cndbF rfl ?_; refine a_eql ?_; refine a_cndbT rfl ?_; exact hJ; dsimp only [aix0, aix1, aix2, aix3, aix4, aix5, aix6, aix7, aix8]; refine a_cndbT rfl ?_)
    try rfl
  · ((apply a_jnX; intro J hJ); refine a_eql ?_; refine a_cndbF rfl ?_; refine a_eql ?_; exact hJ; dsimp only [aix0, aix1, aix2, aix3, aix4, aix5, aix6, aix7, aix8]; refine a_cndbF rfl ?_; refine a_eql ?_; refine a_cndbF rfl ?_; (apply a_jnX; intro J hJ); refine a_eql ?_; refine a_cndbF rfl ?_; refine a_eql ?_; exact hJ; dsimp only [aix0, aix1, aix2, aix3, aix4, aix5, aix6, aix7, aix8]; refine a_cndbF rfl ?_; refine a_eql ?_; refine a_cndbF rfl ?_; (apply a_jnX; intro J hJ); refine a_eql ?_; refine a_cndbF rfl ?_; refine a_eql ?_; refine a_cndbF rfl ?_; refine a_eql ?_; exact hJ; dsimp only [aix0, aix1, aix2, aix3, aix4, aix5, aix6, aix7, aix8]; refine a_cndbT rfl ?_)
    try rfl
  · ((apply a_jnX; intro J hJ); refine a_eql ?_; refine a_cndbF rfl ?_; refine a_eql ?_; exact hJ; dsimp only [aix0, aix1, aix2, aix3, aix4, aix5, aix6, aix7, aix8]; refine a_cndbF rfl ?_; refine a_eql ?_; refine a_cndbF rfl ?_; (apply a_jnX; intro J hJ); refine a_eql ?_; refine a_cndbF rfl ?_; refine a_eql ?_; exact hJ; dsimp only [aix0, aix1, aix2, aix3, aix4, aix5, aix6, aix7, aix8]; refine a_cndbF rfl ?_; refine a_eql ?_; refine a_cndbF rfl ?_; (apply a_jnX; intro J hJ); refine a_eql ?_; refine a_cndbF rfl ?_; refine a_eql ?_; refine a_cndbF rfl ?_; refine a_eql ?_; exact hJ; dsimp only [aix0, aix1, aix2, aix3, aix4, aix5, aix6, aix7, aix8]; refine a_cndbF rfl ?_; refine a_eql ?_; refine a_cndbT rfl ?_; (apply a_bldS _; exact rfl; (try dsimp only [afill, aparts, cl, chunk, List.take, List.drop, List.nil_append, List.cons_append, List.append_nil, List.length_cons, List.length_nil, Nat.zero_add, Nat.reduceAdd, Nat.reduceMul]); try exact rfl))
    try rfl
  · ((apply a_jnX; intro J hJ); refine a_eql ?_; refine a_cndbF rfl ?_; refine a_eql ?_; exact hJ; dsimp only [aix0, aix1, aix2, aix3, aix4, aix5, aix6, aix7, aix8]; refine a_cndbF rfl ?_; refine a_eql ?_; refine a_cndbF rfl ?_; (apply a_jnX; intro J hJ); refine a_eql ?_; refine a_cndbF rfl ?_; refine a_eql ?_; exact hJ; dsimp only [aix0, aix1, aix2, aix3, aix4, aix5, aix6, aix7, aix8]; refine a_cndbF rfl ?_; refine a_eql ?_; refine a_cndbF rfl ?_; (apply a_jnX; intro J hJ); refine a_eql ?_; refine a_cndbF rfl ?_; refine a_eql ?_; refine a_cndbF rfl ?_; refine a_eql ?_; exact hJ; dsimp only [aix0, aix1, aix2, aix3, aix4, aix5, aix6, aix7, aix8]; refine a_cndbF rfl ?_; refine a_eql ?_; refine a_cndbF rfl ?_; (apply a_jnX; intro J hJ); refine a_eql ?_; refine a_cndbT rfl ?_; exact hJ; dsimp only [aix0, aix1, aix2, aix3, aix4, aix5, aix6, aix7, aix8]; refine a_cndbT rfl ?_; (apply a_bldS _; exact rfl; (try dsimp only [afill, aparts, cl, chunk, List.take, List.drop, List.nil_append, List.cons_append, List.append_nil, List.length_cons, List.length_nil, Nat.zero_add, Nat.reduceAdd, Nat.reduceMul]); try exact rfl))
    try rfl
  · ((apply a_jnX; intro J hJ); refine a_eql ?_; refine a_cndbF rfl ?_; refine a_eql ?_; exact hJ; dsimp only [aix0, aix1, aix2, aix3, aix4, aix5, aix6, aix7, aix8]; refine a_cndbF rfl ?_; refine a_eql ?_; refine a_cndbF rfl ?_; (apply a_jnX; intro J hJ); refine a_eql ?_; refine a_cndbF rfl ?_; refine a_eql ?_; exact hJ; dsimp only [aix0, aix1, aix2, aix3, aix4, aix5, aix6, aix7, aix8]; refine a_cndbF rfl ?_; refine a_eql ?_; refine a_cndbF rfl ?_; (apply a_jnX; intro J hJ); refine a_eql ?_; refine a_cndbF rfl ?_; refine a_eql ?_; refine a_cndbF rfl ?_; refine a_eql ?_; exact hJ; dsimp only [aix0, aix1, aix2, aix3, aix4, aix5, aix6, aix7, aix8]; refine a_cndbF rfl ?_; refine a_eql ?_; refine a_cndbF rfl ?_; (apply a_jnX; intro J hJ); refine a_eql ?_; refine a_cndbF rfl ?_; refine a_eql ?_; refine a_cndbT rfl ?_; exact hJ; dsimp only [aix0, aix1, aix2, aix3, aix4, aix5, aix6, aix7, aix8]; refine a_cndbT rfl ?_; (apply a_bldS _; exact rfl; (try dsimp only [afill, aparts, cl, chunk, List.take, List.drop, List.nil_append, List.cons_append, List.append_nil, List.length_cons, List.length_nil, Nat.zero_add, Nat.reduceAdd, Nat.reduceMul]); try exact rfl))
    try rfl
  · ((apply a_jnX; intro J hJ); refine a_eql ?_; refine a_cndbF rfl ?_; refine a_eql ?_; exact hJ; dsimp only [aix0, aix1, aix2, aix3, aix4, aix5, aix6, aix7, aix8]; refine a_cndbF rfl ?_; refine a_eql ?_; refine a_cndbF rfl ?_; (apply a_jnX; intro J hJ); refine a_eql ?_; refine a_cndbF rfl ?_; refine a_eql ?_; exact hJ; dsimp only [aix0, aix1, aix2, aix3, aix4, aix5, aix6, aix7, aix8]; refine a_cndbF rfl ?_; refine a_eql ?_; refine a_cndbF rfl ?_; (apply a_jnX; intro J hJ); refine a_eql ?_; refine a_cndbF rfl ?_; refine a_eql ?_; refine a_cndbF rfl ?_; refine a_eql ?_; exact hJ; dsimp only [aix0, aix1, aix2, aix3, aix4, aix5, aix6, aix7, aix8]; refine a_cndbF rfl ?_; refine a_eql ?_; refine a_cndbF rfl ?_; (apply a_jnX; intro J hJ); refine a_eql ?_; refine a_cndbF rfl ?_; refine a_eql ?_; refine a_cndbF rfl ?_; refine a_eql ?_; exact hJ; dsimp only [aix0, aix1, aix2, aix3, aix4, aix5, aix6, aix7, aix8]; refine a_cndbT rfl ?_; (apply a_bldS _; exact rfl; (try dsimp only [afill, aparts, cl, chunk, List.take, List.drop, List.nil_append, List.cons_append, List.append_nil, List.length_cons, List.length_nil, Nat.zero_add, Nat.reduceAdd, Nat.reduceMul]); try exact rfl))
    try rfl
  · ((apply a_jnX; intro J hJ); refine a_eql ?_; refine a_cndbF rfl ?_; refine a_eql ?_; exact hJ; dsimp only [aix0, aix1, aix2, aix3, aix4, aix5, aix6, aix7, aix8]; refine a_cndbF rfl ?_; refine a_eql ?_; refine a_cndbF rfl ?_; (apply a_jnX; intro J hJ); refine a_eql ?_; refine a_cndbF rfl ?_; refine a_eql ?_; exact hJ; dsimp only [aix0, aix1, aix2, aix3, aix4, aix5, aix6, aix7, aix8]; refine a_cndbF rfl ?_; refine a_eql ?_; refine a_cndbF rfl ?_; (apply a_jnX; intro J hJ); refine a_eql ?_; refine a_cndbF rfl ?_; refine a_eql ?_; refine a_cndbF rfl ?_; refine a_eql ?_; exact hJ; dsimp only [aix0, aix1, aix2, aix3, aix4, aix5, aix6, aix7, aix8]; refine a_cndbF rfl ?_; refine a_eql ?_; refine a_cndbF rfl ?_; (apply a_jnX; intro J hJ); refine a_eql ?_; refine a_cndbF rfl ?_; refine a_eql ?_; refine a_cndbF rfl ?_; refine a_eql ?_; exact hJ; dsimp only [aix0, aix1, aix2, aix3, aix4, aix5, aix6, aix7, aix8]; refine a_cndbF rfl ?_; refine a_eql ?_; refine a_cndbT rfl ?_)
    try rfl
  · ((apply a_jnX; intro J hJ); refine a_eql ?_; refine a_cndbF rfl ?_; refine a_eql ?_; exact hJ; dsimp only [aix0, aix1, aix2, aix3, aix4, aix5, aix6, aix7, aix8]; refine a_cndbF rfl ?_; refine a_eql ?_; refine a_cndbF rfl ?_; (apply a_jnX; intro J hJ); refine a_eql ?_; refine a_cndbF rfl ?_; refine a_eql ?_; exact hJ; dsimp only [aix0, aix1, aix2, aix3, aix4, aix5, aix6, aix7, aix8]; refine a_cndbF rfl ?_; refine a_eql ?_; refine a_cndbF rfl ?_; (apply a_jnX; intro J hJ); refine a_eql ?_; refine a_cndbF rfl ?_; refine a_eql ?_; refine a_cndbF rfl ?_; refine a_eql ?_; exact hJ; dsimp only [aix0, aix1, aix2, aix3, aix4, aix5, aix6, aix7, aix8]; refine a_cndbF rfl ?_; refine a_eql ?_; refine a_cndbF rfl ?_; (apply a_jnX; intro J hJ); refine a_eql ?_; refine a_cndbF rfl ?_; refine a_eql ?_; refine a_cndbF rfl ?_; refine a_eql ?_; exact hJ; dsimp only [aix0, aix1, aix2, aix3, aix4, aix5, aix6, aix7, aix8]; refine a_cndbF rfl ?_; refine a_eql ?_; refine a_cndbF rfl ?_; (apply a_jnX; intro J hJ); refine a_eql ?_; refine a_cndbT rfl ?_; exact hJ; dsimp only [aix0, aix1, aix2, aix3, aix4, aix5, aix6, aix7, aix8]; refine a_cndbT rfl ?_)
    try rfl
  · ((apply a_jnX; intro J hJ); refine a_eql ?_; refine a_cndbF rfl ?_; refine a_eql ?_; exact hJ; dsimp only [aix0, aix1, aix2, aix3, aix4, aix5, aix6, aix7, aix8]; refine a_cndbF rfl ?_; refine a_eql ?_; refine a_cndbF rfl ?_; (apply a_jnX; intro J hJ); refine a_eql ?_; refine a_cndbF rfl ?_; refine a_eql ?_; exact hJ; dsimp only [aix0, aix1, aix2, aix3, aix4, aix5, aix6, aix7, aix8]; refine a_cndbF rfl ?_; refine a_eql ?_; refine a_cndbF rfl ?_; (apply a_jnX; intro J hJ); refine a_eql ?_; refine a_cndbF rfl ?_; refine a_eql ?_; refine a_cndbF rfl ?_; refine a_eql ?_; exact hJ; dsimp only [aix0, aix1, aix2, aix3, aix4, aix5, aix6, aix7, aix8]; refine a_cndbF rfl ?_; refine a_eql ?_; refine a_cndbF rfl ?_; (apply a_jnX; intro J hJ); refine a_eql ?_; refine a_cndbF rfl ?_; refine a_eql ?_; refine a_cndbF rfl ?_; refine a_eql ?_; exact hJ; dsimp only [aix0, aix1, aix2, aix3, aix4, aix5, aix6, aix7, aix8]; refine a_cndbF rfl ?_; refine a_eql ?_; refine a_cndbF rfl ?_; (apply a_jnX; intro J hJ); refine a_eql ?_; refine a_cndbF rfl ?_; refine a_eql ?_; refine a_cndbT rfl ?_; exact hJ; dsimp only [aix0, aix1, aix2, aix3, aix4, aix5, aix6, aix7, aix8]; refine a_cndbT rfl ?_)
    try rfl
  · ((apply a_jnX; intro J hJ); refine a_eql ?_; refine a_cndbF rfl ?_; refine a_eql ?_; exact hJ; dsimp only [aix0, aix1, aix2, aix3, aix4, aix5, aix6, aix7, aix8]; refine a_cndbF rfl ?_; refine a_eql ?_; refine a_cndbF rfl ?_; (apply a_jnX; intro J hJ); refine a_eql ?_; refine a_cndbF rfl ?_; refine a_eql ?_; exact hJ; dsimp only [aix0, aix1, aix2, aix3, aix4, aix5, aix6, aix7, aix8]; refine a_cndbF rfl ?_; refine a_eql ?_; refine a_cndbF rfl ?_; (apply a_jnX; intro J hJ); refine a_eql ?_; refine a_cndbF rfl ?_; refine a_eql ?_; refine a_cndbF rfl ?_; refine a_eql ?_; exact hJ; dsimp only [aix0, aix1, aix2, aix3, aix4, aix5, aix6, aix7, aix8]; refine a_cndbF rfl ?_; refine a_eql ?_; refine a_cndbF rfl ?_; (apply a_jnX; intro J hJ); refine a_eql ?_; refine a_cndbF rfl ?_; refine a_eql ?_; refine a_cndbF rfl ?_; refine a_eql ?_; exact hJ; dsimp only [aix0, aix1, aix2, aix3, aix4, aix5, aix6, aix7, aix8]; refine a_cndbF rfl ?_; refine a_eql ?_; refine a_cndbF rfl ?_; (apply a_jnX; intro J hJ); refine a_eql ?_; refine a_cndbF rfl ?_; refine a_eql ?_; refine a_cndbF rfl ?_; refine a_eql ?_; exact hJ; dsimp only [aix0, aix1, aix2, aix3, aix4, aix5, aix6, aix7, aix8]; refine a_cndbT rfl ?_)
    try rfl
  · ((apply a_jnX; intro J hJ); refine a_eql ?_; refine a_cndbF rfl ?_; refine a_eql ?_; exact hJ; dsimp only [aix0, aix1, aix2, aix3, aix4, aix5, aix6, aix7, aix8]; refine a_cndbF rfl ?_; refine a_eql ?_; refine a_cndbF rfl ?_; (apply a_jnX; intro J hJ); refine a_eql ?_; refine a_cndbF rfl ?_; refine a_eql ?_; exact hJ; dsimp only [aix0, aix1, aix2, aix3, aix4, aix5, aix6, aix7, aix8]; refine a_cndbF rfl ?_; refine a_eql ?_; refine a_cndbF rfl ?_; (apply a_jnX; intro J hJ); refine a_eql ?_; refine a_cndbF rfl ?_; refine a_eql ?_; refine a_cndbF rfl ?_; refine a_eql ?_; exact hJ; dsimp only [aix0, aix1, aix2, aix3, aix4, aix5, aix6, aix7, aix8]; refine a_cndbF rfl ?_; refine a_eql ?_; refine a_cndbF rfl ?_; (apply a_jnX; intro J hJ); refine a_eql ?_; refine a_cndbF rfl ?_; refine a_eql ?_; refine a_cndbF rfl ?_; refine a_eql ?_; exact hJ; dsimp only [aix0, aix1, aix2, aix3, aix4, aix5, aix6, aix7, aix8]; refine a_cndbF rfl ?_; refine a_eql ?_; refine a_cndbF rfl ?_; (apply a_jnX; intro J hJ); refine a_eql ?_; refine a_cndbF rfl ?_; refine a_eql ?_; refine a_cndbF rfl ?_; refine a_eql ?_; exact hJ; dsimp only [aix0, aix1, aix2, aix3, aix4, aix5, aix6, aix7, aix8]; refine a_cndbF rfl ?_; refine a_eql ?_; refine a_cndbT rfl ?_; (apply a_bldS _; exact rfl; (try dsimp only [afill, aparts, cl, chunk, List.take, List.drop, List.nil_append, List.cons_append, List.append_nil, List.length_cons, List.length_nil, Nat.zero_add, Nat.reduceAdd, Nat.reduceMul]); try exact rfl))
    try rfl
  · ((apply a_jnX; intro J hJ); refine a_eql ?_; refine a_cndbF rfl ?_; refine a_eql ?_; exact hJ; dsimp only [aix0, aix1, aix2, aix3, aix4, aix5, aix6, aix7, aix8]; refine a_cndbF rfl ?_; refine a_eql ?_; refine a_cndbF rfl ?_; (apply a_jnX; intro J hJ); refine a_eql ?_; refine a_cndbF rfl ?_; refine a_eql ?_; exact hJ; dsimp only [aix0, aix1, aix2, aix3, aix4, aix5, aix6, aix7, aix8]; refine a_cndbF rfl ?_; refine a_eql ?_; refine a_cndbF rfl ?_; (apply a_jnX; intro J hJ); refine a_eql ?_; refine a_cndbF rfl ?_; refine a_eql ?_; refine a_cndbF rfl ?_; refine a_eql ?_; exact hJ; dsimp only [aix0, aix1, aix2, aix3, aix4, aix5, aix6, aix7, aix8]; refine a_cndbF rfl ?_; refine a_eql ?_; refine a_cndbF rfl ?_; (apply a_jnX; intro J hJ); refine a_eql ?_; refine a_cndbF rfl ?_; refine a_eql ?_; refine a_cndbF rfl ?_; refine a_eql ?_; exact hJ; dsimp only [aix0, aix1, aix2, aix3, aix4, aix5, aix6, aix7, aix8]; refine a_cndbF rfl ?_; refine a_eql ?_; refine a_cndbF rfl ?_; (apply a_jnX; intro J hJ); refine a_eql ?_; refine a_cndbF rfl ?_; refine a_eql ?_; refine a_cndbF rfl ?_; refine a_eql ?_; exact hJ; dsimp only [aix0, aix1, aix2, aix3, aix4, aix5, aix6, aix7, aix8]; refine a_cndbF rfl ?_; refine a_eql ?_; refine a_cndbF rfl ?_; (apply a_jnX; intro J hJ); refine a_eql ?_; refine a_cndbT rfl ?_; exact hJ; dsimp only [aix0, aix1, aix2, aix3, aix4, aix5, aix6, aix7, aix8]; refine a_cndbT rfl ?_; (apply a_bldS _; exact rfl; (try dsimp only [afill, aparts, cl, chunk, List.take, List.drop, List.nil_append, List.cons_append, List.append_nil, List.length_cons, List.length_nil, Nat.zero_add, Nat.reduceAdd, Nat.reduceMul]); try exact rfl))
    try rfl
  · ((apply a_jnX; intro J hJ); refine a_eql ?_; refine a_cndbF rfl ?_; refine a_eql ?_; exact hJ; dsimp only [aix0, aix1, aix2, aix3, aix4, aix5, aix6, aix7, aix8]; refine a_cndbF rfl ?_; refine a_eql ?_; refine a_cndbF rfl ?_; (apply a_jnX; intro J hJ); refine a_eql ?_; refine a_cndbF rfl ?_; refine a_eql ?_; exact hJ; dsimp only [aix0, aix1, aix2, aix3, aix4, aix5, aix6, aix7, aix8]; refine a_cndbF rfl ?_; refine a_eql ?_; refine a_cndbF rfl ?_; (apply a_jnX; intro J hJ); refine a_eql ?_; refine a_cndbF rfl ?_; refine a_eql ?_; refine a_cndbF rfl ?_; refine a_eql ?_; exact hJ; dsimp only [aix0, aix1, aix2, aix3, aix4, aix5, aix6, aix7, aix8]; refine a_cndbF rfl ?_; refine a_eql ?_; refine a_cndbF rfl ?_; (apply a_jnX; intro J hJ); refine a_eql ?_; refine a_cndbF rfl ?_; refine a_eql ?_; refine a_cndbF rfl ?_; refine a_eql ?_; exact hJ; dsimp only [aix0, aix1, aix2, aix3, aix4, aix5, aix6, aix7, aix8]; refine a_cndbF rfl ?_; refine a_eql ?_; refine a_cndbF rfl ?_; (apply a_jnX; intro J hJ); refine a_eql ?_; refine a_cndbF rfl ?_; refine a_eql ?_; refine a_cndbF rfl ?_; refine a_eql ?_; exact hJ; dsimp only [aix0, aix1, aix2, aix3, aix4, aix5, aix6, aix7, aix8]; refine a_cndbF rfl ?_; refine a_eql ?_; refine a_cndbF rfl ?_; (apply a_jnX; intro J hJ); refine a_eql ?_; refine a_cndbF rfl ?_; refine a_eql ?_; exact hJ; dsimp only [aix0, aix1, aix2, aix3, aix4, aix5, aix6, aix7, aix8]; refine a_cndbT rfl ?_; (apply a_bldS _; exact rfl; (try dsimp only [afill, aparts, cl, chunk, List.take, List.drop, List.nil_append, List.cons_append, List.append_nil, List.length_cons, List.length_nil, Nat.zero_add, Nat.reduceAdd, Nat.reduceMul]); try exact rfl))
    try rfl
  · ((apply a_jnX; intro J hJ); refine a_eql ?_; refine a_cndbF rfl ?_; refine a_eql ?_; exact hJ; dsimp only [aix0, aix1, aix2, aix3, aix4, aix5, aix6, aix7, aix8]; refine a_cndbF rfl ?_; refine a_eql ?_; refine a_cndbF rfl ?_; (apply a_jnX; intro J hJ); refine a_eql ?_; refine a_cndbF rfl ?_; refine a_eql ?_; exact hJ; dsimp only [aix0, aix1, aix2, aix3, aix4, aix5, aix6, aix7, aix8]; refine a_cndbF rfl ?_; refine a_eql ?_; refine a_cndbF rfl ?_; (apply a_jnX; intro J hJ); refine a_eql ?_; refine a_cndbF rfl ?_; refine a_eql ?_; refine a_cndbF rfl ?_; refine a_eql ?_; exact hJ; dsimp only [aix0, aix1, aix2, aix3, aix4, aix5, aix6, aix7, aix8]; refine a_cndbF rfl ?_; refine a_eql ?_; refine a_cndbF rfl ?_; (apply a_jnX; intro J hJ); refine a_eql ?_; refine a_cndbF rfl ?_; refine a_eql ?_; refine a_cndbF rfl ?_; refine a_eql ?_; exact hJ; dsimp only [aix0, aix1, aix2, aix3, aix4, aix5, aix6, aix7, aix8]; refine a_cndbF rfl ?_; refine a_eql ?_; refine a_cndbF rfl ?_; (apply a_jnX; intro J hJ); refine a_eql ?_; refine a_cndbF rfl ?_; refine a_eql ?_; refine a_cndbF rfl ?_; refine a_eql ?_; exact hJ; dsimp only [aix0, aix1, aix2, aix3, aix4, aix5, aix6, aix7, aix8]; refine a_cndbF rfl ?_; refine a_eql ?_; refine a_cndbF rfl ?_; (apply a_jnX; intro J hJ); refine a_eql ?_; refine a_cndbF rfl ?_; refine a_eql ?_; exact hJ; dsimp only [aix0, aix1, aix2, aix3, aix4, aix5, aix6, aix7, aix8]; refine a_cndbF rfl ?_; refine a_eql ?_; refine a_cndbT rfl ?_; (apply a_bldS _; exact rfl; (try dsimp only [afill, aparts, cl, chunk, List.take, List.drop, List.nil_append, List.cons_append, List.append_nil, List.length_cons, List.length_nil, Nat.zero_add, Nat.reduceAdd, Nat.reduceMul]); try exact rfl))
    try rfl
  · ((apply a_jnX; intro J hJ); refine a_eql ?_; refine a_cndbF rfl ?_; refine a_eql ?_; exact hJ; dsimp only [aix0, aix1, aix2, aix3, aix4, aix5, aix6, aix7, aix8]; refine a_cndbF rfl ?_; refine a_eql ?_; refine a_cndbF rfl ?_; (apply a_jnX; intro J hJ); refine a_eql ?_; refine a_cndbF rfl ?_; refine a_eql ?_; exact hJ; dsimp only [aix0, aix1, aix2, aix3, aix4, aix5, aix6, aix7, aix8]; refine a_cndbF rfl ?_; refine a_eql ?_; refine a_cndbF rfl ?_; (apply a_jnX; intro J hJ); refine a_eql ?_; refine a_cndbF rfl ?_; refine a_eql ?_; refine a_cndbF rfl ?_; refine a_eql ?_; exact hJ; dsimp only [aix0, aix1, aix2, aix3, aix4, aix5, aix6, aix7, aix8]; refine a_cndbF rfl ?_; refine a_eql ?_; refine a_cndbF rfl ?_; (apply a_jnX; intro J hJ); refine a_eql ?_; refine a_cndbF rfl ?_; refine a_eql ?_; refine a_cndbF rfl ?_; refine a_eql ?_; exact hJ; dsimp only [aix0, aix1, aix2, aix3, aix4, aix5, aix6, aix7, aix8]; refine a_cndbF rfl ?_; refine a_eql ?_; refine a_cndbF rfl ?_; (apply a_jnX; intro J hJ); refine a_eql ?_; refine a_cndbF rfl ?_; refine a_eql ?_; refine a_cndbF rfl ?_; refine a_eql ?_; exact hJ; dsimp only [aix0, aix1, aix2, aix3, aix4, aix5, aix6, aix7, aix8]; refine a_cndbF rfl ?_; refine a_eql ?_; refine a_cndbF rfl ?_; (apply a_jnX; intro J hJ); refine a_eql ?_; refine a_cndbF rfl ?_; refine a_eql ?_; exact hJ; dsimp only [aix0, aix1, aix2, aix3, aix4, aix5, aix6, aix7, aix8]; refine a_cndbF rfl ?_; refine a_eql ?_; refine a_cndbF rfl ?_; (apply a_jnX; intro J hJ); refine a_eql ?_; refine a_cndbT rfl ?_; exact hJ; dsimp only [aix0, aix1, aix2, aix3, aix4, aix5, aix6, aix7, aix8]; refine a_cndbT rfl ?_; (apply a_bldS _; exact rfl; (try dsimp only [afill, aparts, cl, chunk, List.take, List.drop, List.nil_append, List.cons_append, List.append_nil, List.length_cons, List.length_nil, Nat.zero_add, Nat.reduceAdd, Nat.reduceMul]); try exact rfl))
    try rfl
  · ((apply a_jnX; intro J hJ); refine a_eql ?_; refine a_cndbF rfl ?_; refine a_eql ?_; exact hJ; dsimp only [aix0, aix1, aix2, aix3, aix4, aix5, aix6, aix7, aix8]; refine a_cndbF rfl ?_; refine a_eql ?_; refine a_cndbF rfl ?_; (apply a_jnX; intro J hJ); refine a_eql ?_; refine a_cndbF rfl ?_; refine a_eql ?_; exact hJ; dsimp only [aix0, aix1, aix2, aix3, aix4, aix5, aix6, aix7, aix8]; refine a_cndbF rfl ?_; refine a_eql ?_; refine a_cndbF rfl ?_; (apply a_jnX; intro J hJ); refine a_eql ?_; refine a_cndbF rfl ?_; refine a_eql ?_; refine a_cndbF rfl ?_; refine a_eql ?_; exact hJ; dsimp only [aix0, aix1, aix2, aix3, aix4, aix5, aix6, aix7, aix8]; refine a_cndbF rfl ?_; refine a_eql ?_; refine a_cndbF rfl ?_; (apply a_jnX; intro J hJ); refine a_eql ?_; refine a_cndbF rfl ?_; refine a_eql ?_; refine a_cndbF rfl ?_; refine a_eql ?_; exact hJ; dsimp only [aix0, aix1, aix2, aix3, aix4, aix5, aix6, aix7, aix8]; refine a_cndbF rfl ?_; refine a_eql ?_; refine a_cndbF rfl ?_; (apply a_jnX; intro J hJ); refine a_eql ?_; refine a_cndbF rfl ?_; refine a_eql ?_; refine a_cndbF rfl ?_; refine a_eql ?_; exact hJ; dsimp only [aix0, aix1, aix2, aix3, aix4, aix5, aix6, aix7, aix8]; refine a_cndbF rfl ?_; refine a_eql ?_; refine a_cndbF rfl ?_; (apply a_jnX; intro J hJ); refine a_eql ?_; refine a_cndbF rfl ?_; refine a_eql ?_; exact hJ; dsimp only [aix0, aix1, aix2, aix3, aix4, aix5, aix6, aix7, aix8]; refine a_cndbF rfl ?_; refine a_eql ?_; refine a_cndbF rfl ?_; (apply a_jnX; intro J hJ); refine a_eql ?_; refine a_cndbF rfl ?_; refine a_eql ?_; refine a_cndbT rfl ?_; exact hJ; dsimp only [aix0, aix1, aix2, aix3, aix4, aix5, aix6, aix7, aix8]; refine a_cndbT rfl ?_; (apply a_bldS _; exact rfl; (try dsimp only [afill, aparts, cl, chunk, List.take, List.drop, List.nil_append, List.cons_append, List.append_nil, List.length_cons, List.length_nil, Nat.zero_add, Nat.reduceAdd, Nat.reduceMul]); try exact rfl))
    try rfl
  · ((apply a_jnX; intro J hJ); refine a_eql ?_; refine a_cndbF rfl ?_; refine a_eql ?_; exact hJ; dsimp only [aix0, aix1, aix2, aix3, aix4, aix5, aix6, aix7, aix8]; refine a_cndbF rfl ?_; refine a_eql ?_; refine a_cndbF rfl ?_; (apply a_jnX; intro J hJ); refine a_eql ?_; refine a_cndbF rfl ?_; refine a_eql ?_; exact hJ; dsimp only [aix0, aix1, aix2, aix3, aix4, aix5, aix6, aix7, aix8]; refine a_cndbF rfl ?_; refine a_eql ?_; refine a_cndbF rfl ?_; (apply a_jnX; intro J hJ); refine a_eql ?_; refine a_cndbF rfl ?_; refine a_eql ?_; refine a_cndbF rfl ?_; refine a_eql ?_; exact hJ; dsimp only [aix0, aix1, aix2, aix3, aix4, aix5, aix6, aix7, aix8]; refine a_cndbF rfl ?_; refine a_eql ?_; refine a_cndbF rfl ?_; (apply a_jnX; intro J hJ); refine a_eql ?_; refine a_cndbF rfl ?_; refine a_eql ?_; refine a_cndbF rfl ?_; refine a_eql ?_; exact hJ; dsimp only [aix0, aix1, aix2, aix3, aix4, aix5, aix6, aix7, aix8]; refine a_cndbF rfl ?_; refine a_eql ?_; refine a_cndbF rfl ?_; (apply a_jnX; intro J hJ); refine a_eql ?_; refine a_cndbF rfl ?_; refine a_eql ?_; refine a_cndbF rfl ?_; refine a_eql ?_; exact hJ; dsimp only [aix0, aix1, aix2, aix3, aix4, aix5, aix6, aix7, aix8]; refine a_cndbF rfl ?_; refine a_eql ?_; refine a_cndbF rfl ?_; (apply a_jnX; intro J hJ); refine a_eql ?_; refine a_cndbF rfl ?_; refine a_eql ?_; exact hJ; dsimp only [aix0, aix1, aix2, aix3, aix4, aix5, aix6, aix7, aix8]; refine a_cndbF rfl ?_; refine a_eql ?_; refine a_cndbF rfl ?_; (apply a_jnX; intro J hJ); refine a_eql ?_; refine a_cndbF rfl ?_; refine a_eql ?_; refine a_cndbF rfl ?_; refine a_eql ?_; exact hJ; dsimp only [aix0, aix1, aix2, aix3, aix4, aix5, aix6, aix7, aix8]; refine a_cndbT rfl ?_; (apply a_bldS _; exact rfl; (try dsimp only [afill, aparts, cl, chunk, List.take, List.drop, List.nil_append, List.cons_append, List.append_nil, List.length_cons, List.length_nil, Nat.zero_add, Nat.reduceAdd, Nat.reduceMul]); try exact rfl))
    try rfl
  · ((apply a_jnX; intro J hJ); refine a_eql ?_; refine a_cndbF rfl ?_; refine a_eql ?_; exact hJ; dsimp only [aix0, aix1, aix2, aix3, aix4, aix5, aix6, aix7, aix8]; refine a_cndbF rfl ?_; refine a_eql ?_; refine a_cndbF rfl ?_; (apply a_jnX; intro J hJ); refine a_eql ?_; refine a_cndbF rfl ?_; refine a_eql ?_; exact hJ; dsimp only [aix0, aix1, aix2, aix3, aix4, aix5, aix6, aix7, aix8]; refine a_cndbF rfl ?_; refine a_eql ?_; refine a_cndbF rfl ?_; (apply a_jnX; intro J hJ); refine a_eql ?_; refine a_cndbF rfl ?_; refine a_eql ?_; refine a_cndbF rfl ?_; refine a_eql ?_; exact hJ; dsimp only [aix0, aix1, aix2, aix3, aix4, aix5, aix6, aix7, aix8]; refine a_cndbF rfl ?_; refine a_eql ?_; refine a_cndbF rfl ?_; (apply a_jnX; intro J hJ); refine a_eql ?_; refine a_cndbF rfl ?_; refine a_eql ?_; refine a_cndbF rfl ?_; refine a_eql ?_; exact hJ; dsimp only [aix0, aix1, aix2, aix3, aix4, aix5, aix6, aix7, aix8]; refine a_cndbF rfl ?_; refine a_eql ?_; refine a_cndbF rfl ?_; (apply a_jnX; intro J hJ); refine a_eql ?_; refine a_cndbF rfl ?_; refine a_eql ?_; refine a_cndbF rfl ?_; refine a_eql ?_; exact hJ; dsimp only [aix0, aix1, aix2, aix3, aix4, aix5, aix6, aix7, aix8]; refine a_cndbF rfl ?_; refine a_eql ?_; refine a_cndbF rfl ?_; (apply a_jnX; intro J hJ); refine a_eql ?_; refine a_cndbF rfl ?_; refine a_eql ?_; exact hJ; dsimp only [aix0, aix1, aix2, aix3, aix4, aix5, aix6, aix7, aix8]; refine a_cndbF rfl ?_; refine a_eql ?_; refine a_cndbF rfl ?_; (apply a_jnX; intro J hJ); refine a_eql ?_; refine a_cndbF rfl ?_; refine a_eql ?_; refine a_cndbF rfl ?_; refine a_eql ?_; exact hJ; dsimp only [aix0, aix1, aix2, aix3, aix4, aix5, aix6, aix7, aix8]; refine a_cndbF rfl ?_; refine a_eql ?_; refine a_cndbT rfl ?_; (apply a_bldS _; exact rfl; (try dsimp only [afill, aparts, cl, chunk, List.take, List.drop, List.nil_append, List.cons_append, List.append_nil, List.length_cons, List.length_nil, Nat.zero_add, Nat.reduceAdd, Nat.reduceMul]); try exact rfl))
    try rfl
  · ((apply a_jnX; intro J hJ); refine a_eql ?_; refine a_cndbF rfl ?_; refine a_eql ?_; exact hJ; dsimp only [aix0, aix1, aix2, aix3, aix4, aix5, aix6, aix7, aix8]; refine a_cndbF rfl ?_; refine a_eql ?_; refine a_cndbF rfl ?_; (apply a_jnX; intro J hJ); refine a_eql ?_; refine a_cndbF rfl ?_; refine a_eql ?_; exact hJ; dsimp only [aix0, aix1, aix2, aix3, aix4, aix5, aix6, aix7, aix8]; refine a_cndbF rfl ?_; refine a_eql ?_; refine a_cndbF rfl ?_; (apply a_jnX; intro J hJ); refine a_eql ?_; refine a_cndbF rfl ?_; refine a_eql ?_; refine a_cndbF rfl ?_; refine a_eql ?_; exact hJ; dsimp only [aix0, aix1, aix2, aix3, aix4, aix5, aix6, aix7, aix8]; refine a_cndbF rfl ?_; refine a_eql ?_; refine a_cndbF rfl ?_; (apply a_jnX; intro J hJ); refine a_eql ?_; refine a_cndbF rfl ?_; refine a_eql ?_; refine a_cndbF rfl ?_; refine a_eql ?_; exact hJ; dsimp only [aix0, aix1, aix2, aix3, aix4, aix5, aix6, aix7, aix8]; refine a_cndbF rfl ?_; refine a_eql ?_; refine a_cndbF rfl ?_; (apply a_jnX; intro J hJ); refine a_eql ?_; refine a_cndbF rfl ?_; refine a_eql ?_; refine a_cndbF rfl ?_; refine a_eql ?_; exact hJ; dsimp only [aix0, aix1, aix2, aix3, aix4, aix5, aix6, aix7, aix8]; refine a_cndbF rfl ?_; refine a_eql ?_; refine a_cndbF rfl ?_; (apply a_jnX; intro J hJ); refine a_eql ?_; refine a_cndbF rfl ?_; refine a_eql ?_; exact hJ; dsimp only [aix0, aix1, aix2, aix3, aix4, aix5, aix6, aix7, aix8]; refine a_cndbF rfl ?_; refine a_eql ?_; refine a_cndbF rfl ?_; (apply a_jnX; intro J hJ); refine a_eql ?_; refine a_cndbF rfl ?_; refine a_eql ?_; refine a_cndbF rfl ?_; refine a_eql ?_; exact hJ; dsimp only [aix0, aix1, aix2, aix3, aix4, aix5, aix6, aix7, aix8]; refine a_cndbF rfl ?_; refine a_eql ?_; refine a_cndbF rfl ?_; refine a_eql ?_; refine a_cndbT rfl ?_; refine a_cndbT rfl ?_; (apply a_bldS _; exact rfl; (try dsimp only [afill, aparts, cl, chunk, List.take, List.drop, List.nil_append, List.cons_append, List.append_nil, List.length_cons, List.length_nil, Nat.zero_add, Nat.reduceAdd, Nat.reduceMul]); try exact rfl))
    try rfl
  · ((apply a_jnX; intro J hJ); refine a_eql ?_; refine a_cndbF rfl ?_; refine a_eql ?_; exact hJ; dsimp only [aix0, aix1, aix2, aix3, aix4, aix5, aix6, aix7, aix8]; refine a_cndbF rfl ?_; refine a_eql ?_; refine a_cndbF rfl ?_; (apply a_jnX; intro J hJ); refine a_eql ?_; refine a_cndbF rfl ?_; refine a_eql ?_; exact hJ; dsimp only [aix0, aix1, aix2, aix3, aix4, aix5, aix6, aix7, aix8]; refine a_cndbF rfl ?_; refine a_eql ?_; refine a_cndbF rfl ?_; (apply a_jnX; intro J hJ); refine a_eql ?_; refine a_cndbF rfl ?_; refine a_eql ?_; refine a_cndbF rfl ?_; refine a_eql ?_; exact hJ; dsimp only [aix0, aix1, aix2, aix3, aix4, aix5, aix6, aix7, aix8]; refine a_cndbF rfl ?_; refine a_eql ?_; refine a_cndbF rfl ?_; (apply a_jnX; intro J hJ); refine a_eql ?_; refine a_cndbF rfl ?_; refine a_eql ?_; refine a_cndbF rfl ?_; refine a_eql ?_; exact hJ; dsimp only [aix0, aix1, aix2, aix3, aix4, aix5, aix6, aix7, aix8]; refine a_cndbF rfl ?_; refine a_eql ?_; refine a_cndbF rfl ?_; (apply a_jnX; intro J hJ); refine a_eql ?_; refine a_cndbF rfl ?_; refine a_eql ?_; refine a_cndbF rfl ?_; refine a_eql ?_; exact hJ; dsimp only [aix0, aix1, aix2, aix3, aix4, aix5, aix6, aix7, aix8]; refine a_cndbF rfl ?_; refine a_eql ?_; refine a_cndbF rfl ?_; (apply a_jnX; intro J hJ); refine a_eql ?_; refine a_cndbF rfl ?_; refine a_eql ?_; exact hJ; dsimp only [aix0, aix1, aix2, aix3, aix4, aix5, aix6, aix7, aix8]; refine a_cndbF rfl ?_; refine a_eql ?_; refine a_cndbF rfl ?_; (apply a_jnX; intro J hJ); refine a_eql ?_; refine a_cndbF rfl ?_; refine a_eql ?_; refine a_cndbF rfl ?_; refine a_eql ?_; exact hJ; dsimp only [aix0, aix1, aix2, aix3, aix4, aix5, aix6, aix7, aix8]; refine a_cndbF rfl ?_; refine a_eql ?_; refine a_cndbF rfl ?_; refine a_eql ?_; refine a_cndbF rfl ?_; refine a_eql ?_; refine a_cndbT rfl ?_; (apply a_bldS _; exact rfl; (try dsimp only [afill, aparts, cl, chunk, List.take, List.drop, List.nil_append, List.cons_append, List.append_nil, List.length_cons, List.length_nil, Nat.zero_add, Nat.reduceAdd, Nat.reduceMul]); try exact rfl))
    try rfl
  · ((apply a_jnX; intro J hJ); refine a_eql ?_; refine a_cndbF rfl ?_; refine a_eql ?_; exact hJ; dsimp only [aix0, aix1, aix2, aix3, aix4, aix5, aix6, aix7, aix8]; refine a_cndbF rfl ?_; refine a_eql ?_; refine a_cndbF rfl ?_; (apply a_jnX; intro J hJ); refine a_eql ?_; refine a_cndbF rfl ?_; refine a_eql ?_; exact hJ; dsimp only [aix0, aix1, aix2, aix3, aix4, aix5, aix6, aix7, aix8]; refine a_cndbF rfl ?_; refine a_eql ?_; refine a_cndbF rfl ?_; (apply a_jnX; intro J hJ); refine a_eql ?_; refine a_cndbF rfl ?_; refine a_eql ?_; refine a_cndbF rfl ?_; refine a_eql ?_; exact hJ; dsimp only [aix0, aix1, aix2, aix3, aix4, aix5, aix6, aix7, aix8]; refine a_cndbF rfl ?_; refine a_eql ?_; refine a_cndbF rfl ?_; (apply a_jnX; intro J hJ); refine a_eql ?_; refine a_cndbF rfl ?_; refine a_eql ?_; refine a_cndbF rfl ?_; refine a_eql ?_; exact hJ; dsimp only [aix0, aix1, aix2, aix3, aix4, aix5, aix6, aix7, aix8]; refine a_cndbF rfl ?_; refine a_eql ?_; refine a_cndbF rfl ?_; (apply a_jnX; intro J hJ); refine a_eql ?_; refine a_cndbF rfl ?_; refine a_eql ?_; refine a_cndbF rfl ?_; refine a_eql ?_; exact hJ; dsimp only [aix0, aix1, aix2, aix3, aix4, aix5, aix6, aix7, aix8]; refine a_cndbF rfl ?_; refine a_eql ?_; refine a_cndbF rfl ?_; (apply a_jnX; intro J hJ); refine a_eql ?_; refine a_cndbF rfl ?_; refine a_eql ?_; exact hJ; dsimp only [aix0, aix1, aix2, aix3, aix4, aix5, aix6, aix7, aix8]; refine a_cndbF rfl ?_; refine a_eql ?_; refine a_cndbF rfl ?_; (apply a_jnX; intro J hJ); refine a_eql ?_; refine a_cndbF rfl ?_; refine a_eql ?_; refine a_cndbF rfl ?_; refine a_eql ?_; exact hJ; dsimp only [aix0, aix1, aix2, aix3, aix4, aix5, aix6, aix7, aix8]; refine a_cndbF rfl ?_; refine a_eql ?_; refine a_cndbF rfl ?_; refine a_eql ?_; refine a_cndbF rfl ?_; refine a_eql ?_; refine a_cndbF rfl ?_; refine a_eql ?_; refine a_cndbT rfl ?_; (apply a_bldS _; exact rfl; (try dsimp only [afill, aparts, cl, chunk, List.take, List.drop, List.nil_append, List.cons_append, List.append_nil, List.length_cons, List.length_nil, Nat.zero_add, Nat.reduceAdd, Nat.reduceMul]); try exact rfl))
    try rfl
theorem c120n {op : Int} (h : op < 1 ∨ 28 < op) : AFn pr 120 [.i op] [] (.ret (.tuple [.i 0, .nil])) := by
  refine AFn.of (s120 ?_)
  unfold A120
  ((apply a_jnX; intro J hJ); refine a_eql ?_; refine a_cndF (by first | omega | assumption | decide) ?_; refine a_eql ?_; exact hJ; dsimp only [aix0, aix1, aix2, aix3, aix4, aix5, aix6, aix7, aix8]; refine a_cndF (by first | omega | assumption | decide) ?_; refine a_eql ?_; refine a_cndF (by first | omega | assumption | decide) ?_; (apply a_jnX; intro J hJ); refine a_eql ?_; refine a_cndF (by first | omega | assumption | decide) ?_; refine a_eql ?_; exact hJ; dsimp only [aix0, aix1, aix2, aix3, aix4, aix5, aix6, aix7, aix8]; refine a_cndF (by first | omega | assumption | decide) ?_; refine a_eql ?_; refine a_cndF (by first | omega | assumption | decide) ?_; (apply a_jnX; intro J hJ); refine a_eql ?_; refine a_cndF (by first | omega | assumption | decide) ?_; refine a_eql ?_; refine a_cndF (by first | omega | assumption | decide) ?_; refine a_eql ?_; exact hJ; dsimp only [aix0, aix1, aix2, aix3, aix4, aix5, aix6, aix7, aix8]; refine a_cndF (by first | omega | assumption | decide) ?_; refine a_eql ?_; refine a_cndF (by first | omega | assumption | decide) ?_; (apply a_jnX; intro J hJ); refine a_eql ?_; refine a_cndF (by first | omega | assumption | decide) ?_; refine a_eql ?_; refine a_cndF (by first | omega | assumption | decide) ?_; refine a_eql ?_; exact hJ; dsimp only [aix0, aix1, aix2, aix3, aix4, aix5, aix6, aix7, aix8]; refine a_cndF (by first | omega | assumption | decide) ?_; refine a_eql ?_; refine a_cndF (by first | omega | assumption | decide) ?_; (apply a_jnX; intro J hJ); refine a_eql ?_; refine a_cndF (by first | omega | assumption | decide) ?_; refine a_eql ?_; refine a_cndF (by first | omega | assumption | decide) ?_; refine a_eql ?_; exact hJ; dsimp only [aix0, aix1, aix2, aix3, aix4, aix5, aix6, aix7, aix8]; refine a_cndF (by first | omega | assumption | decide) ?_; refine a_eql ?_; refine a_cndF (by first | omega | assumption | decide) ?_; (apply a_jnX; intro J hJ); refine a_eql ?_; refine a_cndF (by first | omega | assumption | decide) ?_; refine a_eql ?_; exact hJ; dsimp only [aix0, aix1, aix2, aix3, aix4, aix5, aix6, aix7, aix8]; refine a_cndF (by first | omega | assumption | decide) ?_; refine a_eql ?_; refine a_cndF (by first | omega | assumption | decide) ?_; (apply a_jnX; intro J hJ); refine a_eql ?_; refine a_cndF (by first | omega | assumption | decide) ?_; refine a_eql ?_; refine a_cndF (by first | omega | assumption | decide) ?_; refine a_eql ?_; exact hJ; dsimp only [aix0, aix1, aix2, aix3, aix4, aix5, aix6, aix7, aix8]; refine a_cndF (by first | omega | assumption | decide) ?_; refine a_eql ?_; refine a_cndF (by first | omega | assumption | decide) ?_; refine a_eql ?_; refine a_cndF (by first | omega | assumption | decide) ?_; refine a_eql ?_; refine a_cndF (by first | omega | assumption | decide) ?_; refine a_eql ?_; refine a_cndF (by first | omega | assumption | decide) ?_)
  rfl
end Go.Proofs.YtokpeggkofjclaaGreatDoor
/- Contracts of the document's Sort. -/
set_option maxRecDepth 100000
set_option linter.unusedVariables false
namespace Go.Proofs.YtokpeggkofjclaaGreatDoor
open Go Go.V
theorem srt_bad {t : Tm} (h : badHead (shpAt t.op) t.nm t.n t.a.length 0 = true) : AE.ret (.i 0) = .ret (.i (srt t)) := by
  refine ret_i ?_
  unfold srt
  rw [right_bad h]; rfl
theorem nameF_nil : nameF (⟨#[]⟩ : ByteArray).data.toList = false := rfl
theorem c80 (t : Tm) : AFn pr 80 [t.d] [] (.ret (.i (srt t))) := by
  induction t using Tm.ind' with
  | h t ih =>
    refine AFn.small fun hsm => AFn.of (s80 ?_)
    rw [Smalls] at hsm
    have hs := Tm.small (Tm.small_d hsm.1)
    unfold A80
    by_cases hop : t.op < 1 ∨ 28 < t.op
    · have e : srt t = 0 := by
        unfold srt
        rw [rightT_eq]
        rcases hop with h | h
        · rw [decide_eq_false (show ¬ 1 ≤ t.op by omega)]; rfl
        · rw [decide_eq_false (show ¬ t.op ≤ 28 by omega), Bool.and_false]; rfl
      rw [e]
      (refine a_bxv fun z1 => ?_; refine a_fld ?_; (apply a_ld1 0; exact rfl; exact rfl); refine a_call0 (c120n hop) ?_; (apply a_ext; exact rfl); (apply a_ext; exact rfl); refine a_fld ?_; (apply a_ld1 0; exact rfl; exact rfl); refine a_call0 (c98) ?_; (apply a_jn0; intro J); refine a_eql ?_; refine a_cndbT rfl ?_)
      rfl
    have ho1 : 1 ≤ t.op := by omega
    have ho2 : t.op ≤ 28 := by omega
    clear hop
    obtain ⟨f1, f2, f3, f4, f5, f6⟩ := shp_facts ho1 ho2
    have hbad := @srt_bad t
    have hgood : badHead (shpAt t.op) t.nm t.n t.a.length 0 = false → srt t = if rightL (shpAt t.op) t.a 0 then (shpAt t.op).sort else 0 := fun h => by unfold srt; rw [right_good ho1 ho2 h]
    have hmn := shp_many t.op
    unfold badHead at hbad hgood
    simp only [ne_eq, not_true_eq_false, decide_false, Bool.false_and, Bool.false_or] at hbad hgood
    refine a_bxv fun z1 => ?_
    (refine a_fld ?_; (apply a_ld1 0; exact rfl; exact rfl); refine a_call0 (c120 ho1 ho2) ?_; (apply a_ext; exact rfl); (apply a_ext; exact rfl); refine a_fld ?_; (apply a_ld1 0; exact rfl; exact rfl); refine a_call0 (c98) ?_)
    unfold wantD wantA
    generalize shpAt t.op = S at *
    refine a_jn (σ := Unit) (fun _ => []) (fun _ => [⟨z1, t.cs, .box⟩]) (fun _ => (S.name && !nameF t.nm.data.toList) = false ∧ (!S.name && decide (t.nm ≠ ⟨#[]⟩)) = false ∧ (!S.number && decide (t.n ≠ 0)) = false) ?_ fun J hJ => ?_
    · rintro _ ⟨g1, g2, g3⟩
      rw [g1, g2, g3] at hbad hgood
      simp only [Bool.false_or] at hbad hgood
      refine a_jn (σ := Unit) (fun _ => [.b S.many]) (fun _ => [⟨z1, t.cs, .box⟩]) (fun _ => True) ?_ fun J2 hJ2 => ?_
      · rintro _ _
        dsimp only [aix0, aix1, aix2, aix3, aix4, aix5, aix6, aix7, aix8]
        refine a_jn (σ := Unit) (fun _ => []) (fun _ => [⟨z1, t.cs, .box⟩]) (fun _ => (!S.many && decide ((t.a.length : Int) ≠ S.a.length)) = false) ?_ fun J3 hJ3 => ?_
        · rintro _ g4
          have hgd := hgood g4
          rw [hgd]
          have hlen : S.many = false → t.a.length = S.a.length := fun hm => by rw [hm] at g4; simp at g4; omega
          refine a_lp (σ := Nat) (fun i => [.i i]) (fun _ => [⟨z1, t.cs, .box⟩]) (fun i => i ≤ t.a.length ∧ rightL S (t.a.drop i) i = rightL S t.a 0) (fun i => t.a.length - i) 0 (by first | exact Gl.refl _ _ | exact Gl.drop (by repeat (first | exact List.Sublist.refl _ | exact List.Sublist.slnil | apply List.Sublist.cons_cons | apply List.Sublist.cons))) ⟨Nat.zero_le _, rfl⟩ ?_
          rintro i K ⟨hi, hd⟩ hK
          dsimp only [aix0, aix1, aix2, aix3, aix4, aix5, aix6, aix7, aix8]
          (refine a_fld ?_; (apply a_ld1 0; exact rfl; exact rfl); refine Tm.a_len ?_; refine a_lss ?_)
          refine a_cnd (fun h => ?_) (fun h => ?_)
          · have hlt : i < t.a.length := by omega
            rw [List.drop_eq_getElem_cons hlt, rightL] at hd
            (refine a_fld ?_; (apply a_ld1 0; exact rfl; exact rfl))
            refine Tm.a_idx i hlt ?_
            ((apply a_ldAp; exact rfl))
            refine a_call0 (ih _ (List.getElem_mem hlt)) ?_
            cases hm : S.many
            · have hl := hlen hm
              have hk : i < S.a.length := by omega
              have hne := f2 i hk
              rw [hm] at hd
              simp only [cond_false] at hd
              rw [right_srt _ hne, List.getD_eq_getElem?_getD, List.getElem?_eq_getElem hk, Option.getD_some] at hd
              simp only [cond_false]
              refine a_jn1 [.b false] [⟨z1, t.cs, .box⟩] ?_ fun J hJ => ?_
              · dsimp only [aix0, aix1, aix2, aix3, aix4, aix5, aix6, aix7, aix8]
                (refine a_cndbF rfl ?_; refine a_not ?_)
                refine a_jn1 [.b (decide (srt t.a[i] ≠ S.a[i]))] [⟨z1, t.cs, .box⟩] ?_ fun J hJ => ?_
                · dsimp only [aix0, aix1, aix2, aix3, aix4, aix5, aix6, aix7, aix8]
                  refine a_cnd (fun h5 => ?_) (fun h5 => ?_)
                  · rw [decide_eq_false h5, Bool.false_and] at hd
                    exact ret_i (by rw [← hd]; rfl)
                  · rw [decide_eq_true (Classical.not_not.1 h5), Bool.true_and] at hd
                    (refine a_add (by first | omega | assumption | decide) (by first | omega | assumption | decide) ?_)
                    exact hK (i + 1) _ _ ⟨by omega, hd⟩ (by omega) (by first | exact Gl.refl _ _ | exact Gl.drop (by repeat (first | exact List.Sublist.refl _ | exact List.Sublist.slnil | apply List.Sublist.cons_cons | apply List.Sublist.cons)))
                · (refine a_cndbT rfl ?_)
                  refine a_idxA i hk ?_
                  ((apply a_ld1p; exact rfl); refine a_neq ?_)
                  exact hJ _ _ (by first | exact Gl.refl _ _ | exact Gl.drop (by repeat (first | exact List.Sublist.refl _ | exact List.Sublist.slnil | apply List.Sublist.cons_cons | apply List.Sublist.cons)))
              · (refine a_cndbF rfl ?_)
                exact hJ _ _ (by first | exact Gl.refl _ _ | exact Gl.drop (by repeat (first | exact List.Sublist.refl _ | exact List.Sublist.slnil | apply List.Sublist.cons_cons | apply List.Sublist.cons)))
            · have ha := f3 hm
              rw [hm, ha] at hd
              simp only [cond_true] at hd
              rw [show ([4] : List Int).getD 0 0 = 4 from rfl, right_srt _ (by decide)] at hd
              simp only [cond_true]
              refine a_jn1 [.b (decide (srt t.a[i] ≠ 4))] [⟨z1, t.cs, .box⟩] ?_ fun J hJ => ?_
              · dsimp only [aix0, aix1, aix2, aix3, aix4, aix5, aix6, aix7, aix8]
                refine a_cnd (fun h5 => ?_) (fun h5 => ?_)
                · rw [decide_eq_false h5, Bool.false_and] at hd
                  exact ret_i (by rw [← hd]; rfl)
                · rw [decide_eq_true (Classical.not_not.1 h5), Bool.true_and] at hd
                  (refine a_not ?_; (apply a_jnX; intro J hJ); refine a_cndbF rfl ?_; exact hJ; dsimp only [aix0, aix1, aix2, aix3, aix4, aix5, aix6, aix7, aix8]; refine a_cndbF rfl ?_; refine a_add (by first | omega | assumption | decide) (by first | omega | assumption | decide) ?_)
                  exact hK (i + 1) _ _ ⟨by omega, hd⟩ (by omega) (by first | exact Gl.refl _ _ | exact Gl.drop (by repeat (first | exact List.Sublist.refl _ | exact List.Sublist.slnil | apply List.Sublist.cons_cons | apply List.Sublist.cons)))
              · (refine a_cndbT rfl ?_; refine a_neq ?_)
                exact hJ _ _ (by first | exact Gl.refl _ _ | exact Gl.drop (by repeat (first | exact List.Sublist.refl _ | exact List.Sublist.slnil | apply List.Sublist.cons_cons | apply List.Sublist.cons)))
          · rw [List.drop_eq_nil_of_le (by omega), rightL] at hd
            rw [← hd]
            rfl
        · cases hm : S.many
          · rw [hm] at hJ3 hbad
            simp only [cond_false, Bool.not_false, Bool.true_and] at hJ3 hbad ⊢
            (refine a_not ?_; refine a_cndbT rfl ?_; refine a_fld ?_; (apply a_ld1 0; exact rfl; exact rfl); refine Tm.a_len ?_)
            refine a_lenA ?_
            (refine a_neq ?_)
            refine a_cnd (fun h5 => ?_) (fun h5 => ?_)
            · exact hbad (decide_eq_true h5)
            · exact hJ3 () _ _ (decide_eq_false h5) (by first | exact Gl.refl _ _ | exact Gl.drop (by repeat (first | exact List.Sublist.refl _ | exact List.Sublist.slnil | apply List.Sublist.cons_cons | apply List.Sublist.cons)))
          · rw [hm] at hJ3
            (refine a_not ?_; refine a_cndbF rfl ?_)
            exact hJ3 () _ _ rfl (by first | exact Gl.refl _ _ | exact Gl.drop (by repeat (first | exact List.Sublist.refl _ | exact List.Sublist.slnil | apply List.Sublist.cons_cons | apply List.Sublist.cons)))
      · cases hm : S.many
        · rw [hm] at hJ2
          simp only [cond_false] at hJ2 ⊢
          have hn := f4 hm
          refine a_lenA ?_
          (refine a_eql ?_)
          refine a_cnd (fun h5 => ?_) (fun h5 => ?_)
          · have hk : 0 < S.a.length := by omega
            refine a_idxA 0 hk ?_
            ((apply a_ld1p; exact rfl); refine a_eql ?_)
            have e : decide (S.a[0] = -1) = false := decide_eq_false fun h6 => hn (by
              obtain ⟨y, hy⟩ := List.length_eq_one_iff.1 (show S.a.length = 1 by omega)
              have h7 : S.a[0] = y := by simp [hy]
              rw [hy, ← h7, h6])
            rw [e]
            exact hJ2 () _ _ trivial (by first | exact Gl.refl _ _ | exact Gl.drop (by repeat (first | exact List.Sublist.refl _ | exact List.Sublist.slnil | apply List.Sublist.cons_cons | apply List.Sublist.cons)))
          · exact hJ2 () _ _ trivial (by first | exact Gl.refl _ _ | exact Gl.drop (by repeat (first | exact List.Sublist.refl _ | exact List.Sublist.slnil | apply List.Sublist.cons_cons | apply List.Sublist.cons)))
        · rw [hm] at hJ2
          simp only [cond_true] at hJ2 ⊢
          refine a_lenA ?_
          (refine a_eql ?_; refine a_cndbT rfl ?_)
          refine a_idxA 0 (by decide) ?_
          ((apply a_ld1p; exact rfl); refine a_eql ?_)
          exact hJ2 () _ _ trivial (by first | exact Gl.refl _ _ | exact Gl.drop (by repeat (first | exact List.Sublist.refl _ | exact List.Sublist.slnil | apply List.Sublist.cons_cons | apply List.Sublist.cons)))
    · (refine a_eql ?_; refine a_cndF (by first | omega | assumption | decide) ?_; refine a_fld ?_; (apply a_ld1 0; exact rfl; exact rfl); refine a_call0 (c121 _) ?_; refine a_neqB ?_)
      rw [← f6]
      refine a_cndb (fun g1 => ?_) (fun g1 => ?_)
      · refine hbad ?_
        cases hn : S.name
        · rw [hn] at g1
          have : t.nm ≠ ⟨#[]⟩ := fun h => by rw [h, nameF_nil] at g1; cases g1
          simp [this]
        · rw [hn] at g1
          cases hf : nameF t.nm.data.toList
          · simp
          · rw [hf] at g1; cases g1
      have e1 : S.name = nameF t.nm.data.toList := by simpa using g1
      have h1 : (S.name && !nameF t.nm.data.toList) = false := by rw [e1]; cases nameF t.nm.data.toList <;> rfl
      rw [h1] at hbad hJ
      simp only [Bool.false_or] at hbad
      (refine a_fld ?_; (apply a_ld1 0; exact rfl; exact rfl); refine a_call0 (c121 _) ?_; refine a_not ?_)
      rw [← f6]
      refine a_jn (σ := Bool) (fun b => [.b b]) (fun _ => [⟨z1, t.cs, .box⟩]) (fun b => b = (!S.name && decide (t.nm ≠ ⟨#[]⟩))) ?_ fun J2 hJ2 => ?_
      · rintro _ rfl
        dsimp only [aix0, aix1, aix2, aix3, aix4, aix5, aix6, aix7, aix8]
        refine a_cndb (fun h2 => ?_) (fun h2 => ?_)
        · exact hbad (by rw [h2]; rfl)
        rw [h2] at hbad hJ
        simp only [Bool.false_or] at hbad
        (refine a_fld ?_; (apply a_ld1 0; exact rfl; exact rfl); refine a_neq ?_)
        refine a_cnd (fun h3 => ?_) (fun h3 => ?_)
        · rw [decide_eq_true h3, Bool.and_true, f5] at hbad hJ
          (refine a_fld ?_; (apply a_ld1 0; exact rfl; exact rfl); refine a_neq ?_)
          refine a_jn (σ := Bool) (fun b => [.b b]) (fun _ => [⟨z1, t.cs, .box⟩]) (fun b => b = !decide (t.op = 1 ∨ t.op = 6)) ?_ fun J3 hJ3 => ?_
          · rintro _ rfl
            dsimp only [aix0, aix1, aix2, aix3, aix4, aix5, aix6, aix7, aix8]
            refine a_cndb (fun h4 => ?_) (fun h4 => ?_)
            · exact hbad (by rw [h4]; rfl)
            · exact hJ () _ _ ⟨rfl, rfl, h4⟩ (by first | exact Gl.refl _ _ | exact Gl.drop (by repeat (first | exact List.Sublist.refl _ | exact List.Sublist.slnil | apply List.Sublist.cons_cons | apply List.Sublist.cons)))
          · refine a_cnd (fun h4 => ?_) (fun h4 => ?_)
            · (refine a_fld ?_; (apply a_ld1 0; exact rfl; exact rfl); refine a_neq ?_)
              exact hJ3 (decide (t.op ≠ 6)) _ _ (by rw [← decide_not]; exact decide_eq_decide.2 (by omega)) (by first | exact Gl.refl _ _ | exact Gl.drop (by repeat (first | exact List.Sublist.refl _ | exact List.Sublist.slnil | apply List.Sublist.cons_cons | apply List.Sublist.cons)))
            · exact hJ3 false _ _ (by rw [decide_eq_true (by omega)]; rfl) (by first | exact Gl.refl _ _ | exact Gl.drop (by repeat (first | exact List.Sublist.refl _ | exact List.Sublist.slnil | apply List.Sublist.cons_cons | apply List.Sublist.cons)))
        · rw [decide_eq_false h3, Bool.and_false] at hJ
          ((apply a_jnX; intro J hJ); exact hJ; dsimp only [aix0, aix1, aix2, aix3, aix4, aix5, aix6, aix7, aix8]; refine a_cndbF rfl ?_)
          exact hJ () _ _ ⟨rfl, rfl, rfl⟩ (by first | exact Gl.refl _ _ | exact Gl.drop (by repeat (first | exact List.Sublist.refl _ | exact List.Sublist.slnil | apply List.Sublist.cons_cons | apply List.Sublist.cons)))
      · skip
        refine a_cndb (fun h2 => ?_) (fun h2 => ?_)
        · rw [h2] at hJ2
          (refine a_fld ?_; (apply a_ld1 0; exact rfl; exact rfl); refine a_neqS ?_)
          exact hJ2 _ _ _ rfl (by first | exact Gl.refl _ _ | exact Gl.drop (by repeat (first | exact List.Sublist.refl _ | exact List.Sublist.slnil | apply List.Sublist.cons_cons | apply List.Sublist.cons)))
        · rw [h2] at hJ2
          exact hJ2 _ _ _ rfl (by first | exact Gl.refl _ _ | exact Gl.drop (by repeat (first | exact List.Sublist.refl _ | exact List.Sublist.slnil | apply List.Sublist.cons_cons | apply List.Sublist.cons)))
theorem c34 (t : Tm) : AFn pr 34 [t.d] [] (.ret (.tuple [.i (sortF t).1, .i (sortF t).2])) := by
  refine AFn.of (s34 ?_)
  unfold A34
  have hl := leftT_min t 2001 (by omega)
  have hd := deepT_min t 101 (by omega)
  rw [deep_eq t 101 (by omega)] at hd
  (refine a_bxv fun z1 => ?_; (apply a_ldA 0; exact rfl; exact rfl); refine a_call0 (c78 _) ?_; refine a_gtr ?_)
  refine a_cnd (fun h => ?_) (fun h => ?_)
  · exact ret_ii (by rw [sortF_eq, if_pos (by omega)])
  ((apply a_ldA 0; exact rfl; exact rfl); refine a_call0 (c79 _) ?_; refine a_gtr ?_)
  refine a_cnd (fun h1 => ?_) (fun h1 => ?_)
  · exact ret_ii (by rw [sortF_eq, if_pos (by omega)])
  ((apply a_ldA 0; exact rfl; exact rfl); refine a_call0 (c80 _) ?_; refine a_eql ?_)
  refine a_cnd (fun h2 => ?_) (fun h2 => ?_)
  · refine ret_ii ?_
    rw [sortF_eq, if_neg (by omega)]
    unfold srt at h2
    split at h2
    · next h3 =>
      have h4 := (right_iff _ _).1 h3
      exact absurd h2 (shp_facts h4.op1 h4.op2).1
    · next h3 => rw [if_neg h3]
  · refine ret_ii ?_
    rw [sortF_eq, if_neg (by omega)]
    unfold srt at h2 ⊢
    split at h2
    · next h3 => rw [if_pos h3, if_pos h3]
    · exact absurd rfl h2
end Go.Proofs.YtokpeggkofjclaaGreatDoor
