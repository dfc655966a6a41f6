/- Contracts of what measures terms. -/
import Derived.Test.YtdalobojhfafbaaGreatDoorW1
import Derived.Test.YtdalobojhfafbaaGreatDoorM1
import Derived.Shelf.Small.Strs
import Derived.Test.YtdalobojhfafbaaGreatDoorT1
set_option maxRecDepth 100000
set_option linter.unusedVariables false
namespace Go.Proofs.YtdalobojhfafbaaGreatDoor
open Go Go.V
theorem c108 (t : Tm) : ∀ {b : Nat} {s d dp : Int}, 0 ≤ s → s ≤ 2000 → 1 ≤ dp → dp ≤ 101 →
    AUp pr 108 [.p b 0, t.d, .i dp] [⟨b, [.i s, .i d], .box⟩] (.ret (.tuple [])) [⟨b, [.i (ofT t dp s d).1, .i (ofT t dp s d).2], .box⟩] := by
  induction t using Tm.ind' with
  | h t ih =>
    intro b s d dp hs0 hs1 hd0 hd1
    refine ASpec.small fun hsm => AUp.of (s108 ?_)
    rw [Smalls, Smalls] at hsm
    have hs := Tm.small (Tm.small_d hsm.2.1)
    unfold A108
    (refine a_bxv fun z1 => ?_; refine a_nil ?_; refine a_fld ?_; (apply a_ld1 1; exact rfl; exact rfl); refine a_add (by first | omega | assumption | decide) (by first | omega | assumption | decide) ?_; refine a_nil ?_; refine a_fld ?_; (apply a_st 1 _; exact rfl; exact rfl; exact rfl; exact rfl; (try dsimp only [afill, aparts, cl, chunk, List.take, List.drop, List.nil_append, List.cons_append, List.append_nil, List.length_cons, List.length_nil, Nat.zero_add, Nat.reduceAdd, Nat.reduceMul]); try exact rfl); refine a_nil ?_; refine a_fld ?_; (apply a_ld1 1; exact rfl; exact rfl); refine a_max ?_; refine a_nil ?_; refine a_fld ?_; (apply a_st 1 _; exact rfl; exact rfl; exact rfl; exact rfl; (try dsimp only [afill, aparts, cl, chunk, List.take, List.drop, List.nil_append, List.cons_append, List.append_nil, List.length_cons, List.length_nil, Nat.zero_add, Nat.reduceAdd, Nat.reduceMul]); try exact rfl); refine a_fld ?_; (apply a_ld1 0; exact rfl; exact rfl); refine Tm.a_len ?_)
    refine a_lp3 (σ := Nat) (τ := Int) (ρ := Int) (fun i _ _ => [.i i]) (fun _ x y => [⟨z1, t.cs, .box⟩, ⟨b, [.i x, .i y], .box⟩]) (fun i x y => i ≤ t.a.length ∧ 0 ≤ x ∧ x ≤ 2001 ∧ ofL (t.a.drop i) dp x y = ofL t.a dp (s + 1) (max d dp)) (fun i _ _ => t.a.length - i) 0 (s + 1) (max d dp) (by first | exact Gl.refl _ _ | exact Gl.drop (by repeat (first | exact List.Sublist.refl _ | exact List.Sublist.slnil | apply List.Sublist.cons_cons | apply List.Sublist.cons))) ⟨Nat.zero_le _, by omega, by omega, rfl⟩ ?_
    rintro i x y K ⟨hi, hx0, hx1, hd⟩ hK
    dsimp only [aix0, aix1, aix2, aix3, aix4, aix5, aix6, aix7, aix8]
    (refine a_lss ?_)
    refine a_cnd (fun h => ?_) (fun h => ?_)
    · rw [List.drop_eq_getElem_cons (by omega), ofL] at hd
      refine Tm.a_idx i (by omega) ?_
      ((apply a_ldAp; exact rfl); refine a_bx fun z2 => ?_; refine a_stA 0 rfl rfl rfl rfl ?_; refine a_nil ?_; refine a_fld ?_; (apply a_ld1 2; exact rfl; exact rfl); refine a_gtr ?_)
      refine a_cnd (fun h2 => ?_) (fun h2 => ?_)
      · rw [if_pos (Or.inl h2)] at hd
        refine ⟨rfl, ?_⟩
        rw [ofT_eq, ← hd]
        exact (by repeat (first | exact List.Sublist.refl _ | exact List.Sublist.slnil | apply List.Sublist.cons_cons | apply List.Sublist.cons))
      (refine a_gtr ?_)
      refine a_cnd (fun h3 => ?_) (fun h3 => ?_)
      · rw [if_pos (Or.inr h3)] at hd
        refine ⟨rfl, ?_⟩
        rw [ofT_eq, ← hd]
        exact (by repeat (first | exact List.Sublist.refl _ | exact List.Sublist.slnil | apply List.Sublist.cons_cons | apply List.Sublist.cons))
      rw [if_neg (fun h => h.elim h2 h3)] at hd
      have hb := ofT_bound t.a[i] (dp + 1) x y (by omega) (by omega)
      ((apply a_ldA 0; exact rfl; exact rfl); refine a_add (by first | omega | assumption | decide) (by first | omega | assumption | decide) ?_)
      refine a_callU 2 rfl (ih _ (List.getElem_mem _) (by omega) (by omega) (by omega) (by omega)) ?_
      dsimp only [AE.on]
      (refine a_add (by first | omega | assumption | decide) (by first | omega | assumption | decide) ?_)
      exact hK (i + 1) _ _ _ _ ⟨by omega, hb.1, hb.2, hd⟩ (by omega) (by first | exact Gl.refl _ _ | exact Gl.drop (by repeat (first | exact List.Sublist.refl _ | exact List.Sublist.slnil | apply List.Sublist.cons_cons | apply List.Sublist.cons)))
    · rw [List.drop_eq_nil_of_le (by omega), ofL] at hd
      refine ⟨rfl, ?_⟩
      rw [ofT_eq, ← hd]
      exact (by repeat (first | exact List.Sublist.refl _ | exact List.Sublist.slnil | apply List.Sublist.cons_cons | apply List.Sublist.cons))
end Go.Proofs.YtdalobojhfafbaaGreatDoor
set_option maxRecDepth 100000
set_option linter.unusedVariables false
namespace Go.Proofs.YtdalobojhfafbaaGreatDoor
open Go Go.V
theorem c177 {b : Nat} {l : List UInt8} {x : UInt8} : AFn pr 177 [.p b 0, .val (.int .u8 x.toNat)] [⟨b, tabOf l, .box⟩] (.ret (.b (inS l x))) := by
  refine AFn.ofL (s177 ?_)
  unfold A177
  (refine a_nil ?_)
  refine a_idxPN x.toNat x.toNat_lt ?_
  refine a_ld1 0 rfl (by rw [Nat.zero_add, Nat.mul_one]; exact tabOf_get l x) ?_
  exact ⟨rfl, (by repeat (first | exact List.Sublist.refl _ | exact List.Sublist.slnil | apply List.Sublist.cons_cons | apply List.Sublist.cons))⟩
theorem c138 {l : List UInt8} (hl : l.length ≤ 9223372036854775806) (ha : ∀ x ∈ l, x.toNat < 128) : AFn pr 138 [.s (str l)] [] (.ret (.tuple [.agg (tabOf l), .b true])) := by
  refine AFn.of (s138 ?_)
  unfold A138
  refine a_bx fun z1 => ?_
  rw [← tabOf_nil]
  refine a_lp (σ := Nat) (fun i => [.i i]) (fun i => [⟨z1, tabOf (l.take i), .box⟩]) (fun i => i ≤ l.length) (fun i => l.length - i) 0 (by first | exact Gl.refl _ _ | exact Gl.drop (by repeat (first | exact List.Sublist.refl _ | exact List.Sublist.slnil | apply List.Sublist.cons_cons | apply List.Sublist.cons))) (Nat.zero_le _) ?_
  rintro i K hi hK
  dsimp only [aix0, aix1, aix2, aix3, aix4, aix5, aix6, aix7, aix8]
  (refine a_lenStr ?_; refine a_lss ?_)
  refine a_cnd (fun h => ?_) (fun h => ?_)
  · have h : i < l.length := by omega
    have hx := ha l[i] (List.getElem_mem h)
    refine a_idxStr i (List.getElem?_eq_getElem h) ?_
    (refine a_geq ?_; refine a_cndF (by first | omega | assumption | decide) ?_)
    refine a_idxPN l[i].toNat l[i].toNat_lt ?_
    refine a_st 0 (tabOf (l.take (i + 1))) rfl rfl rfl (Nat.ble_eq_true_of_le (by rw [tabOf_len]; have := l[i].toNat_lt; omega)) (by rw [Nat.zero_add, Nat.mul_one, List.take_succ_eq_append_getElem h]; exact tabOf_put _ _) ?_
    (refine a_add (by first | omega | assumption | decide) (by first | omega | assumption | decide) ?_)
    exact hK (i + 1) _ _ (by omega) (by omega) (by first | exact Gl.refl _ _ | exact Gl.drop (by repeat (first | exact List.Sublist.refl _ | exact List.Sublist.slnil | apply List.Sublist.cons_cons | apply List.Sublist.cons)))
  · have hi : i = l.length := by omega
    subst hi
    rw [List.take_length]
    refine a_ldA 0 rfl (tabOf_len _) ?_
    refine a_stA 0 rfl (tabOf_len _) (tabOf_len _) (tabOf_ones _) ?_
    refine a_ldA 0 rfl (tabOf_len _) ?_
    rfl
theorem c139 {b : Nat} {c l : List UInt8} : AFn pr 139 [.s (str l), .p b 0] [⟨b, tabOf c, .box⟩] (.ret (.s (str (l.dropWhile (inS c))))) := by
  refine AFn.ofL (s139 ?_)
  unfold A139
  refine a_lp (σ := List UInt8) (fun m => [.s (str m)]) (fun _ => [⟨b, tabOf c, .box⟩]) (fun m => m.dropWhile (inS c) = l.dropWhile (inS c)) (fun m => m.length) l (by first | exact Gl.refl _ _ | exact Gl.drop (by repeat (first | exact List.Sublist.refl _ | exact List.Sublist.slnil | apply List.Sublist.cons_cons | apply List.Sublist.cons))) rfl ?_
  rintro m K hm hK
  dsimp only [aix0, aix1, aix2, aix3, aix4, aix5, aix6, aix7, aix8]
  (refine a_lenStr ?_; refine a_gtr ?_)
  refine a_cnd (fun h => ?_) (fun h => ?_)
  · cases m with
    | nil => exact absurd h (by simp)
    | cons y r =>
    refine a_idxStr 0 (c := y) rfl ?_
    (refine a_callF1 0 rfl (c177) ?_; refine a_not ?_)
    refine a_cndb (fun h1 => ?_) (fun h1 => ?_)
    · have h1 : inS c y = false := by simpa using h1
      refine ⟨?_, (by repeat (first | exact List.Sublist.refl _ | exact List.Sublist.slnil | apply List.Sublist.cons_cons | apply List.Sublist.cons))⟩
      rw [← hm, List.dropWhile_cons, h1]; rfl
    · have h1 : inS c y = true := by simpa using h1
      refine a_slcSf 1 (by simp) ?_
      refine hK r _ _ ?_ (by simp) (by first | exact Gl.refl _ _ | exact Gl.drop (by repeat (first | exact List.Sublist.refl _ | exact List.Sublist.slnil | apply List.Sublist.cons_cons | apply List.Sublist.cons)))
      rw [← hm, List.dropWhile_cons, h1]; rfl
  · have : m = [] := List.length_eq_zero_iff.1 (by omega)
    subst this
    exact ⟨by rw [← hm]; rfl, (by repeat (first | exact List.Sublist.refl _ | exact List.Sublist.slnil | apply List.Sublist.cons_cons | apply List.Sublist.cons))⟩
theorem c140 {b : Nat} {c l : List UInt8} (hl : l.length ≤ 9223372036854775807) : AFn pr 140 [.s (str l), .p b 0] [⟨b, tabOf c, .box⟩] (.ret (.s (str (l.reverse.dropWhile (inS c)).reverse))) := by
  refine AFn.ofL (s140 ?_)
  unfold A140
  refine a_lp (σ := List UInt8) (fun m => [.s (str m.reverse)]) (fun _ => [⟨b, tabOf c, .box⟩]) (fun m => m.length ≤ l.length ∧ m.dropWhile (inS c) = l.reverse.dropWhile (inS c)) (fun m => m.length) l.reverse (by rw [List.reverse_reverse]; exact Gl.refl _ _) ⟨by simp, rfl⟩ ?_
  rintro m K ⟨hl1, hm⟩ hK
  dsimp only [aix0, aix1, aix2, aix3, aix4, aix5, aix6, aix7, aix8]
  (refine a_lenStr ?_; refine a_gtr ?_)
  rw [List.length_reverse]
  refine a_cnd (fun h => ?_) (fun h => ?_)
  · cases m with
    | nil => exact absurd h (by simp)
    | cons y r =>
    have hr : r.length + 1 ≤ l.length := by simpa using hl1
    have e : ((y :: r).reverse.length : Int) - 1 = (r.length : Nat) := by simp
    refine a_lenStr ?_
    refine a_sub (by rw [e]; omega) (by rw [e]; omega) ?_
    rw [e]
    refine a_idxStr r.length (c := y) (by simp) ?_
    (refine a_callF1 0 rfl (c177) ?_; refine a_not ?_)
    refine a_cndb (fun h1 => ?_) (fun h1 => ?_)
    · have h1 : inS c y = false := by simpa using h1
      refine ⟨?_, (by repeat (first | exact List.Sublist.refl _ | exact List.Sublist.slnil | apply List.Sublist.cons_cons | apply List.Sublist.cons))⟩
      rw [← hm, List.dropWhile_cons, h1]; rfl
    · have h1 : inS c y = true := by simpa using h1
      refine a_lenStr ?_
      refine a_sub (by rw [e]; omega) (by rw [e]; omega) ?_
      rw [e]
      refine a_slcSt r.length (by simp) ?_
      rw [List.reverse_cons, List.take_left' (by simp)]
      refine hK r _ _ ⟨by omega, ?_⟩ (by simp) (by first | exact Gl.refl _ _ | exact Gl.drop (by repeat (first | exact List.Sublist.refl _ | exact List.Sublist.slnil | apply List.Sublist.cons_cons | apply List.Sublist.cons)))
      rw [← hm, List.dropWhile_cons, h1]; rfl
  · have : m = [] := List.length_eq_zero_iff.1 (by omega)
    subst this
    exact ⟨by rw [← hm]; rfl, (by repeat (first | exact List.Sublist.refl _ | exact List.Sublist.slnil | apply List.Sublist.cons_cons | apply List.Sublist.cons))⟩
theorem c93 {c l : List UInt8} (hl : l.length ≤ 9223372036854775807) (hc : c.length ≤ 1000) (hc1 : 1 < c.length) (ha : ∀ x ∈ c, x.toNat < 128) :
    AFn pr 93 [.s (str l), .s (str c)] [] (.ret (.s (str (trimL c l)))) := by
  refine AFn.of (s93 ?_)
  unfold A93
  refine a_jn1 [] [] ?_ fun j hj => ?_
  · refine a_jn1 [] [] ?_ fun j hj => ?_
    · refine a_call0 (c138 (by omega) ha) ?_
      ((apply a_ext; exact rfl); (apply a_ext; exact rfl); refine a_bx fun z1 => ?_)
      rw [← tabOf_nil]
      refine a_stA 0 rfl (tabOf_len _) (tabOf_len _) (tabOf_ones _) ?_
      (refine a_cndbT rfl ?_; refine a_callF1 0 rfl (c140 (by first | omega | assumption | decide)) ?_; refine a_callF1 0 rfl (c139) ?_)
      rfl
    · (refine a_lenStr ?_; refine a_eql ?_; refine a_cndF (by first | omega | assumption | decide) ?_)
      exact hj _ _ (by first | exact Gl.refl _ _ | exact Gl.drop (by repeat (first | exact List.Sublist.refl _ | exact List.Sublist.slnil | apply List.Sublist.cons_cons | apply List.Sublist.cons)))
  · (refine a_eqlS ?_)
    refine a_cnd (fun h => ?_) (fun h => ?_)
    · have h := str_inj h
      subst h
      rfl
    · (refine a_eqlS ?_)
      refine a_cnd (fun h => ?_) (fun h => ?_)
      · have h := str_inj h
        subst h
        exact absurd hc1 (by simp)
      · exact hj _ _ (by first | exact Gl.refl _ _ | exact Gl.drop (by repeat (first | exact List.Sublist.refl _ | exact List.Sublist.slnil | apply List.Sublist.cons_cons | apply List.Sublist.cons)))
open Go.Shelf in
def ren : Ren := ⟨fun | 137 => 92 | 217 => 135 | 266 => 176 | x => x, fun x => x, fun x => x⟩
open Go.Shelf in
theorem lays137 : Lays.n137 pr ren where
  mixed := by kernel_rfl
  f137 := by kernel_rfl
  f217 := by kernel_rfl
  f266 := by kernel_rfl
  t3 := by kernel_rfl
  a3 := fun w => by kernel_rfl
  z3 := fun w => by kernel_rfl
  v3 := fun w => by kernel_rfl
  t5 := by kernel_rfl
  a5 := fun w => by kernel_rfl
  z5 := fun w => by kernel_rfl
  v5 := fun w => by kernel_rfl
  t9 := by kernel_rfl
  a9 := fun w => by kernel_rfl
  z9 := fun w => by kernel_rfl
  v9 := fun w => by kernel_rfl
theorem indexByte_rng : ∀ (l : List UInt8) (x : UInt8), -1 ≤ Lib.indexByte l x ∧ Lib.indexByte l x ≤ l.length
  | [], _ => by simp [Lib.indexByte]
  | b :: l, x => by
    have := indexByte_rng l x
    unfold Lib.indexByte
    split
    · simp; omega
    · split
      · simp; omega
      · simp; omega
open Go.Shelf in
theorem c92 {l : List UInt8} {x : UInt8} : AFn pr 92 [.s (str l), .val (.int .u8 x.toNat)] [] (.ret (.i (Lib.indexByte l x))) := by
  refine AFn.small fun hs => AFn.ofCalls ⟨_, Tryz.func92, by kernel_rfl, by decide⟩ ?_ fun F w vs hr => ?_
  · rw [Smalls, Small] at hs
    have hs : (str l).size ≤ 9223372036854775807 := hs.1
    have hl : (str l).size = l.length := by show l.toArray.size = l.length; simp
    have := indexByte_rng l x
    simp only [Okv, loN, hiN]
    omega
  obtain rfl : vs = [.string (str l), .int .u8 x.toNat] := by
    rw [Reps] at hr
    obtain ⟨v, r, rfl, h1, h2⟩ := hr
    obtain ⟨u, rfl, h3⟩ := h2.one
    rw [(rep_val_iff.1 h1).1, (rep_val_iff.1 h3).1]
  refine (Any.strings_IndexByte lays137 (str l) x.toNat w).mono ?_
  rintro e w' ⟨rfl, rfl⟩
  refine ⟨?_, ext_refl _⟩
  congr 2
  simp [str]
theorem c51 {s : ByteArray} : AFn pr 51 [.s s] [] (.ret (.b (nameF s.data.toList))) := by
  refine AFn.small fun hs => AFn.of (s51 ?_)
  rw [Smalls, Small] at hs
  have hs : s.size ≤ 9223372036854775807 := hs.1
  obtain ⟨l, rfl⟩ : ∃ l, s = str l := ⟨_, str_of s⟩
  have e : (str l).data.toList = l := by simp [str]
  rw [e]
  rw [str_size] at hs
  clear e
  unfold A51
  (refine a_neqS ?_)
  refine a_cnd (fun h1 => ?_) (fun h1 => ?_)
  · cases l with
    | nil => exact absurd rfl h1
    | cons x r =>
    (refine a_lenStr ?_; refine a_leq ?_)
    refine a_cnd (fun h2 => ?_) (fun h2 => ?_)
    · have h2 : decide ((x :: r).length ≤ 16) = true := decide_eq_true (by omega)
      refine a_idxStr 0 (c := x) rfl ?_
      refine a_call0 (c92 (l := letters)) ?_
      (refine a_geq ?_)
      refine a_cnd (fun h3 => ?_) (fun h3 => ?_)
      · refine a_call0 (c93 (c := chars) hs (by decide) (by decide) (by decide)) ?_
        (refine a_eqlS ?_)
        have e : (str (trimL chars (x :: r)) = ⟨#[]⟩) ↔ trimL chars (x :: r) = [] := ⟨fun h => str_inj h, fun h => by rw [h]; rfl⟩
        refine ret_b ?_
        rw [nameF, h2, decide_eq_true (show 0 ≤ Lib.indexByte letters x from h3)]
        simp [e]
      · refine ret_b ?_
        rw [nameF, decide_eq_false (show ¬ 0 ≤ Lib.indexByte letters x from h3)]
        simp
    · refine ret_b ?_
      rw [nameF, decide_eq_false (show ¬ (x :: r).length ≤ 16 from fun h => h2 (by omega))]
      simp
  · have h1 : str l = ⟨#[]⟩ := Classical.not_not.1 h1
    have h1 := str_inj h1
    subst h1
    rfl
end Go.Proofs.YtdalobojhfafbaaGreatDoor
set_option maxRecDepth 100000
set_option linter.unusedVariables false
namespace Go.Proofs.YtdalobojhfafbaaGreatDoor
open Go Go.V
theorem c157 {x y : Int} : AFn pr 157 [.i x, .i y] [] (.ret (.agg [.i x, .b false, .b false, .row 1 [[.i y], [.i y]], .b false])) := by
  refine AFn.of (s157 ?_)
  unfold A157
  (refine a_bx fun z1 => ?_; (apply a_bldS _; exact rfl; (try dsimp only [afill, aparts, cl, chunk, List.take, List.drop, List.nil_append, List.cons_append, List.append_nil, List.length_cons, List.length_nil, Nat.zero_add, Nat.reduceAdd, Nat.reduceMul]); try exact rfl); (apply a_bld _; exact rfl; (try dsimp only [afill, aparts, cl, chunk, List.take, List.drop, List.nil_append, List.cons_append, List.append_nil, List.length_cons, List.length_nil, Nat.zero_add, Nat.reduceAdd, Nat.reduceMul]); try exact rfl); refine a_stA 0 rfl rfl rfl rfl ?_; (apply a_ldA 0; exact rfl; exact rfl))
  rfl
theorem c109 : AFn pr 109 [] [] (.ret (.agg tabD)) := by
  refine AFn.of (s109 ?_)
  unfold A109
  (refine a_bx fun z1 => ?_; (apply a_bld _; exact rfl; (try dsimp only [afill, aparts, cl, chunk, List.take, List.drop, List.nil_append, List.cons_append, List.append_nil, List.length_cons, List.length_nil, Nat.zero_add, Nat.reduceAdd, Nat.reduceMul]); try exact rfl); (apply a_bld _; exact rfl; (try dsimp only [afill, aparts, cl, chunk, List.take, List.drop, List.nil_append, List.cons_append, List.append_nil, List.length_cons, List.length_nil, Nat.zero_add, Nat.reduceAdd, Nat.reduceMul]); try exact rfl); (apply a_bldS _; exact rfl; (try dsimp only [afill, aparts, cl, chunk, List.take, List.drop, List.nil_append, List.cons_append, List.append_nil, List.length_cons, List.length_nil, Nat.zero_add, Nat.reduceAdd, Nat.reduceMul]); try exact rfl); (apply a_bld _; exact rfl; (try dsimp only [afill, aparts, cl, chunk, List.take, List.drop, List.nil_append, List.cons_append, List.append_nil, List.length_cons, List.length_nil, Nat.zero_add, Nat.reduceAdd, Nat.reduceMul]); try exact rfl); refine a_call0 (c157) ?_; refine a_call0 (c157) ?_; (apply a_bldS _; exact rfl; (try dsimp only [afill, aparts, cl, chunk, List.take, List.drop, List.nil_append, List.cons_append, List.append_nil, List.length_cons, List.length_nil, Nat.zero_add, Nat.reduceAdd, Nat.reduceMul]); try exact rfl); (apply a_bld _; exact rfl; (try dsimp only [afill, aparts, cl, chunk, List.take, List.drop, List.nil_append, List.cons_append, List.append_nil, List.length_cons, List.length_nil, Nat.zero_add, Nat.reduceAdd, Nat.reduceMul]); try exact rfl); (apply a_bld _; exact rfl; (try dsimp only [afill, aparts, cl, chunk, List.take, List.drop, List.nil_append, List.cons_append, List.append_nil, List.length_cons, List.length_nil, Nat.zero_add, Nat.reduceAdd, Nat.reduceMul]); try exact rfl); (apply a_bld _; exact rfl; (try dsimp only [afill, aparts, cl, chunk, List.take, List.drop, List.nil_append, List.cons_append, List.append_nil, List.length_cons, List.length_nil, Nat.zero_add, Nat.reduceAdd, Nat.reduceMul]); try exact rfl); (apply a_bld _; exact rfl; (try dsimp only [afill, aparts, cl, chunk, List.take, List.drop, List.nil_append, List.cons_append, List.append_nil, List.length_cons, List.length_nil, Nat.zero_add, Nat.reduceAdd, Nat.reduceMul]); try exact rfl); (apply a_bldS _; exact rfl; (try dsimp only [afill, aparts, cl, chunk, List.take, List.drop, List.nil_append, List.cons_append, List.append_nil, List.length_cons, List.length_nil, Nat.zero_add, Nat.reduceAdd, Nat.reduceMul]); try exact rfl); (apply a_bld _; exact rfl; (try dsimp only [afill, aparts, cl, chunk, List.take, List.drop, List.nil_append, List.cons_append, List.append_nil, List.length_cons, List.length_nil, Nat.zero_add, Nat.reduceAdd, Nat.reduceMul]); try exact rfl); refine a_call0 (c157) ?_; refine a_call0 (c157) ?_; refine a_call0 (c157) ?_; (apply a_bld _; exact rfl; (try dsimp only [afill, aparts, cl, chunk, List.take, List.drop, List.nil_append, List.cons_append, List.append_nil, List.length_cons, List.length_nil, Nat.zero_add, Nat.reduceAdd, Nat.reduceMul]); try exact rfl); (apply a_bld _; exact rfl; (try dsimp only [afill, aparts, cl, chunk, List.take, List.drop, List.nil_append, List.cons_append, List.append_nil, List.length_cons, List.length_nil, Nat.zero_add, Nat.reduceAdd, Nat.reduceMul]); try exact rfl); (apply a_bld _; exact rfl; (try dsimp only [afill, aparts, cl, chunk, List.take, List.drop, List.nil_append, List.cons_append, List.append_nil, List.length_cons, List.length_nil, Nat.zero_add, Nat.reduceAdd, Nat.reduceMul]); try exact rfl); (apply a_bld _; exact rfl; (try dsimp only [afill, aparts, cl, chunk, List.take, List.drop, List.nil_append, List.cons_append, List.append_nil, List.length_cons, List.length_nil, Nat.zero_add, Nat.reduceAdd, Nat.reduceMul]); try exact rfl); (apply a_bldS _; exact rfl; (try dsimp only [afill, aparts, cl, chunk, List.take, List.drop, List.nil_append, List.cons_append, List.append_nil, List.length_cons, List.length_nil, Nat.zero_add, Nat.reduceAdd, Nat.reduceMul]); try exact rfl); (apply a_bld _; exact rfl; (try dsimp only [afill, aparts, cl, chunk, List.take, List.drop, List.nil_append, List.cons_append, List.append_nil, List.length_cons, List.length_nil, Nat.zero_add, Nat.reduceAdd, Nat.reduceMul]); try exact rfl); (apply a_bldS _; exact rfl; (try dsimp only [afill, aparts, cl, chunk, List.take, List.drop, List.nil_append, List.cons_append, List.append_nil, List.length_cons, List.length_nil, Nat.zero_add, Nat.reduceAdd, Nat.reduceMul]); try exact rfl); (apply a_bld _; exact rfl; (try dsimp only [afill, aparts, cl, chunk, List.take, List.drop, List.nil_append, List.cons_append, List.append_nil, List.length_cons, List.length_nil, Nat.zero_add, Nat.reduceAdd, Nat.reduceMul]); try exact rfl); (apply a_bldS _; exact rfl; (try dsimp only [afill, aparts, cl, chunk, List.take, List.drop, List.nil_append, List.cons_append, List.append_nil, List.length_cons, List.length_nil, Nat.zero_add, Nat.reduceAdd, Nat.reduceMul]); try exact rfl); (apply a_bld _; exact rfl; (try dsimp only [afill, aparts, cl, chunk, List.take, List.drop, List.nil_append, List.cons_append, List.append_nil, List.length_cons, List.length_nil, Nat.zero_add, Nat.reduceAdd, Nat.reduceMul]); try exact rfl); refine a_call0 (c157) ?_; refine a_call0 (c157) ?_; refine a_call0 (c157) ?_; refine a_call0 (c157) ?_; (apply a_bldS _; exact rfl; (try dsimp only [afill, aparts, cl, chunk, List.take, List.drop, List.nil_append, List.cons_append, List.append_nil, List.length_cons, List.length_nil, Nat.zero_add, Nat.reduceAdd, Nat.reduceMul]); try exact rfl); (apply a_bld _; exact rfl; (try dsimp only [afill, aparts, cl, chunk, List.take, List.drop, List.nil_append, List.cons_append, List.append_nil, List.length_cons, List.length_nil, Nat.zero_add, Nat.reduceAdd, Nat.reduceMul]); try exact rfl); refine a_call0 (c157) ?_; refine a_call0 (c157) ?_; refine a_call0 (c157) ?_)
  refine a_bld tabD rfl (by kernel_rfl) ?_
  refine a_stA 0 rfl (by kernel_rfl) (by kernel_rfl) (by kernel_rfl) ?_
  refine a_ldA 0 rfl (by kernel_rfl) ?_
  rfl
theorem right_bad {t : Tm} {m : Int} (h : badHead (shpAt t.op) t.nm t.n t.a.length m = true) : rightT t m = false := by
  rw [rightT_eq, h]; simp
theorem right_good {t : Tm} {m : Int} (h1 : 1 ≤ t.op) (h2 : t.op ≤ 28) (h : badHead (shpAt t.op) t.nm t.n t.a.length m = false) : rightT t m = rightL (shpAt t.op) t.a 0 := by
  rw [rightT_eq, h, decide_eq_true h1, decide_eq_true h2]; rfl
theorem c110 (t : Tm) : ∀ {B : Nat} {m : Int}, AFn pr 110 [t.d, .p B 0, .i m] [⟨B, tabD, .box⟩] (.ret (.b (rightT t m))) := by
  induction t using Tm.ind' with
  | h t ih =>
    intro B m
    refine AFn.small fun hsm => AFn.ofL (s110 ?_)
    rw [Smalls] at hsm
    have hs := Tm.small (Tm.small_d hsm.1)
    unfold A110
    refine a_bxv fun z1 => ?_
    refine a_jn (σ := Unit) (fun _ => []) (fun _ => [⟨z1, t.cs, .box⟩, ⟨B, tabD, .box⟩]) (fun _ => 1 ≤ t.op ∧ t.op ≤ 28) ?_ fun J hJ => ?_
    · rintro _ ⟨ho1, ho2⟩
      (refine a_fld ?_; (apply a_ld1 0; exact rfl; exact rfl); refine a_nil ?_)
      refine a_idxP (by omega) (by omega) ?_
      refine a_ldN 1 (shpAt t.op).cs rfl (tab_at ho1 ho2) rfl ?_
      refine a_bx fun z2 => ?_
      refine a_stA 0 rfl rfl rfl (Shp.cs_one _) ?_
      generalize hS : shpAt t.op = S
      refine a_jn (σ := Unit) (fun _ => []) (fun _ => [⟨z2, S.cs, .box⟩, ⟨z1, t.cs, .box⟩, ⟨B, tabD, .box⟩]) (fun _ => badHead S t.nm t.n t.a.length m = false) ?_ fun J hJ => ?_
      · rintro _ hbad
        have hlen : S.many = false → t.a.length = S.a.length := by
          intro hm
          unfold badHead at hbad
          rw [hm] at hbad
          simp at hbad
          exact_mod_cast hbad.2
        have hmany : S.many = true → S.a.length = 1 := by rw [← hS]; exact shp_many t.op
        rw [← hS] at hbad
        have hgood := right_good ho1 ho2 hbad
        rw [hS] at hgood
        (refine a_fld ?_; (apply a_ld1 1; exact rfl; exact rfl); refine Tm.a_len ?_)
        refine a_lp (σ := Nat) (fun i => [.i i]) (fun _ => [⟨z2, S.cs, .box⟩, ⟨z1, t.cs, .box⟩, ⟨B, tabD, .box⟩]) (fun i => i ≤ t.a.length ∧ rightL S (t.a.drop i) i = rightL S t.a 0) (fun i => t.a.length - i) 0 (by first | exact Gl.refl _ _ | exact Gl.drop (by repeat (first | exact List.Sublist.refl _ | exact List.Sublist.slnil | apply List.Sublist.cons_cons | apply List.Sublist.cons))) ⟨Nat.zero_le _, rfl⟩ ?_
        rintro i K ⟨hi, hd⟩ hK
        dsimp only [aix0, aix1, aix2, aix3, aix4, aix5, aix6, aix7, aix8]
        (refine a_lss ?_)
        refine a_cnd (fun h => ?_) (fun h => ?_)
        · rw [List.drop_eq_getElem_cons (by omega), rightL] at hd
          refine Tm.a_idx i (by omega) ?_
          ((apply a_ldAp; exact rfl); refine a_bx fun z3 => ?_; refine a_stA 0 rfl rfl rfl rfl ?_)
          have hk : (bif S.many then 0 else i) < S.a.length := by
            cases hm : S.many
            · have := hlen hm; simp only [cond_false]; omega
            · have := hmany hm; simp only [cond_true]; omega
          refine a_jn1 [.i ((bif S.many then 0 else i : Nat))] [⟨z3, t.a[i].cs, .box⟩, ⟨z2, S.cs, .box⟩, ⟨z1, t.cs, .box⟩, ⟨B, tabD, .box⟩] ?_ fun J hJ => ?_
          · dsimp only [aix0, aix1, aix2, aix3, aix4, aix5, aix6, aix7, aix8]
            ((apply a_ldA 0; exact rfl; exact rfl); refine a_fld ?_; (apply a_ld1 1; exact rfl; exact rfl))
            refine a_idxA _ hk ?_
            ((apply a_ld1p; exact rfl))
            refine a_callSF1 3 rfl (ih _ (List.getElem_mem _)) ?_
            (refine a_not ?_)
            rw [List.getD_eq_getElem?_getD, List.getElem?_eq_getElem hk, Option.getD_some] at hd
            refine a_cndb (fun h1 => ?_) (fun h1 => ?_)
            · have h1 : rightT t.a[i] S.a[bif S.many then 0 else i] = false := by simpa using h1
              rw [h1] at hd
              exact ⟨ret_b (by rw [hgood, ← hd]; rfl), (by repeat (first | exact List.Sublist.refl _ | exact List.Sublist.slnil | apply List.Sublist.cons_cons | apply List.Sublist.cons))⟩
            · have h1 : rightT t.a[i] S.a[bif S.many then 0 else i] = true := by simpa using h1
              rw [h1] at hd
              (refine a_add (by first | omega | assumption | decide) (by first | omega | assumption | decide) ?_)
              exact hK (i + 1) _ _ ⟨by omega, by rw [← hd]; rfl⟩ (by omega) (by first | exact Gl.refl _ _ | exact Gl.drop (by repeat (first | exact List.Sublist.refl _ | exact List.Sublist.slnil | apply List.Sublist.cons_cons | apply List.Sublist.cons)))
          · (refine a_fld ?_; (apply a_ld1 1; exact rfl; exact rfl))
            refine a_cndb (fun h1 => ?_) (fun h1 => ?_)
            · rw [h1] at hJ; exact hJ _ _ (by first | exact Gl.refl _ _ | exact Gl.drop (by repeat (first | exact List.Sublist.refl _ | exact List.Sublist.slnil | apply List.Sublist.cons_cons | apply List.Sublist.cons)))
            · rw [h1] at hJ; exact hJ _ _ (by first | exact Gl.refl _ _ | exact Gl.drop (by repeat (first | exact List.Sublist.refl _ | exact List.Sublist.slnil | apply List.Sublist.cons_cons | apply List.Sublist.cons)))
        · rw [List.drop_eq_nil_of_le (by omega), rightL] at hd
          exact ⟨ret_b (by rw [hgood, ← hd]), (by repeat (first | exact List.Sublist.refl _ | exact List.Sublist.slnil | apply List.Sublist.cons_cons | apply List.Sublist.cons))⟩
      · have hbad : badHead S t.nm t.n t.a.length m = true → AE.ret (.b false) = .ret (.b (rightT t m)) := fun h => ret_b (by rw [right_bad (by rw [hS]; exact h)])
        unfold badHead at hbad hJ
        (refine a_neq ?_)
        refine a_jn (σ := Bool) (fun b => [.b b]) (fun _ => [⟨z2, S.cs, .box⟩, ⟨z1, t.cs, .box⟩, ⟨B, tabD, .box⟩]) (fun b => (decide (m ≠ 0) && decide (S.sort ≠ m)) = b) ?_ fun J1 hJ1 => ?_
        · rintro _ rfl
          dsimp only [aix0, aix1, aix2, aix3, aix4, aix5, aix6, aix7, aix8]
          refine a_cndb (fun h1 => ?_) (fun h1 => ?_)
          · exact ⟨hbad (by rw [h1]; rfl), (by repeat (first | exact List.Sublist.refl _ | exact List.Sublist.slnil | apply List.Sublist.cons_cons | apply List.Sublist.cons))⟩
          rw [h1] at hbad hJ
          (refine a_fld ?_; (apply a_ld1 0; exact rfl; exact rfl))
          refine a_jn (σ := Bool) (fun b => [.b b]) (fun _ => [⟨z2, S.cs, .box⟩, ⟨z1, t.cs, .box⟩, ⟨B, tabD, .box⟩]) (fun b => (S.name && !nameF t.nm.data.toList) = b) ?_ fun J2 hJ2 => ?_
          · rintro _ rfl
            dsimp only [aix0, aix1, aix2, aix3, aix4, aix5, aix6, aix7, aix8]
            refine a_cndb (fun h2 => ?_) (fun h2 => ?_)
            · exact ⟨hbad (by rw [h2]; rfl), (by repeat (first | exact List.Sublist.refl _ | exact List.Sublist.slnil | apply List.Sublist.cons_cons | apply List.Sublist.cons))⟩
            rw [h2] at hbad hJ
            (refine a_fld ?_; (apply a_ld1 0; exact rfl; exact rfl); refine a_not ?_)
            refine a_jn (σ := Bool) (fun b => [.b b]) (fun _ => [⟨z2, S.cs, .box⟩, ⟨z1, t.cs, .box⟩, ⟨B, tabD, .box⟩]) (fun b => (!S.name && decide (t.nm ≠ ⟨#[]⟩)) = b) ?_ fun J3 hJ3 => ?_
            · rintro _ rfl
              dsimp only [aix0, aix1, aix2, aix3, aix4, aix5, aix6, aix7, aix8]
              refine a_cndb (fun h3 => ?_) (fun h3 => ?_)
              · exact ⟨hbad (by rw [h3]; rfl), (by repeat (first | exact List.Sublist.refl _ | exact List.Sublist.slnil | apply List.Sublist.cons_cons | apply List.Sublist.cons))⟩
              rw [h3] at hbad hJ
              (refine a_fld ?_; (apply a_ld1 0; exact rfl; exact rfl); refine a_not ?_)
              refine a_jn (σ := Bool) (fun b => [.b b]) (fun _ => [⟨z2, S.cs, .box⟩, ⟨z1, t.cs, .box⟩, ⟨B, tabD, .box⟩]) (fun b => (!S.number && decide (t.n ≠ 0)) = b) ?_ fun J4 hJ4 => ?_
              · rintro _ rfl
                dsimp only [aix0, aix1, aix2, aix3, aix4, aix5, aix6, aix7, aix8]
                refine a_cndb (fun h4 => ?_) (fun h4 => ?_)
                · exact ⟨hbad (by rw [h4]; rfl), (by repeat (first | exact List.Sublist.refl _ | exact List.Sublist.slnil | apply List.Sublist.cons_cons | apply List.Sublist.cons))⟩
                rw [h4] at hbad hJ
                (refine a_fld ?_; (apply a_ld1 0; exact rfl; exact rfl); refine a_not ?_)
                refine a_jn (σ := Bool) (fun b => [.b b]) (fun _ => [⟨z2, S.cs, .box⟩, ⟨z1, t.cs, .box⟩, ⟨B, tabD, .box⟩]) (fun b => (!S.many && decide ((t.a.length : Int) ≠ S.a.length)) = b) ?_ fun J5 hJ5 => ?_
                · rintro _ rfl
                  dsimp only [aix0, aix1, aix2, aix3, aix4, aix5, aix6, aix7, aix8]
                  refine a_cndb (fun h5 => ?_) (fun h5 => ?_)
                  · exact ⟨hbad (by rw [h5]; rfl), (by repeat (first | exact List.Sublist.refl _ | exact List.Sublist.slnil | apply List.Sublist.cons_cons | apply List.Sublist.cons))⟩
                  rw [h5] at hJ
                  exact hJ () _ _ rfl (by first | exact Gl.refl _ _ | exact Gl.drop (by repeat (first | exact List.Sublist.refl _ | exact List.Sublist.slnil | apply List.Sublist.cons_cons | apply List.Sublist.cons)))
                · refine a_cndb (fun h => ?_) (fun h => ?_)
                  · rw [h] at hJ5
                    (refine a_fld ?_; (apply a_ld1 1; exact rfl; exact rfl); refine Tm.a_len ?_; refine a_fld ?_; (apply a_ld1 0; exact rfl; exact rfl))
                    refine a_lenA ?_
                    (refine a_neq ?_)
                    exact hJ5 _ _ _ rfl (by first | exact Gl.refl _ _ | exact Gl.drop (by repeat (first | exact List.Sublist.refl _ | exact List.Sublist.slnil | apply List.Sublist.cons_cons | apply List.Sublist.cons)))
                  · rw [h] at hJ5
                    exact hJ5 _ _ _ rfl (by first | exact Gl.refl _ _ | exact Gl.drop (by repeat (first | exact List.Sublist.refl _ | exact List.Sublist.slnil | apply List.Sublist.cons_cons | apply List.Sublist.cons)))
              · refine a_cndb (fun h => ?_) (fun h => ?_)
                · rw [h] at hJ4
                  (refine a_fld ?_; (apply a_ld1 1; exact rfl; exact rfl); refine a_neq ?_)
                  exact hJ4 _ _ _ rfl (by first | exact Gl.refl _ _ | exact Gl.drop (by repeat (first | exact List.Sublist.refl _ | exact List.Sublist.slnil | apply List.Sublist.cons_cons | apply List.Sublist.cons)))
                · rw [h] at hJ4
                  exact hJ4 _ _ _ rfl (by first | exact Gl.refl _ _ | exact Gl.drop (by repeat (first | exact List.Sublist.refl _ | exact List.Sublist.slnil | apply List.Sublist.cons_cons | apply List.Sublist.cons)))
            · refine a_cndb (fun h => ?_) (fun h => ?_)
              · rw [h] at hJ3
                (refine a_fld ?_; (apply a_ld1 1; exact rfl; exact rfl); refine a_neqS ?_)
                exact hJ3 _ _ _ rfl (by first | exact Gl.refl _ _ | exact Gl.drop (by repeat (first | exact List.Sublist.refl _ | exact List.Sublist.slnil | apply List.Sublist.cons_cons | apply List.Sublist.cons)))
              · rw [h] at hJ3
                exact hJ3 _ _ _ rfl (by first | exact Gl.refl _ _ | exact Gl.drop (by repeat (first | exact List.Sublist.refl _ | exact List.Sublist.slnil | apply List.Sublist.cons_cons | apply List.Sublist.cons)))
          · refine a_cndb (fun h => ?_) (fun h => ?_)
            · rw [h] at hJ2
              (refine a_fld ?_; (apply a_ld1 1; exact rfl; exact rfl); refine a_call0 (c51) ?_; refine a_not ?_)
              exact hJ2 _ _ _ rfl (by first | exact Gl.refl _ _ | exact Gl.drop (by repeat (first | exact List.Sublist.refl _ | exact List.Sublist.slnil | apply List.Sublist.cons_cons | apply List.Sublist.cons)))
            · rw [h] at hJ2
              exact hJ2 _ _ _ rfl (by first | exact Gl.refl _ _ | exact Gl.drop (by repeat (first | exact List.Sublist.refl _ | exact List.Sublist.slnil | apply List.Sublist.cons_cons | apply List.Sublist.cons)))
        · refine a_cnd (fun h => ?_) (fun h => ?_)
          · rw [decide_eq_true h] at hJ1
            (refine a_fld ?_; (apply a_ld1 0; exact rfl; exact rfl); refine a_neq ?_)
            exact hJ1 _ _ _ rfl (by first | exact Gl.refl _ _ | exact Gl.drop (by repeat (first | exact List.Sublist.refl _ | exact List.Sublist.slnil | apply List.Sublist.cons_cons | apply List.Sublist.cons)))
          · rw [decide_eq_false h] at hJ1
            exact hJ1 _ _ _ rfl (by first | exact Gl.refl _ _ | exact Gl.drop (by repeat (first | exact List.Sublist.refl _ | exact List.Sublist.slnil | apply List.Sublist.cons_cons | apply List.Sublist.cons)))
    · (refine a_fld ?_; (apply a_ld1 0; exact rfl; exact rfl); refine a_lss ?_)
      refine a_cnd (fun h => ?_) (fun h => ?_)
      · exact ⟨ret_b (by rw [rightT_eq, decide_eq_false (show ¬ 1 ≤ t.op by omega)]; rfl), (by repeat (first | exact List.Sublist.refl _ | exact List.Sublist.slnil | apply List.Sublist.cons_cons | apply List.Sublist.cons))⟩
      (refine a_fld ?_; (apply a_ld1 0; exact rfl; exact rfl); refine a_gtr ?_)
      refine a_cnd (fun h2 => ?_) (fun h2 => ?_)
      · exact ⟨ret_b (by rw [rightT_eq, decide_eq_false (show ¬ t.op ≤ 28 by omega), Bool.and_false]; rfl), (by repeat (first | exact List.Sublist.refl _ | exact List.Sublist.slnil | apply List.Sublist.cons_cons | apply List.Sublist.cons))⟩
      exact hJ () _ _ ⟨by omega, by omega⟩ (by first | exact Gl.refl _ _ | exact Gl.drop (by repeat (first | exact List.Sublist.refl _ | exact List.Sublist.slnil | apply List.Sublist.cons_cons | apply List.Sublist.cons)))
theorem ret_ii {a b c d : Int} (h : (a, b) = (c, d)) : AE.ret (.tuple [.i a, .i b]) = .ret (.tuple [.i c, .i d]) := by injection h with h1 h2; rw [h1, h2]
theorem c69 (t : Tm) : AFn pr 69 [t.d] [] (.ret (.tuple [.i (sortF t).1, .i (sortF t).2])) := by
  refine AFn.of (s69 ?_)
  unfold A69
  (refine a_bxv fun z1 => ?_; (apply a_bld _; exact rfl; (try dsimp only [afill, aparts, cl, chunk, List.take, List.drop, List.nil_append, List.cons_append, List.append_nil, List.length_cons, List.length_nil, Nat.zero_add, Nat.reduceAdd, Nat.reduceMul]); try exact rfl); refine a_bxv fun z2 => ?_)
  refine a_jn (σ := Unit) (fun _ => []) (fun _ => [⟨z2, [.i (ofT t 1 0 0).1, .i (ofT t 1 0 0).2], .box⟩, ⟨z1, t.cs, .box⟩]) (fun _ => ¬ ((ofT t 1 0 0).1 > 2000 ∨ (ofT t 1 0 0).2 > 100)) ?_ fun J hJ => ?_
  · rintro _ hof
    (refine a_call0 (c109) ?_; refine a_bx fun z3 => ?_)
    refine a_stA 0 rfl (by kernel_rfl) (by kernel_rfl) (by kernel_rfl) ?_
    ((apply a_ldA 2; exact rfl; exact rfl); refine a_callF1 0 rfl (c110 _) ?_; refine a_not ?_)
    refine a_cndb (fun h1 => ?_) (fun h1 => ?_)
    · have h1 : rightT t 0 = false := by simpa using h1
      refine ret_ii ?_
      unfold sortF
      rw [if_neg hof, h1]; rfl
    · have h1 : rightT t 0 = true := by simpa using h1
      have h2 := h1
      rw [rightT_eq] at h2
      simp only [Bool.and_eq_true, decide_eq_true_eq] at h2
      (refine a_fld ?_; (apply a_ld1 2; exact rfl; exact rfl))
      refine a_idxP (by omega) (by omega) ?_
      refine a_fld ?_
      refine a_ld1 0 rfl (tab_sort h2.1.1.1 h2.1.1.2) ?_
      refine ret_ii ?_
      unfold sortF
      rw [if_neg hof, h1]; rfl
  · ((apply a_ldA 1; exact rfl; exact rfl); refine a_callU1 0 rfl (c108 _ (by first | omega | assumption | decide) (by first | omega | assumption | decide) (by first | omega | assumption | decide) (by first | omega | assumption | decide)) ?_; refine a_nil ?_; refine a_fld ?_; (apply a_ld1 0; exact rfl; exact rfl); refine a_gtr ?_)
    refine a_cnd (fun h => ?_) (fun h => ?_)
    · refine ret_ii ?_
      unfold sortF
      rw [if_pos (.inl h)]
    (refine a_nil ?_; refine a_fld ?_; (apply a_ld1 0; exact rfl; exact rfl); refine a_gtr ?_)
    refine a_cnd (fun h2 => ?_) (fun h2 => ?_)
    · refine ret_ii ?_
      unfold sortF
      rw [if_pos (.inr h2)]
    exact hJ () _ _ (fun h3 => h3.elim h h2) (by first | exact Gl.refl _ _ | exact Gl.drop (by repeat (first | exact List.Sublist.refl _ | exact List.Sublist.slnil | apply List.Sublist.cons_cons | apply List.Sublist.cons)))
end Go.Proofs.YtdalobojhfafbaaGreatDoor
set_option maxRecDepth 100000
set_option linter.unusedVariables false
namespace Go.Proofs.YtdalobojhfafbaaGreatDoor
open Go Go.V
theorem c154 (t : Tm) : ∀ {m : Int}, 1 ≤ m → m ≤ 101 → AFn pr 154 [t.d, .i m] [] (.ret (.i (rdeepT t m))) := by
  induction t using Tm.ind' with
  | h t ih =>
    intro m hm1 hm2
    refine AFn.small fun hs => AFn.of (s154 ?_)
    rw [Smalls] at hs
    have hs := Tm.small (Tm.small_d hs.1)
    unfold A154
    (refine a_bxv fun z1 => ?_; refine a_eql ?_)
    refine a_cnd (fun h => ?_) (fun h => ?_)
    · exact ret_i (by rw [rdeepT_eq, if_pos h])
    refine a_lp2 (σ := Int) (τ := Nat) (fun n i => [.i n, .i i]) (fun _ _ => [⟨z1, t.cs, .box⟩]) (fun n i => i ≤ t.a.length ∧ 0 ≤ n ∧ n ≤ m - 1 ∧ rdeepL (t.a.drop i) (m - 1) n = rdeepL t.a (m - 1) 0) (fun _ i => t.a.length - i) 0 0 (by first | exact Gl.refl _ _ | exact Gl.drop (by repeat (first | exact List.Sublist.refl _ | exact List.Sublist.slnil | apply List.Sublist.cons_cons | apply List.Sublist.cons))) ⟨Nat.zero_le _, by omega, by omega, rfl⟩ ?_
    rintro n i K ⟨hi, hn0, hn1, hd⟩ hK
    dsimp only [aix0, aix1, aix2, aix3, aix4, aix5, aix6, aix7, aix8]
    (refine a_fld ?_; (apply a_ld1 0; exact rfl; exact rfl); refine Tm.a_len ?_; refine a_lss ?_)
    refine a_cnd (fun h2 => ?_) (fun h2 => ?_)
    · rw [List.drop_eq_getElem_cons (by omega), rdeepL] at hd
      have hb := rdeepT_bound t.a[i] (m - 1) (by omega)
      (refine a_fld ?_; (apply a_ld1 0; exact rfl; exact rfl))
      refine Tm.a_idx i (by omega) ?_
      ((apply a_ldAp; exact rfl); refine a_sub (by first | omega | assumption | decide) (by first | omega | assumption | decide) ?_)
      refine a_call0 (ih _ (List.getElem_mem _) (by omega) (by omega)) ?_
      (refine a_max ?_; refine a_add (by first | omega | assumption | decide) (by first | omega | assumption | decide) ?_)
      exact hK _ (i + 1) _ _ ⟨by omega, by omega, by omega, hd⟩ (by omega) (by first | exact Gl.refl _ _ | exact Gl.drop (by repeat (first | exact List.Sublist.refl _ | exact List.Sublist.slnil | apply List.Sublist.cons_cons | apply List.Sublist.cons)))
    · rw [List.drop_eq_nil_of_le (by omega), rdeepL] at hd
      (refine a_add (by first | omega | assumption | decide) (by first | omega | assumption | decide) ?_)
      exact ret_i (by rw [rdeepT_eq, if_neg h, ← hd])
theorem c105 (t : Tm) : AFn pr 105 [t.d] [] (.ret (.i (rdeepT t 101))) := by
  refine AFn.of (s105 ?_)
  unfold A105
  (refine a_bxv fun z1 => ?_; (apply a_ldA 0; exact rfl; exact rfl); refine a_call0 (c154 _ (by first | omega | assumption | decide) (by first | omega | assumption | decide)) ?_)
  rfl
theorem c106 (t : Tm) : ∀ (u : Tm), AFn pr 106 [t.d, u.d] [] (.ret (.b (sameT t u))) := by
  induction t using Tm.ind' with
  | h t ih =>
    intro u
    refine AFn.small fun hs => AFn.of (s106 ?_)
    rw [Smalls] at hs
    have hs := Tm.small (Tm.small_d hs.1)
    unfold A106
    refine a_bxv fun z1 => ?_
    refine a_bxv fun z2 => ?_
    refine a_jn (σ := Unit) (fun _ => []) (fun _ => [⟨z2, u.cs, .box⟩, ⟨z1, t.cs, .box⟩]) (fun _ => t.op = u.op ∧ t.nm = u.nm ∧ t.n = u.n ∧ t.a.length = u.a.length) ?_ fun J hJ => ?_
    · rintro _ ⟨e1, e2, e3, e4⟩
      refine a_lp (σ := Nat) (fun i => [.i i]) (fun _ => [⟨z2, u.cs, .box⟩, ⟨z1, t.cs, .box⟩]) (fun i => i ≤ t.a.length ∧ sameL (t.a.drop i) (u.a.drop i) = sameL t.a u.a) (fun i => t.a.length - i) 0 (by first | exact Gl.refl _ _ | exact Gl.drop (by repeat (first | exact List.Sublist.refl _ | exact List.Sublist.slnil | apply List.Sublist.cons_cons | apply List.Sublist.cons))) ⟨Nat.zero_le _, rfl⟩ ?_
      rintro i K ⟨hi, hd⟩ hK
      dsimp only [aix0, aix1, aix2, aix3, aix4, aix5, aix6, aix7, aix8]
      (refine a_fld ?_; (apply a_ld1 1; exact rfl; exact rfl); refine Tm.a_len ?_; refine a_lss ?_)
      refine a_cnd (fun h => ?_) (fun h => ?_)
      · have hi1 : i < t.a.length := by omega
        have hi2 : i < u.a.length := by omega
        rw [List.drop_eq_getElem_cons hi1, List.drop_eq_getElem_cons hi2, sameL] at hd
        (refine a_fld ?_; (apply a_ld1 1; exact rfl; exact rfl))
        refine Tm.a_idx i hi1 ?_
        ((apply a_ldAp; exact rfl); refine a_fld ?_; (apply a_ld1 0; exact rfl; exact rfl))
        refine Tm.a_idx i hi2 ?_
        ((apply a_ldAp; exact rfl))
        refine a_callS0 (ih _ (List.getElem_mem _) _) ?_
        (refine a_not ?_)
        refine a_cndb (fun h1 => ?_) (fun h1 => ?_)
        · exact ret_b (by rw [sameT_eq, ← hd, show sameT t.a[i] u.a[i] = false by simpa using h1, Bool.false_and, Bool.and_false])
        · (refine a_add (by first | omega | assumption | decide) (by first | omega | assumption | decide) ?_)
          exact hK (i + 1) _ _ ⟨by omega, by rw [← hd, show sameT t.a[i] u.a[i] = true by simpa using h1, Bool.true_and]⟩ (by omega) (by first | exact Gl.refl _ _ | exact Gl.drop (by repeat (first | exact List.Sublist.refl _ | exact List.Sublist.slnil | apply List.Sublist.cons_cons | apply List.Sublist.cons)))
      · rw [List.drop_eq_nil_of_le (by omega), List.drop_eq_nil_of_le (by omega), sameL] at hd
        exact ret_b (by rw [sameT_eq, ← hd, decide_eq_true e1, decide_eq_true e2, decide_eq_true e3]; rfl)
    · (refine a_fld ?_; (apply a_ld1 1; exact rfl; exact rfl); refine a_fld ?_; (apply a_ld1 0; exact rfl; exact rfl); refine a_neq ?_)
      refine a_cnd (fun h1 => ?_) (fun h1 => ?_)
      · exact ret_b (by rw [sameT_eq, decide_eq_false h1]; rfl)
      (refine a_fld ?_; (apply a_ld1 1; exact rfl; exact rfl); refine a_fld ?_; (apply a_ld1 0; exact rfl; exact rfl); refine a_neqS ?_)
      refine a_cnd (fun h2 => ?_) (fun h2 => ?_)
      · exact ret_b (by rw [sameT_eq, decide_eq_false h2, Bool.and_false]; rfl)
      (refine a_fld ?_; (apply a_ld1 1; exact rfl; exact rfl); refine a_fld ?_; (apply a_ld1 0; exact rfl; exact rfl); refine a_neq ?_)
      refine a_cnd (fun h3 => ?_) (fun h3 => ?_)
      · exact ret_b (by rw [sameT_eq, decide_eq_false h3, Bool.and_false]; rfl)
      (refine a_fld ?_; (apply a_ld1 1; exact rfl; exact rfl); refine Tm.a_len ?_; refine a_fld ?_; (apply a_ld1 0; exact rfl; exact rfl); refine Tm.a_len ?_; refine a_neq ?_)
      refine a_cnd (fun h4 => ?_) (fun h4 => ?_)
      · exact ret_b (by rw [sameT_eq, sameL_len (by omega), Bool.and_false])
      exact hJ () _ _ ⟨by omega, Classical.not_not.1 h2, by omega, by omega⟩ (by first | exact Gl.refl _ _ | exact Gl.drop (by repeat (first | exact List.Sublist.refl _ | exact List.Sublist.slnil | apply List.Sublist.cons_cons | apply List.Sublist.cons)))
theorem c65 (t u : Tm) : AFn pr 65 [t.d, u.d] [] (.ret (.b (sameF t u))) := by
  refine AFn.of (s65 ?_)
  unfold A65
  (refine a_bxv fun z1 => ?_; refine a_bxv fun z2 => ?_; (apply a_ldA 1; exact rfl; exact rfl); refine a_call0 (c105 _) ?_; refine a_leq ?_)
  refine a_cnd (fun h1 => ?_) (fun h1 => ?_)
  · ((apply a_ldA 0; exact rfl; exact rfl); refine a_call0 (c105 _) ?_; refine a_leq ?_)
    refine a_cnd (fun h2 => ?_) (fun h2 => ?_)
    · ((apply a_ldA 1; exact rfl; exact rfl); (apply a_ldA 0; exact rfl; exact rfl); refine a_call0 (c106 _ _) ?_)
      exact ret_b (by rw [sameF, deep_eq t 101 (by omega), deep_eq u 101 (by omega), decide_eq_true h1, decide_eq_true h2]; rfl)
    · exact ret_b (by rw [sameF, deep_eq t 101 (by omega), deep_eq u 101 (by omega), decide_eq_true h1, decide_eq_false h2]; rfl)
  · exact ret_b (by rw [sameF, deep_eq t 101 (by omega), decide_eq_false h1]; rfl)
end Go.Proofs.YtdalobojhfafbaaGreatDoor
