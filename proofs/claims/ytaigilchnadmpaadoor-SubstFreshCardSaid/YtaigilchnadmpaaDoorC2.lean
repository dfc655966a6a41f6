/- Contracts of what tells whether a text is a name. -/
import Derived.Test.YtaigilchnadmpaaDoorC1
import Derived.Shelf.Small.Strs
set_option maxRecDepth 100000
set_option linter.unusedVariables false
namespace Go.Proofs.YtaigilchnadmpaaDoor
open Go Go.V
theorem c68 {b : Nat} {l : List UInt8} {x : UInt8} : AFn pr 68 [.p b 0, .val (.int .u8 x.toNat)] [⟨b, tabOf l, .box⟩] (.ret (.b (inS l x))) := by
  refine AFn.ofL (s68 ?_)
  unfold A68
  (refine a_nil ?_)
  refine a_idxPN x.toNat x.toNat_lt ?_
  refine a_ld1 0 rfl (by rw [Nat.zero_add, Nat.mul_one]; exact tabOf_get l x) ?_
  exact ⟨rfl, (by repeat (first | exact List.Sublist.refl _ | exact List.Sublist.slnil | apply List.Sublist.cons_cons | apply List.Sublist.cons))⟩
theorem c51 {l : List UInt8} (hl : l.length ≤ 9223372036854775806) (ha : ∀ x ∈ l, x.toNat < 128) : AFn pr 51 [.s (str l)] [] (.ret (.tuple [.agg (tabOf l), .b true])) := by
  refine AFn.of (s51 ?_)
  unfold A51
  refine a_bx fun z1 => ?_
  rw [← tabOf_nil]
  refine a_lp (σ := Nat) (fun i => [.i i]) (fun i => [⟨z1, tabOf (l.take i), .box⟩]) (fun i => i ≤ l.length) (fun i => l.length - i) 0 (by first | exact Gl.refl _ _ | exact Gl.drop (by repeat (first | exact List.Sublist.refl _ | exact List.Sublist.slnil | apply List.Sublist.cons_cons | apply List.Sublist.cons))) (Nat.zero_le _) ?_
  rintro i K hi hK
  dsimp only [aix0, aix1, aix2, aix3, aix4, aix5, aix6, aix7, aix8]
  (refine a_lenStr ?_; refine a_lss ?_)
  refine a_cnd (fun h => ?_) (fun h => ?_)
  · have h : i < l.length := by omega
    have hx := ha l[i] (List.getElem_mem h)
    refine a_idxStr i (List.getElem?_eq_getElem h) ?_
    (refine a_geq ?_; refine a_cndF (by first | omega | assumption | decide) ?_)
    refine a_idxPN l[i].toNat l[i].toNat_lt ?_
    refine a_st 0 (tabOf (l.take (i + 1))) rfl rfl rfl (Nat.ble_eq_true_of_le (by rw [tabOf_len]; have := l[i].toNat_lt; omega)) (by rw [Nat.zero_add, Nat.mul_one, List.take_succ_eq_append_getElem h]; exact tabOf_put _ _) ?_
    (refine a_add (by first | omega | assumption | decide) (by first | omega | assumption | decide) ?_)
    exact hK (i + 1) _ _ (by omega) (by omega) (by first | exact Gl.refl _ _ | exact Gl.drop (by repeat (first | exact List.Sublist.refl _ | exact List.Sublist.slnil | apply List.Sublist.cons_cons | apply List.Sublist.cons)))
  · have hi : i = l.length := by omega
    subst hi
    rw [List.take_length]
    refine a_ldA 0 rfl (tabOf_len _) ?_
    refine a_stA 0 rfl (tabOf_len _) (tabOf_len _) (tabOf_ones _) ?_
    refine a_ldA 0 rfl (tabOf_len _) ?_
    rfl
theorem c52 {b : Nat} {c l : List UInt8} : AFn pr 52 [.s (str l), .p b 0] [⟨b, tabOf c, .box⟩] (.ret (.s (str (l.dropWhile (inS c))))) := by
  refine AFn.ofL (s52 ?_)
  unfold A52
  refine a_lp (σ := List UInt8) (fun m => [.s (str m)]) (fun _ => [⟨b, tabOf c, .box⟩]) (fun m => m.dropWhile (inS c) = l.dropWhile (inS c)) (fun m => m.length) l (by first | exact Gl.refl _ _ | exact Gl.drop (by repeat (first | exact List.Sublist.refl _ | exact List.Sublist.slnil | apply List.Sublist.cons_cons | apply List.Sublist.cons))) rfl ?_
  rintro m K hm hK
  dsimp only [aix0, aix1, aix2, aix3, aix4, aix5, aix6, aix7, aix8]
  (refine a_lenStr ?_; refine a_gtr ?_)
  refine a_cnd (fun h => ?_) (fun h => ?_)
  · cases m with
    | nil => exact absurd h (by simp)
    | cons y r =>
    refine a_idxStr 0 (c := y) rfl ?_
    (refine a_callF1 0 rfl (c68) ?_; refine a_not ?_)
    refine a_cndb (fun h1 => ?_) (fun h1 => ?_)
    · have h1 : inS c y = false := by simpa using h1
      refine ⟨?_, (by repeat (first | exact List.Sublist.refl _ | exact List.Sublist.slnil | apply List.Sublist.cons_cons | apply List.Sublist.cons))⟩
      rw [← hm, List.dropWhile_cons, h1]; rfl
    · have h1 : inS c y = true := by simpa using h1
      refine a_slcSf 1 (by simp) ?_
      refine hK r _ _ ?_ (by simp) (by first | exact Gl.refl _ _ | exact Gl.drop (by repeat (first | exact List.Sublist.refl _ | exact List.Sublist.slnil | apply List.Sublist.cons_cons | apply List.Sublist.cons)))
      rw [← hm, List.dropWhile_cons, h1]; rfl
  · have : m = [] := List.length_eq_zero_iff.1 (by omega)
    subst this
    exact ⟨by rw [← hm]; rfl, (by repeat (first | exact List.Sublist.refl _ | exact List.Sublist.slnil | apply List.Sublist.cons_cons | apply List.Sublist.cons))⟩
theorem c53 {b : Nat} {c l : List UInt8} (hl : l.length ≤ 9223372036854775807) : AFn pr 53 [.s (str l), .p b 0] [⟨b, tabOf c, .box⟩] (.ret (.s (str (l.reverse.dropWhile (inS c)).reverse))) := by
  refine AFn.ofL (s53 ?_)
  unfold A53
  refine a_lp (σ := List UInt8) (fun m => [.s (str m.reverse)]) (fun _ => [⟨b, tabOf c, .box⟩]) (fun m => m.length ≤ l.length ∧ m.dropWhile (inS c) = l.reverse.dropWhile (inS c)) (fun m => m.length) l.reverse (by rw [List.reverse_reverse]; exact Gl.refl _ _) ⟨by simp, rfl⟩ ?_
  rintro m K ⟨hl1, hm⟩ hK
  dsimp only [aix0, aix1, aix2, aix3, aix4, aix5, aix6, aix7, aix8]
  (refine a_lenStr ?_; refine a_gtr ?_)
  rw [List.length_reverse]
  refine a_cnd (fun h => ?_) (fun h => ?_)
  · cases m with
    | nil => exact absurd h (by simp)
    | cons y r =>
    have hr : r.length + 1 ≤ l.length := by simpa using hl1
    have e : ((y :: r).reverse.length : Int) - 1 = (r.length : Nat) := by simp
    refine a_lenStr ?_
    refine a_sub (by rw [e]; omega) (by rw [e]; omega) ?_
    rw [e]
    refine a_idxStr r.length (c := y) (by simp) ?_
    (refine a_callF1 0 rfl (c68) ?_; refine a_not ?_)
    refine a_cndb (fun h1 => ?_) (fun h1 => ?_)
    · have h1 : inS c y = false := by simpa using h1
      refine ⟨?_, (by repeat (first | exact List.Sublist.refl _ | exact List.Sublist.slnil | apply List.Sublist.cons_cons | apply List.Sublist.cons))⟩
      rw [← hm, List.dropWhile_cons, h1]; rfl
    · have h1 : inS c y = true := by simpa using h1
      refine a_lenStr ?_
      refine a_sub (by rw [e]; omega) (by rw [e]; omega) ?_
      rw [e]
      refine a_slcSt r.length (by simp) ?_
      rw [List.reverse_cons, List.take_left' (by simp)]
      refine hK r _ _ ⟨by omega, ?_⟩ (by simp) (by first | exact Gl.refl _ _ | exact Gl.drop (by repeat (first | exact List.Sublist.refl _ | exact List.Sublist.slnil | apply List.Sublist.cons_cons | apply List.Sublist.cons)))
      rw [← hm, List.dropWhile_cons, h1]; rfl
  · have : m = [] := List.length_eq_zero_iff.1 (by omega)
    subst this
    exact ⟨by rw [← hm]; rfl, (by repeat (first | exact List.Sublist.refl _ | exact List.Sublist.slnil | apply List.Sublist.cons_cons | apply List.Sublist.cons))⟩
theorem c37 {c l : List UInt8} (hl : l.length ≤ 9223372036854775807) (hc : c.length ≤ 1000) (hc1 : 1 < c.length) (ha : ∀ x ∈ c, x.toNat < 128) :
    AFn pr 37 [.s (str l), .s (str c)] [] (.ret (.s (str (trimL c l)))) := by
  refine AFn.of (s37 ?_)
  unfold A37
  refine a_jn1 [] [] ?_ fun j hj => ?_
  · refine a_jn1 [] [] ?_ fun j hj => ?_
    · refine a_call0 (c51 (by omega) ha) ?_
      ((apply a_ext; exact rfl); (apply a_ext; exact rfl); refine a_bx fun z1 => ?_)
      rw [← tabOf_nil]
      refine a_stA 0 rfl (tabOf_len _) (tabOf_len _) (tabOf_ones _) ?_
      (refine a_cndbT rfl ?_; refine a_callF1 0 rfl (c53 (by first | omega | assumption | decide)) ?_; refine a_callF1 0 rfl (c52) ?_)
      rfl
    · (refine a_lenStr ?_; refine a_eql ?_; refine a_cndF (by first | omega | assumption | decide) ?_)
      exact hj _ _ (by first | exact Gl.refl _ _ | exact Gl.drop (by repeat (first | exact List.Sublist.refl _ | exact List.Sublist.slnil | apply List.Sublist.cons_cons | apply List.Sublist.cons)))
  · (refine a_eqlS ?_)
    refine a_cnd (fun h => ?_) (fun h => ?_)
    · have h := str_inj h
      subst h
      rfl
    · (refine a_eqlS ?_)
      refine a_cnd (fun h => ?_) (fun h => ?_)
      · have h := str_inj h
        subst h
        exact absurd hc1 (by simp)
      · exact hj _ _ (by first | exact Gl.refl _ _ | exact Gl.drop (by repeat (first | exact List.Sublist.refl _ | exact List.Sublist.slnil | apply List.Sublist.cons_cons | apply List.Sublist.cons)))
open Go.Shelf in
def ren : Ren := ⟨fun | 137 => 36 | 217 => 48 | 266 => 67 | x => x, fun x => x, fun x => x⟩
open Go.Shelf in
theorem lays137 : Lays.n137 pr ren where
  mixed := by kernel_rfl
  f137 := by kernel_rfl
  f217 := by kernel_rfl
  f266 := by kernel_rfl
  t3 := by kernel_rfl
  a3 := fun w => by kernel_rfl
  z3 := fun w => by kernel_rfl
  v3 := fun w => by kernel_rfl
  t5 := by kernel_rfl
  a5 := fun w => by kernel_rfl
  z5 := fun w => by kernel_rfl
  v5 := fun w => by kernel_rfl
  t9 := by kernel_rfl
  a9 := fun w => by kernel_rfl
  z9 := fun w => by kernel_rfl
  v9 := fun w => by kernel_rfl
theorem indexByte_rng : ∀ (l : List UInt8) (x : UInt8), -1 ≤ Lib.indexByte l x ∧ Lib.indexByte l x ≤ l.length
  | [], _ => by simp [Lib.indexByte]
  | b :: l, x => by
    have := indexByte_rng l x
    unfold Lib.indexByte
    split
    · simp; omega
    · split
      · simp; omega
      · simp; omega
open Go.Shelf in
theorem c36 {l : List UInt8} {x : UInt8} : AFn pr 36 [.s (str l), .val (.int .u8 x.toNat)] [] (.ret (.i (Lib.indexByte l x))) := by
  refine AFn.small fun hs => AFn.ofCalls ⟨_, Tryd.func36, by kernel_rfl, by decide⟩ ?_ fun F w vs hr => ?_
  · rw [Smalls, Small] at hs
    have hs : (str l).size ≤ 9223372036854775807 := hs.1
    have hl : (str l).size = l.length := by show l.toArray.size = l.length; simp
    have := indexByte_rng l x
    simp only [Okv, loN, hiN]
    omega
  obtain rfl : vs = [.string (str l), .int .u8 x.toNat] := by
    rw [Reps] at hr
    obtain ⟨v, r, rfl, h1, h2⟩ := hr
    obtain ⟨u, rfl, h3⟩ := h2.one
    rw [(rep_val_iff.1 h1).1, (rep_val_iff.1 h3).1]
  refine (Any.strings_IndexByte lays137 (str l) x.toNat w).mono ?_
  rintro e w' ⟨rfl, rfl⟩
  refine ⟨?_, ext_refl _⟩
  congr 2
  simp [str]
theorem c15 {s : ByteArray} : AFn pr 15 [.s s] [] (.ret (.b (nameF s.data.toList))) := by
  refine AFn.small fun hs => AFn.of (s15 ?_)
  rw [Smalls, Small] at hs
  have hs : s.size ≤ 9223372036854775807 := hs.1
  obtain ⟨l, rfl⟩ : ∃ l, s = str l := ⟨_, str_of s⟩
  have e : (str l).data.toList = l := by simp [str]
  rw [e]
  rw [str_size] at hs
  clear e
  unfold A15
  (refine a_neqS ?_)
  refine a_cnd (fun h1 => ?_) (fun h1 => ?_)
  · cases l with
    | nil => exact absurd rfl h1
    | cons x r =>
    (refine a_lenStr ?_; refine a_leq ?_)
    refine a_cnd (fun h2 => ?_) (fun h2 => ?_)
    · have h2 : decide ((x :: r).length ≤ 16) = true := decide_eq_true (by omega)
      refine a_idxStr 0 (c := x) rfl ?_
      refine a_call0 (c36 (l := letters)) ?_
      (refine a_geq ?_)
      refine a_cnd (fun h3 => ?_) (fun h3 => ?_)
      · refine a_call0 (c37 (c := chars) hs (by decide) (by decide) (by decide)) ?_
        (refine a_eqlS ?_)
        have e : (str (trimL chars (x :: r)) = ⟨#[]⟩) ↔ trimL chars (x :: r) = [] := ⟨fun h => str_inj h, fun h => by rw [h]; rfl⟩
        refine ret_b ?_
        rw [nameF, h2, decide_eq_true (show 0 ≤ Lib.indexByte letters x from h3)]
        simp [e]
      · refine ret_b ?_
        rw [nameF, decide_eq_false (show ¬ 0 ≤ Lib.indexByte letters x from h3)]
        simp
    · refine ret_b ?_
      rw [nameF, decide_eq_false (show ¬ (x :: r).length ≤ 16 from fun h => h2 (by omega))]
      simp
  · have h1 : str l = ⟨#[]⟩ := Classical.not_not.1 h1
    have h1 := str_inj h1
    subst h1
    rfl
end Go.Proofs.YtaigilchnadmpaaDoor
