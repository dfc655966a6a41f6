/- Contracts of layer 13: rows joined. -/
import Derived.Test.YtokpeggkofjclaaGreatDoorC33
import Derived.Test.YtokpeggkofjclaaGreatDoorC4
set_option maxRecDepth 100000
set_option linter.unusedVariables false
namespace Go.V
open Go
def zipJ (f : Int → Int → Int × Bool) (a b : Rw) : List (Int × Bool) := (a.c.zip b.c).map fun x => f x.1 x.2
theorem joinE_eq (f : Int → Int → Int × Bool) (a b : Rw) : joinE f a b = if ((zipJ f a b).all (·.2)) && (f a.k b.k).2 then .ok ⟨(zipJ f a b).map (·.1), (f a.k b.k).1⟩ else .error 5 := by
  unfold joinE zipJ
  rw [List.all_map, List.map_map]; rfl
def outJ (l : List (Int × Bool)) (n i : Nat) : List Int := (l.take i).map (·.1) ++ List.replicate (n - i) 0
theorem outJ_step {l : List (Int × Bool)} {n i : Nat} (hn : l.length = n) (hi : i < n) : (outJ l n i).set i (l[i]'(by omega)).1 = outJ l n (i + 1) := by
  unfold outJ
  have hlen : ((l.take i).map (·.1)).length = i := by rw [List.length_map, List.length_take]; omega
  rw [List.set_append_right _ _ (by omega), hlen, Nat.sub_self, show n - i = n - (i + 1) + 1 by omega, List.replicate_succ, List.set_cons_zero, List.take_succ_eq_append_getElem (by omega), List.map_append, List.append_assoc]
  rfl
theorem outJ_len {l : List (Int × Bool)} {n i : Nat} (hn : l.length = n) (hi : i ≤ n) : (outJ l n i).length = n := by
  unfold outJ
  rw [List.length_append, List.length_map, List.length_take, List.length_replicate]; omega
theorem outJ_end {l : List (Int × Bool)} {n : Nat} (hn : l.length = n) : outJ l n n = l.map (·.1) := by
  unfold outJ
  rw [Nat.sub_self, List.replicate_zero, List.append_nil, List.take_of_length_le (by omega)]
theorem zipJ_len {f : Int → Int → Int × Bool} {a b : Rw} (h : a.c.length = b.c.length) : (zipJ f a b).length = a.c.length := by
  unfold zipJ; rw [List.length_map, List.length_zip]; omega
theorem zipJ_get {f : Int → Int → Int × Bool} {a b : Rw} (h : a.c.length = b.c.length) {i : Nat} (hi : i < a.c.length) : (zipJ f a b)[i]'(by rw [zipJ_len h]; exact hi) = f a.c[i] (b.c[i]'(by omega)) := by
  unfold zipJ; rw [List.getElem_map, List.getElem_zip]
end Go.V
namespace Go.Proofs.YtokpeggkofjclaaGreatDoor
open Go Go.V
theorem joined_own {g : Nat} {caps : List D} {Lc : List Bx} {f : Int → Int → Int × Bool} {a b : Rw} (hab : a.c.length = b.c.length) (hn : a.c.length ≤ 1000064)
    (hg : ∀ x y : Int, AFn pr g ([.i x, .i y] ++ caps) Lc (.ret (.tuple [.i (f x y).1, .b (f x y).2]))) :
    AFn pr 38 [a.d, b.d, .fn g [] caps] Lc (rsV Rw.d (joinE f a b)) := by
  refine ASpec.ge (R := fun a' L' => Ge a' L' (rsV Rw.d (joinE f a b)) Lc) (s38 ?_) (fun a L' h => ⟨_, _, h, rfl, rfl⟩)
  unfold A38
  obtain ⟨zs, hzs⟩ : ∃ zs, zs = zipJ f a b := ⟨_, rfl⟩
  have hz : zs.length = a.c.length := by rw [hzs]; exact zipJ_len hab
  have hzg : ∀ i (h1 : i < zs.length) (h2 : i < a.c.length) (h3 : i < b.c.length), zs[i] = f a.c[i] b.c[i] := fun i h1 h2 h3 => by
    subst hzs; exact zipJ_get hab h2
  rw [joinE_eq, ← hzs]
  clear hzs
  refine a_bxv fun z1 => ?_
  refine a_bxv fun z2 => ?_
  refine a_bx fun z3 => ?_
  (refine a_fld ?_; (apply a_ld1 2; exact rfl; exact rfl); refine a_lenM ?_)
  refine a_mkS a.c.length a.c.length rfl rfl (Nat.le_refl _) (by omega) (by omega) fun z4 => ?_
  refine V.a_bld [.sl z4 0 a.c.length a.c.length, .i 0] rfl rfl ?_
  refine a_bx fun z5 => ?_
  refine a_stA 0 rfl rfl rfl rfl ?_
  (refine a_fld ?_; (apply a_ld1 4; exact rfl; exact rfl); refine a_lenM ?_)
  have e0 : List.replicate a.c.length 0 = outJ zs a.c.length 0 := by unfold outJ; simp
  rw [zeros_flat, e0]
  refine a_lp (σ := Nat) (fun i => [.i i]) (fun i => [⟨z5, [.sl z4 0 a.c.length a.c.length, .i 0], .box⟩, ⟨z4, (nD (outJ zs a.c.length i)).flatten, .row 2 1 a.c.length⟩, ⟨z3, [.nil, .i 0], .box⟩, ⟨z2, b.cs, .box⟩, ⟨z1, a.cs, .box⟩] ++ Lc) (fun i => i ≤ a.c.length ∧ (zs.take i).all (·.2) = true) (fun i => a.c.length - i) 0 (by first | exact Gl.refl _ _ | exact Gl.drop (by repeat (first | exact List.Sublist.refl _ | exact List.Sublist.slnil | apply List.Sublist.cons_cons | apply List.Sublist.cons))) ⟨Nat.zero_le _, rfl⟩ ?_
  rintro i K ⟨hi, hall⟩ hK
  dsimp only [aix0, aix1, aix2, aix3, aix4, aix5, aix6, aix7, aix8]
  refine a_lss ?_
  refine a_cnd (fun q => ?_) (fun q => ?_)
  · have hi1 : i < a.c.length := by omega
    have hv := hzg i (by omega) hi1 (by omega)
    have hst := outJ_step hz hi1
    have hat : (zs.take (i + 1)).all (·.2) = (f a.c[i] (b.c[i]'(by omega))).2 := by
      rw [List.take_succ_eq_append_getElem (by omega), List.all_append, hall, ← hv]; simp
    have hno : (f a.c[i] (b.c[i]'(by omega))).2 = false → zs.all (·.2) = false := fun h => by
      rw [List.all_eq_false]
      exact ⟨_, List.getElem_mem (by omega : i < zs.length), by rw [hv, h]; simp⟩
    rw [hv] at hst
    (refine a_fld ?_; (apply a_ld1 0; exact rfl; exact rfl); refine a_fld ?_; (apply a_ld1 4; exact rfl; exact rfl))
    refine a_idxM (f := n1) i hi1 ?_
    ((apply a_ld1 3; exact rfl; exact rfl))
    refine a_idxM (f := n1) i (by omega : i < b.c.length) ?_
    ((apply a_ld1p; exact rfl); refine a_cfS ?_)
    refine a_callSR (AFn.frameM _ (hg a.c[i] (b.c[i]'(by omega)))) ?_
    generalize f a.c[i] (b.c[i]'(by omega)) = v at *
    ((apply a_ext; exact rfl); (apply a_ext; exact rfl))
    cases hv2 : v.2 with
    | false =>
      refine a_callSP (c87 v.1 false) ?_
      rw [hno hv2]
      exact ⟨trivial, Gl.drop (List.sublist_append_right [_, _, _, _, _] Lc)⟩
    | true =>
      have hN : AFn pr 87 [.i v.1, .b true] [] (.ret (.i v.1)) := c87 v.1 true
      refine a_callS0 hN ?_
      refine a_idxO (j := (i : Int)) (by omega) (by omega) ?_
      rw [Int.toNat_natCast]
      refine a_stN 1 i rfl (by rw [outJ_len hz hi]; exact hi1) ?_
      rw [hst]
      (refine a_add (by first | omega | assumption | decide) (by first | omega | assumption | decide) ?_)
      exact hK (i + 1) _ _ ⟨by omega, by rw [hat, hv2]⟩ (by omega) (by first | exact Gl.refl _ _ | exact Gl.drop (by repeat (first | exact List.Sublist.refl _ | exact List.Sublist.slnil | apply List.Sublist.cons_cons | apply List.Sublist.cons)))
  · have hin : i = a.c.length := by omega
    clear hK
    subst hin
    have hall : zs.all (·.2) = true := by rwa [List.take_of_length_le (by omega)] at hall
    rw [outJ_end hz, hall]
    (refine a_fld ?_; (apply a_ld1 4; exact rfl; exact rfl); refine a_fld ?_; (apply a_ld1 3; exact rfl; exact rfl); refine a_cfW ?_)
    refine a_callR (AFn.frameM _ (hg a.k b.k)) ?_
    generalize f a.k b.k = v
    ((apply a_ext; exact rfl); (apply a_ext; exact rfl))
    cases hv2 : v.2 with
    | false =>
      refine a_callP (c87 v.1 false) ?_
      exact ⟨trivial, Gl.drop (List.sublist_append_right [_, _, _, _, _] Lc)⟩
    | true =>
      have hN : AFn pr 87 [.i v.1, .b true] [] (.ret (.i v.1)) := c87 v.1 true
      refine a_call0 hN ?_
      (refine a_fld ?_; (apply a_st 0 _; exact rfl; exact rfl; exact rfl; exact rfl; (try dsimp only [afill, aparts, cl, chunk, List.take, List.drop, List.nil_append, List.cons_append, List.append_nil, List.length_cons, List.length_nil, Nat.zero_add, Nat.reduceAdd, Nat.reduceMul]); try exact rfl); (apply a_ldA 0; exact rfl; exact rfl); refine a_stA 2 rfl rfl rfl rfl ?_; (apply a_ldA 2; exact rfl; exact rfl))
      refine ge_fz (f := n1) (l := zs.map (·.1)) (c := a.c.length) n1_len 1 rfl ?_ ?_
      · rw [List.length_map, hz]
        exact .agg (.cons .hit (.cons (.refl _) .nil))
      · exact List.sublist_append_right [_, _, _, _] Lc
end Go.Proofs.YtokpeggkofjclaaGreatDoor
/- Contracts of layer 13: line, Row. -/
set_option maxRecDepth 100000
set_option linter.unusedVariables false
namespace Go.Proofs.YtokpeggkofjclaaGreatDoor
open Go Go.V
theorem set_bad {p : Pl} (t : Tm) : rightT t 2 = true → (badS p t = true ∧ setE p t = .error 4) ∨ (badS p t = false ∧ ∃ d, setE p t = .ok d) := by
  induction t using Tm.ind' with
  | h t ih =>
    intro h
    have ho := right_set h
    cases t with | mk op nm n a =>
    simp only [Tm.op] at ho
    have two : (op = 11 ∨ op = 12 ∨ op = 13) → (badS p (.mk op nm n a) = true ∧ setE p (.mk op nm n a) = .error 4) ∨ (badS p (.mk op nm n a) = false ∧ ∃ d, setE p (.mk op nm n a) = .ok d) := fun hh => by
      obtain ⟨x, y, rfl, hx, hy⟩ := right2 h (s1 := 2) (s2 := 2) (by rcases hh with e | e | e <;> rw [e] <;> rfl) (by rcases hh with e | e | e <;> rw [e] <;> rfl)
      rw [setE, if_neg (by omega), if_neg (by omega), if_neg (by omega), setL, setL, setL, badS, if_neg (by omega), if_neg (by omega), if_neg (by omega), badSL, badSL, badSL]
      simp only
      rcases ih x (by simp [Tm.a]) hx with ⟨h1, h2⟩ | ⟨h1, u, h2⟩
      · exact .inl ⟨by rw [h1]; rfl, by rw [h2]; rfl⟩
      · rcases ih y (by simp [Tm.a]) hy with ⟨h3, h4⟩ | ⟨h3, v, h4⟩
        · exact .inl ⟨by rw [h1, h3]; rfl, by rw [h2, h4]; rfl⟩
        · exact .inr ⟨by rw [h1, h3]; rfl, by rw [h2, h4]; exact ⟨_, rfl⟩⟩
    rcases ho with e | e | e | e | e | e | e
    · subst e
      rw [setE, if_pos rfl, plcE_eq, badS, if_pos rfl]
      by_cases hq : atS nm p.sets 0 < 0
      · exact .inl ⟨by rw [decide_eq_true hq], by rw [if_pos hq]; rfl⟩
      · exact .inr ⟨by rw [decide_eq_false hq], by rw [if_neg hq]; exact ⟨_, rfl⟩⟩
    · subst e
      exact .inr ⟨rfl, _, rfl⟩
    · subst e
      exact .inr ⟨rfl, _, rfl⟩
    · subst e
      rw [setE, if_neg (by decide), if_pos rfl, plcE_eq, badS, if_neg (by decide), if_pos rfl]
      by_cases hq : atS (a.headD (.mk 0 ⟨#[]⟩ 0 [])).nm p.nodes 0 < 0
      · exact .inl ⟨by rw [decide_eq_true hq], by rw [if_pos hq]; rfl⟩
      · exact .inr ⟨by rw [decide_eq_false hq], by rw [if_neg hq]; exact ⟨_, rfl⟩⟩
    · exact two (.inl e)
    · exact two (.inr (.inl e))
    · exact two (.inr (.inr e))
theorem c40 {g : Nat} {caps : List D} {Lc : List Bx} {f : Nat → Bool} {p : Pl} (hp : p.Ok) (c k : Int) (hg : ∀ i : Nat, i < p.reg → AFn pr g ([.i i] ++ caps) Lc (.ret (.b (f i)))) :
    AFn pr 40 [p.d, .i c, .i k, .fn g [] caps] Lc (.ret (rowF p c k f).d) :=
  ASpec.ge (row_own hp c k hg) fun a L' ⟨b, cap, h1, h2⟩ => by
    subst h1 h2
    refine ⟨_, _, ge_fz (f := n1) (l := (rowF p c k f).c) (c := cap) (d' := (rowF p c k f).d) n1_len 0 rfl ?_ (List.Sublist.refl _), rfl, rfl⟩
    rw [rowF_len]
    exact .agg (.cons .hit (.cons (.refl _) .nil))
theorem c82 (i : Nat) : AFn pr 82 ([.i i] ++ []) [] (.ret (.b ((fun _ : Nat => false) i))) := by
  refine AFn.of (s82 ?_)
  rfl
theorem c41 (i : Nat) : AFn pr 41 ([.i i] ++ []) [] (.ret (.b ((fun _ : Nat => false) i))) := by
  refine AFn.of (s41 ?_)
  rfl
theorem c85 {b : Nat} (t : Tm) (x y : Int) : AFn pr 85 ([.i x, .i y] ++ [.p b 0]) [⟨b, t.cs, .box⟩] (.ret (.tuple [.i (mulJ t.n x).1, .b (mulJ t.n x).2])) := by
  refine AFn.ofL (s85 ?_)
  unfold A85
  (refine a_fld ?_; (apply a_ld1 0; exact rfl; exact rfl); refine a_call0 (c86 _ _) ?_; (apply a_ext; exact rfl); (apply a_ext; exact rfl))
  exact ⟨rfl, List.Sublist.refl _⟩
theorem add_fn (x y : Int) : AFn pr 42 ([.i x, .i y] ++ []) [] (.ret (.tuple [.i (addJ x y).1, .b (addJ x y).2])) := c42 x y
theorem sub_fn (x y : Int) : AFn pr 39 ([.i x, .i y] ++ []) [] (.ret (.tuple [.i (subJ x y).1, .b (subJ x y).2])) := c39 x y
theorem unk_le {p : Pl} (hp : p.Ok) : p.unk ≤ 1000064 := by
  have := hp.ints; have := p.reg_pos; unfold Pl.unk; omega
theorem c37 {p : Pl} (hp : p.Ok) (t : Tm) : rightT t 1 = true → AFn pr 37 [p.d, t.d] [] (rsV Rw.d (lineE p t)) := by
  induction t using Tm.ind' with
  | h t ih =>
    intro h
    have ho := right_int h
    have hunk := unk_le hp
    have hreg := p.reg_pos
    refine AFn.ofGe (s37 ?_)
    unfold A37
    refine a_bxv fun z1 => ?_
    refine a_bxv fun z2 => ?_
    refine a_bx fun z3 => ?_
    cases t with | mk op nm n a =>
    simp only [Tm.op] at ho
    have bin : ∀ {x y : Tm}, op ≠ 1 → op ≠ 2 → op ≠ 3 → op ≠ 6 → a = [x, y] → lineE p (.mk op nm n a) = (lineE p x).bind fun u => (lineE p y).bind fun v => joinE (if op = 4 then addJ else subJ) u v := fun h1 h2 h3 h6 e => by
      subst e
      rw [lineE, if_neg h1, if_neg h2, if_neg h3, lineL, lineL, lineL]
      simp only
      rw [if_neg h6]
    rcases ho with e | e | e | e | e | e
    · subst e
      have hE : lineE p (.mk 1 nm n a) = .ok (rowF p 0 n fun _ => false) := by rw [lineE, if_pos rfl]
      rw [hE]
      (refine a_fld ?_; (apply a_ld1 1; exact rfl; exact rfl); refine a_eql ?_; refine a_cndbT rfl ?_; (apply a_ldA 2; exact rfl; exact rfl); refine a_fld ?_; (apply a_ld1 1; exact rfl; exact rfl); refine a_call0 (c40 hp 0 n (fun i _ => c82 i)) ?_; refine a_stA 0 rfl rfl rfl rfl ?_; (apply a_ldA 0; exact rfl; exact rfl))
      exact ge_drop _ _
    · subst e
      have hE : lineE p (.mk 2 nm n a) = (plcE p.ints nm).map fun i => ⟨(List.replicate p.unk 0).set (p.reg + i) 1, 0⟩ := by rw [lineE, if_neg (by decide), if_pos rfl]
      rw [hE]
      have hR := c19 p (by have := hp.circ; omega)
      have hP := c83 p.ints nm hp.ints
      (refine a_fld ?_; (apply a_ld1 1; exact rfl; exact rfl); refine a_eql ?_; refine a_cndbF rfl ?_; refine a_eql ?_; refine a_cndbT rfl ?_; (apply a_ldA 2; exact rfl; exact rfl))
      refine a_callF (L1 := []) (List.Perm.refl _) (row_own hp 0 0 (fun i _ => c82 i)) ?_
      rintro _ _ ⟨b, cap, rfl, rfl⟩
      have hz : (rowF p 0 0 fun _ => false).c = List.replicate p.unk 0 := by
        unfold rowF
        apply List.ext_getElem
        · simp
        · intro i h1 h2; simp
      rw [hz]
      simp only [AE.on]
      (refine a_bx fun z4 => ?_; refine a_stA 0 rfl rfl rfl rfl ?_; refine a_fld ?_; (apply a_ld1 0; exact rfl; exact rfl); (apply a_ldA 4; exact rfl; exact rfl); refine a_callS0 hR ?_; refine a_fld ?_; (apply a_ld1 4; exact rfl; exact rfl); refine a_fld ?_; (apply a_ld1 3; exact rfl; exact rfl))
      cases hq : plcE p.ints nm with
      | error e =>
        rw [hq] at hP
        refine a_callSP hP ?_
        exact ge_pan
      | ok i =>
        rw [hq] at hP
        have hi := (plcE_ok hq).2
        have hiu : p.reg + i < p.unk := by unfold Pl.unk; omega
        refine a_callS0 hP ?_
        (refine a_add (by first | omega | assumption | decide) (by first | omega | assumption | decide) ?_)
        refine a_idxO (j := ((p.reg + i : Nat) : Int)) (by omega) (by omega) ?_
        rw [Int.toNat_natCast]
        refine a_stN 1 (p.reg + i) rfl (by simp; omega) ?_
        ((apply a_ldA 0; exact rfl; exact rfl); refine a_stA 2 rfl rfl rfl rfl ?_; (apply a_ldA 2; exact rfl; exact rfl))
        refine ge_fz (f := n1) (l := (List.replicate p.unk 0).set (p.reg + i) 1) (c := cap) n1_len 1 rfl ?_ (List.nil_sublist _)
        rw [List.length_set, List.length_replicate]
        exact .agg (.cons .hit (.cons (.refl _) .nil))
    · subst e
      obtain ⟨x, rfl, hx⟩ := right1 h (s1 := 2) rfl rfl
      have hE : lineE p (.mk 3 nm n [x]) = if badS p x then .error 4 else .ok (rowF p 1 0 (regT p x)) := by rw [lineE, if_neg (by decide), if_neg (by decide), if_pos rfl]; rfl
      rw [hE]
      have hS := c84 hp x hx
      (refine a_fld ?_; (apply a_ld1 1; exact rfl; exact rfl); refine a_eql ?_; refine a_cndbF rfl ?_; refine a_eql ?_; refine a_cndbF rfl ?_; refine a_eql ?_; refine a_cndbT rfl ?_; (apply a_ldA 2; exact rfl; exact rfl); (apply a_ldA 2; exact rfl; exact rfl); refine a_fld ?_; (apply a_ld1 1; exact rfl; exact rfl); refine a_idxT0 ?_; (apply a_ldAp; exact rfl))
      rcases set_bad x hx with ⟨h1, h2⟩ | ⟨h1, d, h2⟩
      · rw [h2] at hS
        refine a_callSP hS ?_
        rw [h1]
        exact ge_pan
      · rw [h2] at hS
        obtain ⟨g, caps, rfl, hfn⟩ := set_isFn hp x hx d h2
        refine a_callS0 hS ?_
        have hrow := c40 hp 1 0 (fun i hi => hfn i (by omega))
        refine a_callS0 hrow ?_
        (refine a_stA 0 rfl rfl rfl rfl ?_; (apply a_ldA 0; exact rfl; exact rfl))
        rw [h1]
        exact ge_drop _ _
    · subst e
      obtain ⟨x, y, rfl, hx, hy⟩ := right2 h (s1 := 1) (s2 := 1) rfl rfl
      rw [bin (by decide) (by decide) (by decide) (by decide) rfl, if_pos rfl]
      have ihx := ih x (by simp [Tm.a]) hx
      have ihy := ih y (by simp [Tm.a]) hy
      have lx := line_len (p := p) x hx
      have ly := line_len (p := p) y hy
      clear ih bin
      (refine a_fld ?_; (apply a_ld1 1; exact rfl; exact rfl); refine a_eql ?_; refine a_cndbF rfl ?_; refine a_eql ?_; refine a_cndbF rfl ?_; refine a_eql ?_; refine a_cndbF rfl ?_; refine a_eql ?_; refine a_cndbF rfl ?_; (apply a_ldA 2; exact rfl; exact rfl); refine a_fld ?_; (apply a_ld1 1; exact rfl; exact rfl); refine a_idxT0 ?_; (apply a_ldAp; exact rfl))
      cases hu : lineE p x with
      | error e => rw [hu] at ihx; exact a_callSP ihx ge_pan
      | ok u =>
        rw [hu] at ihx
        have lx := lx u hu
        refine a_callS0 ihx ?_
        (refine a_bx fun z4 => ?_; refine a_stA 0 rfl rfl rfl rfl ?_; (apply a_ldA 3; exact rfl; exact rfl); refine a_fld ?_; (apply a_ld1 2; exact rfl; exact rfl); refine a_idxT1 ?_; (apply a_ldAp; exact rfl))
        cases hv : lineE p y with
        | error e => rw [hv] at ihy; exact a_callSP ihy ge_pan
        | ok v =>
          rw [hv] at ihy
          have ly := ly v hv
          refine a_callS0 ihy ?_
          have hj := joined_own (a := u) (b := v) (by omega) (by omega) add_fn
          (refine a_bx fun z5 => ?_; refine a_stA 0 rfl rfl rfl rfl ?_; refine a_fld ?_; (apply a_ld1 3; exact rfl; exact rfl); refine a_eql ?_; refine a_cndbT rfl ?_; (apply a_ldA 1; exact rfl; exact rfl); (apply a_ldA 0; exact rfl; exact rfl))
          show acallW _ _ _ _ (apn fun a' L' => Ge a' L' (rsV Rw.d (joinE addJ u v)) []) _
          cases hw : joinE addJ u v with
          | error e => rw [hw] at hj; exact a_callP hj ge_pan
          | ok w =>
            rw [hw] at hj
            refine a_call0 hj ?_
            (refine a_stA 2 rfl rfl rfl rfl ?_; (apply a_ldA 2; exact rfl; exact rfl))
            show Ge _ _ (rsV Rw.d (joinE addJ u v)) []
            rw [hw]
            exact ge_drop _ _
    · subst e
      obtain ⟨x, y, rfl, hx, hy⟩ := right2 h (s1 := 1) (s2 := 1) rfl rfl
      rw [bin (by decide) (by decide) (by decide) (by decide) rfl, if_neg (by decide)]
      have ihx := ih x (by simp [Tm.a]) hx
      have ihy := ih y (by simp [Tm.a]) hy
      have lx := line_len (p := p) x hx
      have ly := line_len (p := p) y hy
      clear ih bin
      (refine a_fld ?_; (apply a_ld1 1; exact rfl; exact rfl); refine a_eql ?_; refine a_cndbF rfl ?_; refine a_eql ?_; refine a_cndbF rfl ?_; refine a_eql ?_; refine a_cndbF rfl ?_; refine a_eql ?_; refine a_cndbF rfl ?_; (apply a_ldA 2; exact rfl; exact rfl); refine a_fld ?_; (apply a_ld1 1; exact rfl; exact rfl); refine a_idxT0 ?_; (apply a_ldAp; exact rfl))
      cases hu : lineE p x with
      | error e => rw [hu] at ihx; exact a_callSP ihx ge_pan
      | ok u =>
        rw [hu] at ihx
        have lx := lx u hu
        refine a_callS0 ihx ?_
        (refine a_bx fun z4 => ?_; refine a_stA 0 rfl rfl rfl rfl ?_; (apply a_ldA 3; exact rfl; exact rfl); refine a_fld ?_; (apply a_ld1 2; exact rfl; exact rfl); refine a_idxT1 ?_; (apply a_ldAp; exact rfl))
        cases hv : lineE p y with
        | error e => rw [hv] at ihy; exact a_callSP ihy ge_pan
        | ok v =>
          rw [hv] at ihy
          have ly := ly v hv
          refine a_callS0 ihy ?_
          have hj := joined_own (a := u) (b := v) (by omega) (by omega) sub_fn
          (refine a_bx fun z5 => ?_; refine a_stA 0 rfl rfl rfl rfl ?_; refine a_fld ?_; (apply a_ld1 3; exact rfl; exact rfl); refine a_eql ?_; refine a_cndbF rfl ?_; (apply a_ldA 1; exact rfl; exact rfl); (apply a_ldA 0; exact rfl; exact rfl))
          show acallW _ _ _ _ (apn fun a' L' => Ge a' L' (rsV Rw.d (joinE subJ u v)) []) _
          cases hw : joinE subJ u v with
          | error e => rw [hw] at hj; exact a_callP hj ge_pan
          | ok w =>
            rw [hw] at hj
            refine a_call0 hj ?_
            (refine a_stA 2 rfl rfl rfl rfl ?_; (apply a_ldA 2; exact rfl; exact rfl))
            show Ge _ _ (rsV Rw.d (joinE subJ u v)) []
            rw [hw]
            exact ge_drop _ _
    · subst e
      obtain ⟨x, rfl, hx⟩ := right1 h (s1 := 1) rfl rfl
      have hE : lineE p (.mk 6 nm n [x]) = (lineE p x).bind fun u => joinE (fun y _ => mulJ n y) u u := by
        rw [lineE, if_neg (by decide), if_neg (by decide), if_neg (by decide), lineL, lineL]
        simp only
        rw [if_pos trivial]
      rw [hE]
      have ihx := ih x (by simp [Tm.a]) hx
      have lx := line_len (p := p) x hx
      clear ih bin hE
      (refine a_fld ?_; (apply a_ld1 1; exact rfl; exact rfl); refine a_eql ?_; refine a_cndbF rfl ?_; refine a_eql ?_; refine a_cndbF rfl ?_; refine a_eql ?_; refine a_cndbF rfl ?_; refine a_eql ?_; refine a_cndbT rfl ?_; (apply a_ldA 2; exact rfl; exact rfl); refine a_fld ?_; (apply a_ld1 1; exact rfl; exact rfl); refine a_idxT0 ?_; (apply a_ldAp; exact rfl))
      cases hu : lineE p x with
      | error e => rw [hu] at ihx; exact a_callSP ihx ge_pan
      | ok u =>
        rw [hu] at ihx
        have lx := lx u hu
        refine a_callS0 ihx ?_
        have hj := joined_own (f := fun y _ => mulJ n y) (a := u) (b := u) (Lc := [⟨z2, (Tm.mk 6 nm n [x]).cs, .box⟩]) rfl (by omega) (fun x' y' => c85 (.mk 6 nm n [x]) x' y')
        (refine a_bx fun z4 => ?_; refine a_stA 0 rfl rfl rfl rfl ?_; (apply a_ldA 0; exact rfl; exact rfl); (apply a_ldA 0; exact rfl; exact rfl))
        show acallW _ _ _ _ (apn fun a' L' => Ge a' L' (rsV Rw.d (joinE (fun y _ => mulJ n y) u u)) []) _
        cases hw : joinE (fun y _ => mulJ n y) u u with
        | error e => rw [hw] at hj; exact V.a_call (ae := .pan _) (AFn.frameM [_, _] (AFn.frameL [_] hj)) ge_pan
        | ok w =>
          rw [hw] at hj
          refine a_callR (AFn.frameM [_, _] (AFn.frameL [_] hj)) ?_
          (refine a_stA 1 rfl rfl rfl rfl ?_; (apply a_ldA 1; exact rfl; exact rfl))
          show Ge _ _ (rsV Rw.d (joinE (fun y _ => mulJ n y) u u)) []
          rw [hw]
          exact ge_drop _ _
end Go.Proofs.YtokpeggkofjclaaGreatDoor
/- Contracts of layer 13: Row. -/
set_option maxRecDepth 100000
set_option linter.unusedVariables false
namespace Go.V
open Go
theorem ge_row0 {e : Int} {L : List Bx} : Ge (.ret (.tuple [.agg [.nil, .i 0], .i e])) L (.ret (.tuple [(Rw.mk [] 0).d, .i e])) [] :=
  ⟨trivial, Gl.trans (Gl.nil (ds' := [.tuple [(Rw.mk [] 0).d, .i e]]) 1 (.cons (.tuple (.cons (.agg (.cons .hit (.cons (.refl _) .nil))) (.cons (.refl _) .nil))) .nil) (WkB.refl _ _ _)) (Gl.drop (List.nil_sublist _))⟩
end Go.V
namespace Go.Proofs.YtokpeggkofjclaaGreatDoor
open Go Go.V
theorem c36n {b b' : Nat} {L : List Bx} : ADef pr 36 [.p b 0, .p b' 0] none L (fun m' L' => m' = none ∧ L' = L) := by
  refine s36 ?_
  unfold A36
  exact ⟨rfl, rfl⟩
theorem c36p {b b' : Nat} {x0 x1 y : D} {e : Int} {L : List Bx} (i j : Nat) (hi : L[i]? = some ⟨b', [y], .box⟩) (hj : L[j]? = some ⟨b, [x0, x1], .box⟩) (hij : i ≠ j) : ADef pr 36 [.p b 0, .p b' 0] (some (.ifc 78 (.i e))) L
    (fun m' L' => m' = none ∧ L' = (L.set j ⟨b, [.nil, .i 0], .box⟩).set i ⟨b', [.i e], .box⟩) := by
  refine s36 ?_
  unfold A36
  refine a_neIh ?_
  (refine a_cndbT rfl ?_; refine a_tasT ?_; (apply a_ext; exact rfl); (apply a_ext; exact rfl); refine a_not ?_; refine a_cndbF rfl ?_; refine a_bld [.nil, .i 0] rfl rfl ?_)
  refine a_stA j hj rfl rfl rfl ?_
  refine V.a_st i [.i e] (b := b') (kd := .box) (l := [y]) (by rw [List.getElem?_set_ne (Ne.symm hij)]; exact hi) rfl rfl rfl rfl ?_
  exact ⟨rfl, rfl⟩
theorem c13 {p : Pl} (hp : p.Ok) (t : Tm) (holds : Bool) : AFn pr 13 [p.d, t.d, .b holds] [] (.ret (.tuple [(RowF p t holds).1.d, .i (RowF p t holds).2])) := by
  refine AFn.ofGe (s13 ?_)
  unfold A13
  have hunk := unk_le hp
  refine a_bxv fun z1 => ?_
  refine a_bxv fun z2 => ?_
  refine a_bx fun z3 => ?_
  refine a_bx fun z4 => ?_
  have hc := c31 t
  unfold RowF
  ((apply a_ldA 2; exact rfl; exact rfl); refine a_call0 (c31 _) ?_; (apply a_ext; exact rfl); (apply a_ext; exact rfl); refine a_neq ?_)
  refine a_cnd (fun h1 => ?_) (fun h1 => ?_)
  · rw [if_pos (.inl h1)]
    (refine a_bld [.nil, .i 0] rfl rfl ?_; refine a_stA 1 rfl rfl rfl rfl ?_; (apply a_st 0 _; exact rfl; exact rfl; exact rfl; exact rfl; (try dsimp only [afill, aparts, cl, chunk, List.take, List.drop, List.nil_append, List.cons_append, List.append_nil, List.length_cons, List.length_nil, Nat.zero_add, Nat.reduceAdd, Nat.reduceMul]); try exact rfl); (apply a_ldA 1; exact rfl; exact rfl); (apply a_ld1 0; exact rfl; exact rfl))
    exact ge_row0
  have h1 := Classical.not_not.1 h1
  (refine a_fld ?_; (apply a_ld1 2; exact rfl; exact rfl); refine a_neq ?_)
  refine a_cnd (fun h2 => ?_) (fun h2 => ?_)
  · rw [if_pos (.inr h2)]
    (refine a_bld [.nil, .i 0] rfl rfl ?_; refine a_stA 1 rfl rfl rfl rfl ?_; (apply a_st 0 _; exact rfl; exact rfl; exact rfl; exact rfl; (try dsimp only [afill, aparts, cl, chunk, List.take, List.drop, List.nil_append, List.cons_append, List.append_nil, List.length_cons, List.length_nil, Nat.zero_add, Nat.reduceAdd, Nat.reduceMul]); try exact rfl); (apply a_ldA 1; exact rfl; exact rfl); (apply a_ld1 0; exact rfl; exact rfl))
    exact ge_row0
  have h2 := Classical.not_not.1 h2
  rw [if_neg (by omega)]
  obtain ⟨_, _, hr, _⟩ := sortF_ok h1
  cases t with | mk op nm n a =>
  have h2 : op = 22 := h2
  subst h2
  obtain ⟨x, y, rfl, hx, hy⟩ := right2 hr (s1 := 1) (s2 := 1) rfl rfl
  have e0 : (Tm.mk 22 nm n [x, y]).at 0 = x := rfl
  have e1 : (Tm.mk 22 nm n [x, y]).at 1 = y := rfl
  rw [e0, e1]
  have ihx := c37 hp x hx
  have ihy := c37 hp y hy
  have lx := line_len (p := p) x hx
  have ly := line_len (p := p) y hy
  ((apply a_ldA 3; exact rfl; exact rfl); refine a_fld ?_; (apply a_ld1 2; exact rfl; exact rfl); refine a_idxT0 ?_; (apply a_ldAp; exact rfl))
  cases hu : lineE p x with
  | error e =>
    rw [hu] at ihx
    refine a_callSP ihx ?_
    refine ADef.mono (c36p 0 1 rfl rfl (by decide)) ?_
    rintro m' L' ⟨rfl, rfl⟩
    (refine a_end ?_; (apply a_ldA 1; exact rfl; exact rfl); (apply a_ld1 0; exact rfl; exact rfl))
    exact ge_row0
  | ok u =>
    rw [hu] at ihx
    have lx := lx u hu
    refine a_callS0 ihx ?_
    (refine a_bx fun z5 => ?_; refine a_stA 0 rfl rfl rfl rfl ?_; (apply a_ldA 4; exact rfl; exact rfl); refine a_fld ?_; (apply a_ld1 3; exact rfl; exact rfl); refine a_idxT1 ?_; (apply a_ldAp; exact rfl))
    cases hv : lineE p y with
    | error e =>
      rw [hv] at ihy
      refine a_callSP ihy ?_
      refine ADef.mono (c36p 1 2 rfl rfl (by decide)) ?_
      rintro m' L' ⟨rfl, rfl⟩
      (refine a_end ?_; (apply a_ldA 2; exact rfl; exact rfl); (apply a_ld1 1; exact rfl; exact rfl))
      exact ge_row0
    | ok v =>
      rw [hv] at ihy
      have ly := ly v hv
      refine a_callS0 ihy ?_
      (refine a_bx fun z6 => ?_; refine a_stA 0 rfl rfl rfl rfl ?_)
      cases holds with
      | true =>
        have hj := joined_own (a := u) (b := v) (by omega) (by omega) sub_fn
        simp only [if_true]
        (refine a_cndbT rfl ?_; (apply a_ldA 1; exact rfl; exact rfl); (apply a_ldA 0; exact rfl; exact rfl))
        cases hw : joinE subJ u v with
        | error e =>
          rw [hw] at hj
          refine a_callP hj ?_
          refine ADef.mono (c36p 2 3 rfl rfl (by decide)) ?_
          rintro m' L' ⟨rfl, rfl⟩
          (refine a_end ?_; (apply a_ldA 3; exact rfl; exact rfl); (apply a_ld1 2; exact rfl; exact rfl))
          exact ge_row0
        | ok w =>
          rw [hw] at hj
          refine a_call0 hj ?_
          (refine a_stA 3 rfl rfl rfl rfl ?_; refine a_stA 2 rfl rfl rfl rfl ?_)
          refine ADef.mono c36n ?_
          rintro m' L' ⟨rfl, rfl⟩
          (refine a_end ?_; (apply a_ldA 3; exact rfl; exact rfl); (apply a_ld1 2; exact rfl; exact rfl))
          exact ge_drop _ _
      | false =>
        have hj := joined_own (a := v) (b := u) (by omega) (by omega) sub_fn
        have ho := c40 hp 0 1 (fun i _ => c41 i)
        simp only [Bool.false_eq_true, if_false]
        refine a_cndbF rfl ?_
        ((apply a_ldA 5; exact rfl; exact rfl); refine a_call0 ho ?_; refine a_bx fun z7 => ?_; refine a_stA 0 rfl rfl rfl rfl ?_; (apply a_ldA 1; exact rfl; exact rfl); (apply a_ldA 2; exact rfl; exact rfl); (apply a_ldA 0; exact rfl; exact rfl))
        cases hw : joinE subJ v u with
        | error e =>
          rw [hw] at hj
          refine a_callSP hj ?_
          refine ADef.mono (c36p 3 4 rfl rfl (by decide)) ?_
          rintro m' L' ⟨rfl, rfl⟩
          (refine a_end ?_; (apply a_ldA 4; exact rfl; exact rfl); (apply a_ld1 3; exact rfl; exact rfl))
          exact ge_row0
        | ok w =>
          rw [hw] at hj
          have lw := joinE_len (by omega) hw
          have lr := rowF_len p 0 1 fun _ => false
          have hk := joined_own (a := w) (b := rowF p 0 1 fun _ => false) (by omega) (by omega) add_fn
          refine a_callS0 hj ?_
          skip
          have hE : ((Except.ok w).bind fun c => joinE addJ c (rowF p 0 1 fun _ => false)) = joinE addJ w (rowF p 0 1 fun _ => false) := rfl
          rw [hE]
          cases hq : joinE addJ w (rowF p 0 1 fun _ => false) with
          | error e =>
            rw [hq] at hk
            refine a_callSP hk ?_
            refine ADef.mono (c36p 3 4 rfl rfl (by decide)) ?_
            rintro m' L' ⟨rfl, rfl⟩
            (refine a_end ?_; (apply a_ldA 4; exact rfl; exact rfl); (apply a_ld1 3; exact rfl; exact rfl))
            exact ge_row0
          | ok r =>
            rw [hq] at hk
            refine a_callS0 hk ?_
            (refine a_stA 4 rfl rfl rfl rfl ?_; refine a_stA 3 rfl rfl rfl rfl ?_)
            refine ADef.mono c36n ?_
            rintro m' L' ⟨rfl, rfl⟩
            (refine a_end ?_; (apply a_ldA 4; exact rfl; exact rfl); (apply a_ld1 3; exact rfl; exact rfl))
            exact ge_drop _ _
end Go.Proofs.YtokpeggkofjclaaGreatDoor
