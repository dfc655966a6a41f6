/- What terms are in a world. -/
import Derived.Test.YtdalobojhfafbaaGreatDoorE1
import Derived.Test.YtdalobojhfafbaaGreatDoorC4
set_option maxRecDepth 100000
set_option linter.unusedVariables false
namespace Go.Proofs.YtdalobojhfafbaaGreatDoor
open Go Go.V
def rsA {α : Type} (f : α → D) : Except Int α → AE
  | .ok v => .ret (f v)
  | .error e => .pan (.ifc 129 (.i e))
theorem c160 (n : Int) (b : Bool) : AFn pr 160 [.i n, .b b] [] (rsA D.i (if b = true then .ok n else .error 5)) := by
  refine AFn.of (s160 ?_)
  unfold A160
  (refine a_not ?_)
  cases b with
  | true =>
    refine a_cndbF rfl ?_
    rfl
  | false =>
    refine a_cndbT rfl ?_
    rfl
theorem c114 (i : Int) : AFn pr 114 [.i i] [] (.ret (.b false)) := by
  refine AFn.of (s114 ?_)
  rfl
theorem c115 (i : Int) : AFn pr 115 [.i i] [] (.ret (.b true)) := by
  refine AFn.of (s115 ?_)
  rfl
theorem c117 {b : Nat} (i n : Int) : AFn pr 117 [.i i, .p b 0] [⟨b, [.i n], .box⟩] (.ret (.b (decide (i = n)))) := by
  refine AFn.ofL (s117 ?_)
  unfold A117
  ((apply a_ld1 0; exact rfl; exact rfl); refine a_eql ?_)
  exact ⟨rfl, List.Sublist.refl _⟩
section
variable {b b' : Nat} (i : Nat) (s t : List Bool) (hs : i < s.length) (ht : i < t.length)
include hs ht
theorem c119 : AFn pr 119 [.i i, .p b 0, .p b' 0] [⟨b', [.row 1 (t.map bc)], .box⟩, ⟨b, [.row 1 (s.map bc)], .box⟩] (.ret (.b (s.getD i false || t.getD i false))) := by
  refine AFn.ofL (s119 ?_)
  unfold A119
  rw [List.getD_eq_getElem?_getD, List.getD_eq_getElem?_getD, List.getElem?_eq_getElem hs, List.getElem?_eq_getElem ht]
  ((apply a_ld1 1; exact rfl; exact rfl))
  refine a_idxM i hs ?_
  ((apply a_ld1p; exact rfl))
  refine a_cndb (fun h => ?_) (fun h => ?_)
  · rw [h]; exact ⟨rfl, List.Sublist.refl _⟩
  · rw [h]
    ((apply a_ld1 0; exact rfl; exact rfl))
    refine a_idxM i ht ?_
    ((apply a_ld1p; exact rfl))
    exact ⟨rfl, List.Sublist.refl _⟩
theorem c120 : AFn pr 120 [.i i, .p b 0, .p b' 0] [⟨b', [.row 1 (t.map bc)], .box⟩, ⟨b, [.row 1 (s.map bc)], .box⟩] (.ret (.b (s.getD i false && t.getD i false))) := by
  refine AFn.ofL (s120 ?_)
  unfold A120
  rw [List.getD_eq_getElem?_getD, List.getD_eq_getElem?_getD, List.getElem?_eq_getElem hs, List.getElem?_eq_getElem ht]
  ((apply a_ld1 1; exact rfl; exact rfl))
  refine a_idxM i hs ?_
  ((apply a_ld1p; exact rfl))
  refine a_cndb (fun h => ?_) (fun h => ?_)
  · rw [h]
    ((apply a_ld1 0; exact rfl; exact rfl))
    refine a_idxM i ht ?_
    ((apply a_ld1p; exact rfl))
    exact ⟨rfl, List.Sublist.refl _⟩
  · rw [h]; exact ⟨rfl, List.Sublist.refl _⟩
theorem c121 : AFn pr 121 [.i i, .p b 0, .p b' 0] [⟨b', [.row 1 (t.map bc)], .box⟩, ⟨b, [.row 1 (s.map bc)], .box⟩] (.ret (.b (s.getD i false && !t.getD i false))) := by
  refine AFn.ofL (s121 ?_)
  unfold A121
  rw [List.getD_eq_getElem?_getD, List.getD_eq_getElem?_getD, List.getElem?_eq_getElem hs, List.getElem?_eq_getElem ht]
  ((apply a_ld1 1; exact rfl; exact rfl))
  refine a_idxM i hs ?_
  ((apply a_ld1p; exact rfl))
  refine a_cndb (fun h => ?_) (fun h => ?_)
  · rw [h]
    ((apply a_ld1 0; exact rfl; exact rfl))
    refine a_idxM i ht ?_
    ((apply a_ld1p; exact rfl); refine a_not ?_)
    exact ⟨rfl, List.Sublist.refl _⟩
  · rw [h]; exact ⟨rfl, List.Sublist.refl _⟩
end
theorem c113 {g : Nat} {caps : List D} {Lc : List Bx} {f : Nat → Bool} (w : Wd) (h1 : 1 ≤ w.nodes) (h64 : w.nodes ≤ 64) (hg : ∀ i : Nat, (i : Int) < w.nodes → AFn pr g ([.i i] ++ caps) Lc (.ret (.b (f i)))) :
    AFn pr 113 [w.d, .fn g [] caps] Lc (.ret (whereF w f).d) := by
  refine ASpec.ge (R := fun a L' => Ge a L' (.ret (whereF w f).d) Lc) (s113 ?_) (fun a L' h => ⟨_, _, h, rfl, rfl⟩)
  unfold A113
  obtain ⟨n, hn⟩ : ∃ n : Nat, w.nodes = n := ⟨w.nodes.toNat, by omega⟩
  refine a_bxv fun z1 => ?_
  refine a_bx fun z2 => ?_
  (refine a_fld ?_; refine a_fld ?_; (apply a_ld1 1; exact rfl; exact rfl))
  refine a_mkS n n hn hn (Nat.le_refl _) (by omega) (by omega) fun z3 => ?_
  refine V.a_bld [.i 2, .i 0, .b false, .sl z3 0 n n] rfl rfl ?_
  refine a_bx fun z5 => ?_
  refine a_stA 0 rfl rfl rfl rfl ?_
  (refine a_fld ?_; (apply a_ld1 0; exact rfl; exact rfl); refine a_lenO ?_)
  have e0 : (List.replicate n [D.b false]).flatten = (((List.range n).map fun j => decide (j < 0) && f j).map bc).flatten := by
    congr 1
    apply List.ext_getElem
    · simp
    · intro i h1 h2
      simp [bc]
  rw [e0]
  refine a_lp (σ := Nat) (fun i => [.i i]) (fun i => [⟨z5, [.i 2, .i 0, .b false, .sl z3 0 n n], .box⟩, ⟨z3, (((List.range n).map fun j => decide (j < i) && f j).map bc).flatten, .row 4 1 n⟩, ⟨z2, [.i 0, .i 0, .b false, .nil], .box⟩, ⟨z1, w.cs, .box⟩] ++ Lc) (fun i => i ≤ n) (fun i => n - i) 0 (by first | exact Gl.refl _ _ | exact Gl.drop (by repeat (first | exact List.Sublist.refl _ | exact List.Sublist.slnil | apply List.Sublist.cons_cons | apply List.Sublist.cons))) (Nat.zero_le _) ?_
  rintro i K hi hK
  dsimp only [aix0, aix1, aix2, aix3, aix4, aix5, aix6, aix7, aix8]
  refine a_lss ?_
  refine a_cnd (fun q => ?_) (fun q => ?_)
  · have hi1 : i < n := by omega
    (refine a_fld ?_; (apply a_ld1 0; exact rfl; exact rfl); refine a_cfS ?_)
    refine a_callSR (AFn.frameM _ (by simpa using hg i (by omega))) ?_
    refine a_idxO (j := (i : Int)) (by omega) (by omega) ?_
    rw [Int.toNat_natCast]
    refine a_stB 1 i rfl (by simp; omega) ?_
    (refine a_add (by first | omega | assumption | decide) (by first | omega | assumption | decide) ?_)
    refine hK (i + 1) _ _ (by omega) (by omega) ?_
    have : ((List.range n).map fun j => decide (j < i) && f j).set i (f i) = (List.range n).map fun j => decide (j < i + 1) && f j := by
      apply List.ext_getElem
      · simp
      · intro j h1 h2
        rw [List.getElem_set]
        simp only [List.getElem_map, List.getElem_range]
        split
        · rename_i h; subst h; simp
        · have : decide (j < i) = decide (j < i + 1) := decide_eq_decide.2 (by omega)
          rw [this]
    rw [this]
    exact Gl.refl _ _
  · have hin : i = n := by omega
    subst hin
    ((apply a_ldA 0; exact rfl; exact rfl); refine a_stA 2 rfl rfl rfl rfl ?_; (apply a_ldA 2; exact rfl; exact rfl))
    have e1 : ((List.range i).map fun j => decide (j < i) && f j) = (List.range i).map f := by
      apply List.ext_getElem
      · simp
      · intro j h1 h2
        simp at h1
        simp [h1]
    rw [e1]
    have hw : (whereF w f).d = .agg [.i 2, .i 0, .b false, .row 1 (((List.range i).map f).map bc)] := by
      unfold whereF
      rw [hn, Int.toNat_natCast]
      rfl
    rw [hw]
    have hlen : i = ((List.range i).map f).length := by simp
    refine ge_fz (l := (List.range i).map f) (c := i) bc_len 1 rfl ?_ ?_
    · rw [← hlen]
      exact .agg (.cons (.refl _) (.cons (.refl _) (.cons (.refl _) (.cons .hit .nil))))
    · exact List.sublist_append_right [_, _, _] Lc
theorem smallW_of {w : Wd} (h : rightW w = true) : smallW w := by
  obtain ⟨h1, h2, _, h4⟩ := rightW_spec h
  intro x hx
  have := (isF_ok h1 (rightLW_mem h4 x hx).2).1.len
  split at this <;> omega
theorem c111 (w : Wd) (t : Tm) (s : Int) (hw : rightW w = true) : AFn pr 111 [w.d, t.d, .i s] [] (rsA Vl.d (nameV w t.nm s)) := by
  refine AFn.of (s111 ?_)
  have hc := c24 w t.nm s (smallW_of hw)
  unfold A111 nameV
  refine a_bxv fun z1 => ?_
  refine a_bxv fun z2 => ?_
  refine a_bx fun z3 => ?_
  unfold getD' at hc
  cases hg : getF w.names t.nm s with
  | some v =>
    rw [hg] at hc
    (refine a_fld ?_; (apply a_ldA 2; exact rfl; exact rfl); refine a_fld ?_; (apply a_ld1 1; exact rfl; exact rfl); refine a_call0 hc ?_; (apply a_ext; exact rfl); (apply a_ext; exact rfl); refine a_bx fun z4 => ?_; refine a_stA 0 rfl rfl rfl rfl ?_; refine a_not ?_; refine a_cndbF rfl ?_; (apply a_ldA 0; exact rfl; exact rfl); refine a_stA 1 rfl rfl rfl rfl ?_; (apply a_ldA 1; exact rfl; exact rfl))
    rfl
  | none =>
    rw [hg] at hc
    (refine a_fld ?_; (apply a_ldA 2; exact rfl; exact rfl); refine a_fld ?_; (apply a_ld1 1; exact rfl; exact rfl); refine a_call0 hc ?_; (apply a_ext; exact rfl); (apply a_ext; exact rfl); refine a_bx fun z4 => ?_; refine a_stA 0 rfl rfl rfl rfl ?_; refine a_not ?_; refine a_cndbT rfl ?_)
    rfl
section
variable {w : Wd} {x y : Tm} {r r' : Except Int Vl}
theorem c116 (h : AFn pr 71 [w.d, x.d] [] (rsA Vl.d r)) : AFn pr 116 [w.d, x.d] [] (rsA (fun v => .i v.n) r) := by
  refine AFn.of (s116 ?_)
  unfold A116
  refine a_bxv fun z1 => ?_
  refine a_bxv fun z2 => ?_
  cases r with
  | ok v =>
    ((apply a_ldA 1; exact rfl; exact rfl); (apply a_ldA 0; exact rfl; exact rfl); refine a_call0 h ?_; (apply a_f1; exact rfl))
    rfl
  | error e =>
    ((apply a_ldA 1; exact rfl; exact rfl); (apply a_ldA 0; exact rfl; exact rfl); refine a_callP h ?_)
    rfl
theorem c159 (h : AFn pr 71 [w.d, x.d] [] (rsA Vl.d r)) : AFn pr 159 [w.d, x.d] [] (rsA (fun v => .row 1 (v.s.map bc)) r) := by
  refine AFn.of (s159 ?_)
  unfold A159
  refine a_bxv fun z1 => ?_
  refine a_bxv fun z2 => ?_
  cases r with
  | ok v =>
    ((apply a_ldA 1; exact rfl; exact rfl); (apply a_ldA 0; exact rfl; exact rfl); refine a_call0 h ?_; (apply a_f1; exact rfl))
    rfl
  | error e =>
    ((apply a_ldA 1; exact rfl; exact rfl); (apply a_ldA 0; exact rfl; exact rfl); refine a_callP h ?_)
    rfl
def both (r r' : Except Int Vl) : Except Int (Vl × Vl) := match r with | .error e => .error e | .ok v => match r' with | .error e => .error e | .ok u => .ok (v, u)
theorem c118 {op : Int} {nm : ByteArray} {n : Int} (h : AFn pr 71 [w.d, x.d] [] (rsA Vl.d r)) (h' : AFn pr 71 [w.d, y.d] [] (rsA Vl.d r')) :
    AFn pr 118 [w.d, (Tm.mk op nm n [x, y]).d] [] (rsA (fun v => .tuple [.row 1 (v.1.s.map bc), .row 1 (v.2.s.map bc)]) (both r r')) := by
  refine AFn.of (s118 ?_)
  have g := c159 h
  have g' := c159 h'
  unfold A118
  refine a_bxv fun z1 => ?_
  refine a_bxv fun z2 => ?_
  cases r with
  | ok v =>
    ((apply a_ldA 1; exact rfl; exact rfl); refine a_fld ?_; (apply a_ld1 0; exact rfl; exact rfl); refine a_idxT0 ?_; (apply a_ldAp; exact rfl); refine a_callS0 g ?_; (apply a_ldA 1; exact rfl; exact rfl); refine a_fld ?_; (apply a_ld1 0; exact rfl; exact rfl); refine a_idxT1 ?_; (apply a_ldAp; exact rfl))
    cases r' with
    | ok u =>
      (refine a_callS0 g' ?_)
      rfl
    | error e =>
      (refine a_callSP g' ?_)
      rfl
  | error e =>
    ((apply a_ldA 1; exact rfl; exact rfl); refine a_fld ?_; (apply a_ld1 0; exact rfl; exact rfl); refine a_idxT0 ?_; (apply a_ldAp; exact rfl); refine a_callSP g ?_)
    rfl
end
theorem c164 (w : Wd) (a : List Tm) (h : ∀ x ∈ a, AFn pr 71 [w.d, x.d] [] (rsA Vl.d (evV w x))) :
    AFn pr 164 [w.d, .row 4 (Tm.rows a)] [] (rsA (fun vs => .tuple [.b (vs.all Vl.b), .b (vs.any Vl.b)]) (evL w a)) := by
  refine AFn.small fun hs => AFn.of (s164 ?_)
  rw [Smalls, Smalls, Small, Small, Tm.rows_len] at hs
  have hs := hs.2.1.1
  unfold A164
  refine a_bxv fun z1 => ?_
  refine Tm.a_len ?_
  refine a_lp3 (σ := Bool) (τ := Bool) (ρ := Nat) (fun p q i => [.b p, .b q, .i i]) (fun _ _ _ => [⟨z1, w.cs, .box⟩]) (fun p q i => i ≤ a.length ∧ rsA (fun vs : List Vl => .tuple [.b (vs.all Vl.b), .b (vs.any Vl.b)]) (evL w a) = rsA (fun vs : List Vl => .tuple [.b (p && vs.all Vl.b), .b (q || vs.any Vl.b)]) (evL w (a.drop i))) (fun _ _ i => a.length - i) true false 0 (by first | exact Gl.refl _ _ | exact Gl.drop (by repeat (first | exact List.Sublist.refl _ | exact List.Sublist.slnil | apply List.Sublist.cons_cons | apply List.Sublist.cons))) ⟨Nat.zero_le _, by simp⟩ ?_
  rintro p q i K ⟨hi, hd⟩ hK
  dsimp only [aix0, aix1, aix2, aix3, aix4, aix5, aix6, aix7, aix8]
  (refine a_lss ?_)
  refine a_cnd (fun q0 => ?_) (fun q0 => ?_)
  · have hi1 : i < a.length := by omega
    rw [List.drop_eq_getElem_cons hi1, evL_cons] at hd
    have hc := h a[i] (List.getElem_mem hi1)
    refine Tm.a_idx i hi1 ?_
    cases hv : evV w a[i] with
    | error e =>
      rw [hv] at hc hd
      ((apply a_ldAp; exact rfl); refine a_bx fun z2 => ?_; refine a_stA 0 rfl rfl rfl rfl ?_; (apply a_ldA 1; exact rfl; exact rfl); (apply a_ldA 0; exact rfl; exact rfl); refine a_callP hc ?_)
      exact hd.symm
    | ok v =>
      rw [hv] at hc hd
      have step : ∀ p' q' : Bool, p' = (p && v.b) → q' = (q || v.b) → rsA (fun vs : List Vl => .tuple [.b (vs.all Vl.b), .b (vs.any Vl.b)]) (evL w a) = rsA (fun vs : List Vl => .tuple [.b (p' && vs.all Vl.b), .b (q' || vs.any Vl.b)]) (evL w (a.drop (i + 1))) := by
        intro p' q' h1 h2
        rw [hd, h1, h2]
        cases evL w (a.drop (i + 1)) with
        | error e => rfl
        | ok vs =>
          show AE.ret _ = AE.ret _
          simp [Bool.and_assoc, Bool.or_assoc]
      ((apply a_ldAp; exact rfl); refine a_bx fun z2 => ?_; refine a_stA 0 rfl rfl rfl rfl ?_; (apply a_ldA 1; exact rfl; exact rfl); (apply a_ldA 0; exact rfl; exact rfl); refine a_call0 hc ?_; (apply a_f1; exact rfl))
      refine a_cndb (fun q1 => ?_) (fun q1 => ?_)
      · refine a_cndb (fun q2 => ?_) (fun q2 => ?_)
        · (refine a_add (by first | omega | assumption | decide) (by first | omega | assumption | decide) ?_)
          exact hK v.b true (i + 1) _ _ ⟨by omega, step _ _ (by rw [q1]; rfl) (by rw [q2]; rfl)⟩ (by omega) (by first | exact Gl.refl _ _ | exact Gl.drop (by repeat (first | exact List.Sublist.refl _ | exact List.Sublist.slnil | apply List.Sublist.cons_cons | apply List.Sublist.cons)))
        · (refine a_add (by first | omega | assumption | decide) (by first | omega | assumption | decide) ?_)
          exact hK v.b v.b (i + 1) _ _ ⟨by omega, step _ _ (by rw [q1]; rfl) (by rw [q2]; rfl)⟩ (by omega) (by first | exact Gl.refl _ _ | exact Gl.drop (by repeat (first | exact List.Sublist.refl _ | exact List.Sublist.slnil | apply List.Sublist.cons_cons | apply List.Sublist.cons)))
      · refine a_cndb (fun q2 => ?_) (fun q2 => ?_)
        · (refine a_add (by first | omega | assumption | decide) (by first | omega | assumption | decide) ?_)
          exact hK false true (i + 1) _ _ ⟨by omega, step _ _ (by rw [q1]; rfl) (by rw [q2]; rfl)⟩ (by omega) (by first | exact Gl.refl _ _ | exact Gl.drop (by repeat (first | exact List.Sublist.refl _ | exact List.Sublist.slnil | apply List.Sublist.cons_cons | apply List.Sublist.cons)))
        · (refine a_add (by first | omega | assumption | decide) (by first | omega | assumption | decide) ?_)
          exact hK false v.b (i + 1) _ _ ⟨by omega, step _ _ (by rw [q1]; rfl) (by rw [q2]; rfl)⟩ (by omega) (by first | exact Gl.refl _ _ | exact Gl.drop (by repeat (first | exact List.Sublist.refl _ | exact List.Sublist.slnil | apply List.Sublist.cons_cons | apply List.Sublist.cons)))
  · rw [List.drop_eq_nil_of_le (by omega), evL] at hd
    rw [hd]
    simp [rsA]
theorem checked_fit (v : Int) : AFn pr 160 [.i (fitI v), .b (inI v)] [] (rsA (fun u => .i u.n) (fit v)) := by
  have h := c160 (fitI v) (inI v)
  unfold fit
  cases hi : inI v with
  | true =>
    rw [hi] at h
    unfold fitI at h ⊢
    rw [hi] at h ⊢
    exact h
  | false =>
    rw [hi] at h
    exact h
section
variable {w : Wd} {t : Tm}
theorem c112 (hw : rightW w = true) (ht : rightT t 1 = true) (hop : t.op = 1 ∨ t.op = 3 ∨ t.op = 4 ∨ t.op = 5 ∨ t.op = 6) (h : ∀ x ∈ t.a, AFn pr 71 [w.d, x.d] [] (rsA Vl.d (evV w x))) :
    AFn pr 112 [w.d, t.d] [] (rsA (fun v => .i v.n) (evV w t)) := by
  refine AFn.of (s112 ?_)
  unfold A112
  refine a_bxv fun z1 => ?_
  refine a_bxv fun z2 => ?_
  cases t with | mk op nm n a =>
  simp only [Tm.op, Tm.a] at hop h
  rcases hop with rfl | rfl | rfl | rfl | rfl
  · obtain rfl := right0 ht rfl rfl
    rw [evV_eq, evL0]
    (refine a_fld ?_; (apply a_ld1 0; exact rfl; exact rfl); refine a_eql ?_; refine a_cndbF rfl ?_; refine a_eql ?_; refine a_cndbF rfl ?_; (apply a_jnX; intro J hJ); refine a_eql ?_; refine a_cndbF rfl ?_; refine a_eql ?_; exact hJ; dsimp only [aix0, aix1, aix2, aix3, aix4, aix5, aix6, aix7, aix8]; refine a_cndbF rfl ?_; refine a_fld ?_; (apply a_ld1 0; exact rfl; exact rfl))
    rfl
  · obtain ⟨x, rfl, hx⟩ := right1 ht rfl rfl
    have g := c159 (h x (by simp))
    rw [evV_eq, evL1]
    cases hv : evV w x with
    | ok v =>
      rw [hv] at g
      (refine a_fld ?_; (apply a_ld1 0; exact rfl; exact rfl); refine a_eql ?_; refine a_cndbT rfl ?_; (apply a_ldA 1; exact rfl; exact rfl); refine a_fld ?_; (apply a_ld1 0; exact rfl; exact rfl); refine a_idxT0 ?_; (apply a_ldAp; exact rfl); refine a_callS0 g ?_; refine a_callS0 (c158 _) ?_)
      rfl
    | error e =>
      rw [hv] at g
      (refine a_fld ?_; (apply a_ld1 0; exact rfl; exact rfl); refine a_eql ?_; refine a_cndbT rfl ?_; (apply a_ldA 1; exact rfl; exact rfl); refine a_fld ?_; (apply a_ld1 0; exact rfl; exact rfl); refine a_idxT0 ?_; (apply a_ldAp; exact rfl); refine a_callSP g ?_)
      rfl
  · obtain ⟨x, y, rfl, hx, hy⟩ := right2 ht rfl rfl
    have g := c116 (h x (by simp))
    have g' := c116 (h y (by simp))
    rw [evV_eq, evL2]
    cases hv : evV w x with
    | error e =>
      rw [hv] at g
      (refine a_fld ?_; (apply a_ld1 0; exact rfl; exact rfl); refine a_eql ?_; refine a_cndbF rfl ?_; refine a_eql ?_; refine a_cndbF rfl ?_; (apply a_jnX; intro J hJ); refine a_eql ?_; refine a_cndbT rfl ?_; exact hJ; dsimp only [aix0, aix1, aix2, aix3, aix4, aix5, aix6, aix7, aix8]; refine a_cndbT rfl ?_; (apply a_ldA 1; exact rfl; exact rfl); refine a_fld ?_; (apply a_ld1 0; exact rfl; exact rfl); refine a_idxT0 ?_; (apply a_ldAp; exact rfl); refine a_callSP g ?_)
      rfl
    | ok v =>
      rw [hv] at g
      cases hu : evV w y with
      | error e =>
        rw [hu] at g'
        (refine a_fld ?_; (apply a_ld1 0; exact rfl; exact rfl); refine a_eql ?_; refine a_cndbF rfl ?_; refine a_eql ?_; refine a_cndbF rfl ?_; (apply a_jnX; intro J hJ); refine a_eql ?_; refine a_cndbT rfl ?_; exact hJ; dsimp only [aix0, aix1, aix2, aix3, aix4, aix5, aix6, aix7, aix8]; refine a_cndbT rfl ?_; (apply a_ldA 1; exact rfl; exact rfl); refine a_fld ?_; (apply a_ld1 0; exact rfl; exact rfl); refine a_idxT0 ?_; (apply a_ldAp; exact rfl); refine a_callS0 g ?_; (apply a_ldA 1; exact rfl; exact rfl); refine a_fld ?_; (apply a_ld1 0; exact rfl; exact rfl); refine a_idxT1 ?_; (apply a_ldAp; exact rfl); refine a_callSP g' ?_)
        rfl
      | ok u =>
        rw [hu] at g'
        have gf := checked_fit (v.n + u.n)
        simp only [opV, show Int.toNat 4 = 4 from rfl]
        cases hf : fit (v.n + u.n) with
        | ok r =>
          rw [hf] at gf
          (refine a_fld ?_; (apply a_ld1 0; exact rfl; exact rfl); refine a_eql ?_; refine a_cndbF rfl ?_; refine a_eql ?_; refine a_cndbF rfl ?_; (apply a_jnX; intro J hJ); refine a_eql ?_; refine a_cndbT rfl ?_; exact hJ; dsimp only [aix0, aix1, aix2, aix3, aix4, aix5, aix6, aix7, aix8]; refine a_cndbT rfl ?_; (apply a_ldA 1; exact rfl; exact rfl); refine a_fld ?_; (apply a_ld1 0; exact rfl; exact rfl); refine a_idxT0 ?_; (apply a_ldAp; exact rfl); refine a_callS0 g ?_; (apply a_ldA 1; exact rfl; exact rfl); refine a_fld ?_; (apply a_ld1 0; exact rfl; exact rfl); refine a_idxT1 ?_; (apply a_ldAp; exact rfl); refine a_callS0 g' ?_; refine a_fld ?_; (apply a_ld1 0; exact rfl; exact rfl); refine a_eql ?_; refine a_cndbT rfl ?_; refine a_call0 (c162 _ _) ?_; (apply a_ext; exact rfl); (apply a_ext; exact rfl); refine a_call0 gf ?_)
          simp only [List.getD_cons_zero, List.getD_cons_succ, hf]
          rfl
        | error e =>
          rw [hf] at gf
          (refine a_fld ?_; (apply a_ld1 0; exact rfl; exact rfl); refine a_eql ?_; refine a_cndbF rfl ?_; refine a_eql ?_; refine a_cndbF rfl ?_; (apply a_jnX; intro J hJ); refine a_eql ?_; refine a_cndbT rfl ?_; exact hJ; dsimp only [aix0, aix1, aix2, aix3, aix4, aix5, aix6, aix7, aix8]; refine a_cndbT rfl ?_; (apply a_ldA 1; exact rfl; exact rfl); refine a_fld ?_; (apply a_ld1 0; exact rfl; exact rfl); refine a_idxT0 ?_; (apply a_ldAp; exact rfl); refine a_callS0 g ?_; (apply a_ldA 1; exact rfl; exact rfl); refine a_fld ?_; (apply a_ld1 0; exact rfl; exact rfl); refine a_idxT1 ?_; (apply a_ldAp; exact rfl); refine a_callS0 g' ?_; refine a_fld ?_; (apply a_ld1 0; exact rfl; exact rfl); refine a_eql ?_; refine a_cndbT rfl ?_; refine a_call0 (c162 _ _) ?_; (apply a_ext; exact rfl); (apply a_ext; exact rfl); refine a_callP gf ?_)
          simp only [List.getD_cons_zero, List.getD_cons_succ, hf]
          rfl
  · obtain ⟨x, y, rfl, hx, hy⟩ := right2 ht rfl rfl
    have g := c116 (h x (by simp))
    have g' := c116 (h y (by simp))
    rw [evV_eq, evL2]
    cases hv : evV w x with
    | error e =>
      rw [hv] at g
      (refine a_fld ?_; (apply a_ld1 0; exact rfl; exact rfl); refine a_eql ?_; refine a_cndbF rfl ?_; refine a_eql ?_; refine a_cndbF rfl ?_; (apply a_jnX; intro J hJ); refine a_eql ?_; refine a_cndbF rfl ?_; refine a_eql ?_; exact hJ; dsimp only [aix0, aix1, aix2, aix3, aix4, aix5, aix6, aix7, aix8]; refine a_cndbT rfl ?_; (apply a_ldA 1; exact rfl; exact rfl); refine a_fld ?_; (apply a_ld1 0; exact rfl; exact rfl); refine a_idxT0 ?_; (apply a_ldAp; exact rfl); refine a_callSP g ?_)
      rfl
    | ok v =>
      rw [hv] at g
      cases hu : evV w y with
      | error e =>
        rw [hu] at g'
        (refine a_fld ?_; (apply a_ld1 0; exact rfl; exact rfl); refine a_eql ?_; refine a_cndbF rfl ?_; refine a_eql ?_; refine a_cndbF rfl ?_; (apply a_jnX; intro J hJ); refine a_eql ?_; refine a_cndbF rfl ?_; refine a_eql ?_; exact hJ; dsimp only [aix0, aix1, aix2, aix3, aix4, aix5, aix6, aix7, aix8]; refine a_cndbT rfl ?_; (apply a_ldA 1; exact rfl; exact rfl); refine a_fld ?_; (apply a_ld1 0; exact rfl; exact rfl); refine a_idxT0 ?_; (apply a_ldAp; exact rfl); refine a_callS0 g ?_; (apply a_ldA 1; exact rfl; exact rfl); refine a_fld ?_; (apply a_ld1 0; exact rfl; exact rfl); refine a_idxT1 ?_; (apply a_ldAp; exact rfl); refine a_callSP g' ?_)
        rfl
      | ok u =>
        rw [hu] at g'
        have gf := checked_fit (v.n - u.n)
        simp only [opV, show Int.toNat 5 = 5 from rfl]
        cases hf : fit (v.n - u.n) with
        | ok r =>
          rw [hf] at gf
          (refine a_fld ?_; (apply a_ld1 0; exact rfl; exact rfl); refine a_eql ?_; refine a_cndbF rfl ?_; refine a_eql ?_; refine a_cndbF rfl ?_; (apply a_jnX; intro J hJ); refine a_eql ?_; refine a_cndbF rfl ?_; refine a_eql ?_; exact hJ; dsimp only [aix0, aix1, aix2, aix3, aix4, aix5, aix6, aix7, aix8]; refine a_cndbT rfl ?_; (apply a_ldA 1; exact rfl; exact rfl); refine a_fld ?_; (apply a_ld1 0; exact rfl; exact rfl); refine a_idxT0 ?_; (apply a_ldAp; exact rfl); refine a_callS0 g ?_; (apply a_ldA 1; exact rfl; exact rfl); refine a_fld ?_; (apply a_ld1 0; exact rfl; exact rfl); refine a_idxT1 ?_; (apply a_ldAp; exact rfl); refine a_callS0 g' ?_; refine a_fld ?_; (apply a_ld1 0; exact rfl; exact rfl); refine a_eql ?_; refine a_cndbF rfl ?_; refine a_call0 (c163 _ _) ?_; (apply a_ext; exact rfl); (apply a_ext; exact rfl); refine a_call0 gf ?_)
          simp only [List.getD_cons_zero, List.getD_cons_succ, hf]
          rfl
        | error e =>
          rw [hf] at gf
          (refine a_fld ?_; (apply a_ld1 0; exact rfl; exact rfl); refine a_eql ?_; refine a_cndbF rfl ?_; refine a_eql ?_; refine a_cndbF rfl ?_; (apply a_jnX; intro J hJ); refine a_eql ?_; refine a_cndbF rfl ?_; refine a_eql ?_; exact hJ; dsimp only [aix0, aix1, aix2, aix3, aix4, aix5, aix6, aix7, aix8]; refine a_cndbT rfl ?_; (apply a_ldA 1; exact rfl; exact rfl); refine a_fld ?_; (apply a_ld1 0; exact rfl; exact rfl); refine a_idxT0 ?_; (apply a_ldAp; exact rfl); refine a_callS0 g ?_; (apply a_ldA 1; exact rfl; exact rfl); refine a_fld ?_; (apply a_ld1 0; exact rfl; exact rfl); refine a_idxT1 ?_; (apply a_ldAp; exact rfl); refine a_callS0 g' ?_; refine a_fld ?_; (apply a_ld1 0; exact rfl; exact rfl); refine a_eql ?_; refine a_cndbF rfl ?_; refine a_call0 (c163 _ _) ?_; (apply a_ext; exact rfl); (apply a_ext; exact rfl); refine a_callP gf ?_)
          simp only [List.getD_cons_zero, List.getD_cons_succ, hf]
          rfl
  · obtain ⟨x, rfl, hx⟩ := right1 ht rfl rfl
    have g := c116 (h x (by simp))
    rw [evV_eq, evL1]
    cases hv : evV w x with
    | error e =>
      rw [hv] at g
      (refine a_fld ?_; (apply a_ld1 0; exact rfl; exact rfl); refine a_eql ?_; refine a_cndbF rfl ?_; refine a_eql ?_; refine a_cndbT rfl ?_; refine a_fld ?_; (apply a_ld1 0; exact rfl; exact rfl); (apply a_ldA 1; exact rfl; exact rfl); refine a_fld ?_; (apply a_ld1 0; exact rfl; exact rfl); refine a_idxT0 ?_; (apply a_ldAp; exact rfl); refine a_callSP g ?_)
      rfl
    | ok v =>
      rw [hv] at g
      have gf := checked_fit (n * v.n)
      simp only [opV, show Int.toNat 6 = 6 from rfl]
      cases hf : fit (n * v.n) with
      | ok r =>
        rw [hf] at gf
        (refine a_fld ?_; (apply a_ld1 0; exact rfl; exact rfl); refine a_eql ?_; refine a_cndbF rfl ?_; refine a_eql ?_; refine a_cndbT rfl ?_; refine a_fld ?_; (apply a_ld1 0; exact rfl; exact rfl); (apply a_ldA 1; exact rfl; exact rfl); refine a_fld ?_; (apply a_ld1 0; exact rfl; exact rfl); refine a_idxT0 ?_; (apply a_ldAp; exact rfl); refine a_callS0 g ?_; refine a_callS0 (c161 _ _) ?_; (apply a_ext; exact rfl); (apply a_ext; exact rfl); refine a_callS0 gf ?_)
        simp only [List.getD_cons_zero, hf]
        rfl
      | error e =>
        rw [hf] at gf
        (refine a_fld ?_; (apply a_ld1 0; exact rfl; exact rfl); refine a_eql ?_; refine a_cndbF rfl ?_; refine a_eql ?_; refine a_cndbT rfl ?_; refine a_fld ?_; (apply a_ld1 0; exact rfl; exact rfl); (apply a_ldA 1; exact rfl; exact rfl); refine a_fld ?_; (apply a_ld1 0; exact rfl; exact rfl); refine a_idxT0 ?_; (apply a_ldAp; exact rfl); refine a_callS0 g ?_; refine a_callS0 (c161 _ _) ?_; (apply a_ext; exact rfl); (apply a_ext; exact rfl); refine a_callSP gf ?_)
        simp only [List.getD_cons_zero, hf]
        rfl
theorem c122 (hw : rightW w = true) (ht : rightT t 4 = true) (hop : 16 ≤ t.op) (h : ∀ x ∈ t.a, AFn pr 71 [w.d, x.d] [] (rsA Vl.d (evV w x))) :
    AFn pr 122 [w.d, t.d] [] (rsA (fun v => .b v.b) (evV w t)) := by
  refine AFn.of (s122 ?_)
  unfold A122
  refine a_bxv fun z1 => ?_
  refine a_bxv fun z2 => ?_
  obtain ⟨_, hop2⟩ := right4 ht
  cases t with | mk op nm n a =>
  simp only [Tm.op, Tm.a] at hop hop2 h
  have hop : op = 16 ∨ op = 17 ∨ op = 18 ∨ op = 19 ∨ op = 20 ∨ op = 21 ∨ op = 22 ∨ op = 23 ∨ op = 24 ∨ op = 25 ∨ op = 26 ∨ op = 27 ∨ op = 28 := by omega
  rcases hop with rfl | rfl | rfl | rfl | rfl | rfl | rfl | rfl | rfl | rfl | rfl | rfl | rfl
  · obtain rfl := right0 ht rfl rfl
    rw [evV_eq, evL0]
    ((apply a_jn0; intro J); refine a_fld ?_; (apply a_ld1 0; exact rfl; exact rfl); (apply a_jnX; intro J hJ); refine a_eql ?_; refine a_cndbT rfl ?_; exact hJ; dsimp only [aix0, aix1, aix2, aix3, aix4, aix5, aix6, aix7, aix8]; refine a_cndbT rfl ?_; refine a_fld ?_; (apply a_ld1 0; exact rfl; exact rfl); refine a_eql ?_)
    rfl
  · obtain rfl := right0 ht rfl rfl
    rw [evV_eq, evL0]
    ((apply a_jn0; intro J); refine a_fld ?_; (apply a_ld1 0; exact rfl; exact rfl); (apply a_jnX; intro J hJ); refine a_eql ?_; refine a_cndbF rfl ?_; refine a_eql ?_; exact hJ; dsimp only [aix0, aix1, aix2, aix3, aix4, aix5, aix6, aix7, aix8]; refine a_cndbT rfl ?_; refine a_fld ?_; (apply a_ld1 0; exact rfl; exact rfl); refine a_eql ?_)
    rfl
  · obtain ⟨x, rfl, hx⟩ := right1 ht rfl rfl
    have g := h x (by simp)
    rw [evV_eq, evL1]
    cases hv : evV w x with
    | ok v =>
      rw [hv] at g
      ((apply a_jn0; intro J); refine a_fld ?_; (apply a_ld1 0; exact rfl; exact rfl); (apply a_jnX; intro J hJ); refine a_eql ?_; refine a_cndbF rfl ?_; refine a_eql ?_; exact hJ; dsimp only [aix0, aix1, aix2, aix3, aix4, aix5, aix6, aix7, aix8]; refine a_cndbF rfl ?_; refine a_eql ?_; refine a_cndbT rfl ?_; (apply a_ldA 1; exact rfl; exact rfl); refine a_fld ?_; (apply a_ld1 0; exact rfl; exact rfl); refine a_idxT0 ?_; (apply a_ldAp; exact rfl); refine a_callS0 g ?_; (apply a_f1; exact rfl); refine a_not ?_)
      rfl
    | error e =>
      rw [hv] at g
      ((apply a_jn0; intro J); refine a_fld ?_; (apply a_ld1 0; exact rfl; exact rfl); (apply a_jnX; intro J hJ); refine a_eql ?_; refine a_cndbF rfl ?_; refine a_eql ?_; exact hJ; dsimp only [aix0, aix1, aix2, aix3, aix4, aix5, aix6, aix7, aix8]; refine a_cndbF rfl ?_; refine a_eql ?_; refine a_cndbT rfl ?_; (apply a_ldA 1; exact rfl; exact rfl); refine a_fld ?_; (apply a_ld1 0; exact rfl; exact rfl); refine a_idxT0 ?_; (apply a_ldAp; exact rfl); refine a_callSP g ?_)
      rfl
  · have g := c164 w a h
    rw [evV_eq]
    cases hv : evL w a with
    | ok v =>
      rw [hv] at g
      ((apply a_jn0; intro J); refine a_fld ?_; (apply a_ld1 0; exact rfl; exact rfl); (apply a_jnX; intro J hJ); refine a_eql ?_; refine a_cndbF rfl ?_; refine a_eql ?_; exact hJ; dsimp only [aix0, aix1, aix2, aix3, aix4, aix5, aix6, aix7, aix8]; refine a_cndbF rfl ?_; refine a_eql ?_; refine a_cndbF rfl ?_; refine a_eql ?_; refine a_cndbT rfl ?_; (apply a_ldA 1; exact rfl; exact rfl); refine a_fld ?_; (apply a_ld1 0; exact rfl; exact rfl); refine a_call0 g ?_; (apply a_ext; exact rfl); (apply a_ext; exact rfl))
      rfl
    | error e =>
      rw [hv] at g
      ((apply a_jn0; intro J); refine a_fld ?_; (apply a_ld1 0; exact rfl; exact rfl); (apply a_jnX; intro J hJ); refine a_eql ?_; refine a_cndbF rfl ?_; refine a_eql ?_; exact hJ; dsimp only [aix0, aix1, aix2, aix3, aix4, aix5, aix6, aix7, aix8]; refine a_cndbF rfl ?_; refine a_eql ?_; refine a_cndbF rfl ?_; refine a_eql ?_; refine a_cndbT rfl ?_; (apply a_ldA 1; exact rfl; exact rfl); refine a_fld ?_; (apply a_ld1 0; exact rfl; exact rfl); refine a_callP g ?_)
      rfl
  · have g := c164 w a h
    rw [evV_eq]
    cases hv : evL w a with
    | ok v =>
      rw [hv] at g
      ((apply a_jn0; intro J); refine a_fld ?_; (apply a_ld1 0; exact rfl; exact rfl); (apply a_jnX; intro J hJ); refine a_eql ?_; refine a_cndbF rfl ?_; refine a_eql ?_; exact hJ; dsimp only [aix0, aix1, aix2, aix3, aix4, aix5, aix6, aix7, aix8]; refine a_cndbF rfl ?_; refine a_eql ?_; refine a_cndbF rfl ?_; refine a_eql ?_; refine a_cndbF rfl ?_; refine a_eql ?_; refine a_cndbT rfl ?_; (apply a_ldA 1; exact rfl; exact rfl); refine a_fld ?_; (apply a_ld1 0; exact rfl; exact rfl); refine a_call0 g ?_; (apply a_ext; exact rfl); (apply a_ext; exact rfl))
      rfl
    | error e =>
      rw [hv] at g
      ((apply a_jn0; intro J); refine a_fld ?_; (apply a_ld1 0; exact rfl; exact rfl); (apply a_jnX; intro J hJ); refine a_eql ?_; refine a_cndbF rfl ?_; refine a_eql ?_; exact hJ; dsimp only [aix0, aix1, aix2, aix3, aix4, aix5, aix6, aix7, aix8]; refine a_cndbF rfl ?_; refine a_eql ?_; refine a_cndbF rfl ?_; refine a_eql ?_; refine a_cndbF rfl ?_; refine a_eql ?_; refine a_cndbT rfl ?_; (apply a_ldA 1; exact rfl; exact rfl); refine a_fld ?_; (apply a_ld1 0; exact rfl; exact rfl); refine a_callP g ?_)
      rfl
  · obtain ⟨x, y, rfl, hx, hy⟩ := right2 ht rfl rfl
    have g := h x (by simp)
    have g' := h y (by simp)
    rw [evV_eq, evL2]
    cases hv : evV w x with
    | error e =>
      rw [hv] at g
      ((apply a_jn0; intro J); refine a_fld ?_; (apply a_ld1 0; exact rfl; exact rfl); (apply a_jnX; intro J hJ); refine a_eql ?_; refine a_cndbF rfl ?_; refine a_eql ?_; exact hJ; dsimp only [aix0, aix1, aix2, aix3, aix4, aix5, aix6, aix7, aix8]; refine a_cndbF rfl ?_; refine a_eql ?_; refine a_cndbF rfl ?_; refine a_eql ?_; refine a_cndbF rfl ?_; refine a_eql ?_; refine a_cndbF rfl ?_; refine a_eql ?_; refine a_cndbT rfl ?_; (apply a_ldA 1; exact rfl; exact rfl); refine a_fld ?_; (apply a_ld1 0; exact rfl; exact rfl); refine a_idxT0 ?_; (apply a_ldAp; exact rfl); refine a_callSP g ?_)
      rfl
    | ok v =>
      rw [hv] at g
      cases hu : evV w y with
      | error e =>
        rw [hu] at g'
        ((apply a_jn0; intro J); refine a_fld ?_; (apply a_ld1 0; exact rfl; exact rfl); (apply a_jnX; intro J hJ); refine a_eql ?_; refine a_cndbF rfl ?_; refine a_eql ?_; exact hJ; dsimp only [aix0, aix1, aix2, aix3, aix4, aix5, aix6, aix7, aix8]; refine a_cndbF rfl ?_; refine a_eql ?_; refine a_cndbF rfl ?_; refine a_eql ?_; refine a_cndbF rfl ?_; refine a_eql ?_; refine a_cndbF rfl ?_; refine a_eql ?_; refine a_cndbT rfl ?_; (apply a_ldA 1; exact rfl; exact rfl); refine a_fld ?_; (apply a_ld1 0; exact rfl; exact rfl); refine a_idxT0 ?_; (apply a_ldAp; exact rfl); refine a_callS0 g ?_; (apply a_f1; exact rfl); (apply a_ldA 1; exact rfl; exact rfl); refine a_fld ?_; (apply a_ld1 0; exact rfl; exact rfl); refine a_idxT1 ?_; (apply a_ldAp; exact rfl); refine a_callSP g' ?_)
        rfl
      | ok u =>
        rw [hu] at g'
        refine a_jn0 fun J => ?_
        (refine a_fld ?_; (apply a_ld1 0; exact rfl; exact rfl); (apply a_jnX; intro J hJ); refine a_eql ?_; refine a_cndbF rfl ?_; refine a_eql ?_; exact hJ; dsimp only [aix0, aix1, aix2, aix3, aix4, aix5, aix6, aix7, aix8]; refine a_cndbF rfl ?_; refine a_eql ?_; refine a_cndbF rfl ?_; refine a_eql ?_; refine a_cndbF rfl ?_; refine a_eql ?_; refine a_cndbF rfl ?_; refine a_eql ?_; refine a_cndbT rfl ?_; (apply a_ldA 1; exact rfl; exact rfl); refine a_fld ?_; (apply a_ld1 0; exact rfl; exact rfl); refine a_idxT0 ?_; (apply a_ldAp; exact rfl); refine a_callS0 g ?_; (apply a_f1; exact rfl); (apply a_ldA 1; exact rfl; exact rfl); refine a_fld ?_; (apply a_ld1 0; exact rfl; exact rfl); refine a_idxT1 ?_; (apply a_ldAp; exact rfl); refine a_callS0 g' ?_; (apply a_f1; exact rfl))
        refine a_cndb (fun q => ?_) (fun q => ?_)
        · refine congrArg AE.ret ?_
          show D.b true = D.b (u.b || !v.b)
          rw [q]; rfl
        · (refine a_not ?_)
          refine congrArg AE.ret ?_
          show D.b (!v.b) = D.b (u.b || !v.b)
          rw [q]; rfl
  · obtain ⟨x, y, rfl, hx, hy⟩ := right2 ht rfl rfl
    have g := c116 (h x (by simp))
    have g' := c116 (h y (by simp))
    rw [evV_eq, evL2]
    cases hv : evV w x with
    | error e =>
      rw [hv] at g
      ((apply a_jnX; intro J hJ); refine a_fld ?_; (apply a_ld1 0; exact rfl; exact rfl); (apply a_jnX; intro J hJ); refine a_eql ?_; refine a_cndbF rfl ?_; refine a_eql ?_; exact hJ; dsimp only [aix0, aix1, aix2, aix3, aix4, aix5, aix6, aix7, aix8]; refine a_cndbF rfl ?_; refine a_eql ?_; refine a_cndbF rfl ?_; refine a_eql ?_; refine a_cndbF rfl ?_; refine a_eql ?_; refine a_cndbF rfl ?_; refine a_eql ?_; refine a_cndbF rfl ?_; refine a_eql ?_; refine a_cndbF rfl ?_; refine a_eql ?_; refine a_cndbF rfl ?_; refine a_eql ?_; refine a_cndbF rfl ?_; exact hJ; dsimp only [aix0, aix1, aix2, aix3, aix4, aix5, aix6, aix7, aix8]; (apply a_ldA 1; exact rfl; exact rfl); refine a_fld ?_; (apply a_ld1 0; exact rfl; exact rfl); refine a_idxT0 ?_; (apply a_ldAp; exact rfl); refine a_callSP g ?_)
      rfl
    | ok v =>
      rw [hv] at g
      cases hu : evV w y with
      | error e =>
        rw [hu] at g'
        ((apply a_jnX; intro J hJ); refine a_fld ?_; (apply a_ld1 0; exact rfl; exact rfl); (apply a_jnX; intro J hJ); refine a_eql ?_; refine a_cndbF rfl ?_; refine a_eql ?_; exact hJ; dsimp only [aix0, aix1, aix2, aix3, aix4, aix5, aix6, aix7, aix8]; refine a_cndbF rfl ?_; refine a_eql ?_; refine a_cndbF rfl ?_; refine a_eql ?_; refine a_cndbF rfl ?_; refine a_eql ?_; refine a_cndbF rfl ?_; refine a_eql ?_; refine a_cndbF rfl ?_; refine a_eql ?_; refine a_cndbF rfl ?_; refine a_eql ?_; refine a_cndbF rfl ?_; refine a_eql ?_; refine a_cndbF rfl ?_; exact hJ; dsimp only [aix0, aix1, aix2, aix3, aix4, aix5, aix6, aix7, aix8]; (apply a_ldA 1; exact rfl; exact rfl); refine a_fld ?_; (apply a_ld1 0; exact rfl; exact rfl); refine a_idxT0 ?_; (apply a_ldAp; exact rfl); refine a_callS0 g ?_; (apply a_ldA 1; exact rfl; exact rfl); refine a_fld ?_; (apply a_ld1 0; exact rfl; exact rfl); refine a_idxT1 ?_; (apply a_ldAp; exact rfl); refine a_callSP g' ?_)
        rfl
      | ok u =>
        rw [hu] at g'
        ((apply a_jnX; intro J hJ); refine a_fld ?_; (apply a_ld1 0; exact rfl; exact rfl); (apply a_jnX; intro J hJ); refine a_eql ?_; refine a_cndbF rfl ?_; refine a_eql ?_; exact hJ; dsimp only [aix0, aix1, aix2, aix3, aix4, aix5, aix6, aix7, aix8]; refine a_cndbF rfl ?_; refine a_eql ?_; refine a_cndbF rfl ?_; refine a_eql ?_; refine a_cndbF rfl ?_; refine a_eql ?_; refine a_cndbF rfl ?_; refine a_eql ?_; refine a_cndbF rfl ?_; refine a_eql ?_; refine a_cndbF rfl ?_; refine a_eql ?_; refine a_cndbF rfl ?_; refine a_eql ?_; refine a_cndbF rfl ?_; exact hJ; dsimp only [aix0, aix1, aix2, aix3, aix4, aix5, aix6, aix7, aix8]; (apply a_ldA 1; exact rfl; exact rfl); refine a_fld ?_; (apply a_ld1 0; exact rfl; exact rfl); refine a_idxT0 ?_; (apply a_ldAp; exact rfl); refine a_callS0 g ?_; (apply a_ldA 1; exact rfl; exact rfl); refine a_fld ?_; (apply a_ld1 0; exact rfl; exact rfl); refine a_idxT1 ?_; (apply a_ldAp; exact rfl); refine a_callS0 g' ?_; refine a_fld ?_; (apply a_ld1 0; exact rfl; exact rfl); refine a_eql ?_; refine a_cndbT rfl ?_; refine a_leq ?_)
        rfl
  · obtain ⟨x, y, rfl, hx, hy⟩ := right2 ht rfl rfl
    have g := c116 (h x (by simp))
    have g' := c116 (h y (by simp))
    rw [evV_eq, evL2]
    cases hv : evV w x with
    | error e =>
      rw [hv] at g
      ((apply a_jnX; intro J hJ); refine a_fld ?_; (apply a_ld1 0; exact rfl; exact rfl); (apply a_jnX; intro J hJ); refine a_eql ?_; refine a_cndbF rfl ?_; refine a_eql ?_; exact hJ; dsimp only [aix0, aix1, aix2, aix3, aix4, aix5, aix6, aix7, aix8]; refine a_cndbF rfl ?_; refine a_eql ?_; refine a_cndbF rfl ?_; refine a_eql ?_; refine a_cndbF rfl ?_; refine a_eql ?_; refine a_cndbF rfl ?_; refine a_eql ?_; refine a_cndbF rfl ?_; refine a_eql ?_; refine a_cndbF rfl ?_; refine a_eql ?_; refine a_cndbF rfl ?_; refine a_eql ?_; refine a_cndbF rfl ?_; exact hJ; dsimp only [aix0, aix1, aix2, aix3, aix4, aix5, aix6, aix7, aix8]; (apply a_ldA 1; exact rfl; exact rfl); refine a_fld ?_; (apply a_ld1 0; exact rfl; exact rfl); refine a_idxT0 ?_; (apply a_ldAp; exact rfl); refine a_callSP g ?_)
      rfl
    | ok v =>
      rw [hv] at g
      cases hu : evV w y with
      | error e =>
        rw [hu] at g'
        ((apply a_jnX; intro J hJ); refine a_fld ?_; (apply a_ld1 0; exact rfl; exact rfl); (apply a_jnX; intro J hJ); refine a_eql ?_; refine a_cndbF rfl ?_; refine a_eql ?_; exact hJ; dsimp only [aix0, aix1, aix2, aix3, aix4, aix5, aix6, aix7, aix8]; refine a_cndbF rfl ?_; refine a_eql ?_; refine a_cndbF rfl ?_; refine a_eql ?_; refine a_cndbF rfl ?_; refine a_eql ?_; refine a_cndbF rfl ?_; refine a_eql ?_; refine a_cndbF rfl ?_; refine a_eql ?_; refine a_cndbF rfl ?_; refine a_eql ?_; refine a_cndbF rfl ?_; refine a_eql ?_; refine a_cndbF rfl ?_; exact hJ; dsimp only [aix0, aix1, aix2, aix3, aix4, aix5, aix6, aix7, aix8]; (apply a_ldA 1; exact rfl; exact rfl); refine a_fld ?_; (apply a_ld1 0; exact rfl; exact rfl); refine a_idxT0 ?_; (apply a_ldAp; exact rfl); refine a_callS0 g ?_; (apply a_ldA 1; exact rfl; exact rfl); refine a_fld ?_; (apply a_ld1 0; exact rfl; exact rfl); refine a_idxT1 ?_; (apply a_ldAp; exact rfl); refine a_callSP g' ?_)
        rfl
      | ok u =>
        rw [hu] at g'
        ((apply a_jnX; intro J hJ); refine a_fld ?_; (apply a_ld1 0; exact rfl; exact rfl); (apply a_jnX; intro J hJ); refine a_eql ?_; refine a_cndbF rfl ?_; refine a_eql ?_; exact hJ; dsimp only [aix0, aix1, aix2, aix3, aix4, aix5, aix6, aix7, aix8]; refine a_cndbF rfl ?_; refine a_eql ?_; refine a_cndbF rfl ?_; refine a_eql ?_; refine a_cndbF rfl ?_; refine a_eql ?_; refine a_cndbF rfl ?_; refine a_eql ?_; refine a_cndbF rfl ?_; refine a_eql ?_; refine a_cndbF rfl ?_; refine a_eql ?_; refine a_cndbF rfl ?_; refine a_eql ?_; refine a_cndbF rfl ?_; exact hJ; dsimp only [aix0, aix1, aix2, aix3, aix4, aix5, aix6, aix7, aix8]; (apply a_ldA 1; exact rfl; exact rfl); refine a_fld ?_; (apply a_ld1 0; exact rfl; exact rfl); refine a_idxT0 ?_; (apply a_ldAp; exact rfl); refine a_callS0 g ?_; (apply a_ldA 1; exact rfl; exact rfl); refine a_fld ?_; (apply a_ld1 0; exact rfl; exact rfl); refine a_idxT1 ?_; (apply a_ldAp; exact rfl); refine a_callS0 g' ?_; refine a_fld ?_; (apply a_ld1 0; exact rfl; exact rfl); refine a_eql ?_; refine a_cndbF rfl ?_; refine a_eql ?_; refine a_cndbT rfl ?_; refine a_lss ?_)
        rfl
  · obtain ⟨x, y, rfl, hx, hy⟩ := right2 ht rfl rfl
    have g := c116 (h x (by simp))
    have g' := c116 (h y (by simp))
    rw [evV_eq, evL2]
    cases hv : evV w x with
    | error e =>
      rw [hv] at g
      ((apply a_jnX; intro J hJ); refine a_fld ?_; (apply a_ld1 0; exact rfl; exact rfl); (apply a_jnX; intro J hJ); refine a_eql ?_; refine a_cndbF rfl ?_; refine a_eql ?_; exact hJ; dsimp only [aix0, aix1, aix2, aix3, aix4, aix5, aix6, aix7, aix8]; refine a_cndbF rfl ?_; refine a_eql ?_; refine a_cndbF rfl ?_; refine a_eql ?_; refine a_cndbF rfl ?_; refine a_eql ?_; refine a_cndbF rfl ?_; refine a_eql ?_; refine a_cndbF rfl ?_; refine a_eql ?_; refine a_cndbF rfl ?_; refine a_eql ?_; refine a_cndbF rfl ?_; refine a_eql ?_; refine a_cndbF rfl ?_; exact hJ; dsimp only [aix0, aix1, aix2, aix3, aix4, aix5, aix6, aix7, aix8]; (apply a_ldA 1; exact rfl; exact rfl); refine a_fld ?_; (apply a_ld1 0; exact rfl; exact rfl); refine a_idxT0 ?_; (apply a_ldAp; exact rfl); refine a_callSP g ?_)
      rfl
    | ok v =>
      rw [hv] at g
      cases hu : evV w y with
      | error e =>
        rw [hu] at g'
        ((apply a_jnX; intro J hJ); refine a_fld ?_; (apply a_ld1 0; exact rfl; exact rfl); (apply a_jnX; intro J hJ); refine a_eql ?_; refine a_cndbF rfl ?_; refine a_eql ?_; exact hJ; dsimp only [aix0, aix1, aix2, aix3, aix4, aix5, aix6, aix7, aix8]; refine a_cndbF rfl ?_; refine a_eql ?_; refine a_cndbF rfl ?_; refine a_eql ?_; refine a_cndbF rfl ?_; refine a_eql ?_; refine a_cndbF rfl ?_; refine a_eql ?_; refine a_cndbF rfl ?_; refine a_eql ?_; refine a_cndbF rfl ?_; refine a_eql ?_; refine a_cndbF rfl ?_; refine a_eql ?_; refine a_cndbF rfl ?_; exact hJ; dsimp only [aix0, aix1, aix2, aix3, aix4, aix5, aix6, aix7, aix8]; (apply a_ldA 1; exact rfl; exact rfl); refine a_fld ?_; (apply a_ld1 0; exact rfl; exact rfl); refine a_idxT0 ?_; (apply a_ldAp; exact rfl); refine a_callS0 g ?_; (apply a_ldA 1; exact rfl; exact rfl); refine a_fld ?_; (apply a_ld1 0; exact rfl; exact rfl); refine a_idxT1 ?_; (apply a_ldAp; exact rfl); refine a_callSP g' ?_)
        rfl
      | ok u =>
        rw [hu] at g'
        ((apply a_jnX; intro J hJ); refine a_fld ?_; (apply a_ld1 0; exact rfl; exact rfl); (apply a_jnX; intro J hJ); refine a_eql ?_; refine a_cndbF rfl ?_; refine a_eql ?_; exact hJ; dsimp only [aix0, aix1, aix2, aix3, aix4, aix5, aix6, aix7, aix8]; refine a_cndbF rfl ?_; refine a_eql ?_; refine a_cndbF rfl ?_; refine a_eql ?_; refine a_cndbF rfl ?_; refine a_eql ?_; refine a_cndbF rfl ?_; refine a_eql ?_; refine a_cndbF rfl ?_; refine a_eql ?_; refine a_cndbF rfl ?_; refine a_eql ?_; refine a_cndbF rfl ?_; refine a_eql ?_; refine a_cndbF rfl ?_; exact hJ; dsimp only [aix0, aix1, aix2, aix3, aix4, aix5, aix6, aix7, aix8]; (apply a_ldA 1; exact rfl; exact rfl); refine a_fld ?_; (apply a_ld1 0; exact rfl; exact rfl); refine a_idxT0 ?_; (apply a_ldAp; exact rfl); refine a_callS0 g ?_; (apply a_ldA 1; exact rfl; exact rfl); refine a_fld ?_; (apply a_ld1 0; exact rfl; exact rfl); refine a_idxT1 ?_; (apply a_ldAp; exact rfl); refine a_callS0 g' ?_; refine a_fld ?_; (apply a_ld1 0; exact rfl; exact rfl); refine a_eql ?_; refine a_cndbF rfl ?_; refine a_eql ?_; refine a_cndbF rfl ?_; refine a_eql ?_)
        rfl
  · obtain ⟨x, y, rfl, hx, hy⟩ := right2 ht rfl rfl
    have g := c116 (h x (by simp))
    have g' := c159 (h y (by simp))
    rw [evV_eq, evL2]
    cases hv : evV w x with
    | error e =>
      rw [hv] at g
      ((apply a_jn0; intro J); refine a_fld ?_; (apply a_ld1 0; exact rfl; exact rfl); (apply a_jnX; intro J hJ); refine a_eql ?_; refine a_cndbF rfl ?_; refine a_eql ?_; exact hJ; dsimp only [aix0, aix1, aix2, aix3, aix4, aix5, aix6, aix7, aix8]; refine a_cndbF rfl ?_; refine a_eql ?_; refine a_cndbF rfl ?_; refine a_eql ?_; refine a_cndbF rfl ?_; refine a_eql ?_; refine a_cndbF rfl ?_; refine a_eql ?_; refine a_cndbF rfl ?_; refine a_eql ?_; refine a_cndbF rfl ?_; refine a_eql ?_; refine a_cndbF rfl ?_; refine a_eql ?_; refine a_cndbT rfl ?_; (apply a_ldA 1; exact rfl; exact rfl); refine a_fld ?_; (apply a_ld1 0; exact rfl; exact rfl); refine a_idxT0 ?_; (apply a_ldAp; exact rfl); refine a_callSP g ?_)
      rfl
    | ok v =>
      rw [hv] at g
      cases hu : evV w y with
      | error e =>
        rw [hu] at g'
        ((apply a_jn0; intro J); refine a_fld ?_; (apply a_ld1 0; exact rfl; exact rfl); (apply a_jnX; intro J hJ); refine a_eql ?_; refine a_cndbF rfl ?_; refine a_eql ?_; exact hJ; dsimp only [aix0, aix1, aix2, aix3, aix4, aix5, aix6, aix7, aix8]; refine a_cndbF rfl ?_; refine a_eql ?_; refine a_cndbF rfl ?_; refine a_eql ?_; refine a_cndbF rfl ?_; refine a_eql ?_; refine a_cndbF rfl ?_; refine a_eql ?_; refine a_cndbF rfl ?_; refine a_eql ?_; refine a_cndbF rfl ?_; refine a_eql ?_; refine a_cndbF rfl ?_; refine a_eql ?_; refine a_cndbT rfl ?_; (apply a_ldA 1; exact rfl; exact rfl); refine a_fld ?_; (apply a_ld1 0; exact rfl; exact rfl); refine a_idxT0 ?_; (apply a_ldAp; exact rfl); refine a_callS0 g ?_; (apply a_ldA 1; exact rfl; exact rfl); refine a_fld ?_; (apply a_ld1 0; exact rfl; exact rfl); refine a_idxT1 ?_; (apply a_ldAp; exact rfl); refine a_callSP g' ?_)
        rfl
      | ok u =>
        rw [hu] at g'
        refine a_jn0 fun J => ?_
        (refine a_fld ?_; (apply a_ld1 0; exact rfl; exact rfl); (apply a_jnX; intro J hJ); refine a_eql ?_; refine a_cndbF rfl ?_; refine a_eql ?_; exact hJ; dsimp only [aix0, aix1, aix2, aix3, aix4, aix5, aix6, aix7, aix8]; refine a_cndbF rfl ?_; refine a_eql ?_; refine a_cndbF rfl ?_; refine a_eql ?_; refine a_cndbF rfl ?_; refine a_eql ?_; refine a_cndbF rfl ?_; refine a_eql ?_; refine a_cndbF rfl ?_; refine a_eql ?_; refine a_cndbF rfl ?_; refine a_eql ?_; refine a_cndbF rfl ?_; refine a_eql ?_; refine a_cndbT rfl ?_; (apply a_ldA 1; exact rfl; exact rfl); refine a_fld ?_; (apply a_ld1 0; exact rfl; exact rfl); refine a_idxT0 ?_; (apply a_ldAp; exact rfl); refine a_callS0 g ?_; (apply a_ldA 1; exact rfl; exact rfl); refine a_fld ?_; (apply a_ld1 0; exact rfl; exact rfl); refine a_idxT1 ?_; (apply a_ldAp; exact rfl); refine a_callS0 g' ?_)
        have ok1 := evV_ok hw hx (by decide) hv
        have ok2 := evV_ok hw hy (by decide) hu
        obtain ⟨n0, n1⟩ := ok1.nod rfl
        have hl := ok2.len
        rw [if_pos rfl] at hl
        refine a_idxMz v.n.toNat (by omega) (by omega) ?_
        ((apply a_ld1p; exact rfl))
        refine congrArg AE.ret ?_
        show _ = D.b (u.s.getD v.n.toNat false)
        rw [List.getD_eq_getElem?_getD, List.getElem?_eq_getElem (by omega)]
        rfl
  · obtain ⟨x, y, rfl, hx, hy⟩ := right2 ht rfl rfl
    have g := c118 (op := 26) (nm := nm) (n := n) (h x (by simp)) (h y (by simp))
    rw [evV_eq, evL2]
    cases hv : evV w x with
    | error e =>
      rw [hv] at g
      ((apply a_jn0; intro J); refine a_fld ?_; (apply a_ld1 0; exact rfl; exact rfl); (apply a_jnX; intro J hJ); refine a_eql ?_; refine a_cndbF rfl ?_; refine a_eql ?_; exact hJ; dsimp only [aix0, aix1, aix2, aix3, aix4, aix5, aix6, aix7, aix8]; refine a_cndbF rfl ?_; refine a_eql ?_; refine a_cndbF rfl ?_; refine a_eql ?_; refine a_cndbF rfl ?_; refine a_eql ?_; refine a_cndbF rfl ?_; refine a_eql ?_; refine a_cndbF rfl ?_; refine a_eql ?_; refine a_cndbT rfl ?_; (apply a_ldA 1; exact rfl; exact rfl); (apply a_ldA 0; exact rfl; exact rfl); refine a_callP g ?_)
      rfl
    | ok v =>
      rw [hv] at g
      cases hu : evV w y with
      | error e =>
        rw [hu] at g
        ((apply a_jn0; intro J); refine a_fld ?_; (apply a_ld1 0; exact rfl; exact rfl); (apply a_jnX; intro J hJ); refine a_eql ?_; refine a_cndbF rfl ?_; refine a_eql ?_; exact hJ; dsimp only [aix0, aix1, aix2, aix3, aix4, aix5, aix6, aix7, aix8]; refine a_cndbF rfl ?_; refine a_eql ?_; refine a_cndbF rfl ?_; refine a_eql ?_; refine a_cndbF rfl ?_; refine a_eql ?_; refine a_cndbF rfl ?_; refine a_eql ?_; refine a_cndbF rfl ?_; refine a_eql ?_; refine a_cndbT rfl ?_; (apply a_ldA 1; exact rfl; exact rfl); (apply a_ldA 0; exact rfl; exact rfl); refine a_callP g ?_)
        rfl
      | ok u =>
        rw [hu] at g
        have ok1 := (evV_ok hw hx (by decide) hv).len
        have ok2 := (evV_ok hw hy (by decide) hu).len
        rw [if_pos rfl] at ok1 ok2
        ((apply a_jn0; intro J); refine a_fld ?_; (apply a_ld1 0; exact rfl; exact rfl); (apply a_jnX; intro J hJ); refine a_eql ?_; refine a_cndbF rfl ?_; refine a_eql ?_; exact hJ; dsimp only [aix0, aix1, aix2, aix3, aix4, aix5, aix6, aix7, aix8]; refine a_cndbF rfl ?_; refine a_eql ?_; refine a_cndbF rfl ?_; refine a_eql ?_; refine a_cndbF rfl ?_; refine a_eql ?_; refine a_cndbF rfl ?_; refine a_eql ?_; refine a_cndbF rfl ?_; refine a_eql ?_; refine a_cndbT rfl ?_; (apply a_ldA 1; exact rfl; exact rfl); (apply a_ldA 0; exact rfl; exact rfl); refine a_call0 g ?_; (apply a_ext; exact rfl); (apply a_ext; exact rfl); refine a_call0 (c165 v.s u.s (by omega)) ?_)
        rfl
  · obtain ⟨x, y, rfl, hx, hy⟩ := right2 ht rfl rfl
    have g := c118 (op := 27) (nm := nm) (n := n) (h x (by simp)) (h y (by simp))
    rw [evV_eq, evL2]
    cases hv : evV w x with
    | error e =>
      rw [hv] at g
      ((apply a_jn0; intro J); refine a_fld ?_; (apply a_ld1 0; exact rfl; exact rfl); (apply a_jnX; intro J hJ); refine a_eql ?_; refine a_cndbF rfl ?_; refine a_eql ?_; exact hJ; dsimp only [aix0, aix1, aix2, aix3, aix4, aix5, aix6, aix7, aix8]; refine a_cndbF rfl ?_; refine a_eql ?_; refine a_cndbF rfl ?_; refine a_eql ?_; refine a_cndbF rfl ?_; refine a_eql ?_; refine a_cndbF rfl ?_; refine a_eql ?_; refine a_cndbF rfl ?_; refine a_eql ?_; refine a_cndbF rfl ?_; refine a_eql ?_; refine a_cndbT rfl ?_; (apply a_ldA 1; exact rfl; exact rfl); (apply a_ldA 0; exact rfl; exact rfl); refine a_callP g ?_)
      rfl
    | ok v =>
      rw [hv] at g
      cases hu : evV w y with
      | error e =>
        rw [hu] at g
        ((apply a_jn0; intro J); refine a_fld ?_; (apply a_ld1 0; exact rfl; exact rfl); (apply a_jnX; intro J hJ); refine a_eql ?_; refine a_cndbF rfl ?_; refine a_eql ?_; exact hJ; dsimp only [aix0, aix1, aix2, aix3, aix4, aix5, aix6, aix7, aix8]; refine a_cndbF rfl ?_; refine a_eql ?_; refine a_cndbF rfl ?_; refine a_eql ?_; refine a_cndbF rfl ?_; refine a_eql ?_; refine a_cndbF rfl ?_; refine a_eql ?_; refine a_cndbF rfl ?_; refine a_eql ?_; refine a_cndbF rfl ?_; refine a_eql ?_; refine a_cndbT rfl ?_; (apply a_ldA 1; exact rfl; exact rfl); (apply a_ldA 0; exact rfl; exact rfl); refine a_callP g ?_)
        rfl
      | ok u =>
        rw [hu] at g
        have ok1 := (evV_ok hw hx (by decide) hv).len
        have ok2 := (evV_ok hw hy (by decide) hu).len
        rw [if_pos rfl] at ok1 ok2
        ((apply a_jn0; intro J); refine a_fld ?_; (apply a_ld1 0; exact rfl; exact rfl); (apply a_jnX; intro J hJ); refine a_eql ?_; refine a_cndbF rfl ?_; refine a_eql ?_; exact hJ; dsimp only [aix0, aix1, aix2, aix3, aix4, aix5, aix6, aix7, aix8]; refine a_cndbF rfl ?_; refine a_eql ?_; refine a_cndbF rfl ?_; refine a_eql ?_; refine a_cndbF rfl ?_; refine a_eql ?_; refine a_cndbF rfl ?_; refine a_eql ?_; refine a_cndbF rfl ?_; refine a_eql ?_; refine a_cndbF rfl ?_; refine a_eql ?_; refine a_cndbT rfl ?_; (apply a_ldA 1; exact rfl; exact rfl); (apply a_ldA 0; exact rfl; exact rfl); refine a_call0 g ?_; (apply a_ext; exact rfl); (apply a_ext; exact rfl); refine a_call0 (c166 _ _) ?_)
        rfl
  · obtain ⟨x, y, rfl, hx, hy⟩ := right2 ht rfl rfl
    have g := c116 (h x (by simp))
    have g' := c116 (h y (by simp))
    rw [evV_eq, evL2]
    cases hv : evV w x with
    | error e =>
      rw [hv] at g
      ((apply a_jnX; intro J hJ); refine a_fld ?_; (apply a_ld1 0; exact rfl; exact rfl); (apply a_jnX; intro J hJ); refine a_eql ?_; refine a_cndbF rfl ?_; refine a_eql ?_; exact hJ; dsimp only [aix0, aix1, aix2, aix3, aix4, aix5, aix6, aix7, aix8]; refine a_cndbF rfl ?_; refine a_eql ?_; refine a_cndbF rfl ?_; refine a_eql ?_; refine a_cndbF rfl ?_; refine a_eql ?_; refine a_cndbF rfl ?_; refine a_eql ?_; refine a_cndbF rfl ?_; refine a_eql ?_; refine a_cndbF rfl ?_; refine a_eql ?_; refine a_cndbF rfl ?_; refine a_eql ?_; refine a_cndbF rfl ?_; exact hJ; dsimp only [aix0, aix1, aix2, aix3, aix4, aix5, aix6, aix7, aix8]; (apply a_ldA 1; exact rfl; exact rfl); refine a_fld ?_; (apply a_ld1 0; exact rfl; exact rfl); refine a_idxT0 ?_; (apply a_ldAp; exact rfl); refine a_callSP g ?_)
      rfl
    | ok v =>
      rw [hv] at g
      cases hu : evV w y with
      | error e =>
        rw [hu] at g'
        ((apply a_jnX; intro J hJ); refine a_fld ?_; (apply a_ld1 0; exact rfl; exact rfl); (apply a_jnX; intro J hJ); refine a_eql ?_; refine a_cndbF rfl ?_; refine a_eql ?_; exact hJ; dsimp only [aix0, aix1, aix2, aix3, aix4, aix5, aix6, aix7, aix8]; refine a_cndbF rfl ?_; refine a_eql ?_; refine a_cndbF rfl ?_; refine a_eql ?_; refine a_cndbF rfl ?_; refine a_eql ?_; refine a_cndbF rfl ?_; refine a_eql ?_; refine a_cndbF rfl ?_; refine a_eql ?_; refine a_cndbF rfl ?_; refine a_eql ?_; refine a_cndbF rfl ?_; refine a_eql ?_; refine a_cndbF rfl ?_; exact hJ; dsimp only [aix0, aix1, aix2, aix3, aix4, aix5, aix6, aix7, aix8]; (apply a_ldA 1; exact rfl; exact rfl); refine a_fld ?_; (apply a_ld1 0; exact rfl; exact rfl); refine a_idxT0 ?_; (apply a_ldAp; exact rfl); refine a_callS0 g ?_; (apply a_ldA 1; exact rfl; exact rfl); refine a_fld ?_; (apply a_ld1 0; exact rfl; exact rfl); refine a_idxT1 ?_; (apply a_ldAp; exact rfl); refine a_callSP g' ?_)
        rfl
      | ok u =>
        rw [hu] at g'
        ((apply a_jnX; intro J hJ); refine a_fld ?_; (apply a_ld1 0; exact rfl; exact rfl); (apply a_jnX; intro J hJ); refine a_eql ?_; refine a_cndbF rfl ?_; refine a_eql ?_; exact hJ; dsimp only [aix0, aix1, aix2, aix3, aix4, aix5, aix6, aix7, aix8]; refine a_cndbF rfl ?_; refine a_eql ?_; refine a_cndbF rfl ?_; refine a_eql ?_; refine a_cndbF rfl ?_; refine a_eql ?_; refine a_cndbF rfl ?_; refine a_eql ?_; refine a_cndbF rfl ?_; refine a_eql ?_; refine a_cndbF rfl ?_; refine a_eql ?_; refine a_cndbF rfl ?_; refine a_eql ?_; refine a_cndbF rfl ?_; exact hJ; dsimp only [aix0, aix1, aix2, aix3, aix4, aix5, aix6, aix7, aix8]; (apply a_ldA 1; exact rfl; exact rfl); refine a_fld ?_; (apply a_ld1 0; exact rfl; exact rfl); refine a_idxT0 ?_; (apply a_ldAp; exact rfl); refine a_callS0 g ?_; (apply a_ldA 1; exact rfl; exact rfl); refine a_fld ?_; (apply a_ld1 0; exact rfl; exact rfl); refine a_idxT1 ?_; (apply a_ldAp; exact rfl); refine a_callS0 g' ?_; refine a_fld ?_; (apply a_ld1 0; exact rfl; exact rfl); refine a_eql ?_; refine a_cndbF rfl ?_; refine a_eql ?_; refine a_cndbF rfl ?_; refine a_eql ?_)
        rfl
end
theorem c71 {w : Wd} (hw : rightW w = true) (t : Tm) : ∀ {s : Int}, s ≠ 0 → rightT t s = true → AFn pr 71 [w.d, t.d] [] (rsA Vl.d (evV w t)) := by
  induction t using Tm.ind' with
  | h t ih =>
    intro s hs ht
    obtain ⟨h1, h64, _, _⟩ := rightW_spec hw
    have hsort := right_sort ht hs
    have ho := (right_iff t s).1 ht
    have kid : ∀ x ∈ t.a, AFn pr 71 [w.d, x.d] [] (rsA Vl.d (evV w x)) := by
      intro x hx
      obtain ⟨i, hi, rfl⟩ := List.getElem_of_mem hx
      have hk := ho.kids i hi
      refine ih _ hx ?_ hk
      intro h0
      rw [h0] at hk
      exact kid_sort ht hs i hi h0
    refine AFn.of (s71 ?_)
    unfold A71
    refine a_bxv fun z1 => ?_
    refine a_bxv fun z2 => ?_
    refine a_bx fun z3 => ?_
    have c1 := ho.op1
    have c2 := ho.op2
    by_cases h15 : 16 ≤ t.op
    · have h4 : s = 4 := by rw [← hsort]; exact (sort4 c1 c2).2 (by omega)
      subst h4
      have g := c122 hw ht h15 kid
      have hv : ∀ v, evV w t = .ok v → v = vB v.b := fun v hv => by
        have ok := evV_ok hw ht hs hv
        have e1 := ok.sort
        have e2 := ok.len
        have e3 := ok.num (.inr rfl)
        cases v with | mk a b c d =>
        simp only at e1 e2 e3
        rw [if_neg (by decide)] at e2
        rw [e1, e3, List.eq_nil_of_length_eq_zero e2]
      cases hr : evV w t with
      | ok v =>
        rw [hr] at g
        refine a_fld ?_
        refine a_ld1 1 rfl rfl ?_
        (refine a_eql ?_; refine a_cndF (by first | omega | assumption | decide) ?_; refine a_eql ?_; refine a_cndF (by first | omega | assumption | decide) ?_; refine a_eql ?_; refine a_cndF (by first | omega | assumption | decide) ?_; refine a_eql ?_; refine a_cndF (by first | omega | assumption | decide) ?_; (apply a_jnX; intro J hJ); refine a_eql ?_; refine a_cndF (by first | omega | assumption | decide) ?_; refine a_eql ?_; refine a_cndF (by first | omega | assumption | decide) ?_; refine a_eql ?_; refine a_cndF (by first | omega | assumption | decide) ?_; refine a_eql ?_; refine a_cndF (by first | omega | assumption | decide) ?_; refine a_eql ?_; exact hJ; dsimp only [aix0, aix1, aix2, aix3, aix4, aix5, aix6, aix7, aix8]; refine a_cndF (by first | omega | assumption | decide) ?_; refine a_eql ?_; refine a_cndF (by first | omega | assumption | decide) ?_; refine a_eql ?_; refine a_cndF (by first | omega | assumption | decide) ?_; refine a_eql ?_; refine a_cndF (by first | omega | assumption | decide) ?_; refine a_eql ?_; refine a_cndF (by first | omega | assumption | decide) ?_; refine a_eql ?_; refine a_cndF (by first | omega | assumption | decide) ?_; refine a_eql ?_; refine a_cndF (by first | omega | assumption | decide) ?_; (apply a_ldA 2; exact rfl; exact rfl); (apply a_ldA 1; exact rfl; exact rfl); refine a_call0 g ?_; refine a_bldV0 rfl rfl ?_; refine a_stA 0 rfl rfl rfl rfl ?_; (apply a_ldA 0; exact rfl; exact rfl))
        rw [hv v hr]
        rfl
      | error e =>
        rw [hr] at g
        refine a_fld ?_
        refine a_ld1 1 rfl rfl ?_
        (refine a_eql ?_; refine a_cndF (by first | omega | assumption | decide) ?_; refine a_eql ?_; refine a_cndF (by first | omega | assumption | decide) ?_; refine a_eql ?_; refine a_cndF (by first | omega | assumption | decide) ?_; refine a_eql ?_; refine a_cndF (by first | omega | assumption | decide) ?_; (apply a_jnX; intro J hJ); refine a_eql ?_; refine a_cndF (by first | omega | assumption | decide) ?_; refine a_eql ?_; refine a_cndF (by first | omega | assumption | decide) ?_; refine a_eql ?_; refine a_cndF (by first | omega | assumption | decide) ?_; refine a_eql ?_; refine a_cndF (by first | omega | assumption | decide) ?_; refine a_eql ?_; exact hJ; dsimp only [aix0, aix1, aix2, aix3, aix4, aix5, aix6, aix7, aix8]; refine a_cndF (by first | omega | assumption | decide) ?_; refine a_eql ?_; refine a_cndF (by first | omega | assumption | decide) ?_; refine a_eql ?_; refine a_cndF (by first | omega | assumption | decide) ?_; refine a_eql ?_; refine a_cndF (by first | omega | assumption | decide) ?_; refine a_eql ?_; refine a_cndF (by first | omega | assumption | decide) ?_; refine a_eql ?_; refine a_cndF (by first | omega | assumption | decide) ?_; refine a_eql ?_; refine a_cndF (by first | omega | assumption | decide) ?_; (apply a_ldA 2; exact rfl; exact rfl); (apply a_ldA 1; exact rfl; exact rfl); refine a_callP g ?_)
        rfl
    · have hop : t.op = 1 ∨ t.op = 2 ∨ t.op = 3 ∨ t.op = 4 ∨ t.op = 5 ∨ t.op = 6 ∨ t.op = 7 ∨ t.op = 8 ∨ t.op = 9 ∨ t.op = 10 ∨ t.op = 11 ∨ t.op = 12 ∨ t.op = 13 ∨ t.op = 14 ∨ t.op = 15 := by omega
      cases t with | mk op nm n a =>
      simp only [Tm.op, Tm.a] at hop hsort kid
      rcases hop with rfl | rfl | rfl | rfl | rfl | rfl | rfl | rfl | rfl | rfl | rfl | rfl | rfl | rfl | rfl
      · obtain rfl : (1 : Int) = s := hsort
        have g := c112 hw ht (by simp [Tm.op]) kid
        have hv : ∀ v, evV w (.mk 1 nm n a) = .ok v → v = vI v.n := fun v hv => by
          have ok := evV_ok hw ht hs hv
          have e1 := ok.sort
          have e2 := ok.len
          have e3 := ok.bol (by decide)
          cases v with | mk a b c d =>
          simp only at e1 e2 e3
          rw [if_neg (by decide)] at e2
          rw [e1, e3, List.eq_nil_of_length_eq_zero e2]
        cases hr : evV w (.mk 1 nm n a) with
        | ok v =>
          rw [hr] at g
          (refine a_fld ?_; (apply a_ld1 1; exact rfl; exact rfl); refine a_eql ?_; refine a_cndbF rfl ?_; refine a_eql ?_; refine a_cndbF rfl ?_; refine a_eql ?_; refine a_cndbF rfl ?_; refine a_eql ?_; refine a_cndbF rfl ?_; (apply a_jnX; intro J hJ); refine a_eql ?_; refine a_cndbT rfl ?_; exact hJ; dsimp only [aix0, aix1, aix2, aix3, aix4, aix5, aix6, aix7, aix8]; refine a_cndbT rfl ?_; (apply a_ldA 2; exact rfl; exact rfl); (apply a_ldA 1; exact rfl; exact rfl); refine a_call0 g ?_; refine a_bldV0 rfl rfl ?_; refine a_stA 0 rfl rfl rfl rfl ?_; (apply a_ldA 0; exact rfl; exact rfl))
          rw [hv v hr]
          rfl
        | error e =>
          rw [hr] at g
          (refine a_fld ?_; (apply a_ld1 1; exact rfl; exact rfl); refine a_eql ?_; refine a_cndbF rfl ?_; refine a_eql ?_; refine a_cndbF rfl ?_; refine a_eql ?_; refine a_cndbF rfl ?_; refine a_eql ?_; refine a_cndbF rfl ?_; (apply a_jnX; intro J hJ); refine a_eql ?_; refine a_cndbT rfl ?_; exact hJ; dsimp only [aix0, aix1, aix2, aix3, aix4, aix5, aix6, aix7, aix8]; refine a_cndbT rfl ?_; (apply a_ldA 2; exact rfl; exact rfl); (apply a_ldA 1; exact rfl; exact rfl); refine a_callP g ?_)
          rfl
      · obtain rfl := right0 ht rfl rfl
        have g := c111 w (.mk 2 nm n []) 1 hw
        rw [evV_eq, evL0]
        simp only [Tm.nm] at g
        show _
        cases hr : nameV w nm 1 with
        | ok v =>
          rw [hr] at g
          (refine a_fld ?_; (apply a_ld1 1; exact rfl; exact rfl); refine a_eql ?_; refine a_cndbT rfl ?_; (apply a_ldA 2; exact rfl; exact rfl); (apply a_ldA 1; exact rfl; exact rfl); refine a_call0 g ?_; refine a_stA 0 rfl rfl rfl rfl ?_; (apply a_ldA 0; exact rfl; exact rfl))
          simp only [opV, show Int.toNat 2 = 2 from rfl, hr]
          rfl
        | error e =>
          rw [hr] at g
          (refine a_fld ?_; (apply a_ld1 1; exact rfl; exact rfl); refine a_eql ?_; refine a_cndbT rfl ?_; (apply a_ldA 2; exact rfl; exact rfl); (apply a_ldA 1; exact rfl; exact rfl); refine a_callP g ?_)
          simp only [opV, show Int.toNat 2 = 2 from rfl, hr]
          rfl
      · obtain rfl : (1 : Int) = s := hsort
        have g := c112 hw ht (by simp [Tm.op]) kid
        have hv : ∀ v, evV w (.mk 3 nm n a) = .ok v → v = vI v.n := fun v hv => by
          have ok := evV_ok hw ht hs hv
          have e1 := ok.sort
          have e2 := ok.len
          have e3 := ok.bol (by decide)
          cases v with | mk a b c d =>
          simp only at e1 e2 e3
          rw [if_neg (by decide)] at e2
          rw [e1, e3, List.eq_nil_of_length_eq_zero e2]
        cases hr : evV w (.mk 3 nm n a) with
        | ok v =>
          rw [hr] at g
          (refine a_fld ?_; (apply a_ld1 1; exact rfl; exact rfl); refine a_eql ?_; refine a_cndbF rfl ?_; refine a_eql ?_; refine a_cndbF rfl ?_; refine a_eql ?_; refine a_cndbF rfl ?_; refine a_eql ?_; refine a_cndbF rfl ?_; (apply a_jnX; intro J hJ); refine a_eql ?_; refine a_cndbF rfl ?_; refine a_eql ?_; refine a_cndbT rfl ?_; exact hJ; dsimp only [aix0, aix1, aix2, aix3, aix4, aix5, aix6, aix7, aix8]; refine a_cndbT rfl ?_; (apply a_ldA 2; exact rfl; exact rfl); (apply a_ldA 1; exact rfl; exact rfl); refine a_call0 g ?_; refine a_bldV0 rfl rfl ?_; refine a_stA 0 rfl rfl rfl rfl ?_; (apply a_ldA 0; exact rfl; exact rfl))
          rw [hv v hr]
          rfl
        | error e =>
          rw [hr] at g
          (refine a_fld ?_; (apply a_ld1 1; exact rfl; exact rfl); refine a_eql ?_; refine a_cndbF rfl ?_; refine a_eql ?_; refine a_cndbF rfl ?_; refine a_eql ?_; refine a_cndbF rfl ?_; refine a_eql ?_; refine a_cndbF rfl ?_; (apply a_jnX; intro J hJ); refine a_eql ?_; refine a_cndbF rfl ?_; refine a_eql ?_; refine a_cndbT rfl ?_; exact hJ; dsimp only [aix0, aix1, aix2, aix3, aix4, aix5, aix6, aix7, aix8]; refine a_cndbT rfl ?_; (apply a_ldA 2; exact rfl; exact rfl); (apply a_ldA 1; exact rfl; exact rfl); refine a_callP g ?_)
          rfl
      · obtain rfl : (1 : Int) = s := hsort
        have g := c112 hw ht (by simp [Tm.op]) kid
        have hv : ∀ v, evV w (.mk 4 nm n a) = .ok v → v = vI v.n := fun v hv => by
          have ok := evV_ok hw ht hs hv
          have e1 := ok.sort
          have e2 := ok.len
          have e3 := ok.bol (by decide)
          cases v with | mk a b c d =>
          simp only at e1 e2 e3
          rw [if_neg (by decide)] at e2
          rw [e1, e3, List.eq_nil_of_length_eq_zero e2]
        cases hr : evV w (.mk 4 nm n a) with
        | ok v =>
          rw [hr] at g
          (refine a_fld ?_; (apply a_ld1 1; exact rfl; exact rfl); refine a_eql ?_; refine a_cndbF rfl ?_; refine a_eql ?_; refine a_cndbF rfl ?_; refine a_eql ?_; refine a_cndbF rfl ?_; refine a_eql ?_; refine a_cndbF rfl ?_; (apply a_jnX; intro J hJ); refine a_eql ?_; refine a_cndbF rfl ?_; refine a_eql ?_; refine a_cndbF rfl ?_; refine a_eql ?_; refine a_cndbT rfl ?_; exact hJ; dsimp only [aix0, aix1, aix2, aix3, aix4, aix5, aix6, aix7, aix8]; refine a_cndbT rfl ?_; (apply a_ldA 2; exact rfl; exact rfl); (apply a_ldA 1; exact rfl; exact rfl); refine a_call0 g ?_; refine a_bldV0 rfl rfl ?_; refine a_stA 0 rfl rfl rfl rfl ?_; (apply a_ldA 0; exact rfl; exact rfl))
          rw [hv v hr]
          rfl
        | error e =>
          rw [hr] at g
          (refine a_fld ?_; (apply a_ld1 1; exact rfl; exact rfl); refine a_eql ?_; refine a_cndbF rfl ?_; refine a_eql ?_; refine a_cndbF rfl ?_; refine a_eql ?_; refine a_cndbF rfl ?_; refine a_eql ?_; refine a_cndbF rfl ?_; (apply a_jnX; intro J hJ); refine a_eql ?_; refine a_cndbF rfl ?_; refine a_eql ?_; refine a_cndbF rfl ?_; refine a_eql ?_; refine a_cndbT rfl ?_; exact hJ; dsimp only [aix0, aix1, aix2, aix3, aix4, aix5, aix6, aix7, aix8]; refine a_cndbT rfl ?_; (apply a_ldA 2; exact rfl; exact rfl); (apply a_ldA 1; exact rfl; exact rfl); refine a_callP g ?_)
          rfl
      · obtain rfl : (1 : Int) = s := hsort
        have g := c112 hw ht (by simp [Tm.op]) kid
        have hv : ∀ v, evV w (.mk 5 nm n a) = .ok v → v = vI v.n := fun v hv => by
          have ok := evV_ok hw ht hs hv
          have e1 := ok.sort
          have e2 := ok.len
          have e3 := ok.bol (by decide)
          cases v with | mk a b c d =>
          simp only at e1 e2 e3
          rw [if_neg (by decide)] at e2
          rw [e1, e3, List.eq_nil_of_length_eq_zero e2]
        cases hr : evV w (.mk 5 nm n a) with
        | ok v =>
          rw [hr] at g
          (refine a_fld ?_; (apply a_ld1 1; exact rfl; exact rfl); refine a_eql ?_; refine a_cndbF rfl ?_; refine a_eql ?_; refine a_cndbF rfl ?_; refine a_eql ?_; refine a_cndbF rfl ?_; refine a_eql ?_; refine a_cndbF rfl ?_; (apply a_jnX; intro J hJ); refine a_eql ?_; refine a_cndbF rfl ?_; refine a_eql ?_; refine a_cndbF rfl ?_; refine a_eql ?_; refine a_cndbF rfl ?_; refine a_eql ?_; refine a_cndbT rfl ?_; exact hJ; dsimp only [aix0, aix1, aix2, aix3, aix4, aix5, aix6, aix7, aix8]; refine a_cndbT rfl ?_; (apply a_ldA 2; exact rfl; exact rfl); (apply a_ldA 1; exact rfl; exact rfl); refine a_call0 g ?_; refine a_bldV0 rfl rfl ?_; refine a_stA 0 rfl rfl rfl rfl ?_; (apply a_ldA 0; exact rfl; exact rfl))
          rw [hv v hr]
          rfl
        | error e =>
          rw [hr] at g
          (refine a_fld ?_; (apply a_ld1 1; exact rfl; exact rfl); refine a_eql ?_; refine a_cndbF rfl ?_; refine a_eql ?_; refine a_cndbF rfl ?_; refine a_eql ?_; refine a_cndbF rfl ?_; refine a_eql ?_; refine a_cndbF rfl ?_; (apply a_jnX; intro J hJ); refine a_eql ?_; refine a_cndbF rfl ?_; refine a_eql ?_; refine a_cndbF rfl ?_; refine a_eql ?_; refine a_cndbF rfl ?_; refine a_eql ?_; refine a_cndbT rfl ?_; exact hJ; dsimp only [aix0, aix1, aix2, aix3, aix4, aix5, aix6, aix7, aix8]; refine a_cndbT rfl ?_; (apply a_ldA 2; exact rfl; exact rfl); (apply a_ldA 1; exact rfl; exact rfl); refine a_callP g ?_)
          rfl
      · obtain rfl : (1 : Int) = s := hsort
        have g := c112 hw ht (by simp [Tm.op]) kid
        have hv : ∀ v, evV w (.mk 6 nm n a) = .ok v → v = vI v.n := fun v hv => by
          have ok := evV_ok hw ht hs hv
          have e1 := ok.sort
          have e2 := ok.len
          have e3 := ok.bol (by decide)
          cases v with | mk a b c d =>
          simp only at e1 e2 e3
          rw [if_neg (by decide)] at e2
          rw [e1, e3, List.eq_nil_of_length_eq_zero e2]
        cases hr : evV w (.mk 6 nm n a) with
        | ok v =>
          rw [hr] at g
          (refine a_fld ?_; (apply a_ld1 1; exact rfl; exact rfl); refine a_eql ?_; refine a_cndbF rfl ?_; refine a_eql ?_; refine a_cndbF rfl ?_; refine a_eql ?_; refine a_cndbF rfl ?_; refine a_eql ?_; refine a_cndbF rfl ?_; (apply a_jnX; intro J hJ); refine a_eql ?_; refine a_cndbF rfl ?_; refine a_eql ?_; refine a_cndbF rfl ?_; refine a_eql ?_; refine a_cndbF rfl ?_; refine a_eql ?_; refine a_cndbF rfl ?_; refine a_eql ?_; exact hJ; dsimp only [aix0, aix1, aix2, aix3, aix4, aix5, aix6, aix7, aix8]; refine a_cndbT rfl ?_; (apply a_ldA 2; exact rfl; exact rfl); (apply a_ldA 1; exact rfl; exact rfl); refine a_call0 g ?_; refine a_bldV0 rfl rfl ?_; refine a_stA 0 rfl rfl rfl rfl ?_; (apply a_ldA 0; exact rfl; exact rfl))
          rw [hv v hr]
          rfl
        | error e =>
          rw [hr] at g
          (refine a_fld ?_; (apply a_ld1 1; exact rfl; exact rfl); refine a_eql ?_; refine a_cndbF rfl ?_; refine a_eql ?_; refine a_cndbF rfl ?_; refine a_eql ?_; refine a_cndbF rfl ?_; refine a_eql ?_; refine a_cndbF rfl ?_; (apply a_jnX; intro J hJ); refine a_eql ?_; refine a_cndbF rfl ?_; refine a_eql ?_; refine a_cndbF rfl ?_; refine a_eql ?_; refine a_cndbF rfl ?_; refine a_eql ?_; refine a_cndbF rfl ?_; refine a_eql ?_; exact hJ; dsimp only [aix0, aix1, aix2, aix3, aix4, aix5, aix6, aix7, aix8]; refine a_cndbT rfl ?_; (apply a_ldA 2; exact rfl; exact rfl); (apply a_ldA 1; exact rfl; exact rfl); refine a_callP g ?_)
          rfl
      · obtain rfl := right0 ht rfl rfl
        have g := c111 w (.mk 7 nm n []) 2 hw
        rw [evV_eq, evL0]
        simp only [Tm.nm] at g
        show _
        cases hr : nameV w nm 2 with
        | ok v =>
          rw [hr] at g
          (refine a_fld ?_; (apply a_ld1 1; exact rfl; exact rfl); refine a_eql ?_; refine a_cndbF rfl ?_; refine a_eql ?_; refine a_cndbT rfl ?_; (apply a_ldA 2; exact rfl; exact rfl); (apply a_ldA 1; exact rfl; exact rfl); refine a_call0 g ?_; refine a_stA 0 rfl rfl rfl rfl ?_; (apply a_ldA 0; exact rfl; exact rfl))
          simp only [opV, show Int.toNat 7 = 7 from rfl, hr]
          rfl
        | error e =>
          rw [hr] at g
          (refine a_fld ?_; (apply a_ld1 1; exact rfl; exact rfl); refine a_eql ?_; refine a_cndbF rfl ?_; refine a_eql ?_; refine a_cndbT rfl ?_; (apply a_ldA 2; exact rfl; exact rfl); (apply a_ldA 1; exact rfl; exact rfl); refine a_callP g ?_)
          simp only [opV, show Int.toNat 7 = 7 from rfl, hr]
          rfl
      · obtain rfl := right0 ht rfl rfl
        have g := c113 (caps := []) (Lc := []) w h1 h64 (fun i _ => c114 i)
        rw [evV_eq, evL0]
        (refine a_fld ?_; (apply a_ld1 1; exact rfl; exact rfl); refine a_eql ?_; refine a_cndbF rfl ?_; refine a_eql ?_; refine a_cndbF rfl ?_; refine a_eql ?_; refine a_cndbF rfl ?_; refine a_eql ?_; refine a_cndbF rfl ?_; (apply a_jnX; intro J hJ); refine a_eql ?_; refine a_cndbF rfl ?_; refine a_eql ?_; refine a_cndbF rfl ?_; refine a_eql ?_; refine a_cndbF rfl ?_; refine a_eql ?_; refine a_cndbF rfl ?_; refine a_eql ?_; exact hJ; dsimp only [aix0, aix1, aix2, aix3, aix4, aix5, aix6, aix7, aix8]; refine a_cndbF rfl ?_; refine a_eql ?_; refine a_cndbT rfl ?_; (apply a_ldA 2; exact rfl; exact rfl); refine a_call0 g ?_; refine a_stA 0 rfl rfl rfl rfl ?_; (apply a_ldA 0; exact rfl; exact rfl))
        rfl
      · obtain rfl := right0 ht rfl rfl
        have g := c113 (caps := []) (Lc := []) w h1 h64 (fun i _ => c115 i)
        rw [evV_eq, evL0]
        (refine a_fld ?_; (apply a_ld1 1; exact rfl; exact rfl); refine a_eql ?_; refine a_cndbF rfl ?_; refine a_eql ?_; refine a_cndbF rfl ?_; refine a_eql ?_; refine a_cndbF rfl ?_; refine a_eql ?_; refine a_cndbF rfl ?_; (apply a_jnX; intro J hJ); refine a_eql ?_; refine a_cndbF rfl ?_; refine a_eql ?_; refine a_cndbF rfl ?_; refine a_eql ?_; refine a_cndbF rfl ?_; refine a_eql ?_; refine a_cndbF rfl ?_; refine a_eql ?_; exact hJ; dsimp only [aix0, aix1, aix2, aix3, aix4, aix5, aix6, aix7, aix8]; refine a_cndbF rfl ?_; refine a_eql ?_; refine a_cndbF rfl ?_; refine a_eql ?_; refine a_cndbT rfl ?_; (apply a_ldA 2; exact rfl; exact rfl); refine a_call0 g ?_; refine a_stA 0 rfl rfl rfl rfl ?_; (apply a_ldA 0; exact rfl; exact rfl))
        rfl
      · obtain ⟨x, rfl, hx⟩ := right1 ht rfl rfl
        have g := c116 (kid x (by simp))
        rw [evV_eq, evL1]
        cases hv : evV w x with
        | ok v =>
          rw [hv] at g
          have gw : ∀ b, AFn pr 113 [w.d, .fn 117 [] [.p b 0]] [⟨b, [.i v.n], .box⟩] (.ret (whereF w fun i => decide ((i : Int) = v.n)).d) := fun b => c113 (caps := [.p b 0]) w h1 h64 (fun i _ => c117 i v.n)
          (refine a_fld ?_; (apply a_ld1 1; exact rfl; exact rfl); refine a_eql ?_; refine a_cndbF rfl ?_; refine a_eql ?_; refine a_cndbF rfl ?_; refine a_eql ?_; refine a_cndbF rfl ?_; refine a_eql ?_; refine a_cndbF rfl ?_; (apply a_jnX; intro J hJ); refine a_eql ?_; refine a_cndbF rfl ?_; refine a_eql ?_; refine a_cndbF rfl ?_; refine a_eql ?_; refine a_cndbF rfl ?_; refine a_eql ?_; refine a_cndbF rfl ?_; refine a_eql ?_; exact hJ; dsimp only [aix0, aix1, aix2, aix3, aix4, aix5, aix6, aix7, aix8]; refine a_cndbF rfl ?_; refine a_eql ?_; refine a_cndbF rfl ?_; refine a_eql ?_; refine a_cndbF rfl ?_; refine a_eql ?_; refine a_cndbT rfl ?_; (apply a_ldA 2; exact rfl; exact rfl); refine a_fld ?_; (apply a_ld1 1; exact rfl; exact rfl); refine a_idxT0 ?_; (apply a_ldAp; exact rfl); refine a_callS0 g ?_; refine a_bx fun z4 => ?_; (apply a_st 0 _; exact rfl; exact rfl; exact rfl; exact rfl; (try dsimp only [afill, aparts, cl, chunk, List.take, List.drop, List.nil_append, List.cons_append, List.append_nil, List.length_cons, List.length_nil, Nat.zero_add, Nat.reduceAdd, Nat.reduceMul]); try exact rfl); (apply a_ldA 3; exact rfl; exact rfl); refine a_callR (AFn.frameL (Lc := [⟨_, [.i v.n], .box⟩]) _ (gw _)) ?_; refine a_stA 1 rfl rfl rfl rfl ?_; (apply a_ldA 1; exact rfl; exact rfl))
          rfl
        | error e =>
          rw [hv] at g
          (refine a_fld ?_; (apply a_ld1 1; exact rfl; exact rfl); refine a_eql ?_; refine a_cndbF rfl ?_; refine a_eql ?_; refine a_cndbF rfl ?_; refine a_eql ?_; refine a_cndbF rfl ?_; refine a_eql ?_; refine a_cndbF rfl ?_; (apply a_jnX; intro J hJ); refine a_eql ?_; refine a_cndbF rfl ?_; refine a_eql ?_; refine a_cndbF rfl ?_; refine a_eql ?_; refine a_cndbF rfl ?_; refine a_eql ?_; refine a_cndbF rfl ?_; refine a_eql ?_; exact hJ; dsimp only [aix0, aix1, aix2, aix3, aix4, aix5, aix6, aix7, aix8]; refine a_cndbF rfl ?_; refine a_eql ?_; refine a_cndbF rfl ?_; refine a_eql ?_; refine a_cndbF rfl ?_; refine a_eql ?_; refine a_cndbT rfl ?_; (apply a_ldA 2; exact rfl; exact rfl); refine a_fld ?_; (apply a_ld1 1; exact rfl; exact rfl); refine a_idxT0 ?_; (apply a_ldAp; exact rfl); refine a_callSP g ?_)
          rfl
      · obtain ⟨x, y, rfl, hx, hy⟩ := right2 ht rfl rfl
        have g := c118 (op := 11) (nm := nm) (n := n) (kid x (by simp)) (kid y (by simp))
        rw [evV_eq, evL2]
        cases hv : evV w x with
        | error e =>
          rw [hv] at g
          (refine a_fld ?_; (apply a_ld1 1; exact rfl; exact rfl); refine a_eql ?_; refine a_cndbF rfl ?_; refine a_eql ?_; refine a_cndbF rfl ?_; refine a_eql ?_; refine a_cndbF rfl ?_; refine a_eql ?_; refine a_cndbF rfl ?_; (apply a_jnX; intro J hJ); refine a_eql ?_; refine a_cndbF rfl ?_; refine a_eql ?_; refine a_cndbF rfl ?_; refine a_eql ?_; refine a_cndbF rfl ?_; refine a_eql ?_; refine a_cndbF rfl ?_; refine a_eql ?_; exact hJ; dsimp only [aix0, aix1, aix2, aix3, aix4, aix5, aix6, aix7, aix8]; refine a_cndbF rfl ?_; refine a_eql ?_; refine a_cndbF rfl ?_; refine a_eql ?_; refine a_cndbF rfl ?_; refine a_eql ?_; refine a_cndbF rfl ?_; refine a_eql ?_; refine a_cndbT rfl ?_; (apply a_ldA 2; exact rfl; exact rfl); (apply a_ldA 1; exact rfl; exact rfl); refine a_callP g ?_)
          rfl
        | ok v =>
          rw [hv] at g
          cases hu : evV w y with
          | error e =>
            rw [hu] at g
            (refine a_fld ?_; (apply a_ld1 1; exact rfl; exact rfl); refine a_eql ?_; refine a_cndbF rfl ?_; refine a_eql ?_; refine a_cndbF rfl ?_; refine a_eql ?_; refine a_cndbF rfl ?_; refine a_eql ?_; refine a_cndbF rfl ?_; (apply a_jnX; intro J hJ); refine a_eql ?_; refine a_cndbF rfl ?_; refine a_eql ?_; refine a_cndbF rfl ?_; refine a_eql ?_; refine a_cndbF rfl ?_; refine a_eql ?_; refine a_cndbF rfl ?_; refine a_eql ?_; exact hJ; dsimp only [aix0, aix1, aix2, aix3, aix4, aix5, aix6, aix7, aix8]; refine a_cndbF rfl ?_; refine a_eql ?_; refine a_cndbF rfl ?_; refine a_eql ?_; refine a_cndbF rfl ?_; refine a_eql ?_; refine a_cndbF rfl ?_; refine a_eql ?_; refine a_cndbT rfl ?_; (apply a_ldA 2; exact rfl; exact rfl); (apply a_ldA 1; exact rfl; exact rfl); refine a_callP g ?_)
            rfl
          | ok u =>
            rw [hu] at g
            have ok1 := (evV_ok hw hx (by decide) hv).len
            have ok2 := (evV_ok hw hy (by decide) hu).len
            rw [if_pos rfl] at ok1 ok2
            have gw : ∀ b b', AFn pr 113 [w.d, .fn 119 [] [.p b 0, .p b' 0]] [⟨b', [.row 1 (u.s.map bc)], .box⟩, ⟨b, [.row 1 (v.s.map bc)], .box⟩] (.ret (whereF w fun i => v.s.getD i false || u.s.getD i false).d) := fun b b' => c113 (caps := [.p b 0, .p b' 0]) w h1 h64 (fun i hi => c119 i v.s u.s (by omega) (by omega))
            (refine a_fld ?_; (apply a_ld1 1; exact rfl; exact rfl); refine a_eql ?_; refine a_cndbF rfl ?_; refine a_eql ?_; refine a_cndbF rfl ?_; refine a_eql ?_; refine a_cndbF rfl ?_; refine a_eql ?_; refine a_cndbF rfl ?_; (apply a_jnX; intro J hJ); refine a_eql ?_; refine a_cndbF rfl ?_; refine a_eql ?_; refine a_cndbF rfl ?_; refine a_eql ?_; refine a_cndbF rfl ?_; refine a_eql ?_; refine a_cndbF rfl ?_; refine a_eql ?_; exact hJ; dsimp only [aix0, aix1, aix2, aix3, aix4, aix5, aix6, aix7, aix8]; refine a_cndbF rfl ?_; refine a_eql ?_; refine a_cndbF rfl ?_; refine a_eql ?_; refine a_cndbF rfl ?_; refine a_eql ?_; refine a_cndbF rfl ?_; refine a_eql ?_; refine a_cndbT rfl ?_; (apply a_ldA 2; exact rfl; exact rfl); (apply a_ldA 1; exact rfl; exact rfl); refine a_call0 g ?_; (apply a_ext; exact rfl); (apply a_ext; exact rfl); refine a_bx fun z4 => ?_; refine a_bx fun z5 => ?_; (apply a_st 1 _; exact rfl; exact rfl; exact rfl; exact rfl; (try dsimp only [afill, aparts, cl, chunk, List.take, List.drop, List.nil_append, List.cons_append, List.append_nil, List.length_cons, List.length_nil, Nat.zero_add, Nat.reduceAdd, Nat.reduceMul]); try exact rfl); (apply a_st 0 _; exact rfl; exact rfl; exact rfl; exact rfl; (try dsimp only [afill, aparts, cl, chunk, List.take, List.drop, List.nil_append, List.cons_append, List.append_nil, List.length_cons, List.length_nil, Nat.zero_add, Nat.reduceAdd, Nat.reduceMul]); try exact rfl); (apply a_ldA 4; exact rfl; exact rfl); refine a_callR (AFn.frameL (Lc := [⟨_, [.row 1 (u.s.map bc)], .box⟩, ⟨_, [.row 1 (v.s.map bc)], .box⟩]) _ (gw _ _)) ?_; refine a_stA 2 rfl rfl rfl rfl ?_; (apply a_ldA 2; exact rfl; exact rfl))
            rfl
      · obtain ⟨x, y, rfl, hx, hy⟩ := right2 ht rfl rfl
        have g := c118 (op := 12) (nm := nm) (n := n) (kid x (by simp)) (kid y (by simp))
        rw [evV_eq, evL2]
        cases hv : evV w x with
        | error e =>
          rw [hv] at g
          (refine a_fld ?_; (apply a_ld1 1; exact rfl; exact rfl); refine a_eql ?_; refine a_cndbF rfl ?_; refine a_eql ?_; refine a_cndbF rfl ?_; refine a_eql ?_; refine a_cndbF rfl ?_; refine a_eql ?_; refine a_cndbF rfl ?_; (apply a_jnX; intro J hJ); refine a_eql ?_; refine a_cndbF rfl ?_; refine a_eql ?_; refine a_cndbF rfl ?_; refine a_eql ?_; refine a_cndbF rfl ?_; refine a_eql ?_; refine a_cndbF rfl ?_; refine a_eql ?_; exact hJ; dsimp only [aix0, aix1, aix2, aix3, aix4, aix5, aix6, aix7, aix8]; refine a_cndbF rfl ?_; refine a_eql ?_; refine a_cndbF rfl ?_; refine a_eql ?_; refine a_cndbF rfl ?_; refine a_eql ?_; refine a_cndbF rfl ?_; refine a_eql ?_; refine a_cndbF rfl ?_; refine a_eql ?_; refine a_cndbT rfl ?_; (apply a_ldA 2; exact rfl; exact rfl); (apply a_ldA 1; exact rfl; exact rfl); refine a_callP g ?_)
          rfl
        | ok v =>
          rw [hv] at g
          cases hu : evV w y with
          | error e =>
            rw [hu] at g
            (refine a_fld ?_; (apply a_ld1 1; exact rfl; exact rfl); refine a_eql ?_; refine a_cndbF rfl ?_; refine a_eql ?_; refine a_cndbF rfl ?_; refine a_eql ?_; refine a_cndbF rfl ?_; refine a_eql ?_; refine a_cndbF rfl ?_; (apply a_jnX; intro J hJ); refine a_eql ?_; refine a_cndbF rfl ?_; refine a_eql ?_; refine a_cndbF rfl ?_; refine a_eql ?_; refine a_cndbF rfl ?_; refine a_eql ?_; refine a_cndbF rfl ?_; refine a_eql ?_; exact hJ; dsimp only [aix0, aix1, aix2, aix3, aix4, aix5, aix6, aix7, aix8]; refine a_cndbF rfl ?_; refine a_eql ?_; refine a_cndbF rfl ?_; refine a_eql ?_; refine a_cndbF rfl ?_; refine a_eql ?_; refine a_cndbF rfl ?_; refine a_eql ?_; refine a_cndbF rfl ?_; refine a_eql ?_; refine a_cndbT rfl ?_; (apply a_ldA 2; exact rfl; exact rfl); (apply a_ldA 1; exact rfl; exact rfl); refine a_callP g ?_)
            rfl
          | ok u =>
            rw [hu] at g
            have ok1 := (evV_ok hw hx (by decide) hv).len
            have ok2 := (evV_ok hw hy (by decide) hu).len
            rw [if_pos rfl] at ok1 ok2
            have gw : ∀ b b', AFn pr 113 [w.d, .fn 120 [] [.p b 0, .p b' 0]] [⟨b', [.row 1 (u.s.map bc)], .box⟩, ⟨b, [.row 1 (v.s.map bc)], .box⟩] (.ret (whereF w fun i => v.s.getD i false && u.s.getD i false).d) := fun b b' => c113 (caps := [.p b 0, .p b' 0]) w h1 h64 (fun i hi => c120 i v.s u.s (by omega) (by omega))
            (refine a_fld ?_; (apply a_ld1 1; exact rfl; exact rfl); refine a_eql ?_; refine a_cndbF rfl ?_; refine a_eql ?_; refine a_cndbF rfl ?_; refine a_eql ?_; refine a_cndbF rfl ?_; refine a_eql ?_; refine a_cndbF rfl ?_; (apply a_jnX; intro J hJ); refine a_eql ?_; refine a_cndbF rfl ?_; refine a_eql ?_; refine a_cndbF rfl ?_; refine a_eql ?_; refine a_cndbF rfl ?_; refine a_eql ?_; refine a_cndbF rfl ?_; refine a_eql ?_; exact hJ; dsimp only [aix0, aix1, aix2, aix3, aix4, aix5, aix6, aix7, aix8]; refine a_cndbF rfl ?_; refine a_eql ?_; refine a_cndbF rfl ?_; refine a_eql ?_; refine a_cndbF rfl ?_; refine a_eql ?_; refine a_cndbF rfl ?_; refine a_eql ?_; refine a_cndbF rfl ?_; refine a_eql ?_; refine a_cndbT rfl ?_; (apply a_ldA 2; exact rfl; exact rfl); (apply a_ldA 1; exact rfl; exact rfl); refine a_call0 g ?_; (apply a_ext; exact rfl); (apply a_ext; exact rfl); refine a_bx fun z4 => ?_; refine a_bx fun z5 => ?_; (apply a_st 1 _; exact rfl; exact rfl; exact rfl; exact rfl; (try dsimp only [afill, aparts, cl, chunk, List.take, List.drop, List.nil_append, List.cons_append, List.append_nil, List.length_cons, List.length_nil, Nat.zero_add, Nat.reduceAdd, Nat.reduceMul]); try exact rfl); (apply a_st 0 _; exact rfl; exact rfl; exact rfl; exact rfl; (try dsimp only [afill, aparts, cl, chunk, List.take, List.drop, List.nil_append, List.cons_append, List.append_nil, List.length_cons, List.length_nil, Nat.zero_add, Nat.reduceAdd, Nat.reduceMul]); try exact rfl); (apply a_ldA 4; exact rfl; exact rfl); refine a_callR (AFn.frameL (Lc := [⟨_, [.row 1 (u.s.map bc)], .box⟩, ⟨_, [.row 1 (v.s.map bc)], .box⟩]) _ (gw _ _)) ?_; refine a_stA 2 rfl rfl rfl rfl ?_; (apply a_ldA 2; exact rfl; exact rfl))
            rfl
      · obtain ⟨x, y, rfl, hx, hy⟩ := right2 ht rfl rfl
        have g := c118 (op := 13) (nm := nm) (n := n) (kid x (by simp)) (kid y (by simp))
        rw [evV_eq, evL2]
        cases hv : evV w x with
        | error e =>
          rw [hv] at g
          (refine a_fld ?_; (apply a_ld1 1; exact rfl; exact rfl); refine a_eql ?_; refine a_cndbF rfl ?_; refine a_eql ?_; refine a_cndbF rfl ?_; refine a_eql ?_; refine a_cndbF rfl ?_; refine a_eql ?_; refine a_cndbF rfl ?_; (apply a_jnX; intro J hJ); refine a_eql ?_; refine a_cndbF rfl ?_; refine a_eql ?_; refine a_cndbF rfl ?_; refine a_eql ?_; refine a_cndbF rfl ?_; refine a_eql ?_; refine a_cndbF rfl ?_; refine a_eql ?_; exact hJ; dsimp only [aix0, aix1, aix2, aix3, aix4, aix5, aix6, aix7, aix8]; refine a_cndbF rfl ?_; refine a_eql ?_; refine a_cndbF rfl ?_; refine a_eql ?_; refine a_cndbF rfl ?_; refine a_eql ?_; refine a_cndbF rfl ?_; refine a_eql ?_; refine a_cndbF rfl ?_; refine a_eql ?_; refine a_cndbF rfl ?_; refine a_eql ?_; refine a_cndbT rfl ?_; (apply a_ldA 2; exact rfl; exact rfl); (apply a_ldA 1; exact rfl; exact rfl); refine a_callP g ?_)
          rfl
        | ok v =>
          rw [hv] at g
          cases hu : evV w y with
          | error e =>
            rw [hu] at g
            (refine a_fld ?_; (apply a_ld1 1; exact rfl; exact rfl); refine a_eql ?_; refine a_cndbF rfl ?_; refine a_eql ?_; refine a_cndbF rfl ?_; refine a_eql ?_; refine a_cndbF rfl ?_; refine a_eql ?_; refine a_cndbF rfl ?_; (apply a_jnX; intro J hJ); refine a_eql ?_; refine a_cndbF rfl ?_; refine a_eql ?_; refine a_cndbF rfl ?_; refine a_eql ?_; refine a_cndbF rfl ?_; refine a_eql ?_; refine a_cndbF rfl ?_; refine a_eql ?_; exact hJ; dsimp only [aix0, aix1, aix2, aix3, aix4, aix5, aix6, aix7, aix8]; refine a_cndbF rfl ?_; refine a_eql ?_; refine a_cndbF rfl ?_; refine a_eql ?_; refine a_cndbF rfl ?_; refine a_eql ?_; refine a_cndbF rfl ?_; refine a_eql ?_; refine a_cndbF rfl ?_; refine a_eql ?_; refine a_cndbF rfl ?_; refine a_eql ?_; refine a_cndbT rfl ?_; (apply a_ldA 2; exact rfl; exact rfl); (apply a_ldA 1; exact rfl; exact rfl); refine a_callP g ?_)
            rfl
          | ok u =>
            rw [hu] at g
            have ok1 := (evV_ok hw hx (by decide) hv).len
            have ok2 := (evV_ok hw hy (by decide) hu).len
            rw [if_pos rfl] at ok1 ok2
            have gw : ∀ b b', AFn pr 113 [w.d, .fn 121 [] [.p b 0, .p b' 0]] [⟨b', [.row 1 (u.s.map bc)], .box⟩, ⟨b, [.row 1 (v.s.map bc)], .box⟩] (.ret (whereF w fun i => v.s.getD i false && !u.s.getD i false).d) := fun b b' => c113 (caps := [.p b 0, .p b' 0]) w h1 h64 (fun i hi => c121 i v.s u.s (by omega) (by omega))
            (refine a_fld ?_; (apply a_ld1 1; exact rfl; exact rfl); refine a_eql ?_; refine a_cndbF rfl ?_; refine a_eql ?_; refine a_cndbF rfl ?_; refine a_eql ?_; refine a_cndbF rfl ?_; refine a_eql ?_; refine a_cndbF rfl ?_; (apply a_jnX; intro J hJ); refine a_eql ?_; refine a_cndbF rfl ?_; refine a_eql ?_; refine a_cndbF rfl ?_; refine a_eql ?_; refine a_cndbF rfl ?_; refine a_eql ?_; refine a_cndbF rfl ?_; refine a_eql ?_; exact hJ; dsimp only [aix0, aix1, aix2, aix3, aix4, aix5, aix6, aix7, aix8]; refine a_cndbF rfl ?_; refine a_eql ?_; refine a_cndbF rfl ?_; refine a_eql ?_; refine a_cndbF rfl ?_; refine a_eql ?_; refine a_cndbF rfl ?_; refine a_eql ?_; refine a_cndbF rfl ?_; refine a_eql ?_; refine a_cndbF rfl ?_; refine a_eql ?_; refine a_cndbT rfl ?_; (apply a_ldA 2; exact rfl; exact rfl); (apply a_ldA 1; exact rfl; exact rfl); refine a_call0 g ?_; (apply a_ext; exact rfl); (apply a_ext; exact rfl); refine a_bx fun z4 => ?_; refine a_bx fun z5 => ?_; (apply a_st 1 _; exact rfl; exact rfl; exact rfl; exact rfl; (try dsimp only [afill, aparts, cl, chunk, List.take, List.drop, List.nil_append, List.cons_append, List.append_nil, List.length_cons, List.length_nil, Nat.zero_add, Nat.reduceAdd, Nat.reduceMul]); try exact rfl); (apply a_st 0 _; exact rfl; exact rfl; exact rfl; exact rfl; (try dsimp only [afill, aparts, cl, chunk, List.take, List.drop, List.nil_append, List.cons_append, List.append_nil, List.length_cons, List.length_nil, Nat.zero_add, Nat.reduceAdd, Nat.reduceMul]); try exact rfl); (apply a_ldA 4; exact rfl; exact rfl); refine a_callR (AFn.frameL (Lc := [⟨_, [.row 1 (u.s.map bc)], .box⟩, ⟨_, [.row 1 (v.s.map bc)], .box⟩]) _ (gw _ _)) ?_; refine a_stA 2 rfl rfl rfl rfl ?_; (apply a_ldA 2; exact rfl; exact rfl))
            rfl
      · obtain rfl := right0 ht rfl rfl
        have g := c111 w (.mk 14 nm n []) 3 hw
        rw [evV_eq, evL0]
        simp only [Tm.nm] at g
        show _
        cases hr : nameV w nm 3 with
        | ok v =>
          rw [hr] at g
          (refine a_fld ?_; (apply a_ld1 1; exact rfl; exact rfl); refine a_eql ?_; refine a_cndbF rfl ?_; refine a_eql ?_; refine a_cndbF rfl ?_; refine a_eql ?_; refine a_cndbT rfl ?_; (apply a_ldA 2; exact rfl; exact rfl); (apply a_ldA 1; exact rfl; exact rfl); refine a_call0 g ?_; refine a_stA 0 rfl rfl rfl rfl ?_; (apply a_ldA 0; exact rfl; exact rfl))
          simp only [opV, show Int.toNat 14 = 14 from rfl, hr]
          rfl
        | error e =>
          rw [hr] at g
          (refine a_fld ?_; (apply a_ld1 1; exact rfl; exact rfl); refine a_eql ?_; refine a_cndbF rfl ?_; refine a_eql ?_; refine a_cndbF rfl ?_; refine a_eql ?_; refine a_cndbT rfl ?_; (apply a_ldA 2; exact rfl; exact rfl); (apply a_ldA 1; exact rfl; exact rfl); refine a_callP g ?_)
          simp only [opV, show Int.toNat 14 = 14 from rfl, hr]
          rfl
      · obtain rfl := right0 ht rfl rfl
        have g := c111 w (.mk 15 nm n []) 4 hw
        rw [evV_eq, evL0]
        simp only [Tm.nm] at g
        show _
        cases hr : nameV w nm 4 with
        | ok v =>
          rw [hr] at g
          (refine a_fld ?_; (apply a_ld1 1; exact rfl; exact rfl); refine a_eql ?_; refine a_cndbF rfl ?_; refine a_eql ?_; refine a_cndbF rfl ?_; refine a_eql ?_; refine a_cndbF rfl ?_; refine a_eql ?_; refine a_cndbT rfl ?_; (apply a_ldA 2; exact rfl; exact rfl); (apply a_ldA 1; exact rfl; exact rfl); refine a_call0 g ?_; refine a_stA 0 rfl rfl rfl rfl ?_; (apply a_ldA 0; exact rfl; exact rfl))
          simp only [opV, show Int.toNat 15 = 15 from rfl, hr]
          rfl
        | error e =>
          rw [hr] at g
          (refine a_fld ?_; (apply a_ld1 1; exact rfl; exact rfl); refine a_eql ?_; refine a_cndbF rfl ?_; refine a_eql ?_; refine a_cndbF rfl ?_; refine a_eql ?_; refine a_cndbF rfl ?_; refine a_eql ?_; refine a_cndbT rfl ?_; (apply a_ldA 2; exact rfl; exact rfl); (apply a_ldA 1; exact rfl; exact rfl); refine a_callP g ?_)
          simp only [opV, show Int.toNat 15 = 15 from rfl, hr]
          rfl
end Go.Proofs.YtdalobojhfafbaaGreatDoor
set_option maxRecDepth 100000
set_option linter.unusedVariables false
namespace Go.V
def evalF (t : Tm) (w : Wd) : Vl × Int :=
  if (sortF t).2 ≠ 0 then (vz, (sortF t).2) else if rightW w = false then (vz, 1) else match evV w t with | .ok v => (v, 0) | .error e => (vz, e)
theorem sort_pos {op : Int} (h1 : 1 ≤ op) (h2 : op ≤ 28) : (shpAt op).sort ≠ 0 := by
  have : ∀ k : Fin 29, 1 ≤ k.1 → (shpAt (k.1 : Int)).sort ≠ 0 := by decide
  have h := this ⟨op.toNat, by omega⟩ (by simp only; omega)
  simp only [Int.toNat_of_nonneg (show 0 ≤ op by omega)] at h
  exact h
theorem right_self {t : Tm} (h : rightT t 0 = true) : rightT t (shpAt t.op).sort = true ∧ (shpAt t.op).sort ≠ 0 := by
  have := (right_iff t 0).1 h
  exact ⟨right_of h rfl, sort_pos this.op1 this.op2⟩
end Go.V
namespace Go.Proofs.YtdalobojhfafbaaGreatDoor
open Go Go.V
theorem c70n {b b' : Nat} {L : List Bx} : ADef pr 70 [.p b 0, .p b' 0] none L (fun m' L' => m' = none ∧ L' = L) := by
  refine s70 ?_
  unfold A70
  exact ⟨rfl, rfl⟩
theorem c70p {b b' : Nat} {x0 x1 x2 x3 y : D} {e : Int} {M : List Bx} : ADef pr 70 [.p b 0, .p b' 0] (some (.ifc 129 (.i e))) (⟨b', [y], .box⟩ :: ⟨b, [x0, x1, x2, x3], .box⟩ :: M)
    (fun m' L' => m' = none ∧ L' = ⟨b', [.i e], .box⟩ :: ⟨b, vz.cs, .box⟩ :: M) := by
  refine s70 ?_
  unfold A70
  refine a_neIh ?_
  (refine a_cndbT rfl ?_; refine a_tasT ?_; (apply a_ext; exact rfl); (apply a_ext; exact rfl); refine a_not ?_; refine a_cndbF rfl ?_; refine a_bldV0 rfl rfl ?_; refine a_stA 1 rfl rfl rfl rfl ?_; refine a_stA 0 rfl rfl rfl rfl ?_)
  exact ⟨rfl, rfl⟩
theorem c31 (t : Tm) (w : Wd) : AFn pr 31 [t.d, w.d] [] (.ret (.tuple [(evalF t w).1.d, .i (evalF t w).2])) := by
  refine AFn.small fun hs => AFn.of (s31 ?_)
  unfold A31
  refine a_bxv fun z1 => ?_
  refine a_bxv fun z2 => ?_
  refine a_bx fun z3 => ?_
  refine a_bx fun z4 => ?_
  have hc := c69 t
  unfold evalF
  ((apply a_ldA 3; exact rfl; exact rfl); refine a_call0 (c69 _) ?_; (apply a_ext; exact rfl); (apply a_ext; exact rfl); refine a_neq ?_)
  refine a_cnd (fun h1 => ?_) (fun h1 => ?_)
  · rw [if_pos h1]
    (refine a_bldV0 rfl rfl ?_; refine a_stA 1 rfl rfl rfl rfl ?_; (apply a_st 0 _; exact rfl; exact rfl; exact rfl; exact rfl; (try dsimp only [afill, aparts, cl, chunk, List.take, List.drop, List.nil_append, List.cons_append, List.append_nil, List.length_cons, List.length_nil, Nat.zero_add, Nat.reduceAdd, Nat.reduceMul]); try exact rfl); (apply a_ldA 1; exact rfl; exact rfl); (apply a_ld1 0; exact rfl; exact rfl))
    rfl
  rw [if_neg h1]
  ((apply a_ldA 2; exact rfl; exact rfl); refine a_call0 (c23 _) ?_; refine a_not ?_)
  have hso := Classical.not_not.1 h1
  cases hw : rightW w with
  | false =>
    (refine a_cndbT rfl ?_; refine a_bldV0 rfl rfl ?_; refine a_stA 1 rfl rfl rfl rfl ?_; (apply a_st 0 _; exact rfl; exact rfl; exact rfl; exact rfl; (try dsimp only [afill, aparts, cl, chunk, List.take, List.drop, List.nil_append, List.cons_append, List.append_nil, List.length_cons, List.length_nil, Nat.zero_add, Nat.reduceAdd, Nat.reduceMul]); try exact rfl); (apply a_ldA 1; exact rfl; exact rfl); (apply a_ld1 0; exact rfl; exact rfl))
    rfl
  | true =>
    obtain ⟨_, _, hr, _⟩ := sortF_ok hso
    obtain ⟨r1, r2⟩ := right_self hr
    have g := c71 hw t r2 r1
    rw [if_neg (by simp)]
    (refine a_cndbF rfl ?_; (apply a_ldA 2; exact rfl; exact rfl); refine a_bldWd rfl rfl ?_; (apply a_ldA 3; exact rfl; exact rfl))
    cases hv : evV w t with
    | ok v =>
      rw [hv] at g
      refine a_call0 g ?_
      (refine a_stA 1 rfl rfl rfl rfl ?_; refine a_stA 0 rfl rfl rfl rfl ?_)
      refine ADef.mono c70n ?_
      rintro m' L' ⟨rfl, rfl⟩
      (refine a_end ?_; (apply a_ldA 1; exact rfl; exact rfl); (apply a_ld1 0; exact rfl; exact rfl))
      rfl
    | error e =>
      rw [hv] at g
      refine a_callP g ?_
      refine ADef.mono c70p ?_
      rintro m' L' ⟨rfl, rfl⟩
      (refine a_end ?_; (apply a_ldA 1; exact rfl; exact rfl); (apply a_ld1 0; exact rfl; exact rfl))
      rfl
end Go.Proofs.YtdalobojhfafbaaGreatDoor
