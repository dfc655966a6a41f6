/- Contracts of layer 18: SimFirst. -/
import Derived.Test.YtdalobojhfafbaaGreatDoorC78
import Derived.Test.YtdalobojhfafbaaGreatDoorM33
set_option maxRecDepth 100000
set_option linter.unusedVariables false
namespace Go.V
open Go
theorem i64_wrapS (n : Int) : IntKind.i64.wrap n = (n + 9223372036854775808) % 18446744073709551616 - 9223372036854775808 := by
  simp [IntKind.wrap, IntKind.bits, IntKind.signed]
  split <;> omega
theorem and_to (a : Int) (m : Nat) (hm : m ≤ 65535) : ∃ n : Nat, bitsI .and .i64 a m = n ∧ n ≤ m := by
  have h : (BitVec.ofInt 64 a &&& BitVec.ofInt 64 m).toNat ≤ m := by
    rw [BitVec.toNat_and]
    refine Nat.le_trans Nat.and_le_right ?_
    rw [BitVec.toNat_ofInt]; omega
  refine ⟨(BitVec.ofInt 64 a &&& BitVec.ofInt 64 m).toNat, ?_, h⟩
  show IntKind.i64.wrap _ = _
  rw [i64_wrapS]
  show (((BitVec.ofInt 64 a &&& BitVec.ofInt 64 m).toNat : Int) + 9223372036854775808) % 18446744073709551616 - 9223372036854775808 = _
  omega
theorem a_andTo {a : Int} {k : D → Prop} (m : Nat) (hm : m ≤ 65535) (h : ∀ n : Nat, n ≤ m → k (.i n)) : aar .and (.i a) (.i m) k := by
  obtain ⟨n, e, hn⟩ := and_to a m hm
  refine ⟨rfl, ?_⟩
  have := h n hn
  rw [← e] at this
  exact this
end Go.V
namespace Go.Proofs.YtdalobojhfafbaaGreatDoor
open Go Go.V
/-- what New answers, and what follows of it -/
theorem new_call {p : Pr} {n : Int} {L M : List Bx} {kp k : D → List Bx → Prop} (hL : L.Perm ([] ++ M)) (he : ∀ e : Int, NewF p n = .error e → k (.tuple [.val (.pointer none), .i e]) M)
    (hk : ∀ S bs L0, NewF p n = .ok S → SimR bs S L0 → k (.tuple [.p bs 0, .i 0]) (L0 ++ M)) : acallW pr 13 [p.d, .i n] L kp k := by
  refine a_callF (L1 := []) (M := M) hL (c13 p n) ?_
  intro a L' h
  unfold NewR at h
  cases e : NewF p n with
  | error x =>
    rw [e] at h
    obtain ⟨rfl, rfl⟩ := h
    exact he x e
  | ok S =>
    rw [e] at h
    obtain ⟨bs, rfl, rfl⟩ := h
    refine hk S bs _ e ⟨.nil, [], rfl, ?_⟩
    rw [(New_ok e).2.2.2.2.1]; exact .nil
theorem c7 (p : Pr) (nodes : Int) : AFn pr 7 [p.d, .i nodes] [] (.ret (.b true)) := by
  refine AFn.small fun hsm => AFn.ofGe (s7 ?_)
  unfold A7
  refine a_bxv fun z1 => ?_
  refine a_call0 c12 ?_
  refine a_andTo 63 (by decide) fun m hm => ?_
  (refine a_add (by first | omega | assumption | decide) (by first | omega | assumption | decide) ?_; (apply a_ldA 0; exact rfl; exact rfl))
  refine new_call (M := [⟨z1, p.cs, .box⟩]) (List.Perm.refl _) (fun e he => ?_) fun S bs L0 he r0 => ?_
  · ((apply a_ext; exact rfl); (apply a_ext; exact rfl); (apply a_jn0; intro J); refine a_eqNil ?_; refine a_eqNil ?_)
    exact ge_drop _ _
  · obtain ⟨hp, h1, h2, hS, hl, _⟩ := New_ok he
    have hw := smallW_of hS.w.right
    have hlen := first_names he
    have h60 := keyP_len hp
    have hn60 : S.w.names.length ≤ 60 := by rw [keys_len hS.w.keys]; exact h60
    have hfew := ((fewB_iff p).1 hp.few).1
    have hini := hfew.2.2.2
    have hone := fun x hx => first_none (x := x) he hx
    have hW := (world_abs r0 [] hw (by omega)).frameL [⟨z1, p.cs, .box⟩]
    have hRt := c23 S.w
    have hP := pend_abs r0 [] (by rw [hl]; decide)
    rw [hl] at hP
    rw [hS.w.right] at hRt
    (apply a_ext; exact rfl); (apply a_ext; exact rfl)
    refine a_jn (σ := Unit) (fun _ => []) (fun _ => L0 ++ [⟨z1, p.cs, .box⟩]) (fun _ => True) ?_ fun J hJ => ?_
    · intro _ _
      refine a_callR hW ?_
      (refine a_bx fun z2 => ?_; refine a_stA 0 rfl rfl rfl rfl ?_)
      refine a_lp (σ := Nat) (fun i => [.i i, .i i]) (fun _ => ⟨z2, S.w.cs, .box⟩ :: (L0 ++ [⟨z1, p.cs, .box⟩])) (fun i => i ≤ S.w.names.length) (fun i => S.w.names.length - i) 0 (Gl.refl _ _) (Nat.zero_le _) ?_
      rintro i K hi hK
      dsimp only [aix0, aix1, aix2, aix3, aix4, aix5, aix6, aix7, aix8]
      (refine a_fld ?_; (apply a_ld1 0; exact rfl; exact rfl); refine a_lenM ?_; refine a_lss ?_)
      refine a_cnd (fun q => ?_) (fun q => ?_)
      · have hlt : i < S.w.names.length := by omega
        (refine a_fld ?_; (apply a_ld1 0; exact rfl; exact rfl))
        refine a_idxM i hlt ?_
        have hx := hone _ (List.getElem_mem hlt)
        have hr : S.w.names[i].v.s.length ≤ 140737488355328 := hw _ (List.getElem_mem hlt)
        generalize hxe : S.w.names[i] = x at *
        obtain ⟨nm, ⟨vs, vn, vb, vl⟩⟩ := x
        dsimp only at hx hr
        (refine a_fldp ?_; (apply a_ldAp; exact rfl); refine a_bx fun z3 => ?_; refine a_stA 0 rfl rfl rfl rfl ?_)
        refine a_lp (σ := Nat) (fun k => [.b ((p.init.take k).any fun a => decide (a.nm = nm)), .i k]) (fun _ => ⟨z3, [.i vs, .i vn, .b vb, .row 1 (vl.map bc)], .box⟩ :: ⟨z2, S.w.cs, .box⟩ :: (L0 ++ [⟨z1, p.cs, .box⟩])) (fun k => k ≤ p.init.length) (fun k => p.init.length - k) 0 (Gl.refl _ _) (Nat.zero_le _) ?_
        rintro k K2 hk hK2
        dsimp only [aix0, aix1, aix2, aix3, aix4, aix5, aix6, aix7, aix8]
        (refine a_fld ?_; (refine a_c1 ?_; refine a_c1 ?_; apply a_ldr1 0; exact rfl; exact rfl); refine a_lenM ?_; refine a_lss ?_)
        refine a_cnd (fun q => ?_) (fun q => ?_)
        · have hk2 : k < p.init.length := by omega
          have hs1 : (p.init.take (k + 1)).any (fun a => decide (a.nm = nm)) = ((p.init.take k).any (fun a => decide (a.nm = nm)) || decide (p.init[k].nm = nm)) := by
            rw [List.take_succ_eq_append_getElem hk2, List.any_append]; simp
          have hk3 := hK2 (k + 1)
          rw [hs1] at hk3
          cases hg : (p.init.take k).any (fun a => decide (a.nm = nm)) with
          | true =>
            rw [hg] at hk3
            (refine a_cndbT rfl ?_; refine a_add (by first | omega | assumption | decide) (by first | omega | assumption | decide) ?_)
            exact hk3 _ _ (by omega) (by omega) (Gl.refl _ _)
          | false =>
            rw [hg] at hk3
            (refine a_cndbF rfl ?_; refine a_fld ?_; (refine a_c1 ?_; refine a_c1 ?_; apply a_ldr1 0; exact rfl; exact rfl))
            refine a_idxM k hk2 ?_
            generalize p.init[k] = y at *
            obtain ⟨yn, ⟨yo, ys, yk, ya⟩⟩ := y
            (refine a_fldp ?_; (apply a_ld1 1; exact rfl; exact rfl))
            refine a_idxM i hlt ?_
            rw [hxe]
            (refine a_fldp ?_; (apply a_ld1p; exact rfl); refine a_eqlS ?_; refine a_add (by first | omega | assumption | decide) (by first | omega | assumption | decide) ?_)
            exact hk3 _ _ (by omega) (by omega) (Gl.refl _ _)
        · rw [show k = p.init.length by omega, List.take_length]
          have hx2 : p.init.any (fun a => decide (a.nm = nm)) = false → vn = 0 ∧ vb = false ∧ ∀ b ∈ vl, b = false := fun h => hx fun a ha he => by
            rw [List.any_eq_false] at h
            exact h a ha (decide_eq_true he)
          generalize p.init.any (fun a => decide (a.nm = nm)) = g at *
          refine a_lp (σ := Nat) (fun k => [.i k]) (fun _ => ⟨z3, [.i vs, .i vn, .b vb, .row 1 (vl.map bc)], .box⟩ :: ⟨z2, S.w.cs, .box⟩ :: (L0 ++ [⟨z1, p.cs, .box⟩])) (fun k => k ≤ vl.length) (fun k => vl.length - k) 0 (Gl.refl _ _) (Nat.zero_le _) ?_
          rintro k K3 hk3 hK3
          dsimp only [aix0, aix1, aix2, aix3, aix4, aix5, aix6, aix7, aix8]
          (refine a_fld ?_; (apply a_ld1 0; exact rfl; exact rfl); refine a_lenM ?_; refine a_lss ?_)
          refine a_cnd (fun q => ?_) (fun q => ?_)
          · have hk4 : k < vl.length := by omega
            (refine a_fld ?_; (apply a_ld1 0; exact rfl; exact rfl))
            refine a_idxM k hk4 ?_
            have hv : g = false → vl[k] = false := fun h => (hx2 h).2.2 _ (List.getElem_mem hk4)
            generalize vl[k] = y at *
            ((apply a_ld1p; exact rfl))
            cases y with
            | true =>
              cases g with
              | true =>
                (refine a_cndbT rfl ?_; refine a_not ?_; refine a_cndbF rfl ?_; refine a_add (by first | omega | assumption | decide) (by first | omega | assumption | decide) ?_)
                exact hK3 (k + 1) _ _ (by omega) (by omega) (Gl.refl _ _)
              | false => cases hv rfl
            | false =>
              (refine a_cndbF rfl ?_; refine a_add (by first | omega | assumption | decide) (by first | omega | assumption | decide) ?_)
              exact hK3 (k + 1) _ _ (by omega) (by omega) (Gl.refl _ _)
          · cases g with
            | true =>
              (refine a_not ?_; refine a_cndbF rfl ?_; refine a_add (by first | omega | assumption | decide) (by first | omega | assumption | decide) ?_; refine a_add (by first | omega | assumption | decide) (by first | omega | assumption | decide) ?_)
              exact hK (i + 1) _ _ (by omega) (by omega) (Gl.drop (List.sublist_cons_self _ _))
            | false =>
              obtain ⟨rfl, rfl, _⟩ := hx2 rfl
              (refine a_not ?_; refine a_cndbT rfl ?_; refine a_fld ?_; (apply a_ld1 0; exact rfl; exact rfl); refine a_neq ?_; (apply a_jnX; intro J hJ); refine a_cndbF rfl ?_; refine a_fld ?_; (apply a_ld1 0; exact rfl; exact rfl); exact hJ; dsimp only [aix0, aix1, aix2, aix3, aix4, aix5, aix6, aix7, aix8]; refine a_cndbF rfl ?_; refine a_add (by first | omega | assumption | decide) (by first | omega | assumption | decide) ?_; refine a_add (by first | omega | assumption | decide) (by first | omega | assumption | decide) ?_)
              exact hK (i + 1) _ _ (by omega) (by omega) (Gl.drop (List.sublist_cons_self _ _))
      · have hnd : S.w.nodes = 1 + (m : Int) := hS.w.nodes
        (refine a_cndbT rfl ?_; (apply a_ldA 0; exact rfl; exact rfl); refine a_call0 (c23 _) ?_)
        rw [hS.w.right]
        (refine a_cndbT rfl ?_; refine a_fld ?_; (apply a_ld1 0; exact rfl; exact rfl); refine a_eql ?_; refine a_cndT (by first | omega | assumption | decide) ?_)
        refine a_callR (AFn.frameM [⟨z2, S.w.cs, .box⟩] (AFn.frameL [⟨z1, p.cs, .box⟩] hP)) ?_
        (refine a_lenM ?_; refine a_eql ?_; refine a_cndbT rfl ?_; refine a_fld ?_; (refine a_c1 ?_; apply a_ldr1 0; exact rfl; exact rfl); refine a_lenM ?_; refine a_fld ?_; (refine a_c1 ?_; apply a_ldr1 0; exact rfl; exact rfl); refine a_lenM ?_; refine a_add (by first | omega | assumption | decide) (by first | omega | assumption | decide) ?_; refine a_fld ?_; (refine a_c1 ?_; apply a_ldr1 0; exact rfl; exact rfl); refine a_lenM ?_; refine a_add (by first | omega | assumption | decide) (by first | omega | assumption | decide) ?_; refine a_fld ?_; (refine a_c1 ?_; apply a_ldr1 0; exact rfl; exact rfl); refine a_lenM ?_; refine a_add (by first | omega | assumption | decide) (by first | omega | assumption | decide) ?_; refine a_eql ?_)
        exact ge_of (ret_b (decide_eq_true (by omega)))
    · refine a_eqOwn ?_
      (refine a_cndbF rfl ?_; refine a_neq ?_; refine a_cndbF rfl ?_)
      exact hJ () _ _ trivial (Gl.refl _ _)
end Go.Proofs.YtdalobojhfafbaaGreatDoor
