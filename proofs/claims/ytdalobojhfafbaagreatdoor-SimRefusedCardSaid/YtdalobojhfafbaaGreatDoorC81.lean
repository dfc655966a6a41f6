/- Contracts of layer 18: SimRefused. -/
import Derived.Test.YtdalobojhfafbaaGreatDoorC80
import Derived.Test.YtdalobojhfafbaaGreatDoorM34
set_option maxRecDepth 100000
set_option linter.unusedVariables false
namespace Go.Proofs.YtdalobojhfafbaaGreatDoor
open Go Go.V
theorem c5 (p : Pr) (nodes : Int) (l : List Stp) : AFn pr 5 [p.d, .i nodes, .row 3 (l.map Stp.cs)] [] (.ret (.b true)) := by
  refine AFn.small fun hsm => AFn.ofGe (s5 ?_)
  unfold A5
  refine a_bxv fun z1 => ?_
  refine a_call0 c12 ?_
  refine a_andTo 7 (by decide) fun m hm => ?_
  (refine a_add (by first | omega | assumption | decide) (by first | omega | assumption | decide) ?_; (apply a_ldA 0; exact rfl; exact rfl))
  refine new_call (M := [⟨z1, p.cs, .box⟩]) (List.Perm.refl _) (fun e he => ?_) fun S bs L0 he r0 => ?_
  · ((apply a_ext; exact rfl); (apply a_ext; exact rfl); (apply a_jn0; intro J); refine a_eqNil ?_; refine a_eqNil ?_)
    exact ge_drop _ _
  · obtain ⟨hp, h1, h2, hS, hl, hin⟩ := New_ok he
    have h60 := keyP_len hp
    have hfew := ((fewB_iff p).1 hp.few)
    have h32 := hfew.1.2.1
    clear he hl hin
    (apply a_ext; exact rfl); (apply a_ext; exact rfl)
    refine a_jn (σ := Unit) (fun _ => []) (fun _ => L0 ++ [⟨z1, p.cs, .box⟩]) (fun _ => True) ?_ fun J hJ => ?_
    · intro _ _
      refine a_lp (σ := Nat × Sm × List Bx) (fun x => [.i x.1]) (fun x => x.2.2 ++ [⟨z1, p.cs, .box⟩]) (fun x => x.1 ≤ l.length ∧ SOk p (1 + (m : Int)) x.2.1 ∧ SimR bs x.2.1 x.2.2) (fun x => l.length - x.1) (0, S, L0) (Gl.refl _ _) ⟨Nat.zero_le _, hS, r0⟩ ?_
      clear hS r0 S L0
      rintro ⟨i, S, L0⟩ K ⟨hi, hS, r0⟩ hK
      dsimp only at hi hS r0 hK ⊢
      dsimp only [aix0, aix1, aix2, aix3, aix4, aix5, aix6, aix7, aix8]
      refine a_jn (σ := Unit) (fun _ => []) (fun _ => L0 ++ [⟨z1, p.cs, .box⟩]) (fun _ => i < l.length ∧ i < 60) ?_ fun J hJ => ?_
      · rintro _ ⟨hlt, h60i⟩
        have hn60 : S.w.names.length = (keyP p).length := keys_len hS.w.keys
        have h256 := hS.few
        obtain ⟨hS', _⟩ := stepD_ok (x := l[i]) hp hS
        have hDb := fun T => doubled (x := l[i]) (T := T) hS
        have hDr := fun T => dropped (x := l[i]) (T := T) hS
        have hTm := fun T => timed (x := l[i]) (T := T) hp hS
        refine a_callR (world_at [] _ hS hp r0) ?_
        (refine a_bx fun z2 => ?_; refine a_stA 0 rfl rfl rfl rfl ?_)
        refine a_callR (pend_at [_] _ hS r0) ?_
        (refine a_lenM ?_)
        refine a_idxM i hlt ?_
        (apply a_ldAp; exact rfl)
        refine a_callF (L1 := L0) (M := [⟨z2, S.w.cs, .box⟩, ⟨z1, p.cs, .box⟩]) List.perm_middle.symm (c15 hp hS h1 h2 r0 l[i]) ?_
        rintro a L1 ⟨rfl, r1⟩
        simp only [AE.on]
        have hix : ∀ {kk : D → Prop}, kk (.pin (Stp.cs l[i])) → aidxS 3 (.row 3 (l.map Stp.cs)) (.i i) kk := fun h => a_idxM i hlt h
        generalize l[i] = x at *
        obtain ⟨kind, xi, node⟩ := x
        replace hix : ∀ {kk : D → Prop}, kk (.pin [.i kind, .i xi, .i node]) → aidxS 3 (.row 3 (l.map Stp.cs)) (.i i) kk := hix
        dsimp only at hDb hDr hTm
        generalize hO : doesF S ⟨kind, xi, node⟩ = O at *
        generalize hT : O.getD S = S' at *
        have hn61 : S'.w.names.length = (keyP p).length := keys_len hS'.w.keys
        have h257 := hS'.few
        refine a_callR (world_at [] _ hS' hp r1) ?_
        (refine a_bx fun z3 => ?_; refine a_stA 0 rfl rfl rfl rfl ?_)
        refine a_callR (pend_at [_] _ hS' r1) ?_
        refine a_lenM ?_
        have hout : K [.i ((i : Int) + 1)] (⟨z3, S'.w.cs, .box⟩ :: (L1 ++ [⟨z2, S.w.cs, .box⟩, ⟨z1, p.cs, .box⟩])) := hK (i + 1, S', L1) _ _ ⟨by dsimp only; omega, hS', r1⟩ (by dsimp only; omega) (Gl.drop ((List.Sublist.append_left (.cons _ (List.Sublist.refl _)) _).cons _))
        have hsame : O = none ∨ kind = 2 ∨ kind = 3 → S'.w = S.w := fun h => by
          rcases O with _ | T
          · rw [← hT]; rfl
          · rw [← hT]
            rcases h with h | h | h
            · cases h
            · exact (hDb T h rfl).2
            · exact (hDr T h rfl).2
        refine a_jn (σ := Unit) (fun _ => []) (fun _ => ⟨z3, S'.w.cs, .box⟩ :: (L1 ++ [⟨z2, S.w.cs, .box⟩, ⟨z1, p.cs, .box⟩])) (fun _ => True) ?_ fun J16 hJ16 => ?_
        · intro _ _
          refine a_jn (σ := Unit) (fun _ => []) (fun _ => ⟨z3, S'.w.cs, .box⟩ :: (L1 ++ [⟨z2, S.w.cs, .box⟩, ⟨z1, p.cs, .box⟩])) (fun _ => True) ?_ fun J18 hJ18 => ?_
          · intro _ _
            refine a_lp (σ := Nat) (fun k => [.i k]) (fun _ => ⟨z3, S'.w.cs, .box⟩ :: (L1 ++ [⟨z2, S.w.cs, .box⟩, ⟨z1, p.cs, .box⟩])) (fun k => k ≤ S'.w.names.length) (fun k => S'.w.names.length - k) 0 (Gl.refl _ _) (Nat.zero_le _) ?_
            rintro k K2 hk hK2
            dsimp only [aix0, aix1, aix2, aix3, aix4, aix5, aix6, aix7, aix8]
            refine a_jn (σ := Unit) (fun _ => []) (fun _ => ⟨z3, S'.w.cs, .box⟩ :: (L1 ++ [⟨z2, S.w.cs, .box⟩, ⟨z1, p.cs, .box⟩])) (fun _ => k < S'.w.names.length ∧ O.isSome = true ∧ 4 ≤ kind) ?_ fun J21 hJ21 => ?_
            · rintro _ ⟨hlt2, hsome, hk4⟩
              obtain ⟨T, rfl⟩ := Option.isSome_iff_exists.1 hsome
              obtain rfl : T = S' := hT
              obtain ⟨j, hj, rfl, _, hval⟩ := hTm T hk4 rfl
              have hlt3 : k < S.w.names.length := by omega
              have hb := hfew.2 _ (List.getElem_mem hj)
              replace hval := hval k hlt2 hlt3
              have hij : ∀ {kk : D → Prop}, kk (.pin (Ha.cs p.hs[j])) → aidxS 9 (.row 9 (p.hs.map Ha.cs)) (.i j) kk := fun h => a_idxM j hj h
              have hiu : ∀ {kk : D → Prop}, kk (.pin (Nv.cs T.w.names[k])) → aidxS 5 (.row 5 (T.w.names.map Nv.cs)) (.i k) kk := fun h => a_idxM k hlt2 h
              have hiw : ∀ {kk : D → Prop}, kk (.pin (Nv.cs S.w.names[k])) → aidxS 5 (.row 5 (S.w.names.map Nv.cs)) (.i k) kk := fun h => a_idxM k hlt3 h
              have hSame := same_self S.w.names[k].v
              generalize T.w.names[k] = un at *
              generalize S.w.names[k] = wn at *
              generalize p.hs[j] = hd at *
              obtain ⟨nm, ⟨us, un, ub, ul⟩⟩ := un
              obtain ⟨wnm, ⟨ws, wn, wb, wl⟩⟩ := wn
              obtain ⟨timer, hn, hnode, ⟨ho, hs2, hn2, ha⟩, dos, send⟩ := hd
              dsimp only at hb hval hSame
              (refine a_fld ?_; (refine a_c1 ?_; apply a_ldr1 1; exact rfl; exact rfl); refine hix ?_; refine a_fldp ?_; (apply a_ld1p; exact rfl); refine hij ?_; (apply a_ldAp; exact rfl); refine a_bx fun z4 => ?_; refine a_stA 0 rfl rfl rfl rfl ?_)
              refine a_lp (σ := Nat) (fun q => [.b ((dos.take q).any fun a => decide (a.nm = nm)), .i q]) (fun _ => ⟨z4, [.b timer, .s hn, .s hnode, .i ho, .s hs2, .i hn2, .row 4 (Tm.rows ha), .row 5 (dos.map As.cr), .row 1 (sT send)], .box⟩ :: ⟨z3, T.w.cs, .box⟩ :: (L1 ++ [⟨z2, S.w.cs, .box⟩, ⟨z1, p.cs, .box⟩])) (fun q => q ≤ dos.length) (fun q => dos.length - q) 0 (Gl.refl _ _) (Nat.zero_le _) ?_
              rintro q K3 hq hK3
              dsimp only [aix0, aix1, aix2, aix3, aix4, aix5, aix6, aix7, aix8]
              (refine a_fld ?_; (apply a_ld1 0; exact rfl; exact rfl); refine a_lenM ?_; refine a_lss ?_)
              refine a_cnd (fun c => ?_) (fun c => ?_)
              · have hq2 : q < dos.length := by omega
                have hs1 : (dos.take (q + 1)).any (fun a => decide (a.nm = nm)) = ((dos.take q).any (fun a => decide (a.nm = nm)) || decide (dos[q].nm = nm)) := by
                  rw [List.take_succ_eq_append_getElem hq2, List.any_append]; simp
                have hk3 := hK3 (q + 1)
                rw [hs1] at hk3
                have hiq : ∀ {kk : D → Prop}, kk (.pin (As.cr dos[q])) → aidxS 5 (.row 5 (dos.map As.cr)) (.i q) kk := fun h => a_idxM q hq2 h
                generalize dos[q] = y at *
                obtain ⟨yn, ⟨yo, ys, yk, ya⟩⟩ := y
                cases hg : (dos.take q).any (fun a => decide (a.nm = nm)) with
                | true =>
                  rw [hg] at hk3
                  (refine a_cndbT rfl ?_; refine a_add (by first | omega | assumption | decide) (by first | omega | assumption | decide) ?_)
                  exact hk3 _ _ (by omega) (by omega) (Gl.refl _ _)
                | false =>
                  rw [hg] at hk3
                  (refine a_cndbF rfl ?_; refine a_fld ?_; (apply a_ld1 0; exact rfl; exact rfl); refine hiq ?_; refine a_fldp ?_; (apply a_ld1 1; exact rfl; exact rfl); refine hiu ?_; refine a_fldp ?_; (apply a_ld1p; exact rfl); refine a_eqlS ?_; refine a_add (by first | omega | assumption | decide) (by first | omega | assumption | decide) ?_)
                  exact hk3 _ _ (by omega) (by omega) (Gl.refl _ _)
              · rw [show q = dos.length by omega, List.take_length]
                have hd2 : dos.any (fun a => decide (a.nm = nm)) = false → ∀ y ∈ dos, y.nm ≠ nm := fun h y hy e => by
                  rw [List.any_eq_false] at h
                  exact h y hy (decide_eq_true e)
                generalize dos.any (fun a => decide (a.nm = nm)) = g at *
                refine a_lp (σ := Nat) (fun q => [.b (g || (send.take q).any fun s => decide (s = nm)), .i q]) (fun _ => ⟨z4, [.b timer, .s hn, .s hnode, .i ho, .s hs2, .i hn2, .row 4 (Tm.rows ha), .row 5 (dos.map As.cr), .row 1 (sT send)], .box⟩ :: ⟨z3, T.w.cs, .box⟩ :: (L1 ++ [⟨z2, S.w.cs, .box⟩, ⟨z1, p.cs, .box⟩])) (fun q => q ≤ send.length) (fun q => send.length - q) 0 ?_ (Nat.zero_le _) ?_
                · rw [List.take_zero, List.any_nil, Bool.or_false]; exact Gl.refl _ _
                clear hq c hK3 q
                rintro q K3 hq hK3
                dsimp only [aix0, aix1, aix2, aix3, aix4, aix5, aix6, aix7, aix8]
                (refine a_fld ?_; (apply a_ld1 0; exact rfl; exact rfl); refine a_lenM ?_; refine a_lss ?_)
                refine a_cnd (fun c => ?_) (fun c => ?_)
                · have hq2 : q < send.length := by omega
                  have hs1 : (g || (send.take (q + 1)).any (fun s => decide (s = nm))) = ((g || (send.take q).any (fun s => decide (s = nm))) || decide (send[q] = nm)) := by
                    rw [List.take_succ_eq_append_getElem hq2, List.any_append, Bool.or_assoc]; simp
                  have hk3 := hK3 (q + 1)
                  rw [hs1] at hk3
                  have hiq : ∀ {kk : D → Prop}, kk (.pin [.s send[q]]) → aidxS 1 (.row 1 (sT send)) (.i q) kk := fun h => a_idxM q hq2 h
                  generalize send[q] = y at *
                  cases hg : (g || (send.take q).any (fun s => decide (s = nm))) with
                  | true =>
                    rw [hg] at hk3
                    (refine a_cndbT rfl ?_; refine a_add (by first | omega | assumption | decide) (by first | omega | assumption | decide) ?_)
                    exact hk3 _ _ (by omega) (by omega) (Gl.refl _ _)
                  | false =>
                    rw [hg] at hk3
                    (refine a_cndbF rfl ?_; refine a_fld ?_; (apply a_ld1 0; exact rfl; exact rfl); refine hiq ?_; (apply a_ld1 1; exact rfl; exact rfl); refine hiu ?_; refine a_fldp ?_; (apply a_ld1p; exact rfl); refine a_eqlS ?_; refine a_add (by first | omega | assumption | decide) (by first | omega | assumption | decide) ?_)
                    exact hk3 _ _ (by omega) (by omega) (Gl.refl _ _)
                · rw [show q = send.length by omega, List.take_length]
                  have hd3 : send.any (fun s => decide (s = nm)) = false → ∀ y ∈ send, y ≠ nm := fun h y hy e => by
                    rw [List.any_eq_false] at h
                    exact h y hy (decide_eq_true e)
                  cases hg : (g || send.any fun s => decide (s = nm)) with
                  | true =>
                    (refine a_not ?_; refine a_cndbF rfl ?_; refine a_add (by first | omega | assumption | decide) (by first | omega | assumption | decide) ?_)
                    exact hK2 (k + 1) _ _ (by omega) (by omega) (Gl.drop (List.sublist_cons_self _ _))
                  | false =>
                    rw [Bool.or_eq_false_iff] at hg
                    have e := hval (hd2 hg.1) (hd3 hg.2)
                    injection e with e1 e2 e3 e4
                    subst e1 e2 e3 e4
                    (refine a_not ?_; refine a_cndbT rfl ?_; refine a_fld ?_; (apply a_ld1 1; exact rfl; exact rfl); refine hiu ?_; refine a_fldp ?_; (apply a_ldAp; exact rfl); refine a_fld ?_; (refine a_c1 ?_; refine a_c1 ?_; apply a_ldr1 0; exact rfl; exact rfl); refine hiw ?_; refine a_fldp ?_; (apply a_ldAp; exact rfl); refine a_callS0 hSame ?_; refine a_not ?_; refine a_cndbF rfl ?_; refine a_add (by first | omega | assumption | decide) (by first | omega | assumption | decide) ?_)
                    exact hK2 (k + 1) _ _ (by omega) (by omega) (Gl.drop (List.sublist_cons_self _ _))
            · (refine a_fld ?_; (apply a_ld1 0; exact rfl; exact rfl); refine a_lenM ?_; refine a_lss ?_)
              refine a_cnd (fun q => ?_) (fun q => ?_)
              · rcases O with _ | T
                · (refine a_cndbF rfl ?_; refine a_add (by first | omega | assumption | decide) (by first | omega | assumption | decide) ?_)
                  exact hout
                · (refine hix ?_; refine a_fldp ?_; (apply a_ld1p; exact rfl); refine a_geq ?_)
                  refine a_cnd (fun q2 => ?_) (fun q2 => ?_)
                  · exact hJ21 () _ _ ⟨by omega, rfl, by omega⟩ (Gl.refl _ _)
                  · (refine a_add (by first | omega | assumption | decide) (by first | omega | assumption | decide) ?_)
                    exact hout
              · (refine a_add (by first | omega | assumption | decide) (by first | omega | assumption | decide) ?_)
                exact hout
          · rcases O with _ | T
            · (refine a_cndbF rfl ?_)
              exact hJ18 () _ _ trivial (Gl.refl _ _)
            · obtain rfl : T = S' := hT
              by_cases k2 : kind = 2
              · have := (hDb T k2 rfl).1
                (refine hix ?_; refine a_fldp ?_; (apply a_ld1p; exact rfl); refine a_eql ?_; refine a_cndT (by first | omega | assumption | decide) ?_; refine a_add (by first | omega | assumption | decide) (by first | omega | assumption | decide) ?_; refine a_neq ?_; refine a_cndF (by first | omega | assumption | decide) ?_; refine hix ?_; refine a_fldp ?_; (apply a_ld1p; exact rfl); refine a_eql ?_; refine a_cndF (by first | omega | assumption | decide) ?_; refine hix ?_; refine a_fldp ?_; (apply a_ld1p; exact rfl); refine a_geq ?_; refine a_cndF (by first | omega | assumption | decide) ?_)
                exact hJ18 () _ _ trivial (Gl.refl _ _)
              by_cases k3 : kind = 3
              · have := (hDr T k3 rfl).1
                (refine hix ?_; refine a_fldp ?_; (apply a_ld1p; exact rfl); refine a_eql ?_; refine a_cndF (by first | omega | assumption | decide) ?_; refine hix ?_; refine a_fldp ?_; (apply a_ld1p; exact rfl); refine a_eql ?_; refine a_cndT (by first | omega | assumption | decide) ?_; refine a_sub (by first | omega | assumption | decide) (by first | omega | assumption | decide) ?_; refine a_neq ?_; refine a_cndF (by first | omega | assumption | decide) ?_; refine hix ?_; refine a_fldp ?_; (apply a_ld1p; exact rfl); refine a_geq ?_; refine a_cndF (by first | omega | assumption | decide) ?_)
                exact hJ18 () _ _ trivial (Gl.refl _ _)
              by_cases k4 : 4 ≤ kind
              · obtain ⟨j, hj, rfl, hlen, _⟩ := hTm T k4 rfl
                have hb := hfew.2 _ (List.getElem_mem hj)
                have hij : ∀ {kk : D → Prop}, kk (.pin (Ha.cs p.hs[j])) → aidxS 9 (.row 9 (p.hs.map Ha.cs)) (.i j) kk := fun h => a_idxM j hj h
                generalize p.hs[j] = hd at *
                obtain ⟨timer, hn, hnode, ⟨ho, hs2, hn2, ha⟩, dos, send⟩ := hd
                dsimp only at hb hlen
                (refine hix ?_; refine a_fldp ?_; (apply a_ld1p; exact rfl); refine a_eql ?_; refine a_cndF (by first | omega | assumption | decide) ?_; refine hix ?_; refine a_fldp ?_; (apply a_ld1p; exact rfl); refine a_eql ?_; refine a_cndF (by first | omega | assumption | decide) ?_; refine hix ?_; refine a_fldp ?_; (apply a_ld1p; exact rfl); refine a_geq ?_; refine a_cndT (by first | omega | assumption | decide) ?_; refine a_fld ?_; (refine a_c1 ?_; apply a_ldr1 1; exact rfl; exact rfl); refine hix ?_; refine a_fldp ?_; (apply a_ld1p; exact rfl); refine hij ?_; refine a_fldp ?_; (apply a_ld1p; exact rfl); refine a_lenM ?_)
                dsimp only
                (refine a_add (by first | omega | assumption | decide) (by first | omega | assumption | decide) ?_; refine a_neq ?_; refine a_cndF (by first | omega | assumption | decide) ?_)
                exact hJ18 () _ _ trivial (Gl.refl _ _)
              · (refine hix ?_; refine a_fldp ?_; (apply a_ld1p; exact rfl); refine a_eql ?_; refine a_cndF (by first | omega | assumption | decide) ?_; refine hix ?_; refine a_fldp ?_; (apply a_ld1p; exact rfl); refine a_eql ?_; refine a_cndF (by first | omega | assumption | decide) ?_; refine hix ?_; refine a_fldp ?_; (apply a_ld1p; exact rfl); refine a_geq ?_; refine a_cndF (by first | omega | assumption | decide) ?_)
                exact hJ18 () _ _ trivial (Gl.refl _ _)
        · refine a_not ?_
          refine a_jn (σ := Unit) (fun _ => [.b false]) (fun _ => ⟨z3, S'.w.cs, .box⟩ :: (L1 ++ [⟨z2, S.w.cs, .box⟩, ⟨z1, p.cs, .box⟩])) (fun _ => True) ?_ fun J80 hJ80 => ?_
          · intro _ _
            dsimp only [aix0, aix1, aix2, aix3, aix4, aix5, aix6, aix7, aix8]
            refine a_cndbF rfl ?_
            refine hix ?_
            refine a_fldp ?_
            (apply a_ld1p; exact rfl)
            refine a_eql ?_
            refine a_jn (σ := Bool) (fun c => [.b c]) (fun _ => ⟨z3, S'.w.cs, .box⟩ :: (L1 ++ [⟨z2, S.w.cs, .box⟩, ⟨z1, p.cs, .box⟩])) (fun c => c = decide (kind = 2 ∨ kind = 3)) ?_ fun J95 hJ95 => ?_
            · rintro c hc
              refine a_jn (σ := Unit) (fun _ => [.b false]) (fun _ => ⟨z3, S'.w.cs, .box⟩ :: (L1 ++ [⟨z2, S.w.cs, .box⟩, ⟨z1, p.cs, .box⟩])) (fun _ => True) ?_ fun J101 hJ101 => ?_
              · intro _ _
                (refine a_cndbF rfl ?_)
                exact hJ16 () _ _ trivial (Gl.refl _ _)
              · by_cases h23 : kind = 2 ∨ kind = 3
                · rw [hc, decide_eq_true h23]
                  have e := hsame (.inr h23)
                  have hWw := c19 S.w (by omega)
                  rw [e] at hJ101 ⊢
                  (refine a_cndbT rfl ?_; (refine a_cN ?_; apply a_ldrA 0; exact rfl; exact rfl); (apply a_ldA 0; exact rfl; exact rfl); refine a_call0 hWw ?_; refine a_not ?_)
                  exact hJ101 () _ _ trivial (Gl.refl _ _)
                · rw [hc, decide_eq_false h23]
                  (refine a_cndbF rfl ?_)
                  exact hJ101 () _ _ trivial (Gl.refl _ _)
            · by_cases k2 : kind = 2
              · (refine a_cndT (by first | omega | assumption | decide) ?_)
                exact hJ95 true _ _ (by rw [decide_eq_true (.inl k2)]) (Gl.refl _ _)
              · (refine a_cndF (by first | omega | assumption | decide) ?_; refine hix ?_; refine a_fldp ?_; (apply a_ld1p; exact rfl); refine a_eql ?_)
                exact hJ95 (decide (kind = 3)) _ _ (by by_cases k3 : kind = 3 <;> simp [k2, k3]) (Gl.refl _ _)
          · rcases O with _ | T
            · have e := hsame (.inl rfl)
              have hWw := c19 S.w (by omega)
              obtain rfl : S = S' := hT
              (refine a_cndbT rfl ?_; (refine a_cN ?_; apply a_ldrA 0; exact rfl; exact rfl); (apply a_ldA 0; exact rfl; exact rfl); refine a_call0 hWw ?_; refine a_not ?_; (apply a_jnX; intro J hJ); refine a_cndbF rfl ?_; refine a_neq ?_; exact hJ; dsimp only [aix0, aix1, aix2, aix3, aix4, aix5, aix6, aix7, aix8])
              rw [decide_eq_false (fun h => h rfl)]
              exact hJ80 () _ _ trivial (Gl.refl _ _)
            · (refine a_cndbF rfl ?_)
              exact hJ80 () _ _ trivial (Gl.refl _ _)
      · (refine a_lenM ?_; refine a_lss ?_)
        refine a_cnd (fun q => ?_) (fun q => ?_)
        · (refine a_lss ?_)
          refine a_cnd (fun q2 => ?_) (fun q2 => ?_)
          · exact hJ () _ _ ⟨by omega, by omega⟩ (Gl.refl _ _)
          · exact ge_drop _ _
        · exact ge_drop _ _
    · refine a_eqOwn ?_
      (refine a_cndbF rfl ?_; refine a_neq ?_; refine a_cndbF rfl ?_)
      exact hJ () _ _ trivial (Gl.refl _ _)
end Go.Proofs.YtdalobojhfafbaaGreatDoor
