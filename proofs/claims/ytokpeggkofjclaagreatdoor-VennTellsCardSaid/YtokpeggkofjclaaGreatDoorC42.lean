/- Contracts of layer 13: World. -/
import Derived.Test.YtokpeggkofjclaaGreatDoorC41
set_option maxRecDepth 100000
set_option linter.unusedVariables false
namespace Go.V
open Go
theorem nodesR_rng (l : List Int) : ∀ n, ∀ x ∈ nodesR l n, 0 ≤ x ∧ x < n
  | 0, x, h => by cases h
  | n + 1, x, h => by
    rw [nodesR, List.mem_append] at h
    rcases h with h | h
    · have := nodesR_rng l n x h; omega
    · have := List.eq_of_mem_replicate h; omega
theorem setV_snoc (p : Pl) (nl : List Int) : ∀ (l : List ByteArray) (k : Nat) (s : ByteArray), setV p nl k (l ++ [s]) = setV p nl k l ++ [⟨s, ⟨2, 0, false, nl.map fun x => inB x.toNat (k + l.length)⟩⟩]
  | [], k, s => by simp [setV]
  | x :: r, k, s => by
    rw [List.cons_append, setV, setV, setV_snoc p nl r (k + 1) s, List.length_cons, show k + 1 + r.length = k + (r.length + 1) by omega]; rfl
theorem setV_len (p : Pl) (nl : List Int) : ∀ (l : List ByteArray) (k : Nat), (setV p nl k l).length = l.length
  | [], k => rfl
  | x :: r, k => by rw [setV, List.length_cons, setV_len p nl r (k + 1), List.length_cons]
theorem nodeV_snoc (p : Pl) (nl : List Int) : ∀ (l : List ByteArray) (k : Nat) (s : ByteArray), nodeV p nl k (l ++ [s]) = nodeV p nl k l ++ [⟨s, ⟨3, idxI (fun x => inB x.toNat (p.sets.length + (k + l.length))) nl 0, false, []⟩⟩]
  | [], k, s => by simp [nodeV]
  | x :: r, k, s => by
    rw [List.cons_append, nodeV, nodeV, nodeV_snoc p nl r (k + 1) s, List.length_cons, show k + 1 + r.length = k + (r.length + 1) by omega]; rfl
theorem nodeV_len (p : Pl) (nl : List Int) : ∀ (l : List ByteArray) (k : Nat), (nodeV p nl k l).length = l.length
  | [], k => rfl
  | x :: r, k => by rw [nodeV, List.length_cons, nodeV_len p nl r (k + 1), List.length_cons]
theorem intV_len (p : Pl) (l : List Int) : ∀ (m : List ByteArray) (k : Nat), (intV p l k m).length = m.length
  | [], k => rfl
  | x :: r, k => by rw [intV, List.length_cons, intV_len p l r (k + 1), List.length_cons]
theorem intV_snoc (p : Pl) (l : List Int) : ∀ (m : List ByteArray) (k : Nat) (s : ByteArray), intV p l k (m ++ [s]) = intV p l k m ++ [⟨s, ⟨1, l.getD (p.reg + (k + m.length)) 0, false, []⟩⟩]
  | [], k, s => by simp [intV]
  | x :: r, k, s => by
    rw [List.cons_append, intV, intV, intV_snoc p l r (k + 1) s, List.length_cons, show k + 1 + r.length = k + (r.length + 1) by omega]; rfl
theorem gl_fzN {α : Type} {f : α → List D} {sz b e c cap n : Nat} (hsz : ∀ x, (f x).length = sz) {ds ds' : List D} {L L' : List Bx} (l : List α) (i : Nat) (hi : L[i]? = some (Bx.mk b (l.map f).flatten (.row e sz cap))) (hn : n = l.length)
    (hd : WkL (.sl b 0 n c) (.row sz (l.map f)) ds ds') (hL : WkB (.sl b 0 n c) (.row sz (l.map f)) (L.eraseIdx i) L') : Gl ds L ds' L' := by
  subst hn
  refine Gl.fz (n := l.length) (c := c) i hi (flat_len hsz l) ?_ ?_
  · rw [chunk_flat hsz]; exact hd
  · rw [chunk_flat hsz]; exact hL
theorem gv_own {α : Type} {cs : α → List D} {sz e b c : Nat} {l : List α} (h : l ≠ []) : gv b c l = .sl b 0 l.length c ∧ gb cs e sz b c l = [⟨b, (l.map cs).flatten, .row e sz c⟩] := by
  cases l with
  | nil => exact absurd rfl h
  | cons x l => exact ⟨rfl, rfl⟩
end Go.V
namespace Go.Proofs.YtokpeggkofjclaaGreatDoor
open Go Go.V
theorem c17 {p : Pl} (hp : p.Ok) (l : List Int) : AFn pr 17 [p.d, .row 1 (nD l)] [] (.ret (.tuple [(WorldF p l).1.d, .i (WorldF p l).2])) := by
  refine AFn.ofGe (s17 ?_)
  unfold A17
  have hcirc := hp.circ
  have hreg := p.reg_pos
  have hunk := unk_le hp
  have hru := reg_unk p
  have hR := c19 p (by omega)
  have hU := c21 p (by omega) hp.ints
  have hlenD : (nD l).length = l.length := by unfold nD; rw [List.length_map]
  have hnl : p.nodes.length ≤ 64 := by unfold Pl.circ at hcirc; omega
  have hsl : p.sets.length ≤ 64 := by unfold Pl.circ at hcirc; omega
  have hil := hp.ints
  refine a_bxv fun z1 => ?_
  refine a_bx fun z2 => ?_
  refine a_jn (σ := Unit) (fun _ => []) (fun _ => [⟨z2, [.i 0, .nil], .box⟩, ⟨z1, p.cs, .box⟩]) (fun _ => l.length = p.unk ∧ ¬ minL (l.take p.reg) < 0) ?_ fun J hJ => ?_
  · rintro _ ⟨hlen, hmin⟩
    have hnn : ∀ i, i < p.reg → 0 ≤ l.getD i 0 := fun i hi => by
      have := minL_nn (l := l.take p.reg) (by omega) (l.getD i 0) (by
        rw [List.getD_eq_getElem?_getD, List.getElem?_eq_getElem (by omega), Option.getD_some, List.mem_take_iff_getElem]
        exact ⟨i, by omega, rfl⟩)
      exact this
    unfold WorldF
    rw [if_neg (by omega)]
    (refine a_fld ?_; (apply a_ld1 1; exact rfl; exact rfl); refine a_lenM ?_)
    refine a_lp (σ := Nat) (fun i => [.i i]) (fun _ => [⟨z2, [.i 0, .nil], .box⟩, ⟨z1, p.cs, .box⟩]) (fun i => i ≤ p.nodes.length ∧ (List.range i).all (oneB p l) = true) (fun i => p.nodes.length - i) 0 (by first | exact Gl.refl _ _ | exact Gl.drop (by repeat (first | exact List.Sublist.refl _ | exact List.Sublist.slnil | apply List.Sublist.cons_cons | apply List.Sublist.cons))) ⟨Nat.zero_le _, rfl⟩ ?_
    rintro i K ⟨hi, hall⟩ hK
    dsimp only [aix0, aix1, aix2, aix3, aix4, aix5, aix6, aix7, aix8]
    refine a_lss ?_
    refine a_cnd (fun q => ?_) (fun q => ?_)
    · have hlt : i < p.nodes.length := by omega
      have hS := c50 hp l (by omega) hnn (fun r hr => c51 hp hlt (show r ≤ 63 by omega))
      (refine a_bx fun z3 => ?_; (apply a_st 0 _; exact rfl; exact rfl; exact rfl; exact rfl; (try dsimp only [afill, aparts, cl, chunk, List.take, List.drop, List.nil_append, List.cons_append, List.append_nil, List.length_cons, List.length_nil, Nat.zero_add, Nat.reduceAdd, Nat.reduceMul]); try exact rfl); (apply a_ldA 2; exact rfl; exact rfl))
      refine a_callR (AFn.lend hS rfl (Gl.trans (Gl.fzP (ds' := [p.d, .row 1 (nD l), .fn 51 [] [.p z1 0, .pin [.i i]]]) 0 rfl (.cons (.refl _) (.cons (.refl _) (.cons (.fn .nil (.cons (.refl _) (.cons .hit .nil))) .nil))) (WkB.refl _ _ _)) (Gl.trans (Gl.fzP 1 rfl (.cons (.refl _) (.cons (.refl _) (.cons (.fn .nil (.cons .hit (.cons (.refl _) .nil))) .nil))) (WkB.refl _ _ _)) (Gl.drop (List.nil_sublist _))))) ?_
      (refine a_neq ?_)
      refine a_cnd (fun q2 => ?_) (fun q2 => ?_)
      · (refine a_bld [.i 0, .nil] rfl rfl ?_; refine a_stA 1 rfl rfl rfl rfl ?_; (apply a_ldA 1; exact rfl; exact rfl))
        rw [if_pos (allB_false hlt (by unfold oneB; exact decide_eq_false q2))]
        exact ge_world0
      · (refine a_add (by first | omega | assumption | decide) (by first | omega | assumption | decide) ?_)
        refine hK (i + 1) _ _ ⟨by omega, ?_⟩ (by omega) (by first | exact Gl.refl _ _ | exact Gl.drop (by repeat (first | exact List.Sublist.refl _ | exact List.Sublist.slnil | apply List.Sublist.cons_cons | apply List.Sublist.cons)))
        rw [allB_snoc, hall, Bool.true_and]
        unfold oneB
        exact decide_eq_true (by omega)
    · rw [show i = p.nodes.length by omega] at hall
      clear hK
      rw [if_neg (by rw [hall]; simp)]
      have hA := c50 hp l (by omega) hnn (fun r hr => c53 r)
      have hlen65 := nodesR_len (c := 65) (by omega) hnn p.reg (Nat.le_refl _)
      ((apply a_ldA 1; exact rfl; exact rfl); refine a_call0 hA ?_; refine a_bld [.i (capS 65 l (fun _ => true) p.reg), .nil] rfl rfl ?_; refine a_bx fun z3 => ?_; refine a_stA 0 rfl rfl rfl rfl ?_; refine a_fld ?_; (apply a_ld1 0; exact rfl; exact rfl); refine a_eql ?_)
      refine a_cnd (fun q2 => ?_) (fun q2 => ?_)
      · (refine a_bld [.i 0, .nil] rfl rfl ?_; refine a_stA 1 rfl rfl rfl rfl ?_; (apply a_ldA 1; exact rfl; exact rfl))
        rw [if_pos q2]
        exact ge_world0
      rw [if_neg q2]
      (refine a_fld ?_; (apply a_ld1 0; exact rfl; exact rfl); refine a_eql ?_)
      refine a_cnd (fun q3 => ?_) (fun q3 => ?_)
      · (refine a_bld [.i 0, .nil] rfl rfl ?_; refine a_stA 1 rfl rfl rfl rfl ?_; (apply a_ldA 1; exact rfl; exact rfl))
        rw [if_pos q3]
        exact ge_world0
      rw [if_neg q3]
      obtain ⟨hc1, hc2⟩ : ((nodesR l p.reg).length : Int) < 65 ∧ capS 65 l (fun _ => true) p.reg = (nodesR l p.reg).length := by omega
      rw [hc2]
      have hne : nodesR l p.reg ≠ [] := fun h => by rw [h] at hc2; simp only [List.length_nil] at hc2; omega
      clear hA q2 q3 hlen65
      ((apply a_ldA 2; exact rfl; exact rfl); refine a_call0 hR ?_)
      refine a_lp (σ := Nat × Nat × Nat) (fun x => [gv x.2.1 x.2.2 (nodesR l x.1), .i x.1]) (fun x => [⟨z3, [.i ((nodesR l p.reg).length : Int), .nil], .box⟩, ⟨z2, [.i 0, .nil], .box⟩, ⟨z1, p.cs, .box⟩] ++ gb n1 3 1 x.2.1 x.2.2 (nodesR l x.1) ++ []) (fun x => x.1 ≤ p.reg) (fun x => p.reg - x.1) (0, 0, 0) (by first | exact Gl.refl _ _ | exact Gl.drop (by repeat (first | exact List.Sublist.refl _ | exact List.Sublist.slnil | apply List.Sublist.cons_cons | apply List.Sublist.cons))) (Nat.zero_le _) ?_
      rintro ⟨j, b, c⟩ K hj hK
      dsimp only at hj hK ⊢
      dsimp only [aix0, aix1, aix2, aix3, aix4, aix5, aix6, aix7, aix8]
      refine a_lss ?_
      refine a_cnd (fun q2 => ?_) (fun q2 => ?_)
      · have hlt : j < p.reg := by omega
        have hjl : j < l.length := by omega
        have hK1 := fun b' c' => hK (j + 1, b', c')
        clear hK
        simp only [nodesR] at hK1
        have hmono := nodesR_mono l (show j + 1 ≤ p.reg by omega)
        rw [nodesR, List.length_append, List.length_replicate] at hmono
        have hrep := c54 (j : Int) (n := (l.getD j 0).toNat) (by omega)
        have h0 := hnn j hlt
        have e0 : (((l.getD j 0).toNat : Nat) : Int) = l[j] := by
          rw [Int.toNat_of_nonneg h0, List.getD_eq_getElem?_getD, List.getElem?_eq_getElem hjl, Option.getD_some]
        rw [e0] at hrep
        generalize nodesR l j = m at *
        refine a_bldS [[.i (j : Int)]] rfl rfl ?_
        refine a_idxM (f := n1) j hjl ?_
        (refine a_call0 hrep ?_)
        refine a_appMany (cs := n1) (bytes := 8) (l := m) (r := List.replicate (l.getD j 0).toNat (j : Int)) (M := [⟨z3, [.i ((nodesR l p.reg).length : Int), .nil], .box⟩, ⟨z2, [.i 0, .nil], .box⟩, ⟨z1, p.cs, .box⟩]) (N := []) n1_len (fun _ => rfl) (by rw [List.length_replicate]; omega) rfl (fun h1 h2 b' c' => ?_) (fun h1 b' c' => ?_)
        · (refine a_add (by first | omega | assumption | decide) (by first | omega | assumption | decide) ?_)
          refine hK1 b' c' _ _ (by omega) (by omega) ?_
          subst h1
          rw [List.nil_append]
          generalize List.replicate (l.getD j 0).toNat (j : Int) = r at h2 ⊢
          cases r with
          | nil => exact absurd rfl h2
          | cons x r => exact Gl.perm perm_slot
        · (refine a_add (by first | omega | assumption | decide) (by first | omega | assumption | decide) ?_)
          exact hK1 b' c' _ _ (by omega) (by omega) (by first | exact Gl.refl _ _ | exact Gl.drop (by repeat (first | exact List.Sublist.refl _ | exact List.Sublist.slnil | apply List.Sublist.cons_cons | apply List.Sublist.cons)))
      · rw [show j = p.reg by omega]
        clear hK
        obtain ⟨hg1, hg2⟩ := gv_own (cs := n1) (sz := 1) (e := 3) (b := b) (c := c) hne
        rw [hg1, hg2]
        have hrng := nodesR_rng l p.reg
        generalize nodesR l p.reg = nl at *
        have hgetn : ∀ k (hk : k < nl.length), ((nl[k].toNat : Nat) : Int) = nl[k] ∧ nl[k].toNat ≤ 63 := fun k hk => by
          have := hrng _ (List.getElem_mem hk); omega
        (refine a_fld ?_; (apply a_ld1 2; exact rfl; exact rfl); refine a_lenM ?_)
        refine a_lp (σ := Nat × Nat × Nat) (fun x => [.i x.1]) (fun x => [⟨z3, [.i (nl.length : Int), gv x.2.1 x.2.2 (setV p nl 0 (p.sets.take x.1))], .box⟩, ⟨z2, [.i 0, .nil], .box⟩, ⟨z1, p.cs, .box⟩, ⟨b, (nD nl).flatten, .row 3 1 c⟩] ++ gb Nv.cs 64 5 x.2.1 x.2.2 (setV p nl 0 (p.sets.take x.1)) ++ []) (fun x => x.1 ≤ p.sets.length) (fun x => p.sets.length - x.1) (0, 0, 0) (by first | exact Gl.refl _ _ | exact Gl.drop (by repeat (first | exact List.Sublist.refl _ | exact List.Sublist.slnil | apply List.Sublist.cons_cons | apply List.Sublist.cons))) (Nat.zero_le _) ?_
        rintro ⟨i, b1, c1⟩ K hi hK
        dsimp only at hi hK ⊢
        dsimp only [aix0, aix1, aix2, aix3, aix4, aix5, aix6, aix7, aix8]
        refine a_lss ?_
        refine a_cnd (fun q => ?_) (fun q => ?_)
        · have hlt : i < p.sets.length := by omega
          have hK1 := fun b' c' => hK (i + 1, b', c')
          clear hK
          simp only [List.take_succ_eq_append_getElem hlt, setV_snoc] at hK1
          rw [List.length_take, Nat.min_eq_left (by omega : i ≤ p.sets.length), Nat.zero_add] at hK1
          have hvl : (setV p nl 0 (p.sets.take i)).length ≤ 64 := by rw [setV_len, List.length_take]; omega
          generalize setV p nl 0 (p.sets.take i) = vs at *
          refine a_idxM (f := s1) i hlt ?_
          ((apply a_ld1p; exact rfl); refine a_bld [.i 2, .i 0, .b false, .nil] rfl rfl ?_; refine a_bx fun z4 => ?_; refine a_stA 0 rfl rfl rfl rfl ?_; refine a_lenO ?_)
          refine a_lp (σ := Nat × Nat × Nat) (fun x => [.i x.1]) (fun x => [⟨z4, [.i 2, .i 0, .b false, gv x.2.1 x.2.2 ((nl.take x.1).map fun y => inB y.toNat i)], .box⟩, ⟨z3, [.i (nl.length : Int), gv b1 c1 vs], .box⟩, ⟨z2, [.i 0, .nil], .box⟩, ⟨z1, p.cs, .box⟩, ⟨b, (nD nl).flatten, .row 3 1 c⟩] ++ gb Nv.cs 64 5 b1 c1 vs ++ gb bc 4 1 x.2.1 x.2.2 ((nl.take x.1).map fun y => inB y.toNat i) ++ []) (fun x => x.1 ≤ nl.length) (fun x => nl.length - x.1) (0, 0, 0) (Gl.drop (by simp [gb, gv])) (Nat.zero_le _) ?_
          rintro ⟨k, b2, c2⟩ K2 hk hK2
          dsimp only at hk hK2 ⊢
          dsimp only [aix0, aix1, aix2, aix3, aix4, aix5, aix6, aix7, aix8]
          refine a_lss ?_
          refine a_cnd (fun q5 => ?_) (fun q5 => ?_)
          · have hkl : k < nl.length := by omega
            have hK3 := fun b' c' => hK2 (k + 1, b', c')
            clear hK2 hK1
            simp only [List.take_succ_eq_append_getElem hkl, List.map_append, List.map_cons, List.map_nil] at hK3
            have hS : ((nl.take k).map fun y => inB y.toNat i).length ≤ 64 := by rw [List.length_map, List.length_take]; omega
            generalize ((nl.take k).map fun y => inB y.toNat i) = S at *
            obtain ⟨ge, g63⟩ := hgetn k hkl
            refine a_idxO (j := (k : Int)) (by omega) (by omega) ?_
            rw [Int.toNat_natCast]
            refine a_ldNo 4 k rfl hkl ?_
            rw [← ge]
            (refine a_fld ?_; (apply a_ld1 0; exact rfl; exact rfl); refine a_callS0 (c52 (by first | omega | assumption | decide) (by first | omega | assumption | decide)) ?_; (apply a_bldF _; exact rfl; (try dsimp only [afill, aparts, cl, chunk, List.take, List.drop, List.nil_append, List.cons_append, List.append_nil, List.length_cons, List.length_nil, Nat.zero_add, Nat.reduceAdd, Nat.reduceMul]); try exact rfl))
            refine a_appMid (bytes := 1) (l := S) (x := inB nl[k].toNat i) (M := [⟨z4, [.i 2, .i 0, .b false, gv b2 c2 S], .box⟩, ⟨z3, [.i (nl.length : Int), gv b1 c1 vs], .box⟩, ⟨z2, [.i 0, .nil], .box⟩, ⟨z1, p.cs, .box⟩, ⟨b, (nD nl).flatten, .row 3 1 c⟩] ++ gb Nv.cs 64 5 b1 c1 vs) (N := []) bc_len (fun _ => rfl) (by decide) (by omega) rfl (fun h1 b' c' => ?_) (fun h1 b' c' => ?_)
            · subst h1
              (refine a_fld ?_; (apply a_st 1 _; exact rfl; exact rfl; exact rfl; exact rfl; (try dsimp only [afill, aparts, cl, chunk, List.take, List.drop, List.nil_append, List.cons_append, List.append_nil, List.length_cons, List.length_nil, Nat.zero_add, Nat.reduceAdd, Nat.reduceMul]); try exact rfl); refine a_add (by first | omega | assumption | decide) (by first | omega | assumption | decide) ?_)
              refine hK3 b' c' _ _ (by omega) (by omega) ?_
              exact Gl.perm (perm_slot (A := ([⟨z4, [.i 2, .i 0, .b false, gv b' c' [inB nl[k].toNat i]], .box⟩, ⟨z3, [.i (nl.length : Int), gv b1 c1 vs], .box⟩, ⟨z2, [.i 0, .nil], .box⟩, ⟨z1, p.cs, .box⟩, ⟨b, (nD nl).flatten, .row 3 1 c⟩] : List Bx) ++ gb Nv.cs 64 5 b1 c1 vs) (B := []) (x := ⟨b', ([inB nl[k].toNat i].map bc).flatten, .row 4 1 c'⟩))
            · (refine a_fld ?_)
              refine V.a_st 0 [.i 2, .i 0, .b false, gv b' c' (S ++ [inB nl[k].toNat i])] rfl (by rw [gv_cl]; rfl) (by rw [gv_cl]; exact gv_one _) rfl (by rw [gv_cl]; rfl) ?_
              (refine a_add (by first | omega | assumption | decide) (by first | omega | assumption | decide) ?_)
              exact hK3 b' c' _ _ (by omega) (by omega) (by first | exact Gl.refl _ _ | exact Gl.drop (by repeat (first | exact List.Sublist.refl _ | exact List.Sublist.slnil | apply List.Sublist.cons_cons | apply List.Sublist.cons)))
          · rw [show k = nl.length by omega, List.take_length]
            clear hK2
            ((apply a_ldA 0; exact rfl; exact rfl))
            refine a_callg (args' := [.s p.sets[i], (Vl.mk 2 0 false (nl.map fun y => inB y.toNat i)).d, .p z3 0]) (L' := [⟨z3, [.i (nl.length : Int), gv b1 c1 vs], .box⟩, ⟨z2, [.i 0, .nil], .box⟩, ⟨z1, p.cs, .box⟩, ⟨b, (nD nl).flatten, .row 3 1 c⟩] ++ gb Nv.cs 64 5 b1 c1 vs) ?_ ?_
            · refine Gl.trans (Gl.drop (List.sublist_cons_self _ _)) (Gl.trans (Gl.perm (L' := gb bc 4 1 b2 c2 (nl.map fun y => inB y.toNat i) ++ ([⟨z3, [.i (nl.length : Int), gv b1 c1 vs], .box⟩, ⟨z2, [.i 0, .nil], .box⟩, ⟨z1, p.cs, .box⟩, ⟨b, (nD nl).flatten, .row 3 1 c⟩] ++ gb Nv.cs 64 5 b1 c1 vs)) ?_) (gl_gvG bc_len ?_))
              · show List.Perm (([⟨z3, [.i (nl.length : Int), gv b1 c1 vs], .box⟩, ⟨z2, [.i 0, .nil], .box⟩, ⟨z1, p.cs, .box⟩, ⟨b, (nD nl).flatten, .row 3 1 c⟩] ++ gb Nv.cs 64 5 b1 c1 vs) ++ gb bc 4 1 b2 c2 (nl.map fun y => inB y.toNat i) ++ []) _
                rw [List.append_nil]
                exact List.perm_append_comm
              · exact .cons (.refl _) (.cons (.agg (.cons (.refl _) (.cons (.refl _) (.cons (.refl _) (.cons .hit .nil))))) (.cons (.refl _) .nil))
            · refine a_callF (L1 := ⟨z3, [.i (nl.length : Int), gv b1 c1 vs], .box⟩ :: gb Nv.cs 64 5 b1 c1 vs) (M := [⟨z2, [.i 0, .nil], .box⟩, ⟨z1, p.cs, .box⟩, ⟨b, (nD nl).flatten, .row 3 1 c⟩]) (List.Perm.cons _ List.perm_append_comm) (c55 p.sets[i] _ (by omega)) ?_
              rintro _ _ ⟨b3, c3, rfl, rfl⟩
              simp only [AE.on]
              (refine a_add (by first | omega | assumption | decide) (by first | omega | assumption | decide) ?_)
              refine hK1 b3 c3 _ _ (by omega) (by omega) ?_
              rw [List.append_nil]
              exact Gl.perm (List.Perm.cons _ List.perm_append_comm)
        · rw [show i = p.sets.length by omega, List.take_length]
          clear hK
          have hv0 : (setV p nl 0 p.sets).length ≤ 64 := by rw [setV_len]; omega
          generalize setV p nl 0 p.sets = v0 at *
          (refine a_fld ?_; (apply a_ld1 2; exact rfl; exact rfl); refine a_lenM ?_)
          refine a_lp (σ := Nat × Nat × Nat) (fun x => [.i x.1]) (fun x => [⟨z3, [.i (nl.length : Int), gv x.2.1 x.2.2 (v0 ++ nodeV p nl 0 (p.nodes.take x.1))], .box⟩, ⟨z2, [.i 0, .nil], .box⟩, ⟨z1, p.cs, .box⟩, ⟨b, (nD nl).flatten, .row 3 1 c⟩] ++ gb Nv.cs 64 5 x.2.1 x.2.2 (v0 ++ nodeV p nl 0 (p.nodes.take x.1)) ++ []) (fun x => x.1 ≤ p.nodes.length) (fun x => p.nodes.length - x.1) (0, b1, c1) (Gl.drop (by simp [nodeV])) (Nat.zero_le _) ?_
          rintro ⟨i, b1, c1⟩ K hi hK
          dsimp only at hi hK ⊢
          dsimp only [aix0, aix1, aix2, aix3, aix4, aix5, aix6, aix7, aix8]
          refine a_lss ?_
          refine a_cnd (fun q => ?_) (fun q => ?_)
          · have hlt : i < p.nodes.length := by omega
            have hK1 := fun b' c' => hK (i + 1, b', c')
            clear hK
            have hnt : (p.nodes.take i).length = i := by rw [List.length_take]; omega
            simp only [List.take_succ_eq_append_getElem hlt, nodeV_snoc, hnt, ← List.append_assoc] at hK1
            rw [Nat.zero_add] at hK1
            have hvl : (v0 ++ nodeV p nl 0 (p.nodes.take i)).length ≤ 128 := by
              have := nodeV_len p nl (p.nodes.take i) 0
              rw [List.length_append, this, hnt]; omega
            generalize v0 ++ nodeV p nl 0 (p.nodes.take i) = vs at *
            have hI := c56 (g := 57) (caps := [.pin p.cs, .pin [.i i]]) (f := fun x => inB x.toNat (p.sets.length + i)) nl (by omega) (fun x hx => by
              have hx2 := hrng x hx
              have := c57 hp hlt (show x.toNat ≤ 63 by omega)
              rwa [Int.toNat_of_nonneg hx2.1] at this)
            refine a_idxM (f := s1) i hlt ?_
            ((apply a_ld1p; exact rfl); refine a_bx fun z4 => ?_; (apply a_st 0 _; exact rfl; exact rfl; exact rfl; exact rfl; (try dsimp only [afill, aparts, cl, chunk, List.take, List.drop, List.nil_append, List.cons_append, List.append_nil, List.length_cons, List.length_nil, Nat.zero_add, Nat.reduceAdd, Nat.reduceMul]); try exact rfl))
            refine a_callR (AFn.lend hI rfl (Gl.trans (Gl.fzP (ds' := [.sl b 0 nl.length c, .fn 57 [] [.p z1 0, .pin [.i i]]]) 0 rfl (.cons (.refl _) (.cons (.fn .nil (.cons (.refl _) (.cons .hit .nil))) .nil)) (WkB.refl _ _ _)) (Gl.trans (Gl.fzP (ds' := [.sl b 0 nl.length c, .fn 57 [] [.pin p.cs, .pin [.i i]]]) 2 rfl (.cons (.refl _) (.cons (.fn .nil (.cons .hit (.cons (.refl _) .nil))) .nil)) (WkB.refl _ _ _)) (Gl.trans (gl_fzN n1_len nl 2 rfl rfl (.cons .hit (.cons (.refl _) .nil)) (WkB.refl _ _ _)) (Gl.drop (List.nil_sublist _)))))) ?_
            (refine a_bldV0 rfl rfl ?_)
            refine a_callF (L1 := ⟨z3, [.i (nl.length : Int), gv b1 c1 vs], .box⟩ :: gb Nv.cs 64 5 b1 c1 vs) (M := [⟨z4, [.i i], .box⟩, ⟨z2, [.i 0, .nil], .box⟩, ⟨z1, p.cs, .box⟩, ⟨b, (nD nl).flatten, .row 3 1 c⟩]) ?_ (c55 p.nodes[i] _ (by omega)) ?_
            · have e := List.append_nil (([⟨z4, [.i i], .box⟩, ⟨z3, [.i (nl.length : Int), gv b1 c1 vs], .box⟩, ⟨z2, [.i 0, .nil], .box⟩, ⟨z1, p.cs, .box⟩, ⟨b, (nD nl).flatten, .row 3 1 c⟩] : List Bx) ++ gb Nv.cs 64 5 b1 c1 vs)
              refine (List.Perm.of_eq e).trans ?_
              exact (List.Perm.swap _ _ _).trans (List.Perm.cons _ (List.perm_append_comm (l₁ := ([⟨z4, [.i i], .box⟩, ⟨z2, [.i 0, .nil], .box⟩, ⟨z1, p.cs, .box⟩, ⟨b, (nD nl).flatten, .row 3 1 c⟩] : List Bx)) (l₂ := gb Nv.cs 64 5 b1 c1 vs)))
            rintro _ _ ⟨b3, c3, rfl, rfl⟩
            simp only [AE.on]
            (refine a_add (by first | omega | assumption | decide) (by first | omega | assumption | decide) ?_)
            refine hK1 b3 c3 _ _ (by omega) (by omega) ?_
            rw [List.append_nil]
            exact Gl.trans (Gl.perm (L' := ⟨z4, [.i i], .box⟩ :: _) (List.perm_middle (l₁ := _ :: _))) (Gl.trans (Gl.drop (List.sublist_cons_self _ _)) (Gl.perm (List.Perm.cons _ List.perm_append_comm)))
          · rw [show i = p.nodes.length by omega, List.take_length]
            clear hK
            have hv1 : (v0 ++ nodeV p nl 0 p.nodes).length ≤ 128 := by
              have := nodeV_len p nl p.nodes 0
              rw [List.length_append, this]; omega
            generalize v0 ++ nodeV p nl 0 p.nodes = v1 at *
            (refine a_fld ?_; (apply a_ld1 2; exact rfl; exact rfl); refine a_lenM ?_)
            refine a_lp (σ := Nat × Nat × Nat) (fun x => [.i x.1]) (fun x => [⟨z3, [.i (nl.length : Int), gv x.2.1 x.2.2 (v1 ++ intV p l 0 (p.ints.take x.1))], .box⟩, ⟨z2, [.i 0, .nil], .box⟩, ⟨z1, p.cs, .box⟩, ⟨b, (nD nl).flatten, .row 3 1 c⟩] ++ gb Nv.cs 64 5 x.2.1 x.2.2 (v1 ++ intV p l 0 (p.ints.take x.1)) ++ []) (fun x => x.1 ≤ p.ints.length) (fun x => p.ints.length - x.1) (0, b1, c1) (Gl.drop (by simp [intV])) (Nat.zero_le _) ?_
            rintro ⟨i, b1, c1⟩ K hi hK
            dsimp only at hi hK ⊢
            dsimp only [aix0, aix1, aix2, aix3, aix4, aix5, aix6, aix7, aix8]
            refine a_lss ?_
            refine a_cnd (fun q => ?_) (fun q => ?_)
            · have hlt : i < p.ints.length := by omega
              have hK1 := fun b' c' => hK (i + 1, b', c')
              clear hK
              have hnt : (p.ints.take i).length = i := by rw [List.length_take]; omega
              simp only [List.take_succ_eq_append_getElem hlt, intV_snoc, hnt, ← List.append_assoc] at hK1
              rw [Nat.zero_add] at hK1
              have hil2 : p.reg + i < l.length := by rw [hlen]; unfold Pl.unk; omega
              rw [List.getD_eq_getElem?_getD, List.getElem?_eq_getElem hil2, Option.getD_some] at hK1
              have hvl : (v1 ++ intV p l 0 (p.ints.take i)).length ≤ 2000000 := by
                have := intV_len p l (p.ints.take i) 0
                rw [List.length_append, this, hnt]; omega
              generalize v1 ++ intV p l 0 (p.ints.take i) = vs at *
              refine a_idxM (f := s1) i hlt ?_
              ((apply a_ld1p; exact rfl); (apply a_ldA 2; exact rfl; exact rfl); refine a_call0 hR ?_; refine a_add (by first | omega | assumption | decide) (by first | omega | assumption | decide) ?_)
              refine a_idxM (f := n1) (p.reg + i) hil2 ?_
              ((apply a_ld1p; exact rfl); refine a_bldV0 rfl rfl ?_)
              refine a_callF (L1 := ⟨z3, [.i (nl.length : Int), gv b1 c1 vs], .box⟩ :: gb Nv.cs 64 5 b1 c1 vs) (M := [⟨z2, [.i 0, .nil], .box⟩, ⟨z1, p.cs, .box⟩, ⟨b, (nD nl).flatten, .row 3 1 c⟩]) ?_ (c55 p.ints[i] _ hvl) ?_
              · have e := List.append_nil (([⟨z3, [.i (nl.length : Int), gv b1 c1 vs], .box⟩, ⟨z2, [.i 0, .nil], .box⟩, ⟨z1, p.cs, .box⟩, ⟨b, (nD nl).flatten, .row 3 1 c⟩] : List Bx) ++ gb Nv.cs 64 5 b1 c1 vs)
                refine (List.Perm.of_eq e).trans ?_
                exact List.Perm.cons _ (List.perm_append_comm (l₁ := ([⟨z2, [.i 0, .nil], .box⟩, ⟨z1, p.cs, .box⟩, ⟨b, (nD nl).flatten, .row 3 1 c⟩] : List Bx)) (l₂ := gb Nv.cs 64 5 b1 c1 vs))
              rintro _ _ ⟨b3, c3, rfl, rfl⟩
              simp only [AE.on]
              (refine a_add (by first | omega | assumption | decide) (by first | omega | assumption | decide) ?_)
              refine hK1 b3 c3 _ _ (by omega) (by omega) ?_
              rw [List.append_nil]
              exact Gl.perm (List.Perm.cons _ List.perm_append_comm)
            · rw [show i = p.ints.length by omega, List.take_length]
              clear hK
              generalize v1 ++ intV p l 0 p.ints = ns at *
              ((apply a_ldA 0; exact rfl; exact rfl))
              refine a_stA 1 rfl rfl rfl (by cases ns <;> rfl) ?_
              ((apply a_ldA 1; exact rfl; exact rfl))
              refine ⟨trivial, Gl.trans (Gl.drop (L' := gb Nv.cs 64 5 b1 c1 ns ++ []) ?_) (Gl.trans (gl_gvG (ds' := [.tuple [(Wd.mk (nl.length : Int) ns).d, .i 0]]) Nv.cs_len (.cons (.tuple (.cons (.agg (.cons (.refl _) (.cons .hit .nil))) (.cons (.refl _) .nil))) .nil)) (Gl.drop (List.nil_sublist _)))⟩
              exact .cons _ (.cons _ (.cons _ (.cons _ (List.Sublist.refl _))))
  · refine a_lenL ?_
    rw [hlenD]
    ((apply a_ldA 1; exact rfl; exact rfl); refine a_call0 hU ?_; refine a_neq ?_)
    refine a_cnd (fun q => ?_) (fun q => ?_)
    · (refine a_bld [.i 0, .nil] rfl rfl ?_; refine a_stA 0 rfl rfl rfl rfl ?_; (apply a_ldA 0; exact rfl; exact rfl))
      unfold WorldF
      rw [if_pos (.inl (by omega))]
      exact ge_world0
    · have hlen : l.length = p.unk := by omega
      ((apply a_ldA 1; exact rfl; exact rfl); refine a_call0 hR ?_)
      refine a_slcMn p.reg (by omega) ?_
      have hm := c49 (l.take p.reg) (by
        intro h
        have := congrArg List.length h
        rw [List.length_take, List.length_nil] at this
        omega) (by rw [List.length_take]; omega)
      refine a_call0 hm ?_
      (refine a_lss ?_)
      refine a_cnd (fun q2 => ?_) (fun q2 => ?_)
      · (refine a_bld [.i 0, .nil] rfl rfl ?_; refine a_stA 0 rfl rfl rfl rfl ?_; (apply a_ldA 0; exact rfl; exact rfl))
        unfold WorldF
        rw [if_pos (.inr q2)]
        exact ge_world0
      · exact hJ () _ _ ⟨hlen, q2⟩ (by first | exact Gl.refl _ _ | exact Gl.drop (by repeat (first | exact List.Sublist.refl _ | exact List.Sublist.slnil | apply List.Sublist.cons_cons | apply List.Sublist.cons)))
end Go.Proofs.YtokpeggkofjclaaGreatDoor
