/- The document's answer for layer 13: a world of unknowns. -/
import Derived.Test.YtokpeggkofjclaaGreatDoorC55
import Derived.Test.YtokpeggkofjclaaGreatDoorW18
set_option maxRecDepth 100000
set_option linter.unusedVariables false
namespace Go.V
open Go
theorem capS_sumB {c : Int} (hc : 0 ≤ c) {l : List Int} (f : Nat → Bool) {m : Nat} (h : ∀ i, i < m → 0 ≤ l.getD i 0) : ∀ n, n ≤ m → 0 ≤ sumN (fun i => if f i then l.getD i 0 else 0) n ∧ capS c l f n = min c (sumN (fun i => if f i then l.getD i 0 else 0) n)
  | 0, _ => by
    refine ⟨Int.le_refl _, ?_⟩
    rw [capS]; show (0 : Int) = min c 0; omega
  | n + 1, hn => by
    obtain ⟨h1, h2⟩ := capS_sumB hc f h n (by omega)
    have h0 := h n (by omega)
    rw [capS, sumN, h2]
    cases hf : f n
    · simp only [Bool.false_eq_true, if_false]; omega
    · simp only [if_true]; omega
theorem nodes_cntB {l : List Int} {m : Nat} (h : ∀ i, i < m → 0 ≤ l.getD i 0) (f : Nat → Bool) : ∀ n, n ≤ m → cntF ((nodesR l n).map fun x => f x.toNat) = sumN (fun i => if f i then l.getD i 0 else 0) n
  | 0, _ => rfl
  | n + 1, hn => by
    have h0 := h n (by omega)
    rw [nodesR, List.map_append, cntF_app, nodes_cntB h f n (by omega), sumN, List.map_replicate, cnt_rep, Int.toNat_natCast, Int.toNat_of_nonneg h0]
def lastI (f : Int → Bool) : List Int → Nat → Int → Int
  | [], _, a => a
  | y :: r, i, a => lastI f r (i + 1) (if f y then (i : Int) else a)
theorem lastI_none {f : Int → Bool} : ∀ (l : List Int) (i : Nat) (a : Int), cntF (l.map f) = 0 → lastI f l i a = a
  | [], _, _, _ => rfl
  | y :: r, i, a, h => by
    rw [List.map_cons, cntF] at h
    have := cntF_nn (r.map f)
    cases hf : f y with
    | true => rw [hf, if_pos rfl] at h; omega
    | false =>
      rw [hf, if_neg (by decide)] at h
      rw [lastI, hf, if_neg (by decide)]
      exact lastI_none r (i + 1) a (by omega)
theorem lastI_one {f : Int → Bool} : ∀ (l : List Int) (i : Nat) (a : Int), cntF (l.map f) = 1 → lastI f l i a = idxI f l i
  | [], _, _, h => by simp [cntF] at h
  | y :: r, i, a, h => by
    rw [List.map_cons, cntF] at h
    rw [lastI, idxI]
    cases hf : f y with
    | true =>
      rw [hf, if_pos rfl] at h
      rw [if_pos rfl, if_pos rfl]
      exact lastI_none r (i + 1) _ (by omega)
    | false =>
      rw [hf, if_neg (by decide)] at h
      rw [if_neg (by decide), if_neg (by decide)]
      exact lastI_one r (i + 1) a (by omega)
section
variable {α : Type} {cs : α → List D} {sz e b c bytes : Nat} {kl : D → List Bx → Prop}
theorem gvS (l : List α) (x : α) : gv b c (l ++ [x]) = .sl b 0 (l.length + 1) c := by
  cases l with
  | nil => rfl
  | cons y l => show D.sl b 0 ((l ++ [x]).length + 1) c = _; rw [List.length_append]; rfl
theorem gbS (l : List α) (x : α) : gb cs e sz b c (l ++ [x]) = [⟨b, (l.map cs).flatten ++ cs x, .row e sz c⟩] := by
  rw [← flat_snoc]
  cases l <;> rfl
/-- one more, whatever it holds -/
theorem a_appY {L0 M N : List Bx} {l : List α} {ys : List D} (hsz : ∀ x, (cs x).length = sz) (hy : ys.length = sz) (ho : ys.all D.one = true) (hb : (l.length + 1) * bytes ≤ 140737488355328)
    (hL : L0 = M ++ gb cs e sz b c l ++ N) (h0 : l = [] → ∀ b' c', kl (.sl b' 0 (l.length + 1) c') (⟨b', (l.map cs).flatten ++ ys, .row e sz c'⟩ :: (M ++ N)))
    (h2 : l ≠ [] → ∀ b' c', kl (.sl b' 0 (l.length + 1) c') (M ++ [⟨b', (l.map cs).flatten ++ ys, .row e sz c'⟩] ++ N)) : aapp e sz bytes (gv b c l) (.row sz [ys]) L0 kl := by
  subst hL
  cases l with
  | nil =>
    show aapp e sz bytes .nil _ (M ++ [] ++ N) kl
    rw [List.append_nil]
    exact a_app0 1 ys ⟨rfl, rfl, by simp⟩ ho (by simpa using hb) (by decide) (fun b' c' => h0 rfl b' c')
  | cons z l =>
    have ei : (M ++ gb cs e sz b c (z :: l) ++ N)[M.length]? = some ⟨b, ((z :: l).map cs).flatten, .row e sz c⟩ := by
      rw [List.append_assoc, List.getElem?_append_right (Nat.le_refl _), Nat.sub_self]; rfl
    refine V.a_app M.length _ 1 ys ei (by rw [flat_len hsz]; rfl) ⟨rfl, rfl, by simp⟩ ho (by simpa using hb) fun b' c' => ?_
    have := h2 (by simp) b' c'
    have es : (M ++ gb cs e sz b c (z :: l) ++ N).set M.length ⟨b', ((z :: l).map cs).flatten ++ ys, .row e sz c'⟩ = M ++ [⟨b', ((z :: l).map cs).flatten ++ ys, .row e sz c'⟩] ++ N := by
      rw [List.append_assoc, List.append_assoc, List.set_append_right _ _ (Nat.le_refl _), Nat.sub_self]; rfl
    rw [es]; exact this
end
theorem nD_flat (l : List Int) : (nD l).flatten = l.map D.i := flat_n1 l
theorem nD_snoc (l : List Int) (x : Int) : (nD (l ++ [x])).flatten = (nD l).flatten ++ [.i x] := by
  rw [nD_flat, nD_flat, List.map_append]; rfl
end Go.V
namespace Go.Proofs.YtokpeggkofjclaaGreatDoor
open Go Go.V
theorem c18 {p : Pl} (hp : p.Ok) (h6 : p.circ ≤ 6) (l : List Int) : AFn pr 18 [p.d, .row 1 (nD l)] [] (.ret (.tuple [(WorldF p l).1.d, .i (WorldF p l).2])) := by
  refine AFn.ofGe (s18 ?_)
  unfold A18
  have hcirc := hp.circ
  have hreg := p.reg_pos
  have hunk := unk_le hp
  have hru := reg_unk p
  have hcc : p.sets.length + p.nodes.length = p.circ := rfl
  have hil := hp.ints
  have hR := c20 h6
  have hU := c22 h6 hp.ints
  have hlenD : (nD l).length = l.length := by unfold nD; rw [List.length_map]
  refine a_bxv fun z1 => ?_
  refine a_bx fun z2 => ?_
  refine a_lenL ?_
  rw [hlenD]
  ((apply a_ldA 1; exact rfl; exact rfl); refine a_call0 hU ?_; refine a_neq ?_)
  refine a_cnd (fun q => ?_) (fun q => ?_)
  · (refine V.a_bld [.i 0, .nil] rfl rfl ?_; refine a_stA 0 rfl rfl rfl rfl ?_; (apply a_ldA 0; exact rfl; exact rfl))
    unfold WorldF
    rw [if_pos (.inl (by omega))]
    exact ge_world0
  have hlen : l.length = p.unk := by omega
  refine a_lp (σ := Nat) (fun i => [.i (capS 1000 l (fun _ => true) i), .i i]) (fun _ => [⟨z2, [.i 0, .nil], .box⟩, ⟨z1, p.cs, .box⟩]) (fun i => i ≤ p.reg ∧ ∀ j, j < i → 0 ≤ l.getD j 0) (fun i => p.reg - i) 0 (by first | exact Gl.refl _ _ | exact Gl.drop (by repeat (first | exact List.Sublist.refl _ | exact List.Sublist.slnil | apply List.Sublist.cons_cons | apply List.Sublist.cons))) ⟨Nat.zero_le _, fun j hj => by omega⟩ ?_
  rintro i K ⟨hi, hnn⟩ hK
  dsimp only [aix0, aix1, aix2, aix3, aix4, aix5, aix6, aix7, aix8]
  ((apply a_ldA 1; exact rfl; exact rfl); refine a_call0 hR ?_; refine a_lss ?_)
  refine a_cnd (fun q2 => ?_) (fun q2 => ?_)
  · have hlt : i < p.reg := by omega
    have hil2 : i < l.length := by omega
    have hg := getD_lt' (d := (0 : Int)) hil2
    have hcap := capS_rng (c := 1000) (by omega) hnn (fun _ => true) i (Nat.le_refl _)
    skip
    refine a_idxM (f := n1) i hil2 ?_
    ((apply a_ld1p; exact rfl); refine a_lss ?_)
    refine a_cnd (fun q3 => ?_) (fun q3 => ?_)
    · have q3 : l[i] < 0 := q3
      have hmin : minL (l.take p.reg) < 0 := by
        by_cases hm : minL (l.take p.reg) < 0
        · exact hm
        · exfalso
          have := minL_nn (l := l.take p.reg) (by omega) l[i] (by rw [List.mem_take_iff_getElem]; exact ⟨i, by omega, rfl⟩)
          omega
      (refine V.a_bld [.i 0, .nil] rfl rfl ?_; refine a_stA 0 rfl rfl rfl rfl ?_; (apply a_ldA 0; exact rfl; exact rfl))
      unfold WorldF
      rw [if_pos (.inr hmin)]
      exact ge_world0
    · have q3 : ¬ l[i] < 0 := q3
      have hcs : capS 1000 l (fun _ => true) (i + 1) = min (capS 1000 l (fun _ => true) i + min l[i] 1000) 1000 := by rw [capS, if_pos rfl, hg]
      have hK1 := hK (i + 1)
      rw [hcs] at hK1
      skip
      refine a_idxM (f := n1) i hil2 ?_
      ((apply a_ld1p; exact rfl); refine a_min ?_; refine a_add (by first | omega | assumption | decide) (by first | omega | assumption | decide) ?_; refine a_min ?_; refine a_add (by first | omega | assumption | decide) (by first | omega | assumption | decide) ?_)
      exact hK1 _ _ ⟨by omega, fun j hj => by
        by_cases hji : j = i
        · subst hji; rw [hg]; omega
        · exact hnn j (by omega)⟩ (by omega) (by first | exact Gl.refl _ _ | exact Gl.drop (by repeat (first | exact List.Sublist.refl _ | exact List.Sublist.slnil | apply List.Sublist.cons_cons | apply List.Sublist.cons)))
  · rw [show i = p.reg by omega] at hnn
    rw [show i = p.reg by omega]
    clear hK q2
    have hmin : ¬ minL (l.take p.reg) < 0 := by
      have := minL_of (l := l.take p.reg) fun x hx => by
        obtain ⟨j, hj, rfl⟩ := List.mem_iff_getElem.1 hx
        rw [List.getElem_take]
        rw [List.length_take] at hj
        have := hnn j (by omega)
        rw [getD_lt' (show j < l.length by omega)] at this
        exact this
      omega
    have hW : WorldF p l = if (List.range p.nodes.length).all (oneB p l) = false then (⟨0, []⟩, 1) else if capS 65 l (fun _ => true) p.reg = 0 then (⟨0, []⟩, 1) else if capS 65 l (fun _ => true) p.reg = 65 then (⟨0, []⟩, 7) else
        (⟨capS 65 l (fun _ => true) p.reg, setV p (nodesR l p.reg) 0 p.sets ++ nodeV p (nodesR l p.reg) 0 p.nodes ++ intV p l 0 p.ints⟩, 0) := by
      unfold WorldF
      rw [if_neg (by omega)]
    rw [hW]
    clear hW
    have h2 : ∀ f, capS 65 l f p.reg = min 65 (capS 1000 l f p.reg) := fun f => by
      obtain ⟨s0, s1⟩ := capS_sumB (c := 65) (by omega) f hnn p.reg (Nat.le_refl _)
      obtain ⟨_, s2⟩ := capS_sumB (c := 1000) (by omega) f hnn p.reg (Nat.le_refl _)
      omega
    refine a_lp (σ := Nat) (fun i => [.i i]) (fun _ => [⟨z2, [.i 0, .nil], .box⟩, ⟨z1, p.cs, .box⟩]) (fun i => i ≤ p.nodes.length ∧ (List.range i).all (oneB p l) = true) (fun i => p.nodes.length - i) 0 (by first | exact Gl.refl _ _ | exact Gl.drop (by repeat (first | exact List.Sublist.refl _ | exact List.Sublist.slnil | apply List.Sublist.cons_cons | apply List.Sublist.cons))) ⟨Nat.zero_le _, rfl⟩ ?_
    rintro i K ⟨hi, hall⟩ hK
    dsimp only [aix0, aix1, aix2, aix3, aix4, aix5, aix6, aix7, aix8]
    (refine a_fld ?_; (apply a_ld1 1; exact rfl; exact rfl); refine a_lenM ?_; refine a_lss ?_)
    refine a_cnd (fun q2 => ?_) (fun q2 => ?_)
    · have hlt : i < p.nodes.length := by omega
      refine a_lp (σ := Nat) (fun k => [.i (capS 1000 l (fun r => inB r (p.sets.length + i)) k), .i k]) (fun _ => [⟨z2, [.i 0, .nil], .box⟩, ⟨z1, p.cs, .box⟩]) (fun k => k ≤ p.reg) (fun k => p.reg - k) 0 (by first | exact Gl.refl _ _ | exact Gl.drop (by repeat (first | exact List.Sublist.refl _ | exact List.Sublist.slnil | apply List.Sublist.cons_cons | apply List.Sublist.cons))) (Nat.zero_le _) ?_
      rintro k K2 hk hK2
      dsimp only [aix0, aix1, aix2, aix3, aix4, aix5, aix6, aix7, aix8]
      ((apply a_ldA 1; exact rfl; exact rfl); refine a_call0 hR ?_; refine a_lss ?_)
      refine a_cnd (fun q3 => ?_) (fun q3 => ?_)
      · have hkr : k < p.reg := by omega
        have hkl : k < l.length := by omega
        have hg := getD_lt' (d := (0 : Int)) hkl
        have hcap := capS_rng (c := 1000) (by omega) hnn (fun r => inB r (p.sets.length + i)) k (by omega)
        have hin := c58 (r := k) (c := p.sets.length + i) (by omega) (by omega)
        have h0k := hnn k hkr
        have hcs : capS 1000 l (fun r => inB r (p.sets.length + i)) (k + 1) = if inB k (p.sets.length + i) then min (capS 1000 l (fun r => inB r (p.sets.length + i)) k + min l[k] 1000) 1000 else capS 1000 l (fun r => inB r (p.sets.length + i)) k := by rw [capS, hg]
        have hK3 := hK2 (k + 1)
        rw [hcs] at hK3
        (refine a_fld ?_; (apply a_ld1 1; exact rfl; exact rfl); refine a_lenM ?_; refine a_add (by first | omega | assumption | decide) (by first | omega | assumption | decide) ?_; refine a_call0 hin ?_)
        cases hb : inB k (p.sets.length + i) with
        | true =>
          rw [hb, if_pos rfl] at hK3
          (refine a_cndbT rfl ?_)
          refine a_idxM (f := n1) k hkl ?_
          ((apply a_ld1p; exact rfl); refine a_min ?_; refine a_add (by first | omega | assumption | decide) (by first | omega | assumption | decide) ?_; refine a_min ?_; refine a_add (by first | omega | assumption | decide) (by first | omega | assumption | decide) ?_)
          exact hK3 _ _ (by omega) (by omega) (by first | exact Gl.refl _ _ | exact Gl.drop (by repeat (first | exact List.Sublist.refl _ | exact List.Sublist.slnil | apply List.Sublist.cons_cons | apply List.Sublist.cons)))
        | false =>
          rw [hb, if_neg (by decide)] at hK3
          (refine a_cndbF rfl ?_; refine a_add (by first | omega | assumption | decide) (by first | omega | assumption | decide) ?_)
          exact hK3 _ _ (by omega) (by omega) (by first | exact Gl.refl _ _ | exact Gl.drop (by repeat (first | exact List.Sublist.refl _ | exact List.Sublist.slnil | apply List.Sublist.cons_cons | apply List.Sublist.cons)))
      · rw [show k = p.reg by omega]
        clear hK2
        have h2i := h2 fun r => inB r (p.sets.length + i)
        (refine a_neq ?_)
        refine a_cnd (fun q4 => ?_) (fun q4 => ?_)
        · have q4 : ¬ capS 1000 l (fun r => inB r (p.sets.length + i)) p.reg = 1 := q4
          (refine V.a_bld [.i 0, .nil] rfl rfl ?_; refine a_stA 0 rfl rfl rfl rfl ?_; (apply a_ldA 0; exact rfl; exact rfl))
          rw [if_pos (allB_false hlt (by unfold oneB; exact decide_eq_false (by omega)))]
          exact ge_world0
        · have q4 : capS 1000 l (fun r => inB r (p.sets.length + i)) p.reg = 1 := Classical.not_not.1 q4
          (refine a_add (by first | omega | assumption | decide) (by first | omega | assumption | decide) ?_)
          refine hK (i + 1) _ _ ⟨by omega, ?_⟩ (by omega) (by first | exact Gl.refl _ _ | exact Gl.drop (by repeat (first | exact List.Sublist.refl _ | exact List.Sublist.slnil | apply List.Sublist.cons_cons | apply List.Sublist.cons)))
          rw [allB_snoc, hall, Bool.true_and]
          unfold oneB
          exact decide_eq_true (by omega)
    · rw [show i = p.nodes.length by omega] at hall
      clear hK
      rw [if_neg (by rw [hall]; simp)]
      have h2t := h2 fun _ => true
      have hlen65 := nodesR_len (c := 65) (by omega) hnn p.reg (Nat.le_refl _)
      (refine a_lss ?_)
      refine a_cnd (fun q3 => ?_) (fun q3 => ?_)
      · have q3 : capS 1000 l (fun _ => true) p.reg < 1 := q3
        (refine V.a_bld [.i 0, .nil] rfl rfl ?_; refine a_stA 0 rfl rfl rfl rfl ?_; (apply a_ldA 0; exact rfl; exact rfl))
        rw [if_pos (by omega)]
        exact ge_world0
      have q3 : ¬ capS 1000 l (fun _ => true) p.reg < 1 := q3
      rw [if_neg (by omega)]
      (refine a_gtr ?_)
      refine a_cnd (fun q4 => ?_) (fun q4 => ?_)
      · have q4 : capS 1000 l (fun _ => true) p.reg > 64 := q4
        (refine V.a_bld [.i 0, .nil] rfl rfl ?_; refine a_stA 0 rfl rfl rfl rfl ?_; (apply a_ldA 0; exact rfl; exact rfl))
        rw [if_pos (by omega)]
        exact ge_world0
      have q4 : ¬ capS 1000 l (fun _ => true) p.reg > 64 := q4
      rw [if_neg (by omega)]
      obtain ⟨hc1, hc2⟩ : ((nodesR l p.reg).length : Int) < 65 ∧ capS 65 l (fun _ => true) p.reg = (nodesR l p.reg).length := by omega
      rw [hc2]
      rw [show capS 1000 l (fun _ => true) p.reg = (nodesR l p.reg).length by omega]
      have hne : nodesR l p.reg ≠ [] := fun h => by rw [h] at hc2; simp only [List.length_nil] at hc2; omega
      have hone : ∀ j, j < p.nodes.length → cntF ((nodesR l p.reg).map fun x => inB x.toNat (p.sets.length + j)) = 1 := fun j hj => by
        have h1 := List.all_eq_true.1 hall j (List.mem_range.2 hj)
        unfold oneB at h1
        have h1 := of_decide_eq_true h1
        obtain ⟨s0, s1⟩ := capS_sumB (c := 65) (by omega) (fun r => inB r (p.sets.length + j)) hnn p.reg (Nat.le_refl _)
        have h3 := nodes_cntB hnn (fun r => inB r (p.sets.length + j)) p.reg (Nat.le_refl _)
        rw [h3]
        omega
      clear q3 q4 hlen65 h2t h2 hc2
      refine V.a_bld [.i ((nodesR l p.reg).length : Int), .nil] rfl rfl ?_
      refine a_bx fun z3 => ?_
      refine a_stA 0 rfl rfl rfl rfl ?_
      refine V.a_bldO [] rfl rfl fun z4 => ?_
      refine a_lp (σ := Nat × Nat × Nat) (fun x => [.sl x.2.1 0 (nodesR l x.1).length x.2.2, .i x.1]) (fun x => [⟨x.2.1, (nD (nodesR l x.1)).flatten, .row 3 1 x.2.2⟩, ⟨z3, [.i ((nodesR l p.reg).length : Int), .nil], .box⟩, ⟨z2, [.i 0, .nil], .box⟩, ⟨z1, p.cs, .box⟩]) (fun x => x.1 ≤ p.reg) (fun x => p.reg - x.1) (0, z4, 0) (by first | exact Gl.refl _ _ | exact Gl.drop (by repeat (first | exact List.Sublist.refl _ | exact List.Sublist.slnil | apply List.Sublist.cons_cons | apply List.Sublist.cons))) (Nat.zero_le _) ?_
      rintro ⟨i, b, c⟩ K hi hK
      dsimp only at hi hK ⊢
      dsimp only [aix0, aix1, aix2, aix3, aix4, aix5, aix6, aix7, aix8]
      ((apply a_ldA 3; exact rfl; exact rfl); refine a_call0 hR ?_; refine a_lss ?_)
      refine a_cnd (fun q2 => ?_) (fun q2 => ?_)
      · have hlt : i < p.reg := by omega
        have hil2 : i < l.length := by omega
        have hg := getD_lt' (d := (0 : Int)) hil2
        have h0i := hnn i hlt
        rw [hg] at h0i
        have hmono := nodesR_mono l (show i + 1 ≤ p.reg by omega)
        have hsucc : nodesR l (i + 1) = nodesR l i ++ List.replicate l[i].toNat (i : Int) := by rw [nodesR, hg]
        have hK1 := fun b' c' => hK (i + 1, b', c')
        clear hK
        simp only [hsucc] at hK1
        rw [hsucc, List.length_append, List.length_replicate] at hmono
        refine a_lp (σ := Nat × Nat × Nat) (fun x => [.sl x.2.1 0 ((nodesR l i).length + x.1) x.2.2, .i x.1]) (fun x => [⟨x.2.1, (nD (nodesR l i ++ List.replicate x.1 (i : Int))).flatten, .row 3 1 x.2.2⟩, ⟨z3, [.i ((nodesR l p.reg).length : Int), .nil], .box⟩, ⟨z2, [.i 0, .nil], .box⟩, ⟨z1, p.cs, .box⟩]) (fun x => x.1 ≤ l[i].toNat) (fun x => l[i].toNat - x.1) (0, b, c) (by simp only [List.replicate_zero, List.append_nil, Nat.add_zero]; exact Gl.refl _ _) (Nat.zero_le _) ?_
        rintro ⟨k, b1, c1⟩ K2 hk hK2
        dsimp only at hk hK2 ⊢
        dsimp only [aix0, aix1, aix2, aix3, aix4, aix5, aix6, aix7, aix8]
        refine a_idxM (f := n1) i hil2 ?_
        ((apply a_ld1p; exact rfl); refine a_lss ?_)
        refine a_cnd (fun q3 => ?_) (fun q3 => ?_)
        · have q3 : (k : Int) < l[i] := q3
          have hK3 := fun b' c' => hK2 (k + 1, b', c')
          clear hK2
          simp only [List.replicate_succ', ← List.append_assoc, nD_snoc] at hK3
          have hnl2 : (nD (nodesR l i ++ List.replicate k (i : Int))).flatten.length = (nodesR l i).length + k := by rw [nD_flat, List.length_map, List.length_append, List.length_replicate]
          generalize (nD (nodesR l i ++ List.replicate k (i : Int))).flatten = fl at *
          ((apply a_bldS _; exact rfl; (try dsimp only [afill, aparts, cl, chunk, List.take, List.drop, List.nil_append, List.cons_append, List.append_nil, List.length_cons, List.length_nil, Nat.zero_add, Nat.reduceAdd, Nat.reduceMul]); try exact rfl))
          refine V.a_app 0 _ 1 [.i i] rfl (by omega) ⟨rfl, rfl, rfl⟩ rfl (by omega) fun b' c' => ?_
          (refine a_add (by first | omega | assumption | decide) (by first | omega | assumption | decide) ?_)
          exact hK3 b' c' _ _ (by omega) (by omega) (by first | exact Gl.refl _ _ | exact Gl.drop (by repeat (first | exact List.Sublist.refl _ | exact List.Sublist.slnil | apply List.Sublist.cons_cons | apply List.Sublist.cons)))
        · have q3 : ¬ (k : Int) < l[i] := q3
          rw [show k = l[i].toNat by omega]
          clear hK2
          (refine a_add (by first | omega | assumption | decide) (by first | omega | assumption | decide) ?_)
          refine hK1 b1 c1 _ _ (by omega) (by omega) ?_
          rw [List.length_append, List.length_replicate]
          exact Gl.refl _ _
      · rw [show i = p.reg by omega]
        clear hK
        have hrng := nodesR_rng l p.reg
        generalize nodesR l p.reg = nl at *
        have hgetn : ∀ k (hk : k < nl.length), ((nl[k].toNat : Nat) : Int) = nl[k] ∧ nl[k].toNat ≤ 63 := fun k hk => by
          have := hrng _ (List.getElem_mem hk); omega
        have hpos : 0 < nl.length := by
          cases nl with
          | nil => exact absurd rfl hne
          | cons x r => simp
        refine a_lp (σ := Nat × Nat × Nat) (fun x => [.i x.1]) (fun x => [⟨z3, [.i (nl.length : Int), gv x.2.1 x.2.2 (setV p nl 0 (p.sets.take x.1))], .box⟩, ⟨z2, [.i 0, .nil], .box⟩, ⟨z1, p.cs, .box⟩, ⟨b, (nD nl).flatten, .row 3 1 c⟩] ++ gb Nv.cs 64 5 x.2.1 x.2.2 (setV p nl 0 (p.sets.take x.1)) ++ []) (fun x => x.1 ≤ p.sets.length) (fun x => p.sets.length - x.1) (0, 0, 0) (Gl.perm ?_) (Nat.zero_le _) ?_
        · show List.Perm [_, _, _, _] [_, _, _, _]
          exact (List.Perm.swap _ _ _).trans (.cons _ ((List.Perm.swap _ _ _).trans (.cons _ (List.Perm.swap _ _ _))))
        rintro ⟨i, b1, c1⟩ K hi hK
        dsimp only at hi hK ⊢
        dsimp only [aix0, aix1, aix2, aix3, aix4, aix5, aix6, aix7, aix8]
        (refine a_fld ?_; (apply a_ld1 2; exact rfl; exact rfl); refine a_lenM ?_; refine a_lss ?_)
        refine a_cnd (fun q => ?_) (fun q => ?_)
        · have hlt : i < p.sets.length := by omega
          have hK1 := fun b' c' => hK (i + 1, b', c')
          clear hK
          simp only [List.take_succ_eq_append_getElem hlt, setV_snoc] at hK1
          rw [List.length_take, Nat.min_eq_left (by omega : i ≤ p.sets.length), Nat.zero_add] at hK1
          simp only [gvS, gbS] at hK1
          have hvl : (setV p nl 0 (p.sets.take i)).length ≤ 64 := by rw [setV_len, List.length_take]; omega
          generalize setV p nl 0 (p.sets.take i) = vs at *
          (refine a_bld [.i 2, .i 0, .b false, .nil] rfl rfl ?_; refine a_bx fun z5 => ?_; refine a_stA 0 rfl rfl rfl rfl ?_)
          refine a_lp (σ := Nat × Nat × Nat) (fun x => [.i x.1]) (fun x => [⟨z5, [.i 2, .i 0, .b false, gv x.2.1 x.2.2 ((nl.take x.1).map fun y => inB y.toNat i)], .box⟩, ⟨z3, [.i (nl.length : Int), gv b1 c1 vs], .box⟩, ⟨z2, [.i 0, .nil], .box⟩, ⟨z1, p.cs, .box⟩, ⟨b, (nD nl).flatten, .row 3 1 c⟩] ++ gb Nv.cs 64 5 b1 c1 vs ++ gb bc 4 1 x.2.1 x.2.2 ((nl.take x.1).map fun y => inB y.toNat i) ++ []) (fun x => x.1 ≤ nl.length) (fun x => nl.length - x.1) (0, 0, 0) (Gl.drop (by simp [gb, gv])) (Nat.zero_le _) ?_
          rintro ⟨k, b2, c2⟩ K2 hk hK2
          dsimp only at hk hK2 ⊢
          dsimp only [aix0, aix1, aix2, aix3, aix4, aix5, aix6, aix7, aix8]
          (refine a_lenO ?_; refine a_lss ?_)
          refine a_cnd (fun q5 => ?_) (fun q5 => ?_)
          · have hkl : k < nl.length := by omega
            have hK3 := fun b' c' => hK2 (k + 1, b', c')
            clear hK2 hK1
            simp only [List.take_succ_eq_append_getElem hkl, List.map_append, List.map_cons, List.map_nil] at hK3
            have hS : ((nl.take k).map fun y => inB y.toNat i).length ≤ 64 := by rw [List.length_map, List.length_take]; omega
            generalize ((nl.take k).map fun y => inB y.toNat i) = S at *
            obtain ⟨ge, g63⟩ := hgetn k hkl
            have hin := c58 (r := nl[k].toNat) (c := i) (by omega) (by omega)
            (refine a_fld ?_; (apply a_ld1 0; exact rfl; exact rfl))
            refine a_idxO (j := (k : Int)) (by omega) (by omega) ?_
            rw [Int.toNat_natCast]
            refine a_ldNo 4 k rfl hkl ?_
            rw [← ge]
            (refine a_callS0 hin ?_; (apply a_bldF _; exact rfl; (try dsimp only [afill, aparts, cl, chunk, List.take, List.drop, List.nil_append, List.cons_append, List.append_nil, List.length_cons, List.length_nil, Nat.zero_add, Nat.reduceAdd, Nat.reduceMul]); try exact rfl))
            refine a_appMid (bytes := 1) (l := S) (x := inB nl[k].toNat i) (M := [⟨z5, [.i 2, .i 0, .b false, gv b2 c2 S], .box⟩, ⟨z3, [.i (nl.length : Int), gv b1 c1 vs], .box⟩, ⟨z2, [.i 0, .nil], .box⟩, ⟨z1, p.cs, .box⟩, ⟨b, (nD nl).flatten, .row 3 1 c⟩] ++ gb Nv.cs 64 5 b1 c1 vs) (N := []) bc_len (fun _ => rfl) (by decide) (by omega) rfl (fun h1 b' c' => ?_) (fun h1 b' c' => ?_)
            · subst h1
              (refine a_fld ?_; (apply a_st 1 _; exact rfl; exact rfl; exact rfl; exact rfl; (try dsimp only [afill, aparts, cl, chunk, List.take, List.drop, List.nil_append, List.cons_append, List.append_nil, List.length_cons, List.length_nil, Nat.zero_add, Nat.reduceAdd, Nat.reduceMul]); try exact rfl); refine a_add (by first | omega | assumption | decide) (by first | omega | assumption | decide) ?_)
              refine hK3 b' c' _ _ (by omega) (by omega) ?_
              exact Gl.perm (perm_slot (A := ([⟨z5, [.i 2, .i 0, .b false, gv b' c' [inB nl[k].toNat i]], .box⟩, ⟨z3, [.i (nl.length : Int), gv b1 c1 vs], .box⟩, ⟨z2, [.i 0, .nil], .box⟩, ⟨z1, p.cs, .box⟩, ⟨b, (nD nl).flatten, .row 3 1 c⟩] : List Bx) ++ gb Nv.cs 64 5 b1 c1 vs) (B := []) (x := ⟨b', ([inB nl[k].toNat i].map bc).flatten, .row 4 1 c'⟩))
            · (refine a_fld ?_)
              refine V.a_st 0 [.i 2, .i 0, .b false, gv b' c' (S ++ [inB nl[k].toNat i])] rfl (by rw [gv_cl]; rfl) (by rw [gv_cl]; exact gv_one _) rfl (by rw [gv_cl]; rfl) ?_
              (refine a_add (by first | omega | assumption | decide) (by first | omega | assumption | decide) ?_)
              exact hK3 b' c' _ _ (by omega) (by omega) (by first | exact Gl.refl _ _ | exact Gl.drop (by repeat (first | exact List.Sublist.refl _ | exact List.Sublist.slnil | apply List.Sublist.cons_cons | apply List.Sublist.cons)))
          · rw [show k = nl.length by omega, List.take_length]
            clear hK2
            have hSl : (nl.map fun y => inB y.toNat i).length = nl.length := List.length_map ..
            obtain ⟨hg1, hg2⟩ := gv_own (cs := bc) (sz := 1) (e := 4) (b := b2) (c := c2) (l := nl.map fun y => inB y.toNat i) (by intro h; rw [h] at hSl; simp at hSl; omega)
            rw [hg1, hg2]
            generalize (nl.map fun y => inB y.toNat i) = S at *
            (refine a_fld ?_; (apply a_ld1 1; exact rfl; exact rfl); refine a_fld ?_; (apply a_ld1 3; exact rfl; exact rfl))
            refine a_idxM (f := s1) i hlt ?_
            ((apply a_ld1p; exact rfl); (apply a_ldA 0; exact rfl; exact rfl); (apply a_bld _; exact rfl; (try dsimp only [afill, aparts, cl, chunk, List.take, List.drop, List.nil_append, List.cons_append, List.append_nil, List.length_cons, List.length_nil, Nat.zero_add, Nat.reduceAdd, Nat.reduceMul]); try exact rfl); (apply a_bldF _; exact rfl; (try dsimp only [afill, aparts, cl, chunk, List.take, List.drop, List.nil_append, List.cons_append, List.append_nil, List.length_cons, List.length_nil, Nat.zero_add, Nat.reduceAdd, Nat.reduceMul]); try exact rfl))
            refine a_appY (cs := Nv.cs) (l := vs) (M := [⟨z5, [.i 2, .i 0, .b false, .sl b2 0 S.length c2], .box⟩, ⟨z3, [.i (nl.length : Int), gv b1 c1 vs], .box⟩, ⟨z2, [.i 0, .nil], .box⟩, ⟨z1, p.cs, .box⟩, ⟨b, (nD nl).flatten, .row 3 1 c⟩]) (N := [⟨b2, (S.map bc).flatten, .row 4 1 c2⟩]) Nv.cs_len rfl rfl (by omega) (by rw [List.append_nil]) (fun h0 b' c' => ?_) (fun h0 b' c' => ?_)
            · refine V.a_fld ?_
              refine V.a_st 2 [.i (nl.length : Int), .sl b' 0 (vs.length + 1) c'] rfl rfl rfl rfl rfl ?_
              (refine a_add (by first | omega | assumption | decide) (by first | omega | assumption | decide) ?_)
              refine hK1 b' c' _ _ (by omega) (by omega) (Gl.trans (Gl.drop (L' := [⟨b', (vs.map Nv.cs).flatten ++ [.s p.sets[i], .i 2, .i 0, .b false, .sl b2 0 S.length c2], .row 64 5 c'⟩, ⟨z3, [.i (nl.length : Int), .sl b' 0 (vs.length + 1) c'], .box⟩, ⟨z2, [.i 0, .nil], .box⟩, ⟨z1, p.cs, .box⟩, ⟨b, (nD nl).flatten, .row 3 1 c⟩, ⟨b2, (S.map bc).flatten, .row 4 1 c2⟩]) (.cons_cons _ (.cons _ (List.Sublist.refl _)))) ?_)
              refine Gl.trans (gl_fzN (L' := [⟨b', (vs.map Nv.cs).flatten ++ Nv.cs ⟨p.sets[i], ⟨2, 0, false, S⟩⟩, .row 64 5 c'⟩, ⟨z3, [.i (nl.length : Int), .sl b' 0 (vs.length + 1) c'], .box⟩, ⟨z2, [.i 0, .nil], .box⟩, ⟨z1, p.cs, .box⟩, ⟨b, (nD nl).flatten, .row 3 1 c⟩]) bc_len S 5 rfl rfl (WkL.refl _ _ _) (.cons (WkL.app (WkL.refl _ _ _) (.cons (.refl _) (.cons (.refl _) (.cons (.refl _) (.cons (.refl _) (.cons .hit .nil)))))) (WkB.refl _ _ _))) ?_
              rw [List.append_nil]
              exact Gl.perm (List.perm_append_comm (l₁ := [_]) (l₂ := [_, _, _, _]))
            · refine V.a_fld ?_
              refine V.a_st 1 [.i (nl.length : Int), .sl b' 0 (vs.length + 1) c'] rfl rfl rfl rfl rfl ?_
              (refine a_add (by first | omega | assumption | decide) (by first | omega | assumption | decide) ?_)
              refine hK1 b' c' _ _ (by omega) (by omega) (Gl.trans (Gl.drop (L' := [⟨z3, [.i (nl.length : Int), .sl b' 0 (vs.length + 1) c'], .box⟩, ⟨z2, [.i 0, .nil], .box⟩, ⟨z1, p.cs, .box⟩, ⟨b, (nD nl).flatten, .row 3 1 c⟩, ⟨b', (vs.map Nv.cs).flatten ++ [.s p.sets[i], .i 2, .i 0, .b false, .sl b2 0 S.length c2], .row 64 5 c'⟩, ⟨b2, (S.map bc).flatten, .row 4 1 c2⟩]) (.cons _ (List.Sublist.refl _))) ?_)
              exact gl_fzN bc_len S 5 rfl rfl (WkL.refl _ _ _) (.cons (WkL.refl _ _ _) (.cons (WkL.refl _ _ _) (.cons (WkL.refl _ _ _) (.cons (WkL.refl _ _ _) (.cons (WkL.app (WkL.refl _ _ _) (.cons (.refl _) (.cons (.refl _) (.cons (.refl _) (.cons (.refl _) (.cons .hit .nil)))))) .nil)))))
        · rw [show i = p.sets.length by omega, List.take_length]
          clear hK
          have hv0 : (setV p nl 0 p.sets).length ≤ 64 := by rw [setV_len]; omega
          generalize setV p nl 0 p.sets = v0 at *
          refine a_lp (σ := Nat × Nat × Nat) (fun x => [.i x.1]) (fun x => [⟨z3, [.i (nl.length : Int), gv x.2.1 x.2.2 (v0 ++ nodeV p nl 0 (p.nodes.take x.1))], .box⟩, ⟨z2, [.i 0, .nil], .box⟩, ⟨z1, p.cs, .box⟩, ⟨b, (nD nl).flatten, .row 3 1 c⟩] ++ gb Nv.cs 64 5 x.2.1 x.2.2 (v0 ++ nodeV p nl 0 (p.nodes.take x.1)) ++ []) (fun x => x.1 ≤ p.nodes.length) (fun x => p.nodes.length - x.1) (0, b1, c1) (Gl.drop (by simp [nodeV])) (Nat.zero_le _) ?_
          rintro ⟨i, b1, c1⟩ K hi hK
          dsimp only at hi hK ⊢
          dsimp only [aix0, aix1, aix2, aix3, aix4, aix5, aix6, aix7, aix8]
          (refine a_fld ?_; (apply a_ld1 2; exact rfl; exact rfl); refine a_lenM ?_; refine a_lss ?_)
          refine a_cnd (fun q => ?_) (fun q => ?_)
          · have hlt : i < p.nodes.length := by omega
            have hK1 := fun b' c' => hK (i + 1, b', c')
            clear hK
            have hnt : (p.nodes.take i).length = i := by rw [List.length_take]; omega
            simp only [List.take_succ_eq_append_getElem hlt, nodeV_snoc, hnt, ← List.append_assoc] at hK1
            rw [Nat.zero_add] at hK1
            simp only [gvS, gbS] at hK1
            have hlast := lastI_one (f := fun x => inB x.toNat (p.sets.length + i)) nl 0 0 (hone i hlt)
            rw [← hlast] at hK1
            have hvl : (v0 ++ nodeV p nl 0 (p.nodes.take i)).length ≤ 128 := by
              have := nodeV_len p nl (p.nodes.take i) 0
              rw [List.length_append, this, hnt]; omega
            generalize v0 ++ nodeV p nl 0 (p.nodes.take i) = vs at *
            generalize hX : lastI (fun x => inB x.toNat (p.sets.length + i)) nl 0 0 = X at *
            (refine a_bld [.i 3, .i 0, .b false, .nil] rfl rfl ?_; refine a_bx fun z5 => ?_; refine a_stA 0 rfl rfl rfl rfl ?_)
            refine a_lp (σ := Nat × Int) (fun x => [.i x.1]) (fun x => [⟨z5, [.i 3, .i x.2, .b false, .nil], .box⟩, ⟨z3, [.i (nl.length : Int), gv b1 c1 vs], .box⟩, ⟨z2, [.i 0, .nil], .box⟩, ⟨z1, p.cs, .box⟩, ⟨b, (nD nl).flatten, .row 3 1 c⟩] ++ gb Nv.cs 64 5 b1 c1 vs ++ []) (fun x => x.1 ≤ nl.length ∧ lastI (fun y => inB y.toNat (p.sets.length + i)) (nl.drop x.1) x.1 x.2 = X) (fun x => nl.length - x.1) (0, 0) (by first | exact Gl.refl _ _ | exact Gl.drop (by repeat (first | exact List.Sublist.refl _ | exact List.Sublist.slnil | apply List.Sublist.cons_cons | apply List.Sublist.cons))) ⟨Nat.zero_le _, hX⟩ ?_
            rintro ⟨k, x⟩ K2 ⟨hk, hx⟩ hK2
            dsimp only at hk hx hK2 ⊢
            dsimp only [aix0, aix1, aix2, aix3, aix4, aix5, aix6, aix7, aix8]
            (refine a_lenO ?_; refine a_lss ?_)
            refine a_cnd (fun q5 => ?_) (fun q5 => ?_)
            · have hkl : k < nl.length := by omega
              rw [List.drop_eq_getElem_cons hkl, lastI] at hx
              obtain ⟨ge, g63⟩ := hgetn k hkl
              have hin := c58 (r := nl[k].toNat) (c := p.sets.length + i) (by omega) (by omega)
              skip
              refine a_idxO (j := (k : Int)) (by omega) (by omega) ?_
              rw [Int.toNat_natCast]
              refine a_ldNo 4 k rfl hkl ?_
              rw [← ge]
              (refine a_fld ?_; (apply a_ld1 3; exact rfl; exact rfl); refine a_lenM ?_; refine a_add (by first | omega | assumption | decide) (by first | omega | assumption | decide) ?_; refine a_callS0 hin ?_)
              cases hb : inB nl[k].toNat (p.sets.length + i) with
              | true =>
                rw [hb, if_pos rfl] at hx
                (refine a_cndbT rfl ?_; refine a_fld ?_; (apply a_st 0 _; exact rfl; exact rfl; exact rfl; exact rfl; (try dsimp only [afill, aparts, cl, chunk, List.take, List.drop, List.nil_append, List.cons_append, List.append_nil, List.length_cons, List.length_nil, Nat.zero_add, Nat.reduceAdd, Nat.reduceMul]); try exact rfl); refine a_add (by first | omega | assumption | decide) (by first | omega | assumption | decide) ?_)
                exact hK2 (k + 1, (k : Int)) _ _ ⟨by simp only; omega, hx⟩ (by simp only; omega) (by first | exact Gl.refl _ _ | exact Gl.drop (by repeat (first | exact List.Sublist.refl _ | exact List.Sublist.slnil | apply List.Sublist.cons_cons | apply List.Sublist.cons)))
              | false =>
                rw [hb, if_neg (by decide)] at hx
                (refine a_cndbF rfl ?_; refine a_add (by first | omega | assumption | decide) (by first | omega | assumption | decide) ?_)
                exact hK2 (k + 1, x) _ _ ⟨by simp only; omega, hx⟩ (by simp only; omega) (by first | exact Gl.refl _ _ | exact Gl.drop (by repeat (first | exact List.Sublist.refl _ | exact List.Sublist.slnil | apply List.Sublist.cons_cons | apply List.Sublist.cons)))
            · rw [show k = nl.length by omega, List.drop_length, lastI] at hx
              subst hx
              clear hK2
              (refine a_fld ?_; (apply a_ld1 1; exact rfl; exact rfl); refine a_fld ?_; (apply a_ld1 3; exact rfl; exact rfl))
              refine a_idxM (f := s1) i hlt ?_
              ((apply a_ld1p; exact rfl); (apply a_ldA 0; exact rfl; exact rfl); (apply a_bld _; exact rfl; (try dsimp only [afill, aparts, cl, chunk, List.take, List.drop, List.nil_append, List.cons_append, List.append_nil, List.length_cons, List.length_nil, Nat.zero_add, Nat.reduceAdd, Nat.reduceMul]); try exact rfl); (apply a_bldF _; exact rfl; (try dsimp only [afill, aparts, cl, chunk, List.take, List.drop, List.nil_append, List.cons_append, List.append_nil, List.length_cons, List.length_nil, Nat.zero_add, Nat.reduceAdd, Nat.reduceMul]); try exact rfl))
              refine a_appY (cs := Nv.cs) (l := vs) (M := [⟨z5, [.i 3, .i x, .b false, .nil], .box⟩, ⟨z3, [.i (nl.length : Int), gv b1 c1 vs], .box⟩, ⟨z2, [.i 0, .nil], .box⟩, ⟨z1, p.cs, .box⟩, ⟨b, (nD nl).flatten, .row 3 1 c⟩]) (N := []) Nv.cs_len rfl rfl (by omega) rfl (fun h0 b' c' => ?_) (fun h0 b' c' => ?_)
              · refine V.a_fld ?_
                refine V.a_st 2 [.i (nl.length : Int), .sl b' 0 (vs.length + 1) c'] rfl rfl rfl rfl rfl ?_
                (refine a_add (by first | omega | assumption | decide) (by first | omega | assumption | decide) ?_)
                refine hK1 b' c' _ _ (by omega) (by omega) (Gl.trans (Gl.drop (L' := [⟨b', (vs.map Nv.cs).flatten ++ [.s p.nodes[i], .i 3, .i x, .b false, .nil], .row 64 5 c'⟩, ⟨z3, [.i (nl.length : Int), .sl b' 0 (vs.length + 1) c'], .box⟩, ⟨z2, [.i 0, .nil], .box⟩, ⟨z1, p.cs, .box⟩, ⟨b, (nD nl).flatten, .row 3 1 c⟩]) (.cons_cons _ (.cons _ (List.Sublist.refl _)))) ?_)
                refine Gl.trans (Gl.nil (L' := [⟨b', (vs.map Nv.cs).flatten ++ Nv.cs ⟨p.nodes[i], ⟨3, x, false, []⟩⟩, .row 64 5 c'⟩, ⟨z3, [.i (nl.length : Int), .sl b' 0 (vs.length + 1) c'], .box⟩, ⟨z2, [.i 0, .nil], .box⟩, ⟨z1, p.cs, .box⟩, ⟨b, (nD nl).flatten, .row 3 1 c⟩]) 1 (WkL.refl _ _ _) (.cons (WkL.app (WkL.refl _ _ _) (.cons (.refl _) (.cons (.refl _) (.cons (.refl _) (.cons (.refl _) (.cons .hit .nil)))))) (WkB.refl _ _ _))) ?_
                rw [List.append_nil]
                exact Gl.perm (List.perm_append_comm (l₁ := [_]) (l₂ := [_, _, _, _]))
              · refine V.a_fld ?_
                refine V.a_st 1 [.i (nl.length : Int), .sl b' 0 (vs.length + 1) c'] rfl rfl rfl rfl rfl ?_
                (refine a_add (by first | omega | assumption | decide) (by first | omega | assumption | decide) ?_)
                refine hK1 b' c' _ _ (by omega) (by omega) (Gl.trans (Gl.drop (L' := [⟨z3, [.i (nl.length : Int), .sl b' 0 (vs.length + 1) c'], .box⟩, ⟨z2, [.i 0, .nil], .box⟩, ⟨z1, p.cs, .box⟩, ⟨b, (nD nl).flatten, .row 3 1 c⟩, ⟨b', (vs.map Nv.cs).flatten ++ [.s p.nodes[i], .i 3, .i x, .b false, .nil], .row 64 5 c'⟩]) (.cons _ (List.Sublist.refl _))) ?_)
                exact Gl.nil 1 (WkL.refl _ _ _) (.cons (WkL.refl _ _ _) (.cons (WkL.refl _ _ _) (.cons (WkL.refl _ _ _) (.cons (WkL.refl _ _ _) (.cons (WkL.app (WkL.refl _ _ _) (.cons (.refl _) (.cons (.refl _) (.cons (.refl _) (.cons (.refl _) (.cons .hit .nil)))))) .nil)))))
          · rw [show i = p.nodes.length by omega, List.take_length]
            clear hK
            have hv1 : (v0 ++ nodeV p nl 0 p.nodes).length ≤ 128 := by
              have := nodeV_len p nl p.nodes 0
              rw [List.length_append, this]; omega
            generalize v0 ++ nodeV p nl 0 p.nodes = v1 at *
            refine a_lp (σ := Nat × Nat × Nat) (fun x => [.i x.1]) (fun x => [⟨z3, [.i (nl.length : Int), gv x.2.1 x.2.2 (v1 ++ intV p l 0 (p.ints.take x.1))], .box⟩, ⟨z2, [.i 0, .nil], .box⟩, ⟨z1, p.cs, .box⟩, ⟨b, (nD nl).flatten, .row 3 1 c⟩] ++ gb Nv.cs 64 5 x.2.1 x.2.2 (v1 ++ intV p l 0 (p.ints.take x.1)) ++ []) (fun x => x.1 ≤ p.ints.length) (fun x => p.ints.length - x.1) (0, b1, c1) (Gl.drop (by simp [intV])) (Nat.zero_le _) ?_
            rintro ⟨i, b1, c1⟩ K hi hK
            dsimp only at hi hK ⊢
            dsimp only [aix0, aix1, aix2, aix3, aix4, aix5, aix6, aix7, aix8]
            (refine a_fld ?_; (apply a_ld1 2; exact rfl; exact rfl); refine a_lenM ?_; refine a_lss ?_)
            refine a_cnd (fun q => ?_) (fun q => ?_)
            · have hlt : i < p.ints.length := by omega
              have hK1 := fun b' c' => hK (i + 1, b', c')
              clear hK
              have hnt : (p.ints.take i).length = i := by rw [List.length_take]; omega
              simp only [List.take_succ_eq_append_getElem hlt, intV_snoc, hnt, ← List.append_assoc] at hK1
              rw [Nat.zero_add] at hK1
              have hil2 : p.reg + i < l.length := by rw [hlen]; unfold Pl.unk; omega
              rw [getD_lt' hil2] at hK1
              simp only [gvS, gbS] at hK1
              have hvl : (v1 ++ intV p l 0 (p.ints.take i)).length ≤ 2000000 := by
                have := intV_len p l (p.ints.take i) 0
                rw [List.length_append, this, hnt]; omega
              generalize v1 ++ intV p l 0 (p.ints.take i) = vs at *
              (refine a_fld ?_; (apply a_ld1 0; exact rfl; exact rfl); refine a_fld ?_; (apply a_ld1 2; exact rfl; exact rfl))
              refine a_idxM (f := s1) i hlt ?_
              ((apply a_ld1p; exact rfl); (apply a_ldA 2; exact rfl; exact rfl); refine a_callS0 hR ?_; refine a_add (by first | omega | assumption | decide) (by first | omega | assumption | decide) ?_)
              refine a_idxMz (f := n1) (p.reg + i) (by omega) hil2 ?_
              ((apply a_ld1p; exact rfl); refine a_callS0 (c59 _) ?_; refine a_bldNv rfl rfl ?_; refine a_rowN1 rfl ?_)
              refine a_appY (cs := Nv.cs) (l := vs) (ys := Nv.cs ⟨p.ints[i], ⟨1, l[p.reg + i], false, []⟩⟩) (M := [⟨z3, [.i (nl.length : Int), gv b1 c1 vs], .box⟩, ⟨z2, [.i 0, .nil], .box⟩, ⟨z1, p.cs, .box⟩, ⟨b, (nD nl).flatten, .row 3 1 c⟩]) (N := []) Nv.cs_len rfl rfl (by omega) rfl (fun h0 b' c' => ?_) (fun h0 b' c' => ?_)
              · refine V.a_fld ?_
                refine V.a_st 1 [.i (nl.length : Int), .sl b' 0 (vs.length + 1) c'] rfl rfl rfl rfl rfl ?_
                (refine a_add (by first | omega | assumption | decide) (by first | omega | assumption | decide) ?_)
                refine hK1 b' c' _ _ (by omega) (by omega) ?_
                rw [List.append_nil]
                exact Gl.perm (List.perm_append_comm (l₁ := [_]) (l₂ := [_, _, _, _]))
              · refine V.a_fld ?_
                refine V.a_st 0 [.i (nl.length : Int), .sl b' 0 (vs.length + 1) c'] rfl rfl rfl rfl rfl ?_
                (refine a_add (by first | omega | assumption | decide) (by first | omega | assumption | decide) ?_)
                exact hK1 b' c' _ _ (by omega) (by omega) (Gl.refl _ _)
            · rw [show i = p.ints.length by omega, List.take_length]
              clear hK
              generalize v1 ++ intV p l 0 p.ints = ns at *
              ((apply a_ldA 0; exact rfl; exact rfl))
              refine a_stA 1 rfl rfl rfl (by cases ns <;> rfl) ?_
              ((apply a_ldA 1; exact rfl; exact rfl))
              refine ⟨trivial, Gl.trans (Gl.drop (L' := gb Nv.cs 64 5 b1 c1 ns ++ []) ?_) (Gl.trans (gl_gvG (ds' := [.tuple [(Wd.mk (nl.length : Int) ns).d, .i 0]]) Nv.cs_len (.cons (.tuple (.cons (.agg (.cons (.refl _) (.cons .hit .nil))) (.cons (.refl _) .nil))) .nil)) (Gl.drop (List.nil_sublist _)))⟩
              exact .cons _ (.cons _ (.cons _ (.cons _ (List.Sublist.refl _))))
end Go.Proofs.YtokpeggkofjclaaGreatDoor
/- The law VennTells. -/
set_option maxRecDepth 100000
set_option linter.unusedVariables false
namespace Go.V
open Go
end Go.V
namespace Go.Proofs.YtokpeggkofjclaaGreatDoor
open Go Go.V
theorem c12 (l : List ByteArray) (hl : l.length ≤ 1000000) : AFn pr 12 [.row 1 (sD l), .row 1 (sD l)] [] (.ret (.b true)) := by
  refine AFn.of (s12 ?_)
  unfold A12 sD
  (refine a_lenM ?_; refine a_lenM ?_; refine a_neq ?_; refine a_cndF (by first | omega | assumption | decide) ?_)
  refine a_lp (σ := Nat) (fun i => [.i i]) (fun _ => []) (fun i => i ≤ l.length) (fun i => l.length - i) 0 (by first | exact Gl.refl _ _ | exact Gl.drop (by repeat (first | exact List.Sublist.refl _ | exact List.Sublist.slnil | apply List.Sublist.cons_cons | apply List.Sublist.cons))) (Nat.zero_le _) ?_
  rintro i K hi hK
  dsimp only [aix0, aix1, aix2, aix3, aix4, aix5, aix6, aix7, aix8]
  (refine a_lenM ?_; refine a_lss ?_)
  refine a_cnd (fun q => ?_) (fun q => ?_)
  · have hlt : i < l.length := by omega
    refine a_idxM i hlt ?_
    ((apply a_ld1p; exact rfl))
    refine a_idxM i hlt ?_
    ((apply a_ld1p; exact rfl); refine a_neqS ?_)
    refine a_cndbF (decide_eq_false fun h => h rfl) ?_
    (refine a_add (by first | omega | assumption | decide) (by first | omega | assumption | decide) ?_)
    exact hK (i + 1) _ _ (by omega) (by omega) (by first | exact Gl.refl _ _ | exact Gl.drop (by repeat (first | exact List.Sublist.refl _ | exact List.Sublist.slnil | apply List.Sublist.cons_cons | apply List.Sublist.cons)))
  · rfl
theorem c26 (l : List Int) (hl : l.length ≤ 1000064) : AFn pr 26 [.row 1 (nD l), .row 1 (nD l)] [] (.ret (.b true)) := by
  refine AFn.of (s26 ?_)
  unfold A26 nD
  (refine a_lenM ?_; refine a_lenM ?_; refine a_neq ?_; refine a_cndF (by first | omega | assumption | decide) ?_)
  refine a_lp (σ := Nat) (fun i => [.i i]) (fun _ => []) (fun i => i ≤ l.length) (fun i => l.length - i) 0 (by first | exact Gl.refl _ _ | exact Gl.drop (by repeat (first | exact List.Sublist.refl _ | exact List.Sublist.slnil | apply List.Sublist.cons_cons | apply List.Sublist.cons))) (Nat.zero_le _) ?_
  rintro i K hi hK
  dsimp only [aix0, aix1, aix2, aix3, aix4, aix5, aix6, aix7, aix8]
  (refine a_lenM ?_; refine a_lss ?_)
  refine a_cnd (fun q => ?_) (fun q => ?_)
  · have hlt : i < l.length := by omega
    refine a_idxM i hlt ?_
    ((apply a_ld1p; exact rfl))
    refine a_idxM i hlt ?_
    ((apply a_ld1p; exact rfl); refine a_neq ?_; refine a_cndF (by first | omega | assumption | decide) ?_; refine a_add (by first | omega | assumption | decide) (by first | omega | assumption | decide) ?_)
    exact hK (i + 1) _ _ (by omega) (by omega) (by first | exact Gl.refl _ _ | exact Gl.drop (by repeat (first | exact List.Sublist.refl _ | exact List.Sublist.slnil | apply List.Sublist.cons_cons | apply List.Sublist.cons)))
  · rfl
theorem c23 (r : List Rw) (hr : r.length ≤ 1000) (hc : ∀ x ∈ r, x.c.length ≤ 1000064) : AFn pr 23 [.row 2 (r.map Rw.cs), .row 2 (r.map Rw.cs)] [] (.ret (.b true)) := by
  refine AFn.of (s23 ?_)
  unfold A23
  (refine a_lenM ?_; refine a_lenM ?_; refine a_neq ?_; refine a_cndF (by first | omega | assumption | decide) ?_)
  refine a_lp (σ := Nat) (fun i => [.i i]) (fun _ => []) (fun i => i ≤ r.length) (fun i => r.length - i) 0 (by first | exact Gl.refl _ _ | exact Gl.drop (by repeat (first | exact List.Sublist.refl _ | exact List.Sublist.slnil | apply List.Sublist.cons_cons | apply List.Sublist.cons))) (Nat.zero_le _) ?_
  rintro i K hi hK
  dsimp only [aix0, aix1, aix2, aix3, aix4, aix5, aix6, aix7, aix8]
  (refine a_lenM ?_; refine a_lss ?_)
  refine a_cnd (fun q => ?_) (fun q => ?_)
  · have hlt : i < r.length := by omega
    have hN := c26 r[i].c (hc _ (List.getElem_mem hlt))
    refine a_idxM i hlt ?_
    (refine a_fldp ?_; (apply a_ld1p; exact rfl))
    refine a_idxM i hlt ?_
    (refine a_fldp ?_; (apply a_ld1p; exact rfl); refine a_neq ?_; refine a_cndF (by first | omega | assumption | decide) ?_)
    refine a_idxM i hlt ?_
    (refine a_fldp ?_; (apply a_ld1p; exact rfl))
    refine a_idxM i hlt ?_
    (refine a_fldp ?_; (apply a_ld1p; exact rfl); refine a_callS0 hN ?_; refine a_not ?_; refine a_cndbF rfl ?_; refine a_add (by first | omega | assumption | decide) (by first | omega | assumption | decide) ?_)
    exact hK (i + 1) _ _ (by omega) (by omega) (by first | exact Gl.refl _ _ | exact Gl.drop (by repeat (first | exact List.Sublist.refl _ | exact List.Sublist.slnil | apply List.Sublist.cons_cons | apply List.Sublist.cons)))
  · rfl
theorem c27 (w : Wd) (hw : w.names.length ≤ 10000000) : AFn pr 27 [w.d, w.d] [] (.ret (.b true)) := by
  refine AFn.of (s27 ?_)
  unfold A27
  refine a_bxv fun z1 => ?_
  refine a_bxv fun z2 => ?_
  refine a_jn (σ := Unit) (fun _ => []) (fun _ => [⟨z2, w.cs, .box⟩, ⟨z1, w.cs, .box⟩]) (fun _ => True) ?_ fun J hJ => ?_
  · intro _ _
    refine a_lp (σ := Nat) (fun i => [.i i]) (fun _ => [⟨z2, w.cs, .box⟩, ⟨z1, w.cs, .box⟩]) (fun i => i ≤ w.names.length) (fun i => w.names.length - i) 0 (by first | exact Gl.refl _ _ | exact Gl.drop (by repeat (first | exact List.Sublist.refl _ | exact List.Sublist.slnil | apply List.Sublist.cons_cons | apply List.Sublist.cons))) (Nat.zero_le _) ?_
    rintro i K hi hK
    dsimp only [aix0, aix1, aix2, aix3, aix4, aix5, aix6, aix7, aix8]
    (refine a_fld ?_; (apply a_ld1 1; exact rfl; exact rfl); refine a_lenM ?_; refine a_lss ?_)
    refine a_cnd (fun q => ?_) (fun q => ?_)
    · have hlt : i < w.names.length := by omega
      have hS := c63 w.names[i].v w.names[i].v
      (refine a_fld ?_; (apply a_ld1 1; exact rfl; exact rfl))
      refine a_idxM i hlt ?_
      (refine a_fldp ?_; (apply a_ld1 0; exact rfl; exact rfl))
      refine a_idxM i hlt ?_
      (refine a_fldp ?_; (apply a_ld1p; exact rfl); refine a_neqS ?_)
      refine a_cndbF (decide_eq_false fun h => h rfl) ?_
      (refine a_fld ?_; (apply a_ld1 1; exact rfl; exact rfl))
      refine a_idxM i hlt ?_
      (refine a_fldp ?_; (apply a_ldAp; exact rfl); refine a_fld ?_; (apply a_ld1 0; exact rfl; exact rfl))
      refine a_idxM i hlt ?_
      rw [decide_eq_true rfl, decide_eq_true rfl, decide_eq_true rfl, decide_eq_true rfl] at hS
      (refine a_fldp ?_; (apply a_ldAp; exact rfl); refine a_callS0 hS ?_; refine a_not ?_; refine a_cndbF rfl ?_; refine a_add (by first | omega | assumption | decide) (by first | omega | assumption | decide) ?_)
      exact hK (i + 1) _ _ (by omega) (by omega) (by first | exact Gl.refl _ _ | exact Gl.drop (by repeat (first | exact List.Sublist.refl _ | exact List.Sublist.slnil | apply List.Sublist.cons_cons | apply List.Sublist.cons)))
    · rfl
  · (refine a_fld ?_; (apply a_ld1 1; exact rfl; exact rfl); refine a_fld ?_; (apply a_ld1 0; exact rfl; exact rfl); refine a_neq ?_; refine a_cndF (by first | omega | assumption | decide) ?_; refine a_fld ?_; (apply a_ld1 1; exact rfl; exact rfl); refine a_lenM ?_; refine a_fld ?_; (apply a_ld1 0; exact rfl; exact rfl); refine a_lenM ?_; refine a_neq ?_; refine a_cndF (by first | omega | assumption | decide) ?_)
    exact hJ () _ _ trivial (by first | exact Gl.refl _ _ | exact Gl.drop (by repeat (first | exact List.Sublist.refl _ | exact List.Sublist.slnil | apply List.Sublist.cons_cons | apply List.Sublist.cons)))
theorem WorldF_len (p : Pl) (l : List Int) : (WorldF p l).1.names.length ≤ p.sets.length + p.nodes.length + p.ints.length := by
  unfold WorldF
  split
  · simp
  · split
    · simp
    · split
      · simp
      · split
        · simp
        · simp only [List.length_append, setV_len, nodeV_len, intV_len]; omega
theorem c3 (t u : Tm) (b : Bool) (w : Wd) (l : List Int) : AFn pr 3 [t.d, u.d, .b b, w.d, .row 1 (nD l)] [] (.ret (.b true)) := by
  refine AFn.of (s3 ?_)
  unfold A3
  have hp := MakeF_Ok t
  have h6 := (MakeF_ok t).1
  have hM := c10 t
  have hM2 := c11 t
  generalize MakeF t = P at *
  obtain ⟨p, e⟩ := P
  simp only at hp h6 hM hM2
  have hreg := p.reg_pos
  have hunk := unk_le hp
  have hil := hp.ints
  have hcc : p.sets.length + p.nodes.length = p.circ := rfl
  have hR := c19 p (by omega)
  have hU := c21 p (by omega) hp.ints
  have hR2 := c20 h6
  have hU2 := c22 h6 hp.ints
  have hB := c24 hp
  have hB2 := c25 hp h6
  have hW := c13 hp u b
  have hW2 := c14 hp h6 u b
  have hC := c15 hp h6 w
  have hC2 := c16 hp h6 w
  have hO := c17 hp l
  have hO2 := c18 hp h6 l
  have nS := c12 p.sets (by omega)
  have nN := c12 p.nodes (by omega)
  have nI := c12 p.ints (by omega)
  have hcl : (CountF p w).1.length ≤ 1000064 := by
    by_cases f : (CountF p w).2 = 0
    · rw [CountF_len h6 f]; omega
    · have : (CountF p w).1 = [] := by
        unfold CountF at f ⊢
        split
        · rfl
        · next hh =>
          rw [if_neg hh] at f
          cases hq : markS w 0 p.sets (List.replicate w.nodes.toNat 0) with
          | none => rfl
          | some rg =>
            rw [hq] at f
            simp only at f ⊢
            cases hq2 : markN w p.sets.length p.nodes rg with
            | none => rfl
            | some rg2 =>
              rw [hq2] at f
              simp only at f ⊢
              cases hq3 : markI p w 0 p.ints (tally (List.replicate p.unk 0) rg2) with
              | none => rfl
              | some m => rw [hq3] at f; exact absurd rfl f
      rw [this]; simp
  have nC := c26 (CountF p w).1 hcl
  have sB := c23 (BaseF p) (by rw [BaseF_len]; omega) (fun x hx => by rw [(base_mem hx).1]; exact hunk)
  have sR := c23 [(RowF p u b).1] (by simp) (fun x hx => by rw [List.mem_singleton.1 hx]; exact RowF_len hp u b)
  have sW := c27 (WorldF p l).1 (by have := WorldF_len p l; omega)
  refine a_bxv fun z1 => ?_
  refine a_bxv fun z2 => ?_
  refine a_bxv fun z3 => ?_
  (refine a_call0 c9 ?_; (apply a_ldA 2; exact rfl; exact rfl); refine a_call0 hM ?_; (apply a_ext; exact rfl); (apply a_ext; exact rfl); refine a_bx fun z4 => ?_; refine a_stA 0 rfl rfl rfl rfl ?_; (apply a_ldA 3; exact rfl; exact rfl); refine a_call0 hM2 ?_; (apply a_ext; exact rfl); (apply a_ext; exact rfl); refine a_bx fun z5 => ?_; refine a_stA 0 rfl rfl rfl rfl ?_; (apply a_jnX; intro J hJ); refine a_neq ?_; (apply a_jnX; intro J hJ); refine a_cndF (by first | omega | assumption | decide) ?_; refine a_fld ?_; (apply a_ld1 1; exact rfl; exact rfl); refine a_fld ?_; (apply a_ld1 0; exact rfl; exact rfl); refine a_call0 (c12 _ (by first | omega | assumption | decide)) ?_; refine a_not ?_; exact hJ; dsimp only [aix0, aix1, aix2, aix3, aix4, aix5, aix6, aix7, aix8]; (apply a_jnX; intro J hJ); refine a_cndbF rfl ?_; refine a_fld ?_; (apply a_ld1 1; exact rfl; exact rfl); refine a_fld ?_; (apply a_ld1 0; exact rfl; exact rfl); refine a_call0 (c12 _ (by first | omega | assumption | decide)) ?_; refine a_not ?_; exact hJ; dsimp only [aix0, aix1, aix2, aix3, aix4, aix5, aix6, aix7, aix8]; refine a_cndbF rfl ?_; refine a_fld ?_; (apply a_ld1 1; exact rfl; exact rfl); refine a_fld ?_; (apply a_ld1 0; exact rfl; exact rfl); refine a_call0 (c12 _ (by first | omega | assumption | decide)) ?_; refine a_not ?_; refine a_cndbF rfl ?_; exact hJ; dsimp only [aix0, aix1, aix2, aix3, aix4, aix5, aix6, aix7, aix8]; (apply a_ldA 1; exact rfl; exact rfl); (apply a_ldA 3; exact rfl; exact rfl); refine a_call0 (c13 (by first | omega | assumption | decide) _ _) ?_; (apply a_ext; exact rfl); (apply a_ext; exact rfl); refine a_bx fun z6 => ?_; refine a_stA 0 rfl rfl rfl rfl ?_; (apply a_ldA 1; exact rfl; exact rfl); (apply a_ldA 4; exact rfl; exact rfl); refine a_call0 (c14 (by first | omega | assumption | decide) (by first | omega | assumption | decide) _ _) ?_; (apply a_ext; exact rfl); (apply a_ext; exact rfl); refine a_bx fun z7 => ?_; refine a_stA 0 rfl rfl rfl rfl ?_; (apply a_ldA 3; exact rfl; exact rfl); (apply a_ldA 4; exact rfl; exact rfl); refine a_call0 (c15 (by first | omega | assumption | decide) (by first | omega | assumption | decide) _) ?_; (apply a_ext; exact rfl); (apply a_ext; exact rfl); (apply a_ldA 2; exact rfl; exact rfl); (apply a_ldA 4; exact rfl; exact rfl); refine a_call0 (c16 (by first | omega | assumption | decide) (by first | omega | assumption | decide) _) ?_; (apply a_ext; exact rfl); (apply a_ext; exact rfl); (apply a_ldA 3; exact rfl; exact rfl); refine a_call0 (c17 (by first | omega | assumption | decide) _) ?_; (apply a_ext; exact rfl); (apply a_ext; exact rfl); refine a_bx fun z8 => ?_; refine a_stA 0 rfl rfl rfl rfl ?_; (apply a_ldA 3; exact rfl; exact rfl); refine a_call0 (c18 (by first | omega | assumption | decide) (by first | omega | assumption | decide) _) ?_; (apply a_ext; exact rfl); (apply a_ext; exact rfl); refine a_bx fun z9 => ?_; refine a_stA 0 rfl rfl rfl rfl ?_; refine a_cndbT rfl ?_; (apply a_ldA 5; exact rfl; exact rfl); refine a_callS0 hR ?_; (apply a_ldA 4; exact rfl; exact rfl); refine a_callS0 hR2 ?_; refine a_eql ?_; refine a_cndT (by first | omega | assumption | decide) ?_; (apply a_ldA 5; exact rfl; exact rfl); refine a_callS0 hU ?_; (apply a_ldA 4; exact rfl; exact rfl); refine a_callS0 hU2 ?_; refine a_eql ?_; refine a_cndT (by first | omega | assumption | decide) ?_; (apply a_ldA 5; exact rfl; exact rfl); refine a_callS0 hB ?_; (apply a_ldA 4; exact rfl; exact rfl); refine a_callS0 hB2 ?_; refine a_callS0 sB ?_; refine a_cndbT rfl ?_; (apply a_ldA 3; exact rfl; exact rfl); refine a_bldF [Rw.cs (RowF p u b).1] rfl rfl ?_; (apply a_ldA 2; exact rfl; exact rfl); refine a_bldF [Rw.cs (RowF p u b).1] rfl rfl ?_; refine a_callS0 sR ?_; refine a_cndbT rfl ?_; refine a_eql ?_; refine a_cndT (by first | omega | assumption | decide) ?_; refine a_callS0 nC ?_; refine a_cndbT rfl ?_; refine a_eql ?_; refine a_cndT (by first | omega | assumption | decide) ?_; (apply a_ldA 1; exact rfl; exact rfl); (apply a_ldA 0; exact rfl; exact rfl); refine a_callS0 sW ?_; refine a_cndbT rfl ?_; refine a_eql ?_)
  exact ret_b (decide_eq_true rfl)
end Go.Proofs.YtokpeggkofjclaaGreatDoor
