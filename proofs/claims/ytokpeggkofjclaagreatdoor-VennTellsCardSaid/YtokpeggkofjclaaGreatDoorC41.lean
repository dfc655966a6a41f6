/- Contracts of layer 13: sums, least numbers, repeated ones. -/
import Derived.Test.YtokpeggkofjclaaGreatDoorC38
import Derived.Test.YtokpeggkofjclaaGreatDoorW6
import Derived.Test.YtokpeggkofjclaaGreatDoorE1
set_option maxRecDepth 100000
set_option linter.unusedVariables false
namespace Go.V
open Go
theorem capS_rng {c : Int} (hc : 0 ≤ c) {l : List Int} {m : Nat} (hl : ∀ i, i < m → 0 ≤ l.getD i 0) (f : Nat → Bool) : ∀ n, n ≤ m → 0 ≤ capS c l f n ∧ capS c l f n ≤ c
  | 0, _ => ⟨Int.le_refl _, hc⟩
  | n + 1, hn => by
    have ih := capS_rng hc hl f n (by omega)
    have h0 := hl n (by omega)
    rw [capS]
    split <;> omega
def minL : List Int → Int
  | [] => 0
  | x :: r => r.foldl min x
def minT (l : List Int) (i : Nat) : Int := (l.take i).tail.foldl min (l.headD 0)
theorem minT_step {l : List Int} {i : Nat} (hi : i < l.length) (h1 : 1 ≤ i) : minT l (i + 1) = min (minT l i) l[i] := by
  unfold minT
  cases l with
  | nil => simp at hi
  | cons x r =>
    obtain ⟨j, rfl⟩ : ∃ j, i = j + 1 := ⟨i - 1, by omega⟩
    have hj : j < r.length := by simpa using hi
    simp only [List.take_succ_cons, List.tail_cons, List.headD_cons, List.getElem_cons_succ]
    rw [List.take_succ_eq_append_getElem hj, List.foldl_append]; rfl
theorem minT_end (l : List Int) : minT l l.length = minL l := by
  unfold minT
  rw [List.take_length]
  cases l <;> rfl
def idxI (f : Int → Bool) : List Int → Nat → Int
  | [], _ => -1
  | x :: r, i => if f x then (i : Int) else idxI f r (i + 1)
end Go.V
namespace Go.Proofs.YtokpeggkofjclaaGreatDoor
open Go Go.V
theorem c51 {p : Pl} (hp : p.Ok) {i r : Nat} (hi : i < p.nodes.length) (hr : r ≤ 63) : AFn pr 51 ([.i r] ++ [.pin p.cs, .pin [.i i]]) [] (.ret (.b (inB r (p.sets.length + i)))) := by
  refine AFn.of (s51 ?_)
  unfold A51
  have := hp.circ
  unfold Pl.circ at this
  (refine a_fldp ?_; (apply a_ld1p; exact rfl); refine a_lenM ?_; (apply a_ld1p; exact rfl); refine a_add (by first | omega | assumption | decide) (by first | omega | assumption | decide) ?_; refine a_call0 (c52 (by first | omega | assumption | decide) (by first | omega | assumption | decide)) ?_)
  rfl
theorem c57 {p : Pl} (hp : p.Ok) {i r : Nat} (hi : i < p.nodes.length) (hr : r ≤ 63) : AFn pr 57 ([.i r] ++ [.pin p.cs, .pin [.i i]]) [] (.ret (.b (inB r (p.sets.length + i)))) := by
  refine AFn.of (s57 ?_)
  unfold A57
  have := hp.circ
  unfold Pl.circ at this
  (refine a_fldp ?_; (apply a_ld1p; exact rfl); refine a_lenM ?_; (apply a_ld1p; exact rfl); refine a_add (by first | omega | assumption | decide) (by first | omega | assumption | decide) ?_; refine a_call0 (c52 (by first | omega | assumption | decide) (by first | omega | assumption | decide)) ?_)
  rfl
theorem c53 (r : Nat) : AFn pr 53 ([.i r] ++ []) [] (.ret (.b ((fun _ : Nat => true) r))) := by
  refine AFn.of (s53 ?_)
  rfl
theorem c50 {g : Nat} {caps : List D} {f : Nat → Bool} {p : Pl} (hp : p.Ok) (l : List Int) (hlen : p.reg ≤ l.length) (hl : ∀ i, i < p.reg → 0 ≤ l.getD i 0) (hg : ∀ i : Nat, i < p.reg → AFn pr g ([.i i] ++ caps) [] (.ret (.b (f i)))) :
    AFn pr 50 [p.d, .row 1 (nD l), .fn g [] caps] [] (.ret (.i (capS 65 l f p.reg))) := by
  refine AFn.of (s50 ?_)
  unfold A50
  have hreg := p.reg_pos
  have hR := c19 p (by have := hp.circ; omega)
  refine a_bxv fun z1 => ?_
  ((apply a_ldA 0; exact rfl; exact rfl); refine a_call0 hR ?_)
  refine a_lp (σ := Nat) (fun i => [.i (capS 65 l f i), .i i]) (fun _ => [⟨z1, p.cs, .box⟩]) (fun i => i ≤ p.reg) (fun i => p.reg - i) 0 (by first | exact Gl.refl _ _ | exact Gl.drop (by repeat (first | exact List.Sublist.refl _ | exact List.Sublist.slnil | apply List.Sublist.cons_cons | apply List.Sublist.cons))) (Nat.zero_le _) ?_
  rintro i K hi hK
  dsimp only [aix0, aix1, aix2, aix3, aix4, aix5, aix6, aix7, aix8]
  have hr := capS_rng (c := 65) (by omega) hl f i hi
  refine a_lss ?_
  refine a_cnd (fun q => ?_) (fun q => ?_)
  · have hlt : i < p.reg := by omega
    have hil : i < l.length := by omega
    have h0 := hl i hlt
    rw [List.getD_eq_getElem?_getD, List.getElem?_eq_getElem hil, Option.getD_some] at h0
    have hK1 := hK (i + 1)
    clear hK
    rw [capS, List.getD_eq_getElem?_getD, List.getElem?_eq_getElem hil, Option.getD_some] at hK1
    refine a_call0 (hg i hlt) ?_
    refine a_cndb (fun q2 => ?_) (fun q2 => ?_)
    · rw [if_pos q2] at hK1
      refine a_idxM (f := n1) i hil ?_
      ((apply a_ld1p; exact rfl); refine a_min ?_; refine a_add (by first | omega | assumption | decide) (by first | omega | assumption | decide) ?_; refine a_min ?_; refine a_add (by first | omega | assumption | decide) (by first | omega | assumption | decide) ?_)
      exact hK1 _ _ (by omega) (by omega) (by first | exact Gl.refl _ _ | exact Gl.drop (by repeat (first | exact List.Sublist.refl _ | exact List.Sublist.slnil | apply List.Sublist.cons_cons | apply List.Sublist.cons)))
    · rw [if_neg (by rw [q2]; simp)] at hK1
      (refine a_add (by first | omega | assumption | decide) (by first | omega | assumption | decide) ?_)
      exact hK1 _ _ (by omega) (by omega) (by first | exact Gl.refl _ _ | exact Gl.drop (by repeat (first | exact List.Sublist.refl _ | exact List.Sublist.slnil | apply List.Sublist.cons_cons | apply List.Sublist.cons)))
  · exact ret_i (by rw [show i = p.reg by omega])
theorem c49 (l : List Int) (h0 : l ≠ []) (hl : l.length ≤ 1000000) : AFn pr 49 [.row 1 (nD l)] [] (.ret (.i (minL l))) := by
  refine AFn.of (s49 ?_)
  unfold A49
  have hpos : 0 < l.length := List.length_pos_iff.2 h0
  have hlenD : (nD l).length = l.length := by unfold nD; rw [List.length_map]
  refine a_jn1 [] [] ?_ fun J hJ => ?_
  · refine a_idxM (f := n1) 0 hpos ?_
    ((apply a_ld1p; exact rfl))
    have e0 : l[0] = minT l 1 := by
      unfold minT
      cases l with
      | nil => exact absurd rfl h0
      | cons x r => rfl
    rw [e0]
    refine a_lp (σ := Nat) (fun i => [.i (minT l i), .i i]) (fun _ => []) (fun i => 1 ≤ i ∧ i ≤ l.length) (fun i => l.length - i) 1 (by first | exact Gl.refl _ _ | exact Gl.drop (by repeat (first | exact List.Sublist.refl _ | exact List.Sublist.slnil | apply List.Sublist.cons_cons | apply List.Sublist.cons))) ⟨by omega, by omega⟩ ?_
    rintro i K ⟨h1, hi⟩ hK
    dsimp only [aix0, aix1, aix2, aix3, aix4, aix5, aix6, aix7, aix8]
    refine a_lenL ?_
    rw [hlenD]
    refine a_lss ?_
    refine a_cnd (fun q => ?_) (fun q => ?_)
    · have hlt : i < l.length := by omega
      refine a_idxM (f := n1) i hlt ?_
      have hK1 := hK (i + 1)
      rw [minT_step hlt h1] at hK1
      ((apply a_ld1p; exact rfl); refine a_min ?_; refine a_add (by first | omega | assumption | decide) (by first | omega | assumption | decide) ?_)
      exact hK1 _ _ (by omega) (by omega) (by first | exact Gl.refl _ _ | exact Gl.drop (by repeat (first | exact List.Sublist.refl _ | exact List.Sublist.slnil | apply List.Sublist.cons_cons | apply List.Sublist.cons)))
    · refine ret_i ?_
      rw [← minT_end, show i = l.length by omega]
  · refine a_lenL ?_
    rw [hlenD]
    (refine a_lss ?_; refine a_cndF (by first | omega | assumption | decide) ?_)
    exact hJ _ _ (by first | exact Gl.refl _ _ | exact Gl.drop (by repeat (first | exact List.Sublist.refl _ | exact List.Sublist.slnil | apply List.Sublist.cons_cons | apply List.Sublist.cons)))
theorem c56 {g : Nat} {caps : List D} {f : Int → Bool} (l : List Int) (hl : l.length ≤ 1000000) (hg : ∀ x ∈ l, AFn pr g ([.i x] ++ caps) [] (.ret (.b (f x)))) : AFn pr 56 [.row 1 (nD l), .fn g [] caps] [] (.ret (.i (idxI f l 0))) := by
  refine AFn.of (s56 ?_)
  unfold A56
  have hlenD : (nD l).length = l.length := by unfold nD; rw [List.length_map]
  refine a_lenL ?_
  rw [hlenD]
  refine a_lp (σ := Nat) (fun i => [.i i]) (fun _ => []) (fun i => i ≤ l.length ∧ idxI f (l.drop i) i = idxI f l 0) (fun i => l.length - i) 0 (by first | exact Gl.refl _ _ | exact Gl.drop (by repeat (first | exact List.Sublist.refl _ | exact List.Sublist.slnil | apply List.Sublist.cons_cons | apply List.Sublist.cons))) ⟨Nat.zero_le _, rfl⟩ ?_
  rintro i K ⟨hi, hp⟩ hK
  dsimp only [aix0, aix1, aix2, aix3, aix4, aix5, aix6, aix7, aix8]
  refine a_lss ?_
  refine a_cnd (fun q => ?_) (fun q => ?_)
  · have hlt : i < l.length := by omega
    rw [List.drop_eq_getElem_cons hlt, idxI] at hp
    refine a_idxM (f := n1) i hlt ?_
    ((apply a_ld1p; exact rfl); refine a_cfW ?_)
    refine a_call0 (hg _ (List.getElem_mem hlt)) ?_
    refine a_cndb (fun q2 => ?_) (fun q2 => ?_)
    · rw [if_pos q2] at hp
      exact ret_i hp
    · rw [if_neg (by rw [q2]; simp)] at hp
      (refine a_add (by first | omega | assumption | decide) (by first | omega | assumption | decide) ?_)
      exact hK (i + 1) _ _ ⟨by omega, hp⟩ (by omega) (by first | exact Gl.refl _ _ | exact Gl.drop (by repeat (first | exact List.Sublist.refl _ | exact List.Sublist.slnil | apply List.Sublist.cons_cons | apply List.Sublist.cons)))
  · rw [List.drop_eq_nil_of_le (by omega), idxI] at hp
    exact ret_i hp
end Go.Proofs.YtokpeggkofjclaaGreatDoor
/- Contracts of layer 13: one that is repeated. -/
set_option maxRecDepth 100000
set_option linter.unusedVariables false
namespace Go.V
open Go
/-- so many are there already -/
def repT (x : Int) (n m : Nat) : List Int := List.replicate m x ++ List.replicate (n - m) 0
theorem flat_rep (x : Int) (n m : Nat) : (nD (repT x n m)).flatten = List.replicate m (D.i x) ++ List.replicate (n - m) (D.i 0) := by
  rw [nD_eq, flat_n1]
  unfold repT
  rw [List.map_append, List.map_replicate, List.map_replicate]
theorem rep_step {x : Int} {n m c : Nat} (hm : m ≤ n) (hc : c ≤ m) (hcn : c ≤ n - m) :
    (nD (repT x n m)).flatten.take m ++ (List.replicate m (D.i x)).take c ++ (nD (repT x n m)).flatten.drop (m + c) = (nD (repT x n (m + c))).flatten := by
  rw [flat_rep, flat_rep, List.take_left' (by simp), List.take_replicate, Nat.min_eq_left hc, List.drop_append, List.drop_eq_nil_of_le (by simp), List.length_replicate, List.nil_append, List.drop_replicate, List.replicate_append_replicate, show n - m - (m + c - m) = n - (m + c) by omega]
end Go.V
namespace Go.Proofs.YtokpeggkofjclaaGreatDoor
open Go Go.V
theorem c100 {x y : Nat} (hx : x < 18446744073709551616) (hy : y < 18446744073709551616) : AFn pr 100 [.u x, .u y] [] (.ret (.tuple [.u (x * y / 18446744073709551616), .u (x * y % 18446744073709551616)])) := by
  refine AFn.of (s100 ?_)
  unfold A100
  refine a_call0 (c143 hx hy) ?_
  ((apply a_ext; exact rfl); (apply a_ext; exact rfl))
  rfl
theorem c54 (x : Int) {n : Nat} (hn : n ≤ 1000) : AFn pr 54 [.row 1 (nD [x]), .i n] [] (.ret (.row 1 (nD (List.replicate n x)))) := by
  refine AFn.ofGe (s54 ?_)
  unfold A54
  have hM := c100 (x := 1) (y := n) (by omega) (by omega)
  have e1 : 1 * n / 18446744073709551616 = 0 := by omega
  have e2 : 1 * n % 18446744073709551616 = n := by omega
  rw [e1, e2] at hM
  refine a_jn1 [] [] ?_ fun J hJ => ?_
  · refine a_lenL ?_
    refine a_cvI ?_
    refine a_cvI ?_
    rw [show IntKind.u64.wrap ((nD [x]).length : Int) = ((1 : Nat) : Int) from rfl, show IntKind.u64.wrap (n : Int) = (n : Int) by rw [u64_wrap]; omega]
    (refine a_call0 hM ?_; (apply a_ext; exact rfl); (apply a_ext; exact rfl); (apply a_jnX; intro J hJ); (apply a_jnX; intro J hJ); refine a_gtr ?_; refine a_cndbF rfl ?_; refine a_gtr ?_; exact hJ; dsimp only [aix0, aix1, aix2, aix3, aix4, aix5, aix6, aix7, aix8]; refine a_cndF (by first | omega | assumption | decide) ?_; exact hJ; dsimp only [aix0, aix1, aix2, aix3, aix4, aix5, aix6, aix7, aix8]; refine a_cv64 (by first | omega | assumption | decide) (by first | omega | assumption | decide) ?_)
    refine a_mkS n n rfl rfl (Nat.le_refl _) (by omega) (by omega) fun z1 => ?_
    have e0 : (List.replicate n [D.i 0]).flatten = (nD (repT x n 0)).flatten := by rw [zeros_flat]; unfold repT; simp
    rw [e0]
    have start : ∀ m : Nat, m ≤ n → min 1 n ≤ m → alp [.i m] [⟨z1, (nD (repT x n m)).flatten, .row 3 1 n⟩] (fun v8 w6 k8 =>
        alenL (.sl z1 0 n n) fun t36 =>
          aar .lss (aix v8 0) t36 fun t37 =>
            acnd t37
              (aslcL 1 (.sl z1 0 n n) (some (aix v8 0)) none fun t41 =>
                aslcL 1 (.sl z1 0 n n) none (some (aix v8 0)) fun t44 =>
                  acpy 1 t41 t44 w6 fun t45 w7 => aar .add (aix v8 0) t45 fun t46 => k8 [t46] w7)
              (Ge (.ret (.sl z1 0 n n)) w6 (.ret (.row 1 (nD (List.replicate n x)))) [])) := by
      intro m hm h1
      refine a_lp (σ := Nat) (fun m => [.i m]) (fun m => [⟨z1, (nD (repT x n m)).flatten, .row 3 1 n⟩]) (fun m => m ≤ n ∧ min 1 n ≤ m) (fun m => n - m) m (by first | exact Gl.refl _ _ | exact Gl.drop (by repeat (first | exact List.Sublist.refl _ | exact List.Sublist.slnil | apply List.Sublist.cons_cons | apply List.Sublist.cons))) ⟨hm, h1⟩ ?_
      rintro m K ⟨hm, h1⟩ hK
      dsimp only [aix0, aix1, aix2, aix3, aix4, aix5, aix6, aix7, aix8]
      (refine a_lenO ?_; refine a_lss ?_)
      refine a_cnd (fun q => ?_) (fun q => ?_)
      · have hlt : m < n := by omega
        refine ⟨m, n, rfl, ⟨_, rfl⟩, by omega, ?_⟩
        rw [if_neg (by omega)]
        refine ⟨0, m, ⟨_, rfl, by omega⟩, rfl, by omega, ?_⟩
        rw [if_neg (by omega)]
        dsimp only [Option.map]
        rw [add_plain, add_plain]
        refine a_cpy (b := z1) (o := 0 + m * 1) (n := n - m) (c := n - m) m (List.replicate m (D.i x)) ?_ (by omega) ?_
        · refine ⟨by omega, 0, _, _, rfl, ?_, by simp⟩
          rw [flat_rep]
          simp
        · refine V.a_st 0 (nD (repT x n (m + min m (n - m)))).flatten rfl (by simp [cl]) ?_ ?_ ?_ ?_
          · rw [List.all_eq_true]
            intro d hd
            have hd : d ∈ (List.replicate m (D.i x)).take (min m (n - m) * 1) := hd
            rw [List.eq_of_mem_replicate (List.mem_of_mem_take hd)]
            rfl
          · exact Nat.ble_eq_true_of_le (by rw [flat_rep]; simp; omega)
          · have := rep_step (x := x) (n := n) (m := m) (c := min m (n - m)) (by omega) (by omega) (by omega)
            rw [Nat.zero_add, Nat.mul_one, Nat.mul_one]
            exact this
          · (refine a_add (by first | omega | assumption | decide) (by first | omega | assumption | decide) ?_)
            exact hK (m + min m (n - m)) _ _ ⟨by omega, by omega⟩ (by omega) (by first | exact Gl.refl _ _ | exact Gl.drop (by repeat (first | exact List.Sublist.refl _ | exact List.Sublist.slnil | apply List.Sublist.cons_cons | apply List.Sublist.cons)))
      · have : m = n := by omega
        subst this
        have e : repT x m m = List.replicate m x := by unfold repT; simp
        rw [e]
        refine ge_fz (f := n1) (l := List.replicate m x) (c := m) (e := 3) (b := z1) (cap := m) n1_len 0 rfl ?_ (List.nil_sublist _)
        rw [List.length_replicate]
        exact .hit
    rcases Nat.eq_zero_or_pos n with rfl | hpos
    · refine a_cpy0 1 [.i x] ⟨rfl, rfl, rfl⟩ (by omega) ?_
      exact start 0 (by omega) (by omega)
    · refine a_cpy 1 [.i x] ⟨rfl, rfl, rfl⟩ (by omega) ?_
      rw [show min 1 n = 1 by omega]
      refine V.a_st 0 (nD (repT x n 1)).flatten rfl rfl rfl (Nat.ble_eq_true_of_le (by rw [flat_rep]; simp; omega)) ?_ ?_
      · rw [flat_rep, flat_rep]
        obtain ⟨k, rfl⟩ : ∃ k, n = k + 1 := ⟨n - 1, by omega⟩
        simp [cl, List.replicate_succ]
      · exact start 1 (by omega) (by omega)
  · (refine a_lss ?_; refine a_cndbF rfl ?_)
    exact hJ _ _ (by first | exact Gl.refl _ _ | exact Gl.drop (by repeat (first | exact List.Sublist.refl _ | exact List.Sublist.slnil | apply List.Sublist.cons_cons | apply List.Sublist.cons)))
end Go.Proofs.YtokpeggkofjclaaGreatDoor
/- Contracts of layer 13: a world of unknowns. -/
set_option maxRecDepth 100000
set_option linter.unusedVariables false
namespace Go.V
open Go
theorem flat_asrc {α : Type} {cs : α → List D} {sz : Nat} {L : List Bx} (r : List α) : asrc sz (.row sz (r.map cs)) L r.length (r.map cs).flatten := ⟨rfl, by rw [List.length_map], rfl⟩
/-- many more -/
theorem a_appMany {α : Type} {cs : α → List D} {sz e b c bytes : Nat} {kl : D → List Bx → Prop} {L0 M N : List Bx} {l r : List α} (hsz : ∀ x, (cs x).length = sz) (h1 : ∀ x, (cs x).all D.one = true) (hb : (l.length + r.length) * bytes ≤ 140737488355328)
    (hL : L0 = M ++ gb cs e sz b c l ++ N)
    (h0 : l = [] → r ≠ [] → ∀ b' c', kl (gv b' c' r) (⟨b', (r.map cs).flatten, .row e sz c'⟩ :: (M ++ N)))
    (h2 : (l ≠ [] ∨ r = []) → ∀ b' c', kl (gv b' c' (l ++ r)) (M ++ gb cs e sz b' c' (l ++ r) ++ N)) : aapp e sz bytes (gv b c l) (.row sz (r.map cs)) L0 kl := by
  subst hL
  cases l with
  | nil =>
    cases r with
    | nil => exact a_app00 ⟨rfl, rfl, rfl⟩ (h2 (.inr rfl) b c)
    | cons x r =>
      show aapp e sz bytes .nil _ (M ++ [] ++ N) kl
      rw [List.append_nil]
      exact a_app0 (x :: r).length _ (flat_asrc (x :: r)) (flat_one h1 _) (by simpa using hb) (by simp) fun b' c' => h0 rfl (by simp) b' c'
  | cons z l =>
    have ei : (M ++ gb cs e sz b c (z :: l) ++ N)[M.length]? = some ⟨b, ((z :: l).map cs).flatten, .row e sz c⟩ := by
      rw [List.append_assoc, List.getElem?_append_right (Nat.le_refl _), Nat.sub_self]; rfl
    refine V.a_app M.length _ r.length (r.map cs).flatten ei (by rw [flat_len hsz]; rfl) (flat_asrc r) (flat_one h1 _) (by simpa using hb) fun b' c' => ?_
    have := h2 (.inl (by simp)) b' c'
    have e1 : ((z :: l ++ r).map cs).flatten = ((z :: l).map cs).flatten ++ (r.map cs).flatten := by
      rw [List.map_append, List.flatten_append]
    have es : (M ++ gb cs e sz b c (z :: l) ++ N).set M.length ⟨b', ((z :: l).map cs).flatten ++ (r.map cs).flatten, .row e sz c'⟩ = M ++ gb cs e sz b' c' (z :: l ++ r) ++ N := by
      rw [List.append_assoc, List.append_assoc, List.set_append_right _ _ (Nat.le_refl _), Nat.sub_self, ← e1]; rfl
    have e2 : gv b' c' (z :: l ++ r) = .sl b' 0 (l.length + 1 + r.length) c' := by
      show D.sl b' 0 ((l ++ r).length + 1) c' = _
      rw [List.length_append, show l.length + r.length + 1 = l.length + 1 + r.length by omega]
    rw [es, ← e2]; exact this
theorem a_slcMn {l : List Int} {ki : IntKind} {k : D → Prop} (n : Nat) (hn : n ≤ l.length) (h : k (.row 1 (nD (l.take n)))) : aslcL 1 (.row 1 (nD l)) none (some (.val (.int ki n))) k := by
  refine ⟨rfl, 0, n, ⟨ki, rfl⟩, rfl, Nat.zero_le _, by unfold nD; rw [List.length_map]; exact hn, _, rfl, ?_⟩
  unfold nD
  rw [List.drop_zero, ← List.map_take]
  exact h
/-- the regions of the nodes -/
def nodesR (l : List Int) : Nat → List Int
  | 0 => []
  | n + 1 => nodesR l n ++ List.replicate (l.getD n 0).toNat (n : Int)
theorem nodesR_mono (l : List Int) {a b : Nat} (h : a ≤ b) : (nodesR l a).length ≤ (nodesR l b).length := by
  induction h with
  | refl => exact Nat.le_refl _
  | step _ ih => rw [nodesR, List.length_append]; omega
/-- so many nodes as are counted, if they are not too many -/
theorem nodesR_len {c : Int} {l : List Int} {m : Nat} (hc : 0 ≤ c) (h : ∀ i, i < m → 0 ≤ l.getD i 0) : ∀ n, n ≤ m → ((nodesR l n).length : Int) < c ∧ capS c l (fun _ => true) n = (nodesR l n).length ∨ c ≤ (nodesR l n).length ∧ capS c l (fun _ => true) n = c
  | 0, _ => by
    rcases Int.lt_or_le 0 c with h0 | h0
    · exact .inl ⟨by simpa [nodesR] using h0, by rw [capS]; rfl⟩
    · exact .inr ⟨by simp [nodesR]; omega, by rw [capS]; omega⟩
  | n + 1, hn => by
    have ih := nodesR_len hc h n (by omega)
    have h0 := h n (by omega)
    have e : ((nodesR l (n + 1)).length : Int) = (nodesR l n).length + l.getD n 0 := by
      rw [nodesR, List.length_append, List.length_replicate]; omega
    rw [capS, if_pos rfl, e]
    omega
theorem foldl_min : ∀ (r : List Int) (x y : Int), y ≤ r.foldl min x → y ≤ x ∧ ∀ z ∈ r, y ≤ z
  | [], x, y, h => ⟨h, fun z hz => by cases hz⟩
  | z :: r, x, y, h => by
    obtain ⟨h1, h2⟩ := foldl_min r (min x z) y h
    exact ⟨by omega, fun w hw => by rcases List.mem_cons.1 hw with rfl | hw; omega; exact h2 w hw⟩
theorem minL_nn {l : List Int} (h : 0 ≤ minL l) : ∀ x ∈ l, 0 ≤ x := by
  cases l with
  | nil => intro x hx; cases hx
  | cons y r =>
    obtain ⟨h1, h2⟩ := foldl_min r y 0 h
    intro x hx
    rcases List.mem_cons.1 hx with rfl | hx
    · exact h1
    · exact h2 x hx
def setV (p : Pl) (nl : List Int) : Nat → List ByteArray → List Nv
  | _, [] => []
  | i, s :: r => ⟨s, ⟨2, 0, false, nl.map fun x => inB x.toNat i⟩⟩ :: setV p nl (i + 1) r
def nodeV (p : Pl) (nl : List Int) : Nat → List ByteArray → List Nv
  | _, [] => []
  | i, s :: r => ⟨s, ⟨3, idxI (fun x => inB x.toNat (p.sets.length + i)) nl 0, false, []⟩⟩ :: nodeV p nl (i + 1) r
def intV (p : Pl) (l : List Int) : Nat → List ByteArray → List Nv
  | _, [] => []
  | i, s :: r => ⟨s, ⟨1, l.getD (p.reg + i) 0, false, []⟩⟩ :: intV p l (i + 1) r
def oneB (p : Pl) (l : List Int) (i : Nat) : Bool := decide (capS 65 l (fun r => inB r (p.sets.length + i)) p.reg = 1)
def WorldF (p : Pl) (l : List Int) : Wd × Int :=
  if l.length ≠ p.unk ∨ minL (l.take p.reg) < 0 then (⟨0, []⟩, 1) else
  if (List.range p.nodes.length).all (oneB p l) = false then (⟨0, []⟩, 1) else
  if capS 65 l (fun _ => true) p.reg = 0 then (⟨0, []⟩, 1) else
  if capS 65 l (fun _ => true) p.reg = 65 then (⟨0, []⟩, 7) else
    (⟨capS 65 l (fun _ => true) p.reg, setV p (nodesR l p.reg) 0 p.sets ++ nodeV p (nodesR l p.reg) 0 p.nodes ++ intV p l 0 p.ints⟩, 0)
end Go.V
namespace Go.Proofs.YtokpeggkofjclaaGreatDoor
open Go Go.V
/-- one more name in a world -/
theorem c55 {b b1 c1 : Nat} {n : Int} {l : List Nv} (nm : ByteArray) (v : Vl) (hl : l.length ≤ 2000000) : ASpec pr 55 [.s nm, v.d, .p b 0] (⟨b, [.i n, gv b1 c1 l], .box⟩ :: gb Nv.cs 64 5 b1 c1 l) fun a L' =>
    ∃ b2 c2, a = .ret (.tuple []) ∧ L' = ⟨b, [.i n, gv b2 c2 (l ++ [⟨nm, v⟩])], .box⟩ :: gb Nv.cs 64 5 b2 c2 (l ++ [⟨nm, v⟩]) := by
  refine ASpec.ge (R := fun a L' => ∃ b2 c2, Ge a L' (.ret (.tuple [])) (⟨b, [.i n, gv b2 c2 (l ++ [⟨nm, v⟩])], .box⟩ :: gb Nv.cs 64 5 b2 c2 (l ++ [⟨nm, v⟩]))) (s55 ?_) (fun a L' ⟨b2, c2, h⟩ => ⟨_, _, h, b2, c2, rfl, rfl⟩)
  unfold A55
  refine a_bxv fun z1 => ?_
  (refine a_fld ?_; (apply a_ld1 1; exact rfl; exact rfl); (apply a_ldA 0; exact rfl; exact rfl); refine a_bldNv rfl rfl ?_; refine a_rowNS1 rfl ?_)
  refine a_appMid (bytes := 64) (l := l) (x := (⟨nm, v⟩ : Nv)) (M := [⟨z1, v.cs, .box⟩, ⟨b, [.i n, gv b1 c1 l], .box⟩]) (N := []) Nv.cs_len Nv.cs_one (by decide) (by omega) (by simp only [List.append_nil, List.cons_append, List.nil_append]) (fun h0 b' c' => ?_) (fun h0 b' c' => ?_)
  · subst h0
    (refine a_fld ?_; (apply a_st 2 _; exact rfl; exact rfl; exact rfl; exact rfl; (try dsimp only [afill, aparts, cl, chunk, List.take, List.drop, List.nil_append, List.cons_append, List.append_nil, List.length_cons, List.length_nil, Nat.zero_add, Nat.reduceAdd, Nat.reduceMul]); try exact rfl))
    refine ⟨b', c', trivial, ?_⟩
    exact Gl.trans (Gl.drop (L' := [_, _]) (.cons_cons _ (.cons _ (List.Sublist.refl _)))) (Gl.perm (List.Perm.swap _ _ _))
  · (refine a_fld ?_)
    refine V.a_st 1 [.i n, gv b' c' (l ++ [⟨nm, v⟩])] rfl (by rw [gv_cl]; rfl) (by rw [gv_cl]; exact gv_one _) rfl (by rw [gv_cl]; rfl) ?_
    refine ⟨b', c', trivial, Gl.drop ?_⟩
    simp only [List.append_nil, List.cons_append, List.nil_append, List.set_cons_succ, List.set_cons_zero]
    exact List.sublist_cons_self _ _
theorem allB_snoc (f : Nat → Bool) (n : Nat) : (List.range (n + 1)).all f = ((List.range n).all f && f n) := by
  rw [List.range_succ, List.all_append]; simp
theorem allB_false {f : Nat → Bool} {n i : Nat} (hi : i < n) (h : f i = false) : (List.range n).all f = false := by
  rw [List.all_eq_false]
  exact ⟨i, List.mem_range.2 hi, by rw [h]; simp⟩
theorem ge_world0 {e : Int} {L : List Bx} : Ge (.ret (.tuple [.agg [.i 0, .nil], .i e])) L (.ret (.tuple [(Wd.mk 0 []).d, .i e])) [] :=
  ⟨trivial, Gl.trans (Gl.nil (ds' := [.tuple [(Wd.mk 0 []).d, .i e]]) 5 (.cons (.tuple (.cons (.agg (.cons (.refl _) (.cons .hit .nil))) (.cons (.refl _) .nil))) .nil) (WkB.refl _ _ _)) (Gl.drop (List.nil_sublist _))⟩
end Go.Proofs.YtokpeggkofjclaaGreatDoor
