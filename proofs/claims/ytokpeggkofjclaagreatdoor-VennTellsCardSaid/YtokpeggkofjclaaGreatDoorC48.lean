/- The law VennRegions; the document's plan. -/
import Derived.Test.YtokpeggkofjclaaGreatDoorC47
import Derived.Test.YtokpeggkofjclaaGreatDoorC22
import Derived.Test.YtokpeggkofjclaaGreatDoorW16
set_option maxRecDepth 100000
set_option linter.unusedVariables false
namespace Go.V
open Go
theorem and_mask (a : Int) : ∃ m : Nat, bitsI .and .i64 a 65535 = (m : Int) := by
  unfold bitsI
  refine ⟨(BitVec.ofInt 64 a &&& BitVec.ofInt 64 65535).toNat, ?_⟩
  have e2 : (BitVec.ofInt 64 (65535 : Int)).toNat = 65535 := by decide
  have hle : (BitVec.ofInt 64 a &&& BitVec.ofInt 64 65535).toNat ≤ 65535 := by
    rw [BitVec.toNat_and, e2]; exact Nat.and_le_right
  show IntKind.i64.wrap ((BitVec.ofInt IntKind.i64.bits a &&& BitVec.ofInt IntKind.i64.bits 65535).toNat : Int) = _
  exact i64_wrap (by omega) (by have : (BitVec.ofInt IntKind.i64.bits a &&& BitVec.ofInt IntKind.i64.bits 65535).toNat ≤ 65535 := hle; omega)
theorem a_andN {a : Int} {k : D → Prop} (h : ∀ n : Nat, k (.i n)) : aar .and (.i a) (.i 65535) k := by
  obtain ⟨m, hm⟩ := and_mask a
  refine ⟨rfl, ?_⟩
  dsimp only
  rw [hm]
  exact h m
theorem a_rem2 {n : Nat} {k : D → Prop} (h : k (.i ((n % 2 : Nat) : Int))) : aar .rem (.i n) (.i 2) k := by
  refine ⟨rfl, by omega, ?_⟩
  rw [Int.tmod_eq_emod_of_nonneg (by omega)]
  rw [Int.natCast_emod] at h
  exact h
theorem a_quo2 {n : Nat} {k : D → Prop} (hn : n ≤ 1000000) (h : k (.i ((n / 2 : Nat) : Int))) : aar .quo (.i n) (.i 2) k := by
  refine ⟨rfl, by omega, ?_⟩
  rw [Int.tdiv_eq_ediv_of_nonneg (by omega)]
  show k (.i (IntKind.i64.wrap _))
  rw [i64_wrap (by omega) (by omega)]
  rw [Int.natCast_ediv] at h
  exact h
theorem a_remN {n : Nat} {m : Int} {k : D → Prop} (hm : 0 < m) (h : ∀ j : Nat, j < m.toNat → k (.i j)) : aar .rem (.i n) (.i m) k := by
  refine ⟨rfl, by omega, ?_⟩
  obtain ⟨q, rfl⟩ : ∃ q : Nat, m = q := ⟨m.toNat, by omega⟩
  have := h (n % q) (Nat.mod_lt _ (by omega))
  rw [Int.natCast_emod] at this
  rw [Int.tmod_eq_emod_of_nonneg (by omega)]
  exact this
theorem capS_sum {c : Int} (hc : 0 ≤ c) {l : List Int} (f : Nat → Bool) (h : ∀ i, 0 ≤ l.getD i 0) : ∀ n, 0 ≤ sumN (fun i => if f i then l.getD i 0 else 0) n ∧ capS c l f n = min c (sumN (fun i => if f i then l.getD i 0 else 0) n)
  | 0 => by
    refine ⟨Int.le_refl _, ?_⟩
    rw [capS]; show (0 : Int) = min c 0; omega
  | n + 1 => by
    obtain ⟨h1, h2⟩ := capS_sum hc f h n
    have h0 := h n
    rw [capS, sumN, h2]
    cases hf : f n
    · simp only [Bool.false_eq_true, if_false]; omega
    · simp only [if_true]; omega
theorem foldl_min_nn : ∀ (r : List Int) (x : Int), 0 ≤ x → (∀ y ∈ r, 0 ≤ y) → 0 ≤ r.foldl min x
  | [], x, h, _ => h
  | y :: r, x, h, hr => by
    rw [List.foldl_cons]
    have := hr y (by simp)
    exact foldl_min_nn r _ (by omega) fun z hz => hr z (by simp [hz])
theorem minL_of {l : List Int} (h : ∀ x ∈ l, 0 ≤ x) : 0 ≤ minL l := by
  cases l with
  | nil => exact Int.le_refl _
  | cons x r => exact foldl_min_nn r x (h x (by simp)) fun y hy => h y (by simp [hy])
theorem cnt_rep (b : Bool) : ∀ n, cntF (List.replicate n b) = if b then (n : Int) else 0
  | 0 => by cases b <;> rfl
  | n + 1 => by
    rw [List.replicate_succ, cntF, cnt_rep b n]
    cases b
    · simp
    · simp only [if_true]; omega
theorem cntF_app : ∀ a b : List Bool, cntF (a ++ b) = cntF a + cntF b
  | [], b => by simp [cntF]
  | x :: a, b => by rw [List.cons_append, cntF, cntF, cntF_app a b]; omega
theorem nodes_cnt {l : List Int} (h : ∀ i, 0 ≤ l.getD i 0) (f : Nat → Bool) : ∀ n, cntF ((nodesR l n).map fun x => f x.toNat) = sumN (fun i => if f i then l.getD i 0 else 0) n
  | 0 => rfl
  | n + 1 => by
    have h0 := h n
    rw [nodesR, List.map_append, cntF_app, nodes_cnt h f n, sumN, List.map_replicate, cnt_rep, Int.toNat_natCast, Int.toNat_of_nonneg h0]
theorem cntF_len : ∀ l : List Bool, cntF l ≤ l.length
  | [] => by simp [cntF]
  | x :: r => by have := cntF_len r; rw [cntF, List.length_cons]; split <;> omega
theorem setV_at (p : Pl) (nl : List Int) : ∀ (l : List ByteArray) (k i : Nat) (hi : i < l.length) (h : i < (setV p nl k l).length), (setV p nl k l)[i] = ⟨l[i], ⟨2, 0, false, nl.map fun x => inB x.toNat (k + i)⟩⟩
  | s :: r, k, 0, hi, h => rfl
  | s :: r, k, i + 1, hi, h => by
    have h' : i < (setV p nl (k + 1) r).length := by simpa [setV] using h
    have := setV_at p nl r (k + 1) i (by simpa using hi) h'
    simp only [setV, List.getElem_cons_succ]
    rw [this, show k + 1 + i = k + (i + 1) by omega]
def unL (p : Pl) (r : Nat) : List Int := regL1 p r p.nodes.length
/-- the world of one node in a region, and of each circle of a node its own -/
theorem world_one {p : Pl} {r : Nat} (h6 : p.circ ≤ 6) (hr : r < 2 ^ p.sets.length) : WorldF p (unL p r) = (⟨1 + p.nodes.length, setV p (nodesR (unL p r) p.reg) 0 p.sets ++ nodeV p (nodesR (unL p r) p.reg) 0 p.nodes ++ intV p (unL p r) 0 p.ints⟩, 0) := by
  have hl : (unL p r).length = p.unk := regL1_len p r _
  have hnn : ∀ i, 0 ≤ (unL p r).getD i 0 := fun i => (regL1_nn _ i).1
  have hru : p.reg ≤ p.unk := by unfold Pl.unk; omega
  have hS : ∀ f, capS 65 (unL p r) f p.reg = min 65 ((if f r then 1 else 0) + pows f p.sets.length p.nodes.length) := fun f => by
    rw [(capS_sum (by omega) f hnn p.reg).2]
    unfold unL
    rw [regL1_sum h6 hr f _ (Nat.le_refl _)]
  have hmin : 0 ≤ minL ((unL p r).take p.reg) := minL_of fun x hx => by
    obtain ⟨i, hi, rfl⟩ := List.mem_iff_getElem.1 hx
    rw [List.getElem_take]
    have := hnn i
    rw [getD_lt' (by rw [List.length_take] at hi; omega)] at this
    exact this
  have hall : capS 65 (unL p r) (fun _ => true) p.reg = 1 + p.nodes.length := by
    rw [hS, pows_true, if_pos rfl]
    have : p.nodes.length ≤ 6 := by unfold Pl.circ at h6; omega
    omega
  have hone : (List.range p.nodes.length).all (oneB p (unL p r)) = true := by
    rw [List.all_eq_true]
    intro j hj
    have hj := List.mem_range.1 hj
    unfold oneB
    rw [hS, pows_node, if_pos hj, inB_small hr]
    rfl
  unfold WorldF
  rw [if_neg (by omega), if_neg (by rw [hone]; simp), if_neg (by rw [hall]; omega), if_neg (by rw [hall]; unfold Pl.circ at h6; omega), hall]
theorem world_set {p : Pl} {r i : Nat} (h6 : p.circ ≤ 6) (hr : r < 2 ^ p.sets.length) (hi : i < p.sets.length) : cntF ((nodesR (unL p r) p.reg).map fun x => inB x.toNat i) = if inB r i then 1 else 0 := by
  have hnn : ∀ i, 0 ≤ (unL p r).getD i 0 := fun i => (regL1_nn _ i).1
  rw [nodes_cnt hnn fun x => inB x i]
  unfold unL
  rw [regL1_sum h6 hr (fun x => inB x i) _ (Nat.le_refl _), pows_set hi, Int.add_zero]
theorem nodes_len {p : Pl} {r : Nat} (h6 : p.circ ≤ 6) (hr : r < 2 ^ p.sets.length) : ((nodesR (unL p r) p.reg).length : Int) = 1 + p.nodes.length := by
  have hnn : ∀ i, 0 ≤ (unL p r).getD i 0 := fun i => (regL1_nn _ i).1
  have := nodes_cnt hnn (fun _ => true) p.reg
  rw [cntF_all] at this
  rw [this]
  unfold unL
  rw [regL1_sum h6 hr (fun _ => true) _ (Nat.le_refl _), pows_true]
  rfl
theorem cntF_take (l : List Bool) (k : Nat) (h : k < l.length) : cntF (l.take (k + 1)) = cntF (l.take k) + if l[k] then 1 else 0 := by
  rw [List.take_succ_eq_append_getElem h, cntF_app, cntF, cntF]; omega
theorem cntF_take_le (l : List Bool) (k : Nat) : 0 ≤ cntF (l.take k) ∧ cntF (l.take k) ≤ l.length := by
  have h1 := cntF_nn (l.take k)
  have h2 := cntF_len (l.take k)
  rw [List.length_take] at h2
  omega
end Go.V
namespace Go.Proofs.YtokpeggkofjclaaGreatDoor
open Go Go.V
theorem c11 (t : Tm) : AFn pr 11 [t.d] [] (.ret (.tuple [(MakeF t).1.d, .i (MakeF t).2])) := by
  refine AFn.ofGe (s11 ?_)
  unfold A11
  have hc := c34 t
  have hN := c35 t
  refine a_bxv fun z1 => ?_
  refine a_bx fun z2 => ?_
  unfold MakeF
  ((apply a_ldA 1; exact rfl; exact rfl); refine a_call0 hc ?_; (apply a_ext; exact rfl); (apply a_ext; exact rfl); refine a_neq ?_)
  refine a_cnd (fun h1 => ?_) (fun h1 => ?_)
  · rw [if_pos h1]
    (refine a_bld [.nil, .nil, .nil] rfl rfl ?_; refine a_stA 0 rfl rfl rfl rfl ?_; (apply a_ldA 0; exact rfl; exact rfl))
    exact ge_plan0
  rw [if_neg h1]
  have hlen := namesF_len t
  (refine a_bld [.nil, .nil, .nil] rfl rfl ?_; refine a_bx fun z3 => ?_; refine a_stA 0 rfl rfl rfl rfl ?_; (apply a_ldA 2; exact rfl; exact rfl); refine a_call0 hN ?_)
  refine a_lp (σ := Nat × (Nat × Nat) × (Nat × Nat) × (Nat × Nat)) (fun x => [.i x.1]) (fun x => [⟨z3, [gv x.2.1.1 x.2.1.2 (ofOp 7 ((NamesF t).take x.1)), gv x.2.2.1.1 x.2.2.1.2 (ofOp 14 ((NamesF t).take x.1)), gv x.2.2.2.1 x.2.2.2.2 (ofOp 2 ((NamesF t).take x.1))], .box⟩, ⟨z2, [.nil, .nil, .nil], .box⟩, ⟨z1, t.cs, .box⟩] ++ gb s1 9 1 x.2.1.1 x.2.1.2 (ofOp 7 ((NamesF t).take x.1)) ++ gb s1 9 1 x.2.2.1.1 x.2.2.1.2 (ofOp 14 ((NamesF t).take x.1)) ++ gb s1 9 1 x.2.2.2.1 x.2.2.2.2 (ofOp 2 ((NamesF t).take x.1))) (fun x => x.1 ≤ (NamesF t).length) (fun x => (NamesF t).length - x.1) (0, (0, 0), (0, 0), (0, 0)) (by first | exact Gl.refl _ _ | exact Gl.drop (by repeat (first | exact List.Sublist.refl _ | exact List.Sublist.slnil | apply List.Sublist.cons_cons | apply List.Sublist.cons))) (Nat.zero_le _) ?_
  rintro ⟨i, ⟨x1, y1⟩, ⟨x2, y2⟩, ⟨x3, y3⟩⟩ K hi hK
  dsimp only at hi hK ⊢
  dsimp only [aix0, aix1, aix2, aix3, aix4, aix5, aix6, aix7, aix8]
  (refine a_lenM ?_; refine a_lss ?_)
  refine a_cnd (fun q => ?_) (fun q => ?_)
  · have hlt : i < (NamesF t).length := by omega
    have hK1 := fun a1 a2 a3 b1 b2 b3 => hK (i + 1, (a1, b1), (a2, b2), (a3, b3))
    clear hK
    simp only [List.take_succ_eq_append_getElem hlt, ofOp_snoc] at hK1
    have l7 := ofOp_len 7 ((NamesF t).take i)
    have l14 := ofOp_len 14 ((NamesF t).take i)
    have l2 := ofOp_len 2 ((NamesF t).take i)
    have ltk : ((NamesF t).take i).length ≤ 2000 := by rw [List.length_take]; omega
    have hidx : ∀ {k : D → Prop}, k (.pin (Nm.cr (NamesF t)[i])) → aidxS 5 (.row 5 ((NamesF t).map Nm.cr)) (.i i) k := fun h => a_idxM i hlt h
    generalize ofOp 7 ((NamesF t).take i) = S at *
    generalize ofOp 14 ((NamesF t).take i) = N at *
    generalize ofOp 2 ((NamesF t).take i) = I at *
    generalize (NamesF t)[i] = x at hK1 hidx
    obtain ⟨nm, op⟩ := x
    refine hidx ?_
    (refine a_fldp ?_; refine a_fldp ?_; (apply a_ld1p; exact rfl); refine a_eql ?_)
    refine a_cnd (fun e7 => ?_) (fun e7 => ?_)
    · have e7 : op = 7 := e7
      subst e7
      dsimp only at hK1
      rw [if_pos (rfl : (7 : Int) = 7), if_neg (by decide : ¬ (7 : Int) = 14), if_neg (by decide : ¬ (7 : Int) = 2)] at hK1
      (refine a_fld ?_; (apply a_ld1 0; exact rfl; exact rfl); refine hidx ?_; refine a_fldp ?_; (apply a_ld1p; exact rfl); (apply a_bldF _; exact rfl; (try dsimp only [afill, aparts, cl, chunk, List.take, List.drop, List.nil_append, List.cons_append, List.append_nil, List.length_cons, List.length_nil, Nat.zero_add, Nat.reduceAdd, Nat.reduceMul]); try exact rfl))
      refine a_appMid (bytes := 16) (l := S) (x := str nm) (M := [⟨z3, [gv x1 y1 S, gv x2 y2 N, gv x3 y3 I], .box⟩, ⟨z2, [.nil, .nil, .nil], .box⟩, ⟨z1, t.cs, .box⟩]) (N := gb s1 9 1 x2 y2 N ++ gb s1 9 1 x3 y3 I) s1_len s1_one (by decide) (by omega) (by simp only [List.append_assoc, List.cons_append]) (fun h0 b' c' => ?_) (fun h0 b' c' => ?_)
      · subst h0
        (refine a_fld ?_; (apply a_st 1 _; exact rfl; exact rfl; exact rfl; exact rfl; (try dsimp only [afill, aparts, cl, chunk, List.take, List.drop, List.nil_append, List.cons_append, List.append_nil, List.length_cons, List.length_nil, Nat.zero_add, Nat.reduceAdd, Nat.reduceMul]); try exact rfl); refine a_add (by first | omega | assumption | decide) (by first | omega | assumption | decide) ?_)
        refine hK1 b' x2 x3 c' y2 y3 _ _ (by omega) (by omega) (Gl.perm ?_)
        refine (perm_slot (A := ([⟨z3, [gv b' c' [str nm], gv x2 y2 N, gv x3 y3 I], .box⟩, ⟨z2, [.nil, .nil, .nil], .box⟩, ⟨z1, t.cs, .box⟩] : List Bx)) (B := gb s1 9 1 x2 y2 N ++ gb s1 9 1 x3 y3 I)).trans ?_
        simp only [List.append_assoc, List.nil_append]
        exact List.Perm.refl _
      · (refine a_fld ?_)
        refine V.a_st 0 [gv b' c' (S ++ [str nm]), gv x2 y2 N, gv x3 y3 I] rfl (by rw [gv_cl]; rfl) (by rw [gv_cl]; exact gv_one _) rfl (by rw [gv_cl]; rfl) ?_
        (refine a_add (by first | omega | assumption | decide) (by first | omega | assumption | decide) ?_)
        refine hK1 b' x2 x3 c' y2 y3 _ _ (by omega) (by omega) ?_
        refine Gl.drop ?_
        simp only [List.append_assoc, List.cons_append, List.nil_append]
        exact List.Sublist.refl _
    (refine a_eql ?_)
    refine a_cnd (fun e14 => ?_) (fun e14 => ?_)
    · have e14 : op = 14 := e14
      subst e14
      dsimp only at hK1
      rw [if_pos (rfl : (14 : Int) = 14), if_neg (by decide : ¬ (14 : Int) = 7), if_neg (by decide : ¬ (14 : Int) = 2)] at hK1
      (refine a_fld ?_; (apply a_ld1 0; exact rfl; exact rfl); refine hidx ?_; refine a_fldp ?_; (apply a_ld1p; exact rfl); (apply a_bldF _; exact rfl; (try dsimp only [afill, aparts, cl, chunk, List.take, List.drop, List.nil_append, List.cons_append, List.append_nil, List.length_cons, List.length_nil, Nat.zero_add, Nat.reduceAdd, Nat.reduceMul]); try exact rfl))
      refine a_appMid (bytes := 16) (l := N) (x := str nm) (M := [⟨z3, [gv x1 y1 S, gv x2 y2 N, gv x3 y3 I], .box⟩, ⟨z2, [.nil, .nil, .nil], .box⟩, ⟨z1, t.cs, .box⟩] ++ gb s1 9 1 x1 y1 S) (N := gb s1 9 1 x3 y3 I) s1_len s1_one (by decide) (by omega) (by simp only [List.append_assoc, List.cons_append]) (fun h0 b' c' => ?_) (fun h0 b' c' => ?_)
      · subst h0
        (refine a_fld ?_; (apply a_st 1 _; exact rfl; exact rfl; exact rfl; exact rfl; (try dsimp only [afill, aparts, cl, chunk, List.take, List.drop, List.nil_append, List.cons_append, List.append_nil, List.length_cons, List.length_nil, Nat.zero_add, Nat.reduceAdd, Nat.reduceMul]); try exact rfl); refine a_add (by first | omega | assumption | decide) (by first | omega | assumption | decide) ?_)
        refine hK1 x1 b' x3 y1 c' y3 _ _ (by omega) (by omega) (Gl.perm ?_)
        refine (perm_slot (A := ([⟨z3, [gv x1 y1 S, gv b' c' [str nm], gv x3 y3 I], .box⟩, ⟨z2, [.nil, .nil, .nil], .box⟩, ⟨z1, t.cs, .box⟩] ++ gb s1 9 1 x1 y1 S : List Bx)) (B := gb s1 9 1 x3 y3 I)).trans ?_
        simp only [List.append_assoc, List.nil_append]
        exact List.Perm.refl _
      · (refine a_fld ?_)
        refine V.a_st 0 [gv x1 y1 S, gv b' c' (N ++ [str nm]), gv x3 y3 I] rfl (by rw [gv_cl]; rfl) (by rw [gv_cl]; exact gv_one _) rfl (by rw [gv_cl]; rfl) ?_
        (refine a_add (by first | omega | assumption | decide) (by first | omega | assumption | decide) ?_)
        refine hK1 x1 b' x3 y1 c' y3 _ _ (by omega) (by omega) ?_
        refine Gl.drop ?_
        simp only [List.append_assoc, List.cons_append, List.nil_append]
        exact List.Sublist.refl _
    (refine a_eql ?_)
    refine a_cnd (fun e2 => ?_) (fun e2 => ?_)
    · have e2 : op = 2 := e2
      subst e2
      dsimp only at hK1
      rw [if_pos (rfl : (2 : Int) = 2), if_neg (by decide : ¬ (2 : Int) = 7), if_neg (by decide : ¬ (2 : Int) = 14)] at hK1
      (refine a_fld ?_; (apply a_ld1 0; exact rfl; exact rfl); refine hidx ?_; refine a_fldp ?_; (apply a_ld1p; exact rfl); (apply a_bldF _; exact rfl; (try dsimp only [afill, aparts, cl, chunk, List.take, List.drop, List.nil_append, List.cons_append, List.append_nil, List.length_cons, List.length_nil, Nat.zero_add, Nat.reduceAdd, Nat.reduceMul]); try exact rfl))
      refine a_appMid (bytes := 16) (l := I) (x := str nm) (M := [⟨z3, [gv x1 y1 S, gv x2 y2 N, gv x3 y3 I], .box⟩, ⟨z2, [.nil, .nil, .nil], .box⟩, ⟨z1, t.cs, .box⟩] ++ gb s1 9 1 x1 y1 S ++ gb s1 9 1 x2 y2 N) (N := []) s1_len s1_one (by decide) (by omega) (by simp only [List.append_assoc, List.append_nil, List.cons_append]) (fun h0 b' c' => ?_) (fun h0 b' c' => ?_)
      · subst h0
        (refine a_fld ?_; (apply a_st 1 _; exact rfl; exact rfl; exact rfl; exact rfl; (try dsimp only [afill, aparts, cl, chunk, List.take, List.drop, List.nil_append, List.cons_append, List.append_nil, List.length_cons, List.length_nil, Nat.zero_add, Nat.reduceAdd, Nat.reduceMul]); try exact rfl); refine a_add (by first | omega | assumption | decide) (by first | omega | assumption | decide) ?_)
        refine hK1 x1 x2 b' y1 y2 c' _ _ (by omega) (by omega) (Gl.perm ?_)
        refine (perm_slot (A := ([⟨z3, [gv x1 y1 S, gv x2 y2 N, gv b' c' [str nm]], .box⟩, ⟨z2, [.nil, .nil, .nil], .box⟩, ⟨z1, t.cs, .box⟩] ++ gb s1 9 1 x1 y1 S ++ gb s1 9 1 x2 y2 N : List Bx)) (B := [])).trans ?_
        simp only [List.append_assoc, List.append_nil, List.nil_append]
        exact List.Perm.refl _
      · (refine a_fld ?_)
        refine V.a_st 0 [gv x1 y1 S, gv x2 y2 N, gv b' c' (I ++ [str nm])] rfl (by rw [gv_cl]; rfl) (by rw [gv_cl]; exact gv_one _) rfl (by rw [gv_cl]; rfl) ?_
        (refine a_add (by first | omega | assumption | decide) (by first | omega | assumption | decide) ?_)
        refine hK1 x1 x2 b' y1 y2 c' _ _ (by omega) (by omega) ?_
        refine Gl.drop ?_
        simp only [List.append_assoc, List.append_nil, List.cons_append, List.nil_append]
        exact List.Sublist.refl _
    · (refine a_add (by first | omega | assumption | decide) (by first | omega | assumption | decide) ?_)
      dsimp only at hK1
      have e7 : ¬ op = 7 := e7
      have e14 : ¬ op = 14 := e14
      have e2 : ¬ op = 2 := e2
      rw [if_neg e7, if_neg e14, if_neg e2] at hK1
      exact hK1 x1 x2 x3 y1 y2 y3 _ _ (by omega) (by omega) (Gl.refl _ _)
  · have hie : i = (NamesF t).length := by omega
    subst hie
    clear hK
    rw [List.take_length]
    have l7 := ofOp_len 7 (NamesF t)
    have l14 := ofOp_len 14 (NamesF t)
    have l2 := ofOp_len 2 (NamesF t)
    have hpl : planN (NamesF t) = ⟨ofOp 7 (NamesF t), ofOp 14 (NamesF t), ofOp 2 (NamesF t)⟩ := rfl
    rw [hpl]
    generalize ofOp 7 (NamesF t) = S at *
    generalize ofOp 14 (NamesF t) = N at *
    generalize ofOp 2 (NamesF t) = I at *
    have hci : (Pl.mk S N I).circ = S.length + N.length := rfl
    have hni : (Pl.mk S N I).ints.length = I.length := rfl
    (refine a_fld ?_; (apply a_ld1 0; exact rfl; exact rfl); refine a_lenG ?_; refine a_fld ?_; (apply a_ld1 0; exact rfl; exact rfl); refine a_lenG ?_; refine a_add (by first | omega | assumption | decide) (by first | omega | assumption | decide) ?_; refine a_gtr ?_)
    refine a_cnd (fun q2 => ?_) (fun q2 => ?_)
    · (refine a_bld [.nil, .nil, .nil] rfl rfl ?_; refine a_stA 1 rfl rfl rfl rfl ?_; (apply a_ldA 1; exact rfl; exact rfl))
      rw [if_pos (.inl (by omega))]
      exact ge_plan0
    · (refine a_fld ?_; (apply a_ld1 0; exact rfl; exact rfl); refine a_lenG ?_; refine a_fld ?_; (apply a_ld1 0; exact rfl; exact rfl); refine a_lenG ?_; refine a_add (by first | omega | assumption | decide) (by first | omega | assumption | decide) ?_; refine a_fld ?_; (apply a_ld1 0; exact rfl; exact rfl); refine a_lenG ?_; refine a_add (by first | omega | assumption | decide) (by first | omega | assumption | decide) ?_; refine a_gtr ?_)
      refine a_cnd (fun q3 => ?_) (fun q3 => ?_)
      · (refine a_bld [.nil, .nil, .nil] rfl rfl ?_; refine a_stA 1 rfl rfl rfl rfl ?_; (apply a_ldA 1; exact rfl; exact rfl))
        rw [if_pos (.inr (by omega))]
        exact ge_plan0
      · rw [if_neg (by omega)]
        ((apply a_ldA 0; exact rfl; exact rfl))
        refine a_stA 1 rfl rfl rfl (by cases S <;> cases N <;> cases I <;> rfl) ?_
        ((apply a_ldA 1; exact rfl; exact rfl))
        exact ge_plan (A := [⟨z3, [gv x1 y1 S, gv x2 y2 N, gv x3 y3 I], .box⟩, ⟨z2, [gv x1 y1 S, gv x2 y2 N, gv x3 y3 I], .box⟩, ⟨z1, t.cs, .box⟩]) (e := 9) (e' := 9) (e'' := 9)
theorem c7 (t : Tm) (region : Int) : AFn pr 7 [t.d, .i region] [] (.ret (.b true)) := by
  refine AFn.of (s7 ?_)
  unfold A7
  have hp := MakeF_Ok t
  have h6 := (MakeF_ok t).1
  have hM := c10 t
  have hM2 := c11 t
  generalize MakeF t = P at *
  obtain ⟨p, e⟩ := P
  simp only at hp h6 hM hM2
  have hreg := p.reg_pos
  have hru := reg_unk p
  have hunk := unk_le hp
  have hil := hp.ints
  have hU := c21 p (by omega) hp.ints
  have hreg2 : p.reg = 2 ^ p.circ := by unfold Pl.reg; rw [Nat.min_eq_left h6]
  have hcc : p.sets.length + p.nodes.length = p.circ := rfl
  have hpw : ∀ k, k ≤ 6 → 2 ^ k ≤ 64 := fun k hk => Nat.pow_le_pow_right (n := 2) (by omega) hk
  refine a_bxv fun z1 => ?_
  (refine a_call0 c9 ?_; (apply a_ldA 0; exact rfl; exact rfl); refine a_call0 hM ?_; (apply a_ext; exact rfl); (apply a_ext; exact rfl); refine a_bx fun z2 => ?_; refine a_stA 0 rfl rfl rfl rfl ?_; refine a_neq ?_)
  refine a_cnd (fun q => ?_) (fun q => ?_)
  · rfl
  ((apply a_ldA 0; exact rfl; exact rfl); refine a_call0 hU ?_)
  have e0 : e = 0 := by omega
  subst e0
  refine a_mkS p.unk p.unk rfl rfl (Nat.le_refl _) (by omega) (by omega) fun z3 => ?_
  rw [zeros_flat]
  refine a_lp (σ := Nat) (fun i => [.i ((2 ^ i : Nat) : Int), .i i]) (fun _ => [⟨z3, (nD (List.replicate p.unk 0)).flatten, .row 2 1 p.unk⟩, ⟨z2, p.cs, .box⟩, ⟨z1, t.cs, .box⟩]) (fun i => i ≤ p.sets.length) (fun i => p.sets.length - i) 0 (by first | exact Gl.refl _ _ | exact Gl.drop (by repeat (first | exact List.Sublist.refl _ | exact List.Sublist.slnil | apply List.Sublist.cons_cons | apply List.Sublist.cons))) (Nat.zero_le _) ?_
  rintro i K hi hK
  dsimp only [aix0, aix1, aix2, aix3, aix4, aix5, aix6, aix7, aix8]
  (refine a_fld ?_; (apply a_ld1 1; exact rfl; exact rfl); refine a_lenM ?_; refine a_lss ?_)
  refine a_cnd (fun q2 => ?_) (fun q2 => ?_)
  · have h64 := hpw (i + 1) (by omega)
    have hp2 : 2 ^ (i + 1) = 2 ^ i * 2 := Nat.pow_succ ..
    have e1 : (2 : Int) * ((2 ^ i : Nat) : Int) = ((2 ^ (i + 1) : Nat) : Int) := by omega
    refine a_mul (by omega) (by omega) ?_
    rw [e1]
    (refine a_add (by first | omega | assumption | decide) (by first | omega | assumption | decide) ?_)
    exact hK (i + 1) _ _ (by omega) (by omega) (by first | exact Gl.refl _ _ | exact Gl.drop (by repeat (first | exact List.Sublist.refl _ | exact List.Sublist.slnil | apply List.Sublist.cons_cons | apply List.Sublist.cons)))
  · rw [show i = p.sets.length by omega]
    clear hK
    have h64 := hpw p.sets.length (by omega)
    have hpos : 0 < 2 ^ p.sets.length := Nat.pow_pos (by omega)
    have hle : 2 ^ p.sets.length ≤ 2 ^ p.circ := Nat.pow_le_pow_right (by omega) (by omega)
    refine a_andN fun m => ?_
    refine a_remN (by omega) fun r hr => ?_
    rw [Int.toNat_natCast] at hr
    have hr3 : r ≤ 63 := by omega
    have hW := c17 hp (unL p r)
    rw [world_one h6 hr] at hW
    have hsv : ∀ i (hi : i < p.sets.length), ∃ S : List Bool, (setV p (nodesR (unL p r) p.reg) 0 p.sets ++ nodeV p (nodesR (unL p r) p.reg) 0 p.nodes ++ intV p (unL p r) 0 p.ints)[i]? = some ⟨p.sets[i], ⟨2, 0, false, S⟩⟩ ∧ cntF S = (if inB r i then 1 else 0) ∧ S.length ≤ 64 := fun i hi => by
      refine ⟨_, ?_, world_set h6 hr hi, ?_⟩
      · rw [List.append_assoc, List.getElem?_append_left (by rw [setV_len]; exact hi), List.getElem?_eq_getElem (by rw [setV_len]; exact hi), setV_at p _ p.sets 0 i hi, Nat.zero_add]
      · have := nodes_len h6 hr
        rw [List.length_map]; omega
    have hnl : (setV p (nodesR (unL p r) p.reg) 0 p.sets ++ nodeV p (nodesR (unL p r) p.reg) 0 p.nodes ++ intV p (unL p r) 0 p.ints).length = p.sets.length + p.nodes.length + p.ints.length := by
      rw [List.length_append, List.length_append, setV_len, nodeV_len, intV_len]
    generalize setV p (nodesR (unL p r) p.reg) 0 p.sets ++ nodeV p (nodesR (unL p r) p.reg) 0 p.nodes ++ intV p (unL p r) 0 p.ints = ns at *
    (refine a_lenO ?_; refine a_geq ?_; refine a_cndF (by first | omega | assumption | decide) ?_)
    refine a_idxO (j := (r : Int)) (by omega) (by omega) ?_
    rw [Int.toNat_natCast]
    refine a_stN 0 r rfl (by rw [List.length_replicate]; omega) ?_
    have hU0 : (List.replicate p.unk (0 : Int)).set r 1 = regL1 p r 0 := rfl
    rw [hU0]
    refine a_lp (σ := Nat) (fun i => [.i ((2 ^ (p.sets.length + i) : Nat) : Int), .i i]) (fun i => [⟨z3, (nD (regL1 p r i)).flatten, .row 2 1 p.unk⟩, ⟨z2, p.cs, .box⟩, ⟨z1, t.cs, .box⟩]) (fun i => i ≤ p.nodes.length) (fun i => p.nodes.length - i) 0 (by first | exact Gl.refl _ _ | exact Gl.drop (by repeat (first | exact List.Sublist.refl _ | exact List.Sublist.slnil | apply List.Sublist.cons_cons | apply List.Sublist.cons))) (Nat.zero_le _) ?_
    rintro i K hi hK
    dsimp only [aix0, aix1, aix2, aix3, aix4, aix5, aix6, aix7, aix8]
    (refine a_fld ?_; (apply a_ld1 1; exact rfl; exact rfl); refine a_lenM ?_; refine a_lss ?_)
    refine a_cnd (fun q4 => ?_) (fun q4 => ?_)
    · have hlt : 2 ^ (p.sets.length + i) < 2 ^ p.circ := Nat.pow_lt_pow_right (by omega) (by omega)
      have hp2 : 2 ^ (p.sets.length + (i + 1)) = 2 ^ (p.sets.length + i) * 2 := Nat.pow_succ ..
      have e1 : (2 : Int) * ((2 ^ (p.sets.length + i) : Nat) : Int) = ((2 ^ (p.sets.length + (i + 1)) : Nat) : Int) := by omega
      refine a_idxO (j := ((2 ^ (p.sets.length + i) : Nat) : Int)) (by omega) (by omega) ?_
      rw [Int.toNat_natCast]
      refine a_stN 0 (2 ^ (p.sets.length + i)) rfl (by rw [regL1_len]; omega) ?_
      refine a_mul (by omega) (by omega) ?_
      rw [e1]
      (refine a_add (by first | omega | assumption | decide) (by first | omega | assumption | decide) ?_)
      exact hK (i + 1) _ _ (by omega) (by omega) (by first | exact Gl.refl _ _ | exact Gl.drop (by repeat (first | exact List.Sublist.refl _ | exact List.Sublist.slnil | apply List.Sublist.cons_cons | apply List.Sublist.cons)))
    · rw [show i = p.nodes.length by omega]
      clear hK
      have hlU : (unL p r).length = p.unk := regL1_len p r _
      have hUe : regL1 p r p.nodes.length = unL p r := rfl
      rw [hUe]
      generalize unL p r = l at *
      ((apply a_ldA 1; exact rfl; exact rfl))
      refine a_callg (args' := [p.d, .row 1 (nD l)]) (L' := [⟨z2, p.cs, .box⟩, ⟨z1, t.cs, .box⟩]) (gl_fzN n1_len l 0 rfl hlU.symm (.cons (.refl _) (.cons .hit .nil)) (WkB.refl _ _ _)) ?_
      refine a_call0 hW ?_
      ((apply a_ext; exact rfl); (apply a_ext; exact rfl); refine a_bx fun z4 => ?_; refine a_stA 0 rfl rfl rfl rfl ?_; (apply a_ldA 2; exact rfl; exact rfl); refine a_call0 hM2 ?_; (apply a_ext; exact rfl); (apply a_ext; exact rfl); refine a_bx fun z5 => ?_; refine a_stA 0 rfl rfl rfl rfl ?_; (apply a_jnX; intro J hJ); refine a_neq ?_; (apply a_jnX; intro J hJ); refine a_cndbF rfl ?_; refine a_neq ?_; exact hJ; dsimp only [aix0, aix1, aix2, aix3, aix4, aix5, aix6, aix7, aix8]; (apply a_jnX; intro J hJ); refine a_cndbF rfl ?_; refine a_fld ?_; (apply a_ld1 1; exact rfl; exact rfl); refine a_fld ?_; (apply a_ld1 2; exact rfl; exact rfl); refine a_lenM ?_; refine a_add (by first | omega | assumption | decide) (by first | omega | assumption | decide) ?_; refine a_neq ?_; exact hJ; dsimp only [aix0, aix1, aix2, aix3, aix4, aix5, aix6, aix7, aix8]; (apply a_jnX; intro J hJ); refine a_cndF (by first | omega | assumption | decide) ?_; refine a_fld ?_; (apply a_ld1 1; exact rfl; exact rfl); refine a_lenM ?_; refine a_fld ?_; (apply a_ld1 2; exact rfl; exact rfl); refine a_lenM ?_; refine a_fld ?_; (apply a_ld1 2; exact rfl; exact rfl); refine a_lenM ?_; refine a_add (by first | omega | assumption | decide) (by first | omega | assumption | decide) ?_; refine a_fld ?_; (apply a_ld1 2; exact rfl; exact rfl); refine a_lenM ?_; refine a_add (by first | omega | assumption | decide) (by first | omega | assumption | decide) ?_; refine a_neq ?_; exact hJ; dsimp only [aix0, aix1, aix2, aix3, aix4, aix5, aix6, aix7, aix8]; refine a_cndF (by first | omega | assumption | decide) ?_; refine a_fld ?_; (apply a_ld1 0; exact rfl; exact rfl); refine a_lenM ?_; refine a_fld ?_; (apply a_ld1 2; exact rfl; exact rfl); refine a_lenM ?_; refine a_neq ?_; refine a_cndF (by first | omega | assumption | decide) ?_; exact hJ)
      have hpw0 : r / 2 ^ 0 = r := by rw [Nat.pow_zero, Nat.div_one]
      refine a_lp (σ := Nat) (fun i => [.i ((r / 2 ^ i : Nat) : Int), .i i]) (fun _ => [⟨z5, p.cs, .box⟩, ⟨z4, (Wd.mk (1 + p.nodes.length) ns).cs, .box⟩, ⟨z2, p.cs, .box⟩, ⟨z1, t.cs, .box⟩]) (fun i => i ≤ p.sets.length) (fun i => p.sets.length - i) 0 (by rw [hpw0]; exact Gl.refl _ _) (Nat.zero_le _) ?_
      rintro i K hi hK
      dsimp only [aix0, aix1, aix2, aix3, aix4, aix5, aix6, aix7, aix8]
      (refine a_fld ?_; (apply a_ld1 2; exact rfl; exact rfl); refine a_lenM ?_; refine a_lss ?_)
      refine a_cnd (fun q5 => ?_) (fun q5 => ?_)
      · have hlt : i < p.sets.length := by omega
        obtain ⟨S, hS, hcnt, hSl⟩ := hsv i hlt
        have hln : i < ns.length := by omega
        rw [List.getElem?_eq_getElem hln] at hS
        injection hS with hS
        have hlS : (Vl.mk 2 0 false S).s.length = S.length := rfl
        (refine a_fld ?_; (apply a_ld1 1; exact rfl; exact rfl))
        refine a_idxM i hln ?_
        rw [hS]
        (refine a_fldp ?_; (apply a_ldAp; exact rfl); refine a_bx fun z6 => ?_; refine a_stA 0 rfl rfl rfl rfl ?_)
        refine a_lp (σ := Nat) (fun k => [.i (cntF (S.take k)), .i k]) (fun _ => [⟨z6, (Vl.mk 2 0 false S).cs, .box⟩, ⟨z5, p.cs, .box⟩, ⟨z4, (Wd.mk (1 + p.nodes.length) ns).cs, .box⟩, ⟨z2, p.cs, .box⟩, ⟨z1, t.cs, .box⟩]) (fun k => k ≤ S.length) (fun k => S.length - k) 0 (by first | exact Gl.refl _ _ | exact Gl.drop (by repeat (first | exact List.Sublist.refl _ | exact List.Sublist.slnil | apply List.Sublist.cons_cons | apply List.Sublist.cons))) (Nat.zero_le _) ?_
        rintro k K2 hk hK2
        dsimp only [aix0, aix1, aix2, aix3, aix4, aix5, aix6, aix7, aix8]
        (refine a_fld ?_; (apply a_ld1 0; exact rfl; exact rfl); refine a_lenM ?_; refine a_lss ?_)
        refine a_cnd (fun q6 => ?_) (fun q6 => ?_)
        · have hks : k < S.length := by omega
          have hst := cntF_take S k hks
          have hrg := cntF_take_le S k
          (refine a_fld ?_; (apply a_ld1 0; exact rfl; exact rfl))
          refine a_idxM (f := bc) k hks ?_
          ((apply a_ld1p; exact rfl))
          have hK3 := hK2 (k + 1)
          rw [hst] at hK3
          cases hv : S[k] with
          | true =>
            rw [hv, if_pos rfl] at hK3
            (refine a_cndbT rfl ?_; refine a_add (by first | omega | assumption | decide) (by first | omega | assumption | decide) ?_; refine a_add (by first | omega | assumption | decide) (by first | omega | assumption | decide) ?_)
            exact hK3 _ _ (by omega) (by omega) (by first | exact Gl.refl _ _ | exact Gl.drop (by repeat (first | exact List.Sublist.refl _ | exact List.Sublist.slnil | apply List.Sublist.cons_cons | apply List.Sublist.cons)))
          | false =>
            rw [hv, if_neg (by decide), Int.add_zero] at hK3
            (refine a_cndbF rfl ?_; refine a_add (by first | omega | assumption | decide) (by first | omega | assumption | decide) ?_)
            exact hK3 _ _ (by omega) (by omega) (by first | exact Gl.refl _ _ | exact Gl.drop (by repeat (first | exact List.Sublist.refl _ | exact List.Sublist.slnil | apply List.Sublist.cons_cons | apply List.Sublist.cons)))
        · rw [show k = S.length by omega, List.take_length, hcnt]
          clear hK2
          have hrp : r / 2 ^ i ≤ 63 := Nat.le_trans (Nat.div_le_self _ _) hr3
          have hnx : r / 2 ^ i / 2 = r / 2 ^ (i + 1) := by rw [Nat.div_div_eq_div_mul, ← Nat.pow_succ]
          have hbit : inB r i = decide (r / 2 ^ i % 2 = 1) := rfl
          have hmid : ∀ {X : Prop}, (X ∧ X → X) := fun h => h.1
          by_cases hb : r / 2 ^ i % 2 = 1
          · rw [hbit, decide_eq_true hb, if_pos rfl]
            (refine a_eql ?_)
            refine a_rem2 ?_
            rw [hb]
            (refine a_eql ?_; refine a_neqB ?_; refine a_cndbF rfl ?_; refine a_gtr ?_; refine a_cndbF rfl ?_; refine a_fld ?_; (apply a_ld1 2; exact rfl; exact rfl))
            refine a_idxM i hln ?_
            rw [hS]
            (refine a_fldp ?_; (apply a_ld1 3; exact rfl; exact rfl))
            refine a_idxM (f := s1) i hlt ?_
            ((apply a_ld1p; exact rfl); refine a_neqS ?_)
            refine a_cndbF (decide_eq_false fun h => h rfl) ?_
            refine a_quo2 (by omega) ?_
            rw [hnx]
            (refine a_add (by first | omega | assumption | decide) (by first | omega | assumption | decide) ?_)
            exact hK (i + 1) _ _ (by omega) (by omega) (by first | exact Gl.refl _ _ | exact Gl.drop (by repeat (first | exact List.Sublist.refl _ | exact List.Sublist.slnil | apply List.Sublist.cons_cons | apply List.Sublist.cons)))
          · have hb0 : r / 2 ^ i % 2 = 0 := by omega
            rw [hbit, decide_eq_false hb, if_neg (by decide)]
            (refine a_eql ?_)
            refine a_rem2 ?_
            rw [hb0]
            (refine a_eql ?_; refine a_neqB ?_; refine a_cndbF rfl ?_; refine a_gtr ?_; refine a_cndbF rfl ?_; refine a_fld ?_; (apply a_ld1 2; exact rfl; exact rfl))
            refine a_idxM i hln ?_
            rw [hS]
            (refine a_fldp ?_; (apply a_ld1 3; exact rfl; exact rfl))
            refine a_idxM (f := s1) i hlt ?_
            ((apply a_ld1p; exact rfl); refine a_neqS ?_)
            refine a_cndbF (decide_eq_false fun h => h rfl) ?_
            refine a_quo2 (by omega) ?_
            rw [hnx]
            (refine a_add (by first | omega | assumption | decide) (by first | omega | assumption | decide) ?_)
            exact hK (i + 1) _ _ (by omega) (by omega) (by first | exact Gl.refl _ _ | exact Gl.drop (by repeat (first | exact List.Sublist.refl _ | exact List.Sublist.slnil | apply List.Sublist.cons_cons | apply List.Sublist.cons)))
      · clear hK
        skip
        rfl
end Go.Proofs.YtokpeggkofjclaaGreatDoor
