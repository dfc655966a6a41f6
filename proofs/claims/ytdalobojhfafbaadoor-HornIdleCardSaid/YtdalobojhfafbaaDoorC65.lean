/- HornIdle. -/
import Derived.Test.YtdalobojhfafbaaDoorC64
import Derived.Test.YtdalobojhfafbaaDoorM13
set_option maxRecDepth 100000
set_option linter.unusedVariables false
namespace Go.V
open Go
theorem i64_wrapI (n : Int) : IntKind.i64.wrap n = (n + 9223372036854775808) % 18446744073709551616 - 9223372036854775808 := by
  simp [IntKind.wrap, IntKind.bits, IntKind.signed]
  split <;> omega
theorem and_loI (a : Int) : ∃ n : Nat, bitsI .and .i64 a 65535 = n ∧ n ≤ 65535 := by
  refine ⟨(BitVec.ofInt 64 a &&& BitVec.ofInt 64 65535).toNat, ?_, ?_⟩
  · have h : (BitVec.ofInt 64 a &&& BitVec.ofInt 64 65535).toNat ≤ 65535 := by
      rw [BitVec.toNat_and]
      exact Nat.and_le_right
    show IntKind.i64.wrap _ = _
    rw [i64_wrapI]
    show (((BitVec.ofInt 64 a &&& BitVec.ofInt 64 65535).toNat : Int) + 9223372036854775808) % 18446744073709551616 - 9223372036854775808 = _
    omega
  · rw [BitVec.toNat_and]
    exact Nat.and_le_right
theorem a_andI {a : Int} {k : D → Prop} (h : ∀ n : Nat, k (.i n)) : aar .and (.i a) (.i 65535) k := by
  obtain ⟨n, e, _⟩ := and_loI a
  refine ⟨rfl, ?_⟩
  have := h n
  rw [← e] at this
  exact this
theorem a_remI {n m : Nat} {k : D → Prop} (hm : 0 < m) (h : ∀ j : Nat, j < m → k (.i j)) : aar .rem (.i n) (.i m) k := by
  refine ⟨rfl, by omega, ?_⟩
  have := h (n % m) (Nat.mod_lt _ hm)
  rw [Int.natCast_emod] at this
  rw [Int.tmod_eq_emod_of_nonneg (by omega)]
  exact this
def noneP : Pr := ⟨[], [], [], [], [], [], mk 16 [], []⟩
theorem noneP_ok : CheckF noneP = 0 := by kernel_rfl
theorem putE_nil {q : Tm} (h : (sortF q).2 = 0) : putE q [] = (q, 0) := by
  have := put_none (t := q) (l := []) h (fun x hx => by cases hx) (fun x hx => by cases hx)
  unfold putE
  rw [this, if_neg (fun hh => hh rfl)]
theorem asked_sort {p : Pr} {q : Tm} (h : askedE p q = 0) : CheckF p = 0 ∧ (sortF q).2 = 0 ∧ (sortF q).1 = 4 ∧ askedE noneP q = 0 := by
  unfold askedE at h ⊢
  obtain ⟨h1, h2⟩ := seqE_zero.1 h
  rw [noneP_ok, seqE_0, h2]
  split at h2
  · next g => exact absurd h2 g
  · next g =>
    split at h2
    · cases h2
    · next g2 => exact ⟨h1, Decidable.of_not_not g, Decidable.of_not_not g2, rfl⟩
theorem horn_idle {p : Pr} {q : Tm} {i : Nat} (hi : i < p.hs.length) (hs : ∀ x ∈ p.hs, x.dos = [] ∧ x.send = []) (he : (StepF p i q).2 = 0) :
    (StepF p i q).1 = mk 21 [aheadT p.hs[i], q] ∧ FirstF noneP q = (q, 0) ∧ q.dep ≤ 100 ∧ p.hs[i].whn.dep ≤ 100 := by
  unfold StepF at he ⊢
  by_cases h : askedE p q ≠ 0
  · rw [if_pos h] at he; exact absurd he h
  · rw [if_neg h] at he ⊢
    obtain ⟨a1, a2, a3, a4⟩ := asked_sort (Decidable.of_not_not h)
    have hget : p.hs.getD (i : Int).toNat hz = p.hs[i] := by rw [Int.toNat_natCast, List.getD_eq_getElem?_getD, List.getElem?_eq_getElem hi]; rfl
    have hmem := List.getElem_mem hi
    have hb : becT p.hs[i] = [] := by
      unfold becT
      rw [(hs _ hmem).1, (hs _ hmem).2]; rfl
    rw [if_neg (by omega), hget, hb, putE_nil a2, if_neg (fun hh => hh rfl)] at he ⊢
    have hw := (handsE_all (CheckF_ok a1).hands _ hmem).whn
    refine ⟨?_, ?_, (sortF_ok a2).2.1, (sortF_ok (t := p.hs[i].whn) (by rw [hw])).2.1⟩
    · unfold wholeE at he ⊢
      split at he
      · next g => cases he
      · next g => rw [if_neg g]
    · unfold FirstF
      rw [if_neg (fun hh => hh a4)]
      exact putE_nil a2
/-- without what is done and sent -/
def idleH (h : Ha) : Ha := ⟨h.timer, h.nm, h.node, h.whn, [], []⟩
/-- cells of a handler, of which Do and Send may be nothing already -/
def haO (x : Ha × Bool) : List D := if x.2 = true then [.b x.1.timer, .s x.1.nm, .s x.1.node] ++ x.1.whn.cs ++ [.nil, .nil] else x.1.cs
theorem haO_len (x : Ha × Bool) : (haO x).length = 9 := by unfold haO; split <;> rfl
def idles (l : List Ha) (i : Nat) : List (Ha × Bool) := (l.take i).map (·, true) ++ (l.drop i).map (·, false)
theorem idles_zero (l : List Ha) : idles l 0 = l.map (·, false) := by unfold idles; simp
theorem idles_all (l : List Ha) : idles l l.length = l.map (·, true) := by unfold idles; simp
theorem idles_len (l : List Ha) (i : Nat) : (idles l i).length = l.length := by unfold idles; simp; omega
def haO1 (h : Ha) : List D := [.b h.timer, .s h.nm, .s h.node] ++ h.whn.cs ++ [.row 5 [], .nil]
def idleP (p : Pr) : Pr := ⟨p.ints, p.bools, p.sets, p.msgs, p.init, p.hs.map idleH, p.safe, p.known⟩
theorem gl_idle {p : Pr} {b c z1 z2 e : Nat} {i : D} {q : List D} :
    Gl [.agg ([.row 1 (sT p.ints), .row 1 (sT p.bools), .row 1 (sT p.sets), .row 1 (sT p.msgs), .row 5 (p.init.map As.cr), .sl b 0 p.hs.length c] ++ p.safe.cs ++ [.row 4 (Tm.rows p.known)]), i, .agg q]
      [⟨b, ((p.hs.map (·, true)).map haO).flatten, .row e 9 c⟩, ⟨z2, q, .box⟩, ⟨z1, [.row 1 (sT p.ints), .row 1 (sT p.bools), .row 1 (sT p.sets), .row 1 (sT p.msgs), .row 5 (p.init.map As.cr), .sl b 0 p.hs.length c] ++ p.safe.cs ++ [.row 4 (Tm.rows p.known)], .box⟩]
      [(idleP p).d, i, .agg q] [⟨z2, q, .box⟩, ⟨z1, (idleP p).cs, .box⟩] := by
  have e1 : ((p.hs.map (·, true)).map haO) = p.hs.map fun h => haO (h, true) := by rw [List.map_map]; rfl
  rw [e1]
  refine Gl.trans (Gl.nil 5 (WkL.refl _ _ _) (L' := ⟨b, (p.hs.map haO1).flatten, .row e 9 c⟩ :: _) (.cons (wkL_map (fun h => ?_) p.hs) (WkB.refl _ _ _))) ?_
  · exact .cons (.refl _) (.cons (.refl _) (.cons (.refl _) (.cons (.refl _) (.cons (.refl _) (.cons (.refl _) (.cons (.refl _) (.cons .hit (.cons (.refl _) .nil))))))))
  refine Gl.trans (Gl.nil 1 (WkL.refl _ _ _) (L' := ⟨b, (p.hs.map fun h => (idleH h).cs).flatten, .row e 9 c⟩ :: _) (.cons (wkL_map (fun h => ?_) p.hs) (WkB.refl _ _ _))) ?_
  · exact .cons (.refl _) (.cons (.refl _) (.cons (.refl _) (.cons (.refl _) (.cons (.refl _) (.cons (.refl _) (.cons (.refl _) (.cons (.refl _) (.cons .hit .nil))))))))
  have e2 : (p.hs.map fun h => (idleH h).cs) = (p.hs.map idleH).map Ha.cs := by rw [List.map_map]; rfl
  have e3 : p.hs.length = (p.hs.map idleH).length := (List.length_map ..).symm
  rw [e2, e3]
  have hrow : chunk 9 (p.hs.map idleH).length ((p.hs.map idleH).map Ha.cs).flatten = (p.hs.map idleH).map Ha.cs := chunk_flat Ha.cs_len _
  refine Gl.fz (n := (p.hs.map idleH).length) (c := c) 0 rfl (flat_len Ha.cs_len _) ?_ ?_
  · rw [hrow]
    exact .cons (.agg (.cons (.refl _) (.cons (.refl _) (.cons (.refl _) (.cons (.refl _) (.cons (.refl _) (.cons .hit (WkL.refl _ _ _)))))))) (WkL.refl _ _ _)
  · rw [hrow]
    exact .cons (WkL.refl _ _ _) (.cons (.cons (.refl _) (.cons (.refl _) (.cons (.refl _) (.cons (.refl _) (.cons (.refl _) (.cons .hit (WkL.refl _ _ _))))))) .nil)
theorem idle_cells (l : List Ha) (j : Nat) (hj : j < l.length) {X Y : List D} (hX : X = ((idles l j).map haO).flatten) (hY : Y = X.take (j * 9 + 7) ++ [.nil] ++ X.drop (j * 9 + 7 + 1)) :
    Y.take (j * 9 + 8) ++ [.nil] ++ Y.drop (j * 9 + 8 + 1) = ((idles l (j + 1)).map haO).flatten := by
  obtain ⟨A, B, e1, e2, hA⟩ : ∃ A B, ((idles l j).map haO).flatten = A ++ (haO (l[j], false) ++ B) ∧ ((idles l (j + 1)).map haO).flatten = A ++ (haO (l[j], true) ++ B) ∧ A.length = j * 9 := by
    refine ⟨(((l.take j).map (·, true)).map haO).flatten, (((l.drop (j + 1)).map (·, false)).map haO).flatten, ?_, ?_, ?_⟩
    · unfold idles
      rw [List.drop_eq_getElem_cons hj, List.map_append, List.flatten_append, List.map_cons, List.map_cons, List.flatten_cons]
    · unfold idles
      rw [List.take_succ_eq_append_getElem hj, List.map_append, List.map_append, List.map_append, List.flatten_append, List.flatten_append, List.append_assoc]
      simp
    · rw [flat_len haO_len, List.length_map, List.length_take]
      congr 1; omega
  rw [e2, hY, hX, e1, ← hA]
  generalize l[j] = h
  obtain ⟨timer, hn, hnode, ⟨wo, ws, wn, wa⟩, dos, send⟩ := h
  have t7 : (A ++ (haO (⟨timer, hn, hnode, .mk wo ws wn wa, dos, send⟩, false) ++ B)).take (A.length + 7) = A ++ [.b timer, .s hn, .s hnode, .i wo, .s ws, .i wn, .row 4 (Tm.rows wa)] := by
    rw [List.take_length_add_append]; rfl
  have d8 : (A ++ (haO (⟨timer, hn, hnode, .mk wo ws wn wa, dos, send⟩, false) ++ B)).drop (A.length + 7 + 1) = .row 1 (sT send) :: B := by
    rw [Nat.add_assoc, List.drop_length_add_append]; rfl
  rw [t7, d8]
  have e3 : A ++ [D.b timer, .s hn, .s hnode, .i wo, .s ws, .i wn, .row 4 (Tm.rows wa)] ++ [.nil] ++ .row 1 (sT send) :: B = A ++ ([D.b timer, .s hn, .s hnode, .i wo, .s ws, .i wn, .row 4 (Tm.rows wa), .nil, .row 1 (sT send)] ++ B) := by simp
  rw [e3, List.take_length_add_append, Nat.add_assoc, List.drop_length_add_append]
  simp [haO, Tm.cs, Tm.op, Tm.nm, Tm.n, Tm.a]
end Go.V
namespace Go.Proofs.YtdalobojhfafbaaDoor
open Go Go.V
theorem c4 (p : Pr) (q : Tm) (h : Int) : AFn pr 4 [p.d, q.d, .i h] [] (.ret (.b true)) := by
  refine AFn.small fun hsm => AFn.ofGe (s4a ?_)
  unfold A4a
  have hC := c6 p
  refine a_bxv fun z1 => ?_
  cases q with | mk o s n a =>
  (refine a_bxv fun z2 => ?_; refine a_call0 (c5) ?_)
  refine a_jn (σ := Unit) (fun _ => []) (fun _ => [⟨z2, (Tm.mk o s n a).cs, .box⟩, ⟨z1, p.cs, .box⟩]) (fun _ => CheckF p = 0 ∧ p.hs ≠ []) ?_ fun J hJ => ?_
  · rintro _ ⟨hc, hne⟩
    have hpos : 0 < p.hs.length := List.length_pos_iff.2 hne
    have h32 : p.hs.length ≤ 32 := ((fewB_iff p).1 (CheckF_ok hc).few).1.2.1
    refine a_andI fun m => ?_
    (refine a_fld ?_; (apply a_ld1 1; exact rfl; exact rfl); refine a_lenM ?_)
    refine a_remI hpos fun i hi => ?_
    refine V.a_bldO [] rfl rfl fun z3 => ?_
    (refine a_fld ?_; (apply a_ld1 2; exact rfl; exact rfl))
    refine V.a_app 0 [] p.hs.length (p.hs.map Ha.cs).flatten rfl rfl ⟨rfl, by rw [List.length_map], rfl⟩ (flat_one Ha.cs_one p.hs) ?_ fun b c => ?_
    · omega
    rw [Nat.zero_add, List.nil_append]
    (refine a_fld ?_; (apply a_st 2 _; exact rfl; exact rfl; exact rfl; exact rfl; (try dsimp only [afill, aparts, cl, chunk, List.take, List.drop, List.nil_append, List.cons_append, List.append_nil, List.length_cons, List.length_nil, Nat.zero_add, Nat.reduceAdd, Nat.reduceMul]); try exact rfl))
    have hcs : List.take 5 p.cs ++ [D.sl b 0 p.hs.length c] ++ List.drop 6 p.cs = [.row 1 (sT p.ints), .row 1 (sT p.bools), .row 1 (sT p.sets), .row 1 (sT p.msgs), .row 5 (p.init.map As.cr), .sl b 0 p.hs.length c] ++ p.safe.cs ++ [.row 4 (Tm.rows p.known)] := rfl
    rw [hcs]
    have hPd : ∀ P : Pr, P.cs = [.row 1 (sT P.ints), .row 1 (sT P.bools), .row 1 (sT P.sets), .row 1 (sT P.msgs), .row 5 (P.init.map As.cr), .row 9 (P.hs.map Ha.cs)] ++ P.safe.cs ++ [.row 4 (Tm.rows P.known)] := fun _ => rfl
    refine a_lp (σ := Nat) (fun i => [.i i]) (fun i => [⟨b, ((idles p.hs i).map haO).flatten, .row 42 9 c⟩, ⟨z2, (Tm.mk o s n a).cs, .box⟩, ⟨z1, [.row 1 (sT p.ints), .row 1 (sT p.bools), .row 1 (sT p.sets), .row 1 (sT p.msgs), .row 5 (p.init.map As.cr), .sl b 0 p.hs.length c] ++ p.safe.cs ++ [.row 4 (Tm.rows p.known)], .box⟩]) (fun i => i ≤ p.hs.length) (fun i => p.hs.length - i) 0 ?_ (Nat.zero_le _) ?_
    · show Gl _ _ [.i ((0 : Nat) : Int)] _
      rw [idles_zero, List.map_map, show (haO ∘ fun x => (x, false)) = Ha.cs from rfl]
      exact Gl.refl _ _
    rintro j K hj hK
    dsimp only [aix0, aix1, aix2, aix3, aix4, aix5, aix6, aix7, aix8]
    (refine a_fld ?_; (apply a_ld1 2; exact rfl; exact rfl); refine a_lenO ?_; refine a_lss ?_)
    refine a_cnd (fun q1 => ?_) (fun q1 => ?_)
    · have hlt : j < p.hs.length := by omega
      have h3 := idles_len p.hs j
      have hfl : (((idles p.hs j).map haO).flatten).length = p.hs.length * 9 := by rw [flat_len haO_len, h3]
      (refine a_fld ?_; (apply a_ld1 2; exact rfl; exact rfl))
      refine a_idxO (j := (j : Int)) (by omega) (by omega) ?_
      rw [Int.toNat_natCast]
      (refine a_fld ?_)
      refine V.a_st 0 _ rfl rfl rfl (Nat.ble_eq_true_of_le (by omega)) rfl ?_
      rw [Nat.zero_add]
      (refine a_fld ?_; (apply a_ld1 2; exact rfl; exact rfl))
      refine a_idxO (j := (j : Int)) (by omega) (by omega) ?_
      rw [Int.toNat_natCast]
      (refine a_fld ?_)
      refine V.a_st 0 (((idles p.hs (j + 1)).map haO).flatten) rfl rfl rfl (Nat.ble_eq_true_of_le ?_) (by rw [Nat.zero_add]; exact idle_cells p.hs j hlt rfl rfl) ?_
      · simp only [List.length_append, List.length_take, List.length_drop, hfl, List.length_cons, List.length_nil, cl]
        omega
      (refine a_add (by first | omega | assumption | decide) (by first | omega | assumption | decide) ?_)
      exact hK (j + 1) _ _ (by omega) (by omega) (Gl.refl _ _)
    · clear hK
      rw [show j = p.hs.length by omega, idles_all]
      have hS := c9 (idleP p) (i : Int) (.mk o s n a)
      have hF := c10 noneP (.mk o s n a)
      have hil : (idleP p).hs.length = p.hs.length := List.length_map ..
      have hid := horn_idle (p := idleP p) (q := .mk o s n a) (i := i) (by omega) (fun x hx => by
        obtain ⟨y, _, rfl⟩ := List.mem_map.1 hx
        exact ⟨rfl, rfl⟩)
      ((apply a_ldA 2; exact rfl; exact rfl); (apply a_ldA 1; exact rfl; exact rfl))
      refine a_callg gl_idle ?_
      refine a_call0 hS ?_
      generalize StepF (idleP p) (i : Int) (.mk o s n a) = r at *
      obtain ⟨⟨o', s', n', a'⟩, e⟩ := r
      dsimp only at hid
      ((apply a_ext; exact rfl); (apply a_ext; exact rfl); refine a_bx fun z4 => ?_; refine a_stA 0 rfl rfl rfl rfl ?_; refine a_neq ?_)
      by_cases he : e ≠ 0
      · refine a_cndT he ?_
        exact ge_drop _ _
      · refine a_cndF he ?_
        obtain ⟨i1, i2, i3, i4⟩ := hid (Decidable.of_not_not he)
        rw [i2] at hF
        have hih : (idleP p).hs[i]'(by omega) = idleH p.hs[i] := List.getElem_map ..
        rw [hih] at i1 i4
        cases i1
        have hidx : ∀ {k : D → Prop}, k (.pin (idleH p.hs[i]).cs) → aidxS 9 (.row 9 ((idleP p).hs.map Ha.cs)) (.i i) k := fun hh => a_idxM i (by omega) (by rw [hih]; exact hh)
        have hS2 := c8 (.mk o s n a) (.mk o s n a)
        have hS3 := c8 (idleH p.hs[i]).whn (idleH p.hs[i]).whn
        rw [sameF_refl i3] at hS2
        rw [sameF_refl i4] at hS3
        have hnone : NilW [.nil, .nil, .nil, .nil, .nil, .nil, .i 16, .s ⟨#[]⟩, .i 0, .row 4 (Tm.rows []), .nil] noneP.cs := .nil (.nil (.nil (.nil (.nil (.nil (.same (.same (.same (.same (.nil (.refl _)))))))))))
        (refine a_bldT0 rfl rfl ?_; refine V.a_bldW _ noneP.cs rfl rfl hnone ?_; refine a_bx fun z5 => ?_; refine a_stA 0 rfl rfl rfl rfl ?_; (apply a_ldA 0; exact rfl; exact rfl); (apply a_ldA 2; exact rfl; exact rfl); refine a_call0 hF ?_; (apply a_ext; exact rfl); (apply a_ext; exact rfl); refine a_bx fun z6 => ?_; refine a_stA 0 rfl rfl rfl rfl ?_; refine a_cndbT rfl ?_; refine a_fld ?_; (apply a_ld1 2; exact rfl; exact rfl); refine a_eql ?_; refine a_cndbT rfl ?_; refine a_fld ?_; (apply a_ld1 2; exact rfl; exact rfl); refine Tm.a_len ?_; refine a_eql ?_; refine a_cndbT rfl ?_; refine a_fld ?_; (apply a_ld1 2; exact rfl; exact rfl); refine a_idxT1 ?_; (apply a_ldAp; exact rfl); (apply a_ldA 3; exact rfl; exact rfl); refine a_callS0 hS2 ?_; refine a_cndbT rfl ?_; refine a_fld ?_; (apply a_ld1 2; exact rfl; exact rfl); refine a_idxT0 ?_; refine a_fldp ?_; (apply a_ld1p; exact rfl))
        generalize p.hs[i] = h at *
        obtain ⟨timer, hn, hnode, ⟨wo, ws, wn, wa⟩, dos, send⟩ := h
        unfold aheadT idleH at *
        dsimp only at *
        cases timer with
        | true =>
          rw [if_pos (rfl : true = true)]
          (refine a_idxT0 ?_; (apply a_ldAp; exact rfl); refine a_fld ?_; (apply a_ld1 4; exact rfl; exact rfl); refine hidx ?_; refine a_fldp ?_; (apply a_ldNp _; exact rfl; exact rfl); refine a_callS0 hS3 ?_; refine a_cndbT rfl ?_; refine a_fld ?_; (apply a_ld1 2; exact rfl; exact rfl); refine a_idxT0 ?_; refine a_fldp ?_; (apply a_ld1p; exact rfl); refine Tm.a_len ?_; refine a_eql ?_; refine a_fld ?_; (apply a_ld1 4; exact rfl; exact rfl); refine hidx ?_; refine a_fldp ?_; (apply a_ld1p; exact rfl); refine a_eqlB ?_; refine a_cndbT rfl ?_; refine a_eql ?_; refine a_cndbT rfl ?_; (apply a_ldA 0; exact rfl; exact rfl); (apply a_ldA 3; exact rfl; exact rfl); refine a_callS0 hS2 ?_)
          exact ge_drop _ _
        | false =>
          rw [if_neg (show ¬ false = true by decide)]
          (refine a_idxT0 ?_; (apply a_ldAp; exact rfl); refine a_fld ?_; (apply a_ld1 4; exact rfl; exact rfl); refine hidx ?_; refine a_fldp ?_; (apply a_ldNp _; exact rfl; exact rfl); refine a_callS0 hS3 ?_; refine a_cndbT rfl ?_; refine a_fld ?_; (apply a_ld1 2; exact rfl; exact rfl); refine a_idxT0 ?_; refine a_fldp ?_; (apply a_ld1p; exact rfl); refine Tm.a_len ?_; refine a_eql ?_; refine a_fld ?_; (apply a_ld1 4; exact rfl; exact rfl); refine hidx ?_; refine a_fldp ?_; (apply a_ld1p; exact rfl); refine a_eqlB ?_; refine a_cndbT rfl ?_; refine a_eql ?_; refine a_cndbT rfl ?_; (apply a_ldA 0; exact rfl; exact rfl); (apply a_ldA 3; exact rfl; exact rfl); refine a_callS0 hS2 ?_)
          exact ge_drop _ _
  · (refine V.a_ldN 1 _ rfl rfl p.cs_len ?_; refine a_call0 hC ?_; refine a_neq ?_)
    by_cases h1 : CheckF p ≠ 0
    · refine a_cndT h1 ?_
      exact ge_drop _ _
    · refine a_cndF h1 ?_
      (refine a_fld ?_; (apply a_ld1 1; exact rfl; exact rfl); refine a_lenM ?_; refine a_eql ?_)
      by_cases h2 : p.hs = []
      · rw [h2]
        exact ge_drop _ _
      · have hpos : 0 < p.hs.length := List.length_pos_iff.2 h2
        refine a_cndF (by omega) ?_
        exact hJ () _ _ ⟨Decidable.of_not_not h1, h2⟩ (Gl.refl _ _)
end Go.Proofs.YtdalobojhfafbaaDoor
