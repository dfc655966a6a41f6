/- Contracts of the document's Put, Free, Fresh; the law SubstPuts. -/
import Derived.Test.YtaigilchnadmpaaGreatDoorC27
import Derived.Test.YtaigilchnadmpaaGreatDoorC22
set_option maxRecDepth 100000
set_option linter.unusedVariables false
namespace Go.V
open Go
theorem pickA_none {l : List As} (nm : ByteArray) (s : Int) (i : Nat) (h : ∀ j, (hj : j < l.length) → j < i → ¬ (l[j].nm = nm ∧ sortF l[j].to = (s, 0))) : pickA (l.take i) nm s = none := by
  unfold pickA
  rw [Option.map_eq_none_iff, List.find?_eq_none]
  intro x hx
  obtain ⟨j, hj, rfl⟩ := List.mem_iff_getElem.1 hx
  rw [List.length_take] at hj
  rw [List.getElem_take]
  have := h j (by omega) (by omega)
  simpa using this
theorem pickA_app (l m : List As) (nm : ByteArray) (s : Int) : pickA (l ++ m) nm s = (pickA l nm s).or (pickA m nm s) := by
  unfold pickA
  rw [List.find?_append]
  cases l.find? _ <;> rfl
theorem pickA_step {l : List As} {nm : ByteArray} {s : Int} {i : Nat} (hi : i < l.length) (h : pickA (l.take i) nm s = none) : pickA (l.take (i + 1)) nm s = if l[i].nm = nm ∧ sortF l[i].to = (s, 0) then some l[i].to else none := by
  rw [List.take_succ_eq_append_getElem hi, pickA_app, h]
  unfold pickA
  by_cases h1 : l[i].nm = nm <;> by_cases h2 : sortF l[i].to = (s, 0) <;> simp [h1, h2]
theorem pickA_here {l : List As} {nm : ByteArray} {s : Int} {i : Nat} {u : Tm} (hi : i < l.length) (h : pickA (l.take (i + 1)) nm s = some u) : pickA l nm s = some u := by
  have := pickA_app (l.take (i + 1)) (l.drop (i + 1)) nm s
  rw [List.take_append_drop, h] at this
  exact this
theorem badA_app : ∀ l m : List As, badA (l ++ m) = if badA l ≠ 0 then badA l else badA m
  | [], m => by rw [List.nil_append, badA, if_neg (by omega)]
  | x :: r, m => by
    rw [List.cons_append, badA, badA, badA_app r m]
    by_cases h : (sortF x.to).2 ≠ 0
    · rw [if_pos h, if_pos h, if_pos h]
    · rw [if_neg h, if_neg h]
theorem badA_one (x : As) : badA [x] = (sortF x.to).2 := by
  rw [badA, badA]; split <;> omega
theorem badA_step {l : List As} {i : Nat} (hi : i < l.length) (h : badA (l.take i) = 0) : badA (l.take (i + 1)) = (sortF l[i].to).2 := by
  rw [List.take_succ_eq_append_getElem hi, badA_app, if_neg (by omega), badA_one]
theorem badA_here {l : List As} {i : Nat} (h : badA (l.take i) ≠ 0) : badA l = badA (l.take i) := by
  have := badA_app (l.take i) (l.drop i)
  rw [List.take_append_drop, if_pos h] at this
  exact this
section
variable {k : D → Prop} {L : List Bx} {kl : D → List Bx → Prop}
theorem a_rem10 {n : Nat} (h : k (.i ((n % 10 : Nat) : Int))) : aar .rem (.i n) (.i 10) k := by
  refine ⟨rfl, by omega, ?_⟩
  rw [Int.tmod_eq_emod_of_nonneg (by omega)]
  rw [Int.natCast_emod] at h
  exact h
theorem a_quo10 {n : Nat} (hn : n ≤ 1000) (h : k (.i ((n / 10 : Nat) : Int))) : aar .quo (.i n) (.i 10) k := by
  refine ⟨rfl, by omega, ?_⟩
  rw [Int.tdiv_eq_ediv_of_nonneg (by omega)]
  show k (.i (IntKind.i64.wrap _))
  rw [i64_wrap (by omega) (by omega)]
  rw [Int.natCast_ediv] at h
  exact h
theorem dig_str {d : Nat} (h : d < 10) : strI [IntKind.u8.wrap (48 + (d : Int))] = str [UInt8.ofNat (48 + d)] := by
  have : ∀ i : Fin 10, strI [IntKind.u8.wrap (48 + ((i.1 : Nat) : Int))] = str [UInt8.ofNat (48 + i.1)] := by decide +kernel
  exact this ⟨d, h⟩
/-- a digit as a text -/
theorem a_dig {e d : Nat} (hd : d < 10) (h : kl (.s (str [UInt8.ofNat (48 + d)])) L) : aar .add (.i 48) (.i d) fun t40 => acvI .u8 t40 fun t41 => abldS e 1 1 [.val (.int .u8 0)] [(0, 1, t41)] L fun t42 w6 => acvB t42 fun t43 => kl t43 w6 := by
  refine a_add (by omega) (by omega) ?_
  refine a_cvI ?_
  refine a_bldS [[.val (.int .u8 (IntKind.u8.wrap (48 + (d : Int))))]] rfl rfl ?_
  refine ⟨[IntKind.u8.wrap (48 + (d : Int))], rfl, rfl, ?_⟩
  rw [dig_str hd]; exact h
theorem a_slcM {α : Type} {sz : Nat} {f : α → List D} {l : List α} {ki : IntKind} (n : Nat) (hn : n ≤ l.length) (h : k (.row sz ((l.take n).map f))) : aslcL sz (.row sz (l.map f)) none (some (.val (.int ki n))) k := by
  refine ⟨rfl, 0, n, ⟨ki, rfl⟩, rfl, Nat.zero_le _, by rw [List.length_map]; exact hn, _, rfl, ?_⟩
  rw [List.drop_zero, ← List.map_take]
  exact h
/-- one more term, whatever there was -/
theorem a_appTs {e b c : Nat} {l : List Tm} {x : Tm} (hb : l.length ≤ 1000000) (h : ∀ b' c', kl (bvT b' c' (l ++ [x])) (bbT e b' c' (l ++ [x]) ++ L)) : aapp e 4 56 (bvT b c l) (.row 4 (Tm.rows [x])) (bbT e b c l ++ L) kl := by
  cases l with
  | nil => exact a_appT0 fun b' c' => h b' c'
  | cons y l => exact a_appT1 0 rfl (by simp only [List.length_cons] at hb; omega) fun b' c' => h b' c'
/-- a row of terms is given up -/
theorem gl_fzT {e b c : Nat} {l : List Tm} {r : List D} (hl : l ≠ []) : Gl (bvT b c l :: r) (⟨b, (Tm.rows l).flatten, .row e 4 c⟩ :: L) (.row 4 (Tm.rows l) :: r) L := by
  cases l with
  | nil => exact absurd rfl hl
  | cons y l =>
    refine Gl.fz (n := l.length + 1) (c := c) 0 rfl (by rw [Tm.flat_len]; rfl) ?_ (WkB.refl _ _ _)
    rw [show l.length + 1 = (y :: l).length from rfl, chunk_rows]
    exact .cons .hit (WkL.refl _ _ _)
theorem gl_fzTs {e b c : Nat} {l : List Tm} {r : List D} (hl : l ≠ []) : Gl (bvT b c l :: r) (bbT e b c l ++ L) (.row 4 (Tm.rows l) :: r) L := by
  cases l with
  | nil => exact absurd rfl hl
  | cons y l => exact gl_fzT hl
theorem gl_fzT0 {r : List D} : Gl (.nil :: r) L (.row 4 (Tm.rows []) :: r) L := by
  refine Gl.nil 4 ?_ (WkB.refl _ _ _)
  rw [Tm.rows_nil]
  exact .cons .hit (WkL.refl _ _ _)
end
theorem digL_1 {k : Nat} (h : k < 10) : digL k = [UInt8.ofNat (48 + k % 10)] := by unfold digL; rw [if_pos h, Nat.mod_eq_of_lt h]
theorem digL_2 {k : Nat} (h : 10 ≤ k) : digL k = [UInt8.ofNat (48 + k / 10)] ++ [UInt8.ofNat (48 + k % 10)] := by unfold digL; rw [if_neg (by omega)]; rfl
end Go.V
namespace Go.Proofs.YtaigilchnadmpaaGreatDoor
open Go Go.V
theorem As.a_f1 {x : As} {k : D → Prop} (h : k (.pin x.to.cs)) : afld 1 (.pin (As.cr x)) k := h
theorem As.a_f0 {x : As} {k : D → Prop} (h : k (.pin (As.cr x))) : afld 0 (.pin (As.cr x)) k := h
theorem As.a_s {x : As} {k : D → Prop} (h : k (.s x.nm)) {L : List Bx} : ald1 (.pin (As.cr x)) L k := h
theorem ret_s {a b : List UInt8} (h : a = b) : AE.ret (.s (str a)) = .ret (.s (str b)) := by rw [h]
theorem c55 (l : List As) (hl : ∀ x ∈ l, (sortF x.to).2 = 0) (t : Tm) : ∀ {s : Int}, rightT t s = true → t.size ≤ 2000 → AFn pr 55 [t.d, .row 5 (l.map As.cr)] [] (.ret (ptT (pickT l) t).d) := by
  induction t using Tm.ind' with
  | h t ih =>
    intro s h hsz
    have hal : t.a.length ≤ 2000 := by have := Tm.len_size t.a; have := Tm.size_eq t; omega
    cases hnm : (shpAt t.op).name with
    | true =>
      have ho := (named_iff h).1 hnm
      obtain ⟨_, _, ha, _⟩ := named_self h hnm
      have hvar : (decide (t.op = 2) || decide (t.op = 7) || decide (t.op = 14) || decide (t.op = 15)) = true := by rcases ho with e | e | e | e <;> rw [e] <;> rfl
      have hst : sortF t = ((shpAt t.op).sort, 0) := by
        rw [sortF_eq, if_neg (by rw [Tm.dep_eq, ha, Tm.depL_nil]; omega), if_pos (right_any h)]
      rw [pt_name h hnm]
      refine AFn.small fun hsm => AFn.of (s55 ?_)
      rw [Smalls, Smalls, Small, Small, List.length_map] at hsm
      have hlen := hsm.2.1.1
      unfold A55
      (refine a_bxv fun z1 => ?_; refine a_bx fun z2 => ?_; refine a_fld ?_; (apply a_ld1 1; exact rfl; exact rfl); refine a_call0 (c106 _) ?_; refine a_cndbT (by first | omega | assumption | decide) ?_; (apply a_ldA 1; exact rfl; exact rfl); refine a_call0 (c54 _) ?_; (apply a_ext; exact rfl); (apply a_ext; exact rfl))
      rw [hst]
      refine a_lp (σ := Nat) (fun i => [.i i]) (fun _ => [⟨z2, [.i 0, .s ⟨#[]⟩, .i 0, .nil], .box⟩, ⟨z1, t.cs, .box⟩]) (fun i => i ≤ l.length ∧ pickA (l.take i) t.nm (shpAt t.op).sort = none) (fun i => l.length - i) 0 (by first | exact Gl.refl _ _ | exact Gl.drop (by repeat (first | exact List.Sublist.refl _ | exact List.Sublist.slnil | apply List.Sublist.cons_cons | apply List.Sublist.cons))) ⟨Nat.zero_le _, rfl⟩ ?_
      rintro i K ⟨hi, hp⟩ hK
      dsimp only [aix0, aix1, aix2, aix3, aix4, aix5, aix6, aix7, aix8]
      (refine a_lenM ?_; refine a_lss ?_)
      refine a_cnd (fun q => ?_) (fun q => ?_)
      · have hlt : i < l.length := by omega
        have hx := hl _ (List.getElem_mem hlt)
        have hst2 := pickA_step hlt hp
        refine a_idxM i hlt ?_
        refine As.a_f1 ?_
        ((apply a_ldAp; exact rfl); refine a_call0 (c54 _) ?_; (apply a_ext; exact rfl); (apply a_ext; exact rfl))
        refine a_idxM i hlt ?_
        refine As.a_f0 ?_
        refine As.a_s ?_
        (refine a_fld ?_; (apply a_ld1 1; exact rfl; exact rfl); refine a_eqlS ?_)
        refine a_cnd (fun q2 => ?_) (fun q2 => ?_)
        · (refine a_eql ?_)
          refine a_cnd (fun q3 => ?_) (fun q3 => ?_)
          · rw [if_pos ⟨q2, Prod.ext q3 hx⟩] at hst2
            rw [pickA_here hlt hst2]
            refine a_idxM i hlt ?_
            refine As.a_f1 ?_
            ((apply a_ldAp; exact rfl); refine a_stA 0 rfl rfl rfl rfl ?_; (apply a_ldA 0; exact rfl; exact rfl))
            rfl
          · rw [if_neg fun hh => q3 (by rw [hh.2])] at hst2
            (refine a_add (by first | omega | assumption | decide) (by first | omega | assumption | decide) ?_)
            exact hK (i + 1) _ _ ⟨by omega, hst2⟩ (by omega) (by first | exact Gl.refl _ _ | exact Gl.drop (by repeat (first | exact List.Sublist.refl _ | exact List.Sublist.slnil | apply List.Sublist.cons_cons | apply List.Sublist.cons)))
        · rw [if_neg fun hh => q2 hh.1] at hst2
          (refine a_add (by first | omega | assumption | decide) (by first | omega | assumption | decide) ?_)
          exact hK (i + 1) _ _ ⟨by omega, hst2⟩ (by omega) (by first | exact Gl.refl _ _ | exact Gl.drop (by repeat (first | exact List.Sublist.refl _ | exact List.Sublist.slnil | apply List.Sublist.cons_cons | apply List.Sublist.cons)))
      · rw [show i = l.length by omega, List.take_length] at hp
        rw [hp]
        clear hK
        ((apply a_ldA 1; exact rfl; exact rfl); refine a_stA 0 rfl rfl rfl rfl ?_; (apply a_ldA 0; exact rfl; exact rfl))
        rfl
    | false =>
      have ho : ¬ (t.op = 2 ∨ t.op = 7 ∨ t.op = 14 ∨ t.op = 15) := fun ho => by rw [(named_iff h).2 ho] at hnm; cases hnm
      have hvar : (decide (t.op = 2) || decide (t.op = 7) || decide (t.op = 14) || decide (t.op = 15)) = false := by
        simp only [not_or] at ho
        rw [decide_eq_false ho.1, decide_eq_false ho.2.1, decide_eq_false ho.2.2.1, decide_eq_false ho.2.2.2]; rfl
      rw [pt_bare h hnm]
      have hkid : ∀ x ∈ t.a, AFn pr 55 [x.d, .row 5 (l.map As.cr)] [] (.ret (ptT (pickT l) x).d) := fun x hx => by
        obtain ⟨i, hi, rfl⟩ := List.mem_iff_getElem.1 hx
        have r := (right_iff t s).1 h
        exact ih _ hx (r.kids i hi) (by have := Tm.size_mem hx; have := Tm.size_eq t; omega)
      clear ih
      refine AFn.ofGe (s55 ?_)
      unfold A55
      (refine a_bxv fun z1 => ?_; refine a_bx fun z2 => ?_; refine a_fld ?_; (apply a_ld1 1; exact rfl; exact rfl); refine a_call0 (c106 _) ?_; refine a_cndbF (by first | omega | assumption | decide) ?_; refine a_fld ?_; (apply a_ld1 1; exact rfl; exact rfl); refine a_fld ?_; (apply a_ld1 1; exact rfl; exact rfl); refine a_fld ?_; (apply a_ld1 1; exact rfl; exact rfl); refine a_bld [_, _, _, .nil] rfl rfl ?_; refine a_bx fun z3 => ?_; refine a_stA 0 rfl rfl rfl rfl ?_)
      generalize pickT l = g at hkid ⊢
      refine a_lp3 (σ := Nat) (τ := Nat) (ρ := Nat) (fun i _ _ => [.i i]) (fun i b c => bbT 24 b c ((t.a.take i).map (ptT g)) ++ [⟨z3, [.i t.op, .s t.nm, .i t.n, bvT b c ((t.a.take i).map (ptT g))], .box⟩, ⟨z2, [.i 0, .s ⟨#[]⟩, .i 0, .nil], .box⟩, ⟨z1, t.cs, .box⟩]) (fun i _ _ => i ≤ t.a.length) (fun i _ _ => t.a.length - i) 0 0 0 (by first | exact Gl.refl _ _ | exact Gl.drop (by repeat (first | exact List.Sublist.refl _ | exact List.Sublist.slnil | apply List.Sublist.cons_cons | apply List.Sublist.cons))) (Nat.zero_le _) ?_
      rintro i b c K hi hK
      dsimp only [aix0, aix1, aix2, aix3, aix4, aix5, aix6, aix7, aix8]
      have et : i < t.a.length → (t.a.take (i + 1)).map (ptT g) = (t.a.take i).map (ptT g) ++ [ptT g (t.a.getD i (mk 0 []))] := by
        intro hlt
        rw [List.take_succ_eq_append_getElem hlt, List.map_append, List.getD_eq_getElem?_getD, List.getElem?_eq_getElem hlt]; rfl
      have el : ((t.a.take i).map (ptT g)).length = i := by rw [List.length_map, List.length_take]; omega
      have hend : i = t.a.length → (t.a.take i).map (ptT g) = t.a.map (ptT g) := fun h => by rw [h, List.take_length]
      specialize hK (i + 1)
      generalize hlist : (t.a.take i).map (ptT g) = m at hK el et hend ⊢
      cases m with
      | nil =>
        (refine a_fld ?_; (apply a_ld1 2; exact rfl; exact rfl); refine Tm.a_len ?_; refine a_lss ?_)
        refine a_cnd (fun h5 => ?_) (fun h5 => ?_)
        · have hlt : i < t.a.length := by omega
          rw [et hlt, List.getD_eq_getElem?_getD, List.getElem?_eq_getElem hlt] at hK
          (refine a_fld ?_; (apply a_ld1 0; exact rfl; exact rfl); refine a_fld ?_; (apply a_ld1 2; exact rfl; exact rfl))
          refine Tm.a_idx i hlt ?_
          ((apply a_ldAp; exact rfl))
          refine a_callS0 (hkid _ (List.getElem_mem hlt)) ?_
          (refine a_rowT1 rfl ?_)
          refine a_appT0 fun b' c' => ?_
          (refine a_fld ?_; (apply a_st 1 _; exact rfl; exact rfl; exact rfl; exact rfl; (try dsimp only [afill, aparts, cl, chunk, List.take, List.drop, List.nil_append, List.cons_append, List.append_nil, List.length_cons, List.length_nil, Nat.zero_add, Nat.reduceAdd, Nat.reduceMul]); try exact rfl); refine a_add (by first | omega | assumption | decide) (by first | omega | assumption | decide) ?_)
          exact hK b' c' _ _ (by omega) (by omega) (by first | exact Gl.refl _ _ | exact Gl.drop (by repeat (first | exact List.Sublist.refl _ | exact List.Sublist.slnil | apply List.Sublist.cons_cons | apply List.Sublist.cons)))
        · rw [← hend (by omega)]
          ((apply a_ldA 0; exact rfl; exact rfl); refine a_stA 1 rfl rfl rfl rfl ?_; (apply a_ldA 1; exact rfl; exact rfl))
          exact ge_mkT (e := 0) (.inl rfl)
      | cons y m =>
        simp only [bbT, List.cons_append, List.nil_append]
        (refine a_fld ?_; (apply a_ld1 3; exact rfl; exact rfl); refine Tm.a_len ?_; refine a_lss ?_)
        refine a_cnd (fun h5 => ?_) (fun h5 => ?_)
        · have hlt : i < t.a.length := by omega
          rw [et hlt, List.getD_eq_getElem?_getD, List.getElem?_eq_getElem hlt] at hK
          (refine a_fld ?_; (apply a_ld1 1; exact rfl; exact rfl); refine a_fld ?_; (apply a_ld1 3; exact rfl; exact rfl))
          refine Tm.a_idx i hlt ?_
          ((apply a_ldAp; exact rfl))
          refine a_callS0 (hkid _ (List.getElem_mem hlt)) ?_
          (refine a_rowT1 rfl ?_)
          refine a_appT1 0 rfl (by simp only [List.length_cons] at el; omega) fun b' c' => ?_
          (refine a_fld ?_; (apply a_st 1 _; exact rfl; exact rfl; exact rfl; exact rfl; (try dsimp only [afill, aparts, cl, chunk, List.take, List.drop, List.nil_append, List.cons_append, List.append_nil, List.length_cons, List.length_nil, Nat.zero_add, Nat.reduceAdd, Nat.reduceMul]); try exact rfl); refine a_add (by first | omega | assumption | decide) (by first | omega | assumption | decide) ?_)
          exact hK b' c' _ _ (by omega) (by omega) (by first | exact Gl.refl _ _ | exact Gl.drop (by repeat (first | exact List.Sublist.refl _ | exact List.Sublist.slnil | apply List.Sublist.cons_cons | apply List.Sublist.cons)))
        · rw [← hend (by omega)]
          ((apply a_ldA 1; exact rfl; exact rfl); refine a_stA 2 rfl rfl rfl rfl ?_; (apply a_ldA 2; exact rfl; exact rfl))
          exact ge_mkT (.inr ⟨0, rfl⟩)
theorem c15 (t : Tm) (l : List As) : AFn pr 15 [t.d, .row 5 (l.map As.cr)] [] (.ret (.tuple [(PutF t l).1.d, .i (PutF t l).2])) := by
  refine AFn.small fun hsm => AFn.of (s15 ?_)
  rw [Smalls, Smalls, Small, Small, List.length_map] at hsm
  have hlen := hsm.2.1.1
  unfold A15
  have fin : ∀ e : Int, (e = if (sortF t).2 ≠ 0 then (sortF t).2 else badA l) → e ≠ 0 → PutF t l = (mk 0 [], e) := fun e he hne => by
    unfold PutF
    split at he
    · next h => rw [if_pos h, he]
    · next h => rw [if_neg h, if_pos (by omega), he]
  (refine a_bxv fun z1 => ?_; refine a_bx fun z2 => ?_; (apply a_ldA 1; exact rfl; exact rfl); refine a_call0 (c54 _) ?_; (apply a_ext; exact rfl); (apply a_ext; exact rfl))
  refine a_lp (σ := Nat × Int) (fun x => [.i x.2, .i x.1]) (fun _ => [⟨z2, [.i 0, .s ⟨#[]⟩, .i 0, .nil], .box⟩, ⟨z1, t.cs, .box⟩]) (fun x => x.1 ≤ l.length ∧ x.2 = if (sortF t).2 ≠ 0 then (sortF t).2 else badA (l.take x.1)) (fun x => l.length - x.1) (0, (sortF t).2) (by first | exact Gl.refl _ _ | exact Gl.drop (by repeat (first | exact List.Sublist.refl _ | exact List.Sublist.slnil | apply List.Sublist.cons_cons | apply List.Sublist.cons))) ⟨Nat.zero_le _, by simp only [List.take_zero, badA]; split <;> omega⟩ ?_
  rintro ⟨i, e⟩ K ⟨hi, he⟩ hK
  dsimp only at hi he hK ⊢
  dsimp only [aix0, aix1, aix2, aix3, aix4, aix5, aix6, aix7, aix8]
  skip
  refine a_jn (σ := Unit) (fun _ => []) (fun _ => [⟨z2, [.i 0, .s ⟨#[]⟩, .i 0, .nil], .box⟩, ⟨z1, t.cs, .box⟩]) (fun _ => e = 0 ∧ i < l.length) ?_ fun J hJ => ?_
  · rintro _ ⟨rfl, hlt⟩
    refine a_idxM i hlt ?_
    refine As.a_f1 ?_
    ((apply a_ldAp; exact rfl); refine a_call0 (c54 _) ?_; (apply a_ext; exact rfl); (apply a_ext; exact rfl); refine a_add (by first | omega | assumption | decide) (by first | omega | assumption | decide) ?_)
    refine hK (i + 1, _) _ _ ⟨by simp only; omega, ?_⟩ (by simp only; omega) (by first | exact Gl.refl _ _ | exact Gl.drop (by repeat (first | exact List.Sublist.refl _ | exact List.Sublist.slnil | apply List.Sublist.cons_cons | apply List.Sublist.cons)))
    simp only
    split at he
    · omega
    · next h => rw [if_neg h, badA_step hlt he.symm]
  · have hend : e = 0 → ¬ i < l.length → (sortF t).2 = 0 ∧ ∀ x ∈ l, (sortF x.to).2 = 0 := fun h1 h2 => by
      rw [show i = l.length by omega, List.take_length] at he
      split at he
      · omega
      · next h => exact ⟨by omega, badA_ok.1 (by omega)⟩
    have hbad : e ≠ 0 → PutF t l = (mk 0 [], e) := fun h1 => fin e (by
      split at he
      · next h => rw [if_pos h]; exact he
      · next h => rw [if_neg h, badA_here (i := i) (l := l) (by omega)]; exact he) h1
    (refine a_lenM ?_; refine a_lss ?_)
    refine a_cnd (fun q => ?_) (fun q => ?_)
    · have hlt : i < l.length := by omega
      (refine a_eql ?_)
      refine a_cnd (fun q2 => ?_) (fun q2 => ?_)
      · exact hJ () _ _ ⟨q2, hlt⟩ (by first | exact Gl.refl _ _ | exact Gl.drop (by repeat (first | exact List.Sublist.refl _ | exact List.Sublist.slnil | apply List.Sublist.cons_cons | apply List.Sublist.cons)))
      · have hb := hbad q2
        (refine a_neq ?_; refine a_cndT (by first | omega | assumption | decide) ?_; refine a_bldT0 rfl rfl ?_; refine a_stA 0 rfl rfl rfl rfl ?_; (apply a_ldA 0; exact rfl; exact rfl))
        exact ret_di' (u := mk 0 []) hb.symm
    · (refine a_neq ?_)
      refine a_cnd (fun q3 => ?_) (fun q3 => ?_)
      · have hb := hbad q3
        (refine a_bldT0 rfl rfl ?_; refine a_stA 0 rfl rfl rfl rfl ?_; (apply a_ldA 0; exact rfl; exact rfl))
        exact ret_di' (u := mk 0 []) hb.symm
      · obtain ⟨h0, hl0⟩ := hend (Classical.not_not.1 q3) (by omega)
        obtain ⟨hs, _, hr, _⟩ := sortF_ok h0
        have hP := PutF_mk h0 hl0
        ((apply a_ldA 1; exact rfl; exact rfl); refine a_call0 (c55 _ (by first | omega | assumption | decide) _ (by first | omega | assumption | decide) (by first | omega | assumption | decide)) ?_; refine a_bx fun z3 => ?_; refine a_stA 0 rfl rfl rfl rfl ?_; (apply a_ldA 0; exact rfl; exact rfl); refine a_call0 (c54 _) ?_; (apply a_ext; exact rfl); (apply a_ext; exact rfl); refine a_neq ?_)
        rw [hP]
        generalize ptT (pickT l) t = u
        refine a_cnd (fun q4 => ?_) (fun q4 => ?_)
        · (refine a_bldT0 rfl rfl ?_; refine a_stA 1 rfl rfl rfl rfl ?_; (apply a_ldA 1; exact rfl; exact rfl))
          exact ret_di' (u := mk 0 []) (by unfold outF; rw [if_pos q4])
        · ((apply a_ldA 0; exact rfl; exact rfl); refine a_stA 1 rfl rfl rfl rfl ?_; (apply a_ldA 1; exact rfl; exact rfl))
          exact ret_di' (by unfold outF; rw [if_neg q4])
theorem c18 (t : Tm) (nm : ByteArray) : AFn pr 18 [t.d, .s nm] [] (.ret (.b (freeF t nm))) := by
  refine AFn.of (s18 ?_)
  unfold A18
  have hlen := namesF_len t
  (refine a_bxv fun z1 => ?_; (apply a_ldA 0; exact rfl; exact rfl); refine a_call0 (c61 _) ?_)
  refine a_lp (σ := Nat) (fun i => [.i i]) (fun _ => [⟨z1, t.cs, .box⟩]) (fun i => i ≤ (NamesF t).length ∧ (((NamesF t).take i).any fun x => decide (str x.1 = nm)) = false) (fun i => (NamesF t).length - i) 0 (by first | exact Gl.refl _ _ | exact Gl.drop (by repeat (first | exact List.Sublist.refl _ | exact List.Sublist.slnil | apply List.Sublist.cons_cons | apply List.Sublist.cons))) ⟨Nat.zero_le _, rfl⟩ ?_
  rintro i K ⟨hi, hn⟩ hK
  dsimp only [aix0, aix1, aix2, aix3, aix4, aix5, aix6, aix7, aix8]
  (refine a_lenM ?_; refine a_lss ?_)
  refine a_cnd (fun q => ?_) (fun q => ?_)
  · have hlt : i < (NamesF t).length := by omega
    refine a_idxM i hlt ?_
    (refine a_fldp ?_; (apply a_ld1p; exact rfl); refine a_eqlS ?_)
    have et : (((NamesF t).take (i + 1)).any fun x => decide (str x.1 = nm)) = decide (str (NamesF t)[i].1 = nm) := by
      rw [List.take_succ_eq_append_getElem hlt, List.any_append, hn]; simp
    refine a_cnd (fun q2 => ?_) (fun q2 => ?_)
    · refine ret_b ?_
      unfold freeF
      exact (List.any_eq_true.2 ⟨_, List.getElem_mem hlt, by simpa using q2⟩).symm
    · (refine a_add (by first | omega | assumption | decide) (by first | omega | assumption | decide) ?_)
      exact hK (i + 1) _ _ ⟨by omega, by rw [et]; simpa using q2⟩ (by omega) (by first | exact Gl.refl _ _ | exact Gl.drop (by repeat (first | exact List.Sublist.refl _ | exact List.Sublist.slnil | apply List.Sublist.cons_cons | apply List.Sublist.cons)))
  · rw [show i = (NamesF t).length by omega, List.take_length] at hn
    exact ret_b hn.symm
/-- the text that is tried -/
theorem c20 (ts : List Tm) (l : List UInt8) : AFn pr 20 [.row 4 (Tm.rows ts), .s (str l)] [] (.ret (.s (str (freshL ts l)))) := by
  refine AFn.small fun hsm => AFn.of (s20 ?_)
  rw [Smalls, Small, Tm.rows_len] at hsm
  have hl := hsm.1.1
  unfold A20
  have hname : AFn pr 63 [.s (str l)] [] (.ret (.b (nameF l))) := by have := c63 (s := str l); rwa [str_list] at this
  refine a_call0 hname ?_
  refine a_jn1 [.s (str (baseL l))] [] ?_ fun J hJ => ?_
  · dsimp only [aix0, aix1, aix2, aix3, aix4, aix5, aix6, aix7, aix8]
    have hb := name_len (base_name l)
    have hfr : freshL ts l = if takenF ts (baseL l) then freshG (takenF ts) (baseL l) 0 99 else baseL l := rfl
    generalize baseL l = bl at hb hfr ⊢
    rw [hfr]
    clear hfr hname
    refine a_lp (σ := Nat × List UInt8) (fun x => [.s (str x.2), .i x.1]) (fun _ => []) (fun x => x.1 ≤ 100 ∧ x.2.length ≤ 16 ∧ (x.1 = 0 → x.2 = bl) ∧ (1 ≤ x.1 → x.2 = tryL bl (x.1 - 1) ∧ (if takenF ts bl then freshG (takenF ts) bl 0 99 else bl) = freshG (takenF ts) bl (x.1 - 1) (100 - x.1))) (fun x => 100 - x.1) (0, bl) (by first | exact Gl.refl _ _ | exact Gl.drop (by repeat (first | exact List.Sublist.refl _ | exact List.Sublist.slnil | apply List.Sublist.cons_cons | apply List.Sublist.cons))) ⟨Nat.zero_le _, hb, fun _ => rfl, fun h => by simp at h⟩ ?_
    rintro ⟨k, tr⟩ K ⟨hk, hlen, h0, h1⟩ hK
    dsimp only at hk hlen h0 h1 hK ⊢
    dsimp only [aix0, aix1, aix2, aix3, aix4, aix5, aix6, aix7, aix8]
    (refine a_lss ?_)
    refine a_cnd (fun q => ?_) (fun q => ?_)
    · have hk99 : k ≤ 99 := by omega
      refine a_lp (σ := Nat) (fun i => [.b (takenF (ts.take i) tr), .i i]) (fun _ => []) (fun i => i ≤ ts.length) (fun i => ts.length - i) 0 (by first | exact Gl.refl _ _ | exact Gl.drop (by repeat (first | exact List.Sublist.refl _ | exact List.Sublist.slnil | apply List.Sublist.cons_cons | apply List.Sublist.cons))) (Nat.zero_le _) ?_
      rintro i K2 hi hK2
      dsimp only [aix0, aix1, aix2, aix3, aix4, aix5, aix6, aix7, aix8]
      (refine Tm.a_len ?_; refine a_lss ?_)
      refine a_cnd (fun q2 => ?_) (fun q2 => ?_)
      · have hlt : i < ts.length := by omega
        have hK2' := hK2 (i + 1)
        rw [taken_snoc ts i hlt] at hK2'
        clear hK2
        rw [← free_any] at hK2'
        cases ht : takenF (ts.take i) tr with
        | true =>
          rw [ht, Bool.true_or] at hK2'
          (refine a_cndbT rfl ?_; refine a_add (by first | omega | assumption | decide) (by first | omega | assumption | decide) ?_)
          exact hK2' _ _ (by omega) (by omega) (by first | exact Gl.refl _ _ | exact Gl.drop (by repeat (first | exact List.Sublist.refl _ | exact List.Sublist.slnil | apply List.Sublist.cons_cons | apply List.Sublist.cons)))
        | false =>
          rw [ht, Bool.false_or] at hK2'
          refine a_cndbF rfl ?_
          refine Tm.a_idx i hlt ?_
          ((apply a_ldAp; exact rfl); refine a_call0 (c18 _ _) ?_; refine a_add (by first | omega | assumption | decide) (by first | omega | assumption | decide) ?_)
          exact hK2' _ _ (by omega) (by omega) (by first | exact Gl.refl _ _ | exact Gl.drop (by repeat (first | exact List.Sublist.refl _ | exact List.Sublist.slnil | apply List.Sublist.cons_cons | apply List.Sublist.cons)))
      · have hie : i = ts.length := by omega
        subst hie
        rw [List.take_length]
        clear hK2
        (refine a_not ?_)
        have hstep : ∀ r : List UInt8, r = tryL bl k → takenF ts tr = true → ∀ v l', Gl v l' [.s (str r), .i ((k + 1 : Nat) : Int)] [] → K v l' := fun r hr ht v l' hg => by
          have hln : r.length ≤ 16 := by
            rw [hr]
            unfold tryL
            have := (digL_len k).1
            have := List.length_take_le 13 bl
            simp only [List.length_append, List.length_singleton]
            omega
          refine hK (k + 1, r) v l' ⟨by simp only; omega, hln, fun h => by simp at h, fun _ => ?_⟩ (by simp only; omega) hg
          simp only [Nat.add_sub_cancel]
          refine ⟨hr, ?_⟩
          rcases Nat.eq_zero_or_pos k with rfl | hkp
          · rw [h0 rfl] at ht
            rw [if_pos ht]
          · obtain ⟨e1, e2⟩ := h1 hkp
            rw [e2, show 100 - k = 99 - k + 1 by omega, freshG, if_pos (by rw [← e1]; exact ht), show k - 1 + 1 = k by omega, show 100 - (k + 1) = 99 - k by omega]
        clear hK
        have ht13 : bl.take (min bl.length 13) = bl.take 13 := take_min bl 13
        have em : (min (bl.length : Int) 13) = ((min bl.length 13 : Nat) : Int) := by omega
        have hln := List.length_take_le 13 bl
        refine a_cndb (fun hq => ?_) (fun hq => ?_)
        · have hq : takenF ts tr = false := by simpa using hq
          refine ret_s ?_
          rcases Nat.eq_zero_or_pos k with rfl | hkp
          · obtain rfl := h0 rfl
            rw [if_neg (by rw [hq]; simp)]
          · obtain ⟨e1, e2⟩ := h1 hkp
            rw [e2, show 100 - k = 99 - k + 1 by omega, freshG, if_neg (by rw [← e1, hq]; simp), e1]
        · have hq : takenF ts tr = true := by simpa using hq
          refine a_rem10 ?_
          refine a_dig (Nat.mod_lt _ (by omega)) ?_
          (refine a_geq ?_)
          refine a_cnd (fun q3 => ?_) (fun q3 => ?_)
          · refine a_quo10 (by omega) ?_
            refine a_dig (by omega) ?_
            refine a_addS (by simp) ?_
            rw [← digL_2 (by omega)]
            have hd := (digL_len k).1
            (refine a_lenStr ?_; refine a_min ?_)
            rw [em]
            refine a_slcSt (min bl.length 13) (by omega) ?_
            rw [ht13]
            refine a_addS (b := [95]) (by simp only [List.length_singleton]; omega) ?_
            refine a_addS (by simp only [List.length_append, List.length_singleton]; omega) ?_
            (refine a_add (by first | omega | assumption | decide) (by first | omega | assumption | decide) ?_)
            exact hstep _ rfl hq _ _ (by first | exact Gl.refl _ _ | exact Gl.drop (by repeat (first | exact List.Sublist.refl _ | exact List.Sublist.slnil | apply List.Sublist.cons_cons | apply List.Sublist.cons)))
          · rw [← digL_1 (by omega)]
            have hd := (digL_len k).1
            (refine a_lenStr ?_; refine a_min ?_)
            rw [em]
            refine a_slcSt (min bl.length 13) (by omega) ?_
            rw [ht13]
            refine a_addS (b := [95]) (by simp only [List.length_singleton]; omega) ?_
            refine a_addS (by simp only [List.length_append, List.length_singleton]; omega) ?_
            (refine a_add (by first | omega | assumption | decide) (by first | omega | assumption | decide) ?_)
            exact hstep _ rfl hq _ _ (by first | exact Gl.refl _ _ | exact Gl.drop (by repeat (first | exact List.Sublist.refl _ | exact List.Sublist.slnil | apply List.Sublist.cons_cons | apply List.Sublist.cons)))
    · have hk100 : k = 100 := by omega
      subst hk100
      obtain ⟨e1, e2⟩ := h1 (by omega)
      rw [e2, e1]
      rfl
  · unfold baseL at hJ
    (refine a_not ?_)
    refine a_cndb (fun q => ?_) (fun q => ?_)
    · exact hJ _ _ (by rw [if_neg (by simpa using q)]; exact (by first | exact Gl.refl _ _ | exact Gl.drop (by repeat (first | exact List.Sublist.refl _ | exact List.Sublist.slnil | apply List.Sublist.cons_cons | apply List.Sublist.cons))))
    · exact hJ _ _ (by rw [if_pos (by simpa using q)]; exact (by first | exact Gl.refl _ _ | exact Gl.drop (by repeat (first | exact List.Sublist.refl _ | exact List.Sublist.slnil | apply List.Sublist.cons_cons | apply List.Sublist.cons))))
theorem c3 (t : Tm) (l : List As) (nm : List UInt8) : AFn pr 3 [t.d, .row 5 (l.map As.cr), .s (str nm)] [] (.ret (.b true)) := by
  refine AFn.of (s3 ?_)
  unfold A3
  (refine a_bxv fun z1 => ?_; refine a_call0 (c11) ?_; (apply a_ldA 0; exact rfl; exact rfl); refine a_call0 (c12 _) ?_; (apply a_ext; exact rfl); (apply a_ext; exact rfl); (apply a_ldA 0; exact rfl; exact rfl); refine a_call0 (c13 _) ?_)
  refine a_jn (σ := Unit) (fun _ => []) (fun _ => [⟨z1, t.cs, .box⟩]) (fun _ => True) ?_ fun J hJ => ?_
  · rintro _ _
    (refine a_lenM ?_; refine a_min ?_)
    have em : (min (l.length : Int) 10) = ((min l.length 10 : Nat) : Int) := by omega
    rw [em]
    refine a_slcM (min l.length 10) (by omega) ?_
    have hl : (l.take (min l.length 10)).length ≤ 10 := by rw [List.length_take]; omega
    generalize l.take (min l.length 10) = m at hl ⊢
    obtain ⟨ts, hts⟩ : ∃ ts, ts = m.map As.to := ⟨_, rfl⟩
    have hlt : ts.length = m.length := by rw [hts, List.length_map]
    refine a_lp (σ := Nat × Nat × Nat) (fun x => [if x.1 = m.length then .row 4 (Tm.rows ts) else bvT x.2.1 x.2.2 (ts.take x.1), .i x.1]) (fun x => (if x.1 = m.length then [] else bbT 24 x.2.1 x.2.2 (ts.take x.1)) ++ [⟨z1, t.cs, .box⟩]) (fun x => x.1 ≤ m.length) (fun x => m.length - x.1) (0, 0, 0) ?_ (Nat.zero_le _) ?_
    · by_cases h0 : 0 = m.length
      · obtain rfl : ts = [] := List.eq_nil_of_length_eq_zero (by omega)
        simp only [if_pos h0, List.nil_append]
        exact gl_fzT0
      · simp only [if_neg h0]
        exact (by first | exact Gl.refl _ _ | exact Gl.drop (by repeat (first | exact List.Sublist.refl _ | exact List.Sublist.slnil | apply List.Sublist.cons_cons | apply List.Sublist.cons)))
    rintro ⟨i, b, c⟩ K hi hK
    dsimp only at hi hK ⊢
    dsimp only [aix0, aix1, aix2, aix3, aix4, aix5, aix6, aix7, aix8]
    by_cases he : i = m.length
    · rw [if_pos he, if_pos he]
      clear hK
      subst he
      rw [List.nil_append]
      have hsame := sameF_refl (PutF_dep t m)
      (refine a_lenM ?_; refine a_lss ?_; refine a_cndF (by first | omega | assumption | decide) ?_; (apply a_ldA 0; exact rfl; exact rfl); refine a_call0 (c14 _ _) ?_; (apply a_ext; exact rfl); (apply a_ext; exact rfl); refine a_bx fun z2 => ?_; refine a_stA 0 rfl rfl rfl rfl ?_; (apply a_ldA 1; exact rfl; exact rfl); refine a_call0 (c15 _ _) ?_; (apply a_ext; exact rfl); (apply a_ext; exact rfl); refine a_bx fun z3 => ?_; refine a_stA 0 rfl rfl rfl rfl ?_; refine a_cndbT rfl ?_; (apply a_ldA 1; exact rfl; exact rfl); (apply a_ldA 0; exact rfl; exact rfl); refine a_callS0 (c16 _ _) ?_; refine a_cndbT (by first | omega | assumption | decide) ?_; refine a_eql ?_; refine a_cndT (by first | omega | assumption | decide) ?_; (apply a_ldA 2; exact rfl; exact rfl); refine a_callS0 (c17 _ _) ?_; (apply a_ldA 2; exact rfl; exact rfl); refine a_callS0 (c18 _ _) ?_; refine a_eqlB ?_)
      refine a_cndbT (by simp) ?_
      (refine a_callS0 (c19 ts nm) ?_; refine a_callS0 (c20 ts nm) ?_; refine a_eqlS ?_)
      exact ret_b (by simp)
    · rw [if_neg he, if_neg he]
      have hlt2 : i < m.length := by omega
      have hstep : ∀ b' c', K [bvT b' c' (ts.take i ++ [m[i].to]), .i ((i + 1 : Nat) : Int)] (bbT 24 b' c' (ts.take i ++ [m[i].to]) ++ [⟨z1, t.cs, .box⟩]) := fun b' c' => by
        have e1 : ts.take i ++ [m[i].to] = ts.take (i + 1) := by
          rw [List.take_succ_eq_append_getElem (by omega)]; simp [hts]
        rw [e1]
        refine hK (i + 1, b', c') _ _ (by simp only; omega) (by simp only; omega) ?_
        simp only
        by_cases h2 : i + 1 = m.length
        · rw [if_pos h2, if_pos h2, List.nil_append]
          rw [List.take_of_length_le (by omega)]
          exact gl_fzTs fun h => by rw [h] at hlt; simp at hlt; omega
        · rw [if_neg h2, if_neg h2]
          exact (by first | exact Gl.refl _ _ | exact Gl.drop (by repeat (first | exact List.Sublist.refl _ | exact List.Sublist.slnil | apply List.Sublist.cons_cons | apply List.Sublist.cons)))
      clear hK
      have hln : (ts.take i).length ≤ 10 := by rw [List.length_take]; omega
      generalize ts.take i = us at hstep hln ⊢
      (refine a_lenM ?_; refine a_lss ?_; refine a_cndT (by first | omega | assumption | decide) ?_)
      refine a_idxM i hlt2 ?_
      refine As.a_f1 ?_
      ((apply a_ldAp; exact rfl); refine a_call0 (c12 _) ?_; (apply a_ext; exact rfl); (apply a_ext; exact rfl))
      refine a_idxM i hlt2 ?_
      refine As.a_f1 ?_
      have fin : aidxS 5 (.row 5 (List.map As.cr m)) (.i i) fun t70 =>
                    afld 1 t70 fun t71 =>
                      aldN 4 t71 (bbT 24 b c us ++ [⟨z1, t.cs, .box⟩]) fun t72 =>
                        abldS 24 4 1 [.i 0, .s ⟨#[]⟩, .i 0, .nil] [(0, 4, t72)] (bbT 24 b c us ++ [⟨z1, t.cs, .box⟩]) fun t73 w9 =>
                          aapp 24 4 56 (bvT b c us) t73 w9 fun t74 w10 =>
                            aar .add (.i i) (.i 1) fun t44 => K [t74, t44] w10 := by
        refine a_idxM i hlt2 ?_
        refine As.a_f1 ?_
        ((apply a_ldAp; exact rfl); refine a_rowS1 rfl ?_)
        refine a_appTs (by omega) fun b' c' => ?_
        (refine a_add (by first | omega | assumption | decide) (by first | omega | assumption | decide) ?_)
        exact hstep b' c'
      ((apply a_ldAp; exact rfl); refine a_call0 (c13 _) ?_; refine a_eql ?_)
      refine a_cnd (fun q => ?_) (fun q => ?_)
      · (refine a_not ?_)
        cases hs : smallB m[i].to with
        | false => rfl
        | true =>
          (refine a_cndbF rfl ?_)
          exact fin
      · exact fin
  · (refine a_eql ?_)
    refine a_cnd (fun q => ?_) (fun q => ?_)
    · (refine a_not ?_)
      cases hs : smallB t with
      | false => rfl
      | true =>
        (refine a_cndbF rfl ?_)
        exact hJ () _ _ trivial (by first | exact Gl.refl _ _ | exact Gl.drop (by repeat (first | exact List.Sublist.refl _ | exact List.Sublist.slnil | apply List.Sublist.cons_cons | apply List.Sublist.cons)))
    · exact hJ () _ _ trivial (by first | exact Gl.refl _ _ | exact Gl.drop (by repeat (first | exact List.Sublist.refl _ | exact List.Sublist.slnil | apply List.Sublist.cons_cons | apply List.Sublist.cons)))
end Go.Proofs.YtaigilchnadmpaaGreatDoor
