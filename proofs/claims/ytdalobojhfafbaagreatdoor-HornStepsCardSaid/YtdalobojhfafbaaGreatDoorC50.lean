/- Contracts of layer 17: what is right about a protocol. -/
import Derived.Test.YtdalobojhfafbaaGreatDoorM29
import Derived.Test.YtdalobojhfafbaaGreatDoorW14
import Derived.Test.YtdalobojhfafbaaGreatDoorC14
import Derived.Test.YtdalobojhfafbaaGreatDoorC25
set_option maxRecDepth 100000
set_option linter.unusedVariables false
namespace Go.V
open Go
def dictE (d : Dict) : List (Value × D) := d.map fun x => (.string x.1, .i x.2)
def DictOk (d : Dict) : Prop := ∀ x ∈ d, x.1.size ≤ 9223372036854775807
theorem dict_keys {d : Dict} (h : DictOk d) : ∀ e ∈ dictE d, StrK e.1 := fun e he => by
  obtain ⟨x, hx, rfl⟩ := List.mem_map.1 he
  exact ⟨_, rfl, h x hx⟩
theorem a_lkD {P : Program} {kt : TypeId} {L : List Bx} {k : D → Prop} {b : Nat} {d : Dict} {s : ByteArray} (j : Nat) (hj : L[j]? = some (Bx.mk b [] (.map (dictE d)))) (mk : MapKey P kt StrK) (h : DictOk d) (hs : s.size ≤ 9223372036854775807) (hk : k (.i (opD d s))) :
    alkM P kt false (.i 0) (.val (.map (some b))) (.s s) L k := by
  have hK : StrK (.string s) := ⟨_, rfl, hs⟩
  unfold opD at hk
  cases hf : d.find? fun x => decide (x.1 = s) with
  | none =>
    rw [hf] at hk
    refine a_lkF (key := .string s) j hj mk (dict_keys h) rfl hK (fun e he hh => ?_) hk
    obtain ⟨x, hx, rfl⟩ := List.mem_map.1 he
    have := List.find?_eq_none.1 hf x hx
    injection hh with hh
    simp [hh] at this
  | some x =>
    rw [hf] at hk
    have h1 := List.find?_some hf
    have h2 := List.mem_of_find?_eq_some hf
    have h1 : x.1 = s := by simpa using h1
    obtain ⟨i, hi, hx⟩ := List.mem_iff_getElem.1 h2
    refine a_lkT (key := .string s) (d := .i x.2) j hj mk (dict_keys h) rfl hK ?_ hk
    refine List.mem_map.2 ⟨x, h2, ?_⟩
    rw [h1]
theorem opD_none {d : Dict} {s : ByteArray} (h : opD d s = 0) (hd : ∀ x ∈ d, x.2 ≠ 0) : ∀ e ∈ dictE d, e.1 ≠ .string s := fun e he hh => by
  obtain ⟨x, hx, rfl⟩ := List.mem_map.1 he
  injection hh with hh
  unfold opD at h
  cases hf : d.find? fun x => decide (x.1 = s) with
  | none => have := List.find?_eq_none.1 hf x hx; simp [hh] at this
  | some y => rw [hf] at h; exact hd y (List.mem_of_find?_eq_some hf) h
theorem dict_snoc (d : Dict) (s : ByteArray) (o : Int) : dictE d ++ [(.string s, .i o)] = dictE (d ++ [(s, o)]) := by unfold dictE; rw [List.map_append]; rfl
theorem smallr_map {α : Type} {f : α → List D} : ∀ {l : List α}, Smallr (l.map f) → ∀ x ∈ l, Smalls (f x)
  | [], _, x, hx => by cases hx
  | y :: l, h, x, hx => by
    rw [List.map_cons, Smallr] at h
    rcases List.mem_cons.1 hx with rfl | hx
    · exact h.1
    · exact smallr_map h.2 x hx
theorem as_small {l : List As} (h : Smallr (l.map As.cr)) (x : As) (hx : x ∈ l) : x.nm.size ≤ 9223372036854775807 := by
  have := smallr_map h x hx
  unfold As.cr at this
  rw [Smalls, Small] at this
  exact this.1
theorem nameF_size {s : List UInt8} (h : nameF s = true) : s.length ≤ 16 := by
  cases s with
  | nil => simp [nameF] at h
  | cons x r =>
    unfold nameF at h
    rw [Bool.and_eq_true, Bool.and_eq_true, decide_eq_true_eq] at h
    exact h.1.1
theorem name_size {s : ByteArray} (h : nameF s.data.toList = true) : s.size ≤ 9223372036854775807 := by
  have := nameF_size h
  have e : s.size = s.data.toList.length := by rw [ByteArray.size, Array.length_toList]
  omega
theorem seqE_0 (b : Int) : seqE 0 b = b := if_pos rfl
theorem seqE_n {a b : Int} (h : a ≠ 0) : seqE a b = a := if_neg h
theorem a_slcTk {α : Type} {f : α → List D} {sz : Nat} {l : List α} {ki : IntKind} {k : D → Prop} (n : Nat) (hn : n ≤ l.length) (h : k (.row sz ((l.take n).map f))) : aslcL sz (.row sz (l.map f)) none (some (.val (.int ki n))) k := by
  refine ⟨rfl, 0, n, ⟨ki, rfl⟩, rfl, Nat.zero_le _, by rw [List.length_map]; exact hn, _, rfl, ?_⟩
  rw [List.drop_zero, ← List.map_take]
  exact h
def ckB (bc bm : Nat) (p : Pr) (d : Dict) : List Bx := [⟨bc, p.cs ++ [.val (.map (some bm))], .box⟩, ⟨bm, [], .map (dictE d)⟩]
end Go.V
namespace Go.Proofs.YtdalobojhfafbaaGreatDoor
open Go Go.V
theorem keyStr : MapKey pr 9 StrK := mapKey_str (by kernel_rfl)
def ckV (e : Int) : AE := if e = 0 then .ret (.tuple []) else .pan (.ifc 107 (.i e))
theorem ckV_0 : ckV 0 = .ret (.tuple []) := if_pos rfl
theorem ckV_n {e : Int} (h : e ≠ 0) : ckV e = .pan (.ifc 107 (.i e)) := if_neg h
theorem mustT {e : Int} : AFn pr 96 [.b true, .i e] [] (.ret (.tuple [])) := by
  refine AFn.of (s96 ?_)
  unfold A96
  (refine a_not ?_; refine a_cndbF rfl ?_)
  rfl
theorem mustF {e : Int} : AFn pr 96 [.b false, .i e] [] (.pan (.ifc 107 (.i e))) := by
  refine AFn.of (s96 ?_)
  unfold A96
  (refine a_not ?_; refine a_cndbT rfl ?_)
  rfl
theorem c98 (t : Tm) (want : Int) : AFn pr 98 [t.d, .i want] [] (ckV (sortE t want)) := by
  refine AFn.ofGe (s98 ?_)
  unfold A98
  have hc := c69 t
  refine a_bxv fun z1 => ?_
  unfold sortE
  ((apply a_ldA 0; exact rfl; exact rfl); refine a_call0 hc ?_; (apply a_ext; exact rfl); (apply a_ext; exact rfl); refine a_eql ?_)
  by_cases h : (sortF t).2 = 0
  · rw [decide_eq_true h, if_neg (by omega)]
    refine a_call0 mustT ?_
    (refine a_eql ?_)
    by_cases h2 : (sortF t).1 = want
    · rw [decide_eq_true h2, if_pos h2, ckV_0]
      refine a_call0 mustT ?_
      exact ge_drop _ _
    · rw [decide_eq_false h2, if_neg h2, ckV_n (by decide)]
      exact a_callP mustF (ge_drop _ _)
  · rw [decide_eq_false h, if_pos h, ckV_n h]
    exact a_callP mustF (ge_drop _ _)
theorem idxStr (l : List ByteArray) (s : ByteArray) : AFn pr 182 [.row 1 (sT l), .s s] [] (.ret (.i (atS s l 0))) := by
  refine AFn.small fun hs => AFn.of (s182 ?_)
  rw [Smalls, Small] at hs
  have hl := hs.1.1
  unfold sT at hl
  rw [List.length_map] at hl
  unfold A182
  unfold sT
  refine a_lenM ?_
  refine a_lp (σ := Nat) (fun i => [.i i]) (fun _ => []) (fun i => i ≤ l.length ∧ atS s (l.drop i) i = atS s l 0) (fun i => l.length - i) 0 (by first | exact Gl.refl _ _ | exact Gl.drop (by repeat (first | exact List.Sublist.refl _ | exact List.Sublist.slnil | apply List.Sublist.cons_cons | apply List.Sublist.cons))) ⟨Nat.zero_le _, rfl⟩ ?_
  rintro i K ⟨hi, hp⟩ hK
  dsimp only [aix0, aix1, aix2, aix3, aix4, aix5, aix6, aix7, aix8]
  (refine a_lss ?_)
  refine a_cnd (fun q => ?_) (fun q => ?_)
  · have hlt : i < l.length := by omega
    rw [List.drop_eq_getElem_cons hlt, atS] at hp
    refine a_idxM i hlt ?_
    ((apply a_ld1p; exact rfl); refine a_eqlS ?_)
    refine a_cnd (fun q2 => ?_) (fun q2 => ?_)
    · rw [if_pos (by simpa using q2.symm)] at hp
      exact ret_i hp
    · rw [if_neg (by simpa using fun h => q2 h.symm)] at hp
      (refine a_add (by first | omega | assumption | decide) (by first | omega | assumption | decide) ?_)
      exact hK (i + 1) _ _ ⟨by omega, hp⟩ (by omega) (by first | exact Gl.refl _ _ | exact Gl.drop (by repeat (first | exact List.Sublist.refl _ | exact List.Sublist.slnil | apply List.Sublist.cons_cons | apply List.Sublist.cons)))
  · rw [List.drop_eq_nil_of_le (by omega), atS] at hp
    exact ret_i hp
theorem c145 (l : List ByteArray) (s : ByteArray) : AFn pr 145 [.row 1 (sT l), .s s] [] (.ret (.b (hasS s l))) := by
  refine AFn.of (s145 ?_)
  unfold A145
  (refine a_call0 (idxStr l s) ?_; refine a_geq ?_)
  exact ret_b (decide_eq_decide.2 (by omega))
section
variable {bc bm : Nat} {p : Pr} {d : Dict}
theorem c144 {b : Nat} (x : As) (nm : ByteArray) : AFn pr 144 [.agg x.cr, .p b 0] [⟨b, [.s nm], .box⟩] (.ret (.b (decide (x.nm = nm)))) := by
  refine AFn.ofL (s144 ?_)
  unfold A144
  refine a_bxv fun z1 => ?_
  unfold As.cr
  (refine a_fld ?_; (apply a_ld1 0; exact rfl; exact rfl); (apply a_ld1 1; exact rfl; exact rfl); refine a_eqlS ?_)
  exact ⟨rfl, by simp⟩
theorem idxBec {b : Nat} (l : List As) (nm : ByteArray) : AFn pr 181 [.row 5 (l.map As.cr), .fn 144 [] [.p b 0]] [⟨b, [.s nm], .box⟩] (.ret (.i (idxQ (fun x : As => decide (x.nm = nm)) l 0))) := by
  refine AFn.small fun hs => AFn.ofL (s181 ?_)
  rw [Smalls, Small, List.length_map] at hs
  have hs := hs.1.1
  unfold A181
  refine a_lenM ?_
  refine a_lp (σ := Nat) (fun i => [.i i]) (fun _ => [⟨b, [.s nm], .box⟩]) (fun i => i ≤ l.length ∧ idxQ (fun x : As => decide (x.nm = nm)) (l.drop i) i = idxQ (fun x : As => decide (x.nm = nm)) l 0) (fun i => l.length - i) 0 (by first | exact Gl.refl _ _ | exact Gl.drop (by repeat (first | exact List.Sublist.refl _ | exact List.Sublist.slnil | apply List.Sublist.cons_cons | apply List.Sublist.cons))) ⟨Nat.zero_le _, rfl⟩ ?_
  rintro i K ⟨hi, hd⟩ hK
  dsimp only [aix0, aix1, aix2, aix3, aix4, aix5, aix6, aix7, aix8]
  (refine a_lss ?_)
  refine a_cnd (fun h => ?_) (fun h => ?_)
  · have hi1 : i < l.length := by omega
    rw [List.drop_eq_getElem_cons hi1, idxQ] at hd
    refine a_idxM i hi1 ?_
    ((apply a_ldAp; exact rfl); refine a_cfW ?_; refine a_callF1 0 rfl (c144 _ _) ?_)
    refine a_cnd (fun h1 => ?_) (fun h1 => ?_)
    · rw [if_pos (decide_eq_true h1)] at hd
      exact ⟨ret_i hd, List.Sublist.refl _⟩
    · rw [if_neg (by simpa using h1)] at hd
      (refine a_add (by first | omega | assumption | decide) (by first | omega | assumption | decide) ?_)
      exact hK (i + 1) _ _ ⟨by omega, hd⟩ (by omega) (by first | exact Gl.refl _ _ | exact Gl.drop (by repeat (first | exact List.Sublist.refl _ | exact List.Sublist.slnil | apply List.Sublist.cons_cons | apply List.Sublist.cons)))
  · rw [List.drop_eq_nil_of_le (by omega), idxQ] at hd
    exact ⟨ret_i hd, List.Sublist.refl _⟩
theorem anyBec {b : Nat} (l : List As) (nm : ByteArray) : AFn pr 143 [.row 5 (l.map As.cr), .fn 144 [] [.p b 0]] [⟨b, [.s nm], .box⟩] (.ret (.b (l.any fun x => decide (x.nm = nm)))) := by
  refine AFn.ofL (s143 ?_)
  unfold A143
  refine a_callR (idxBec l nm) ?_
  (refine a_geq ?_)
  exact ⟨ret_b (idxQ_any _ _ _), List.Sublist.refl _⟩
def becV (d : Dict) (msgs : List ByteArray) (pre : List As) (nm : ByteArray) : AE := if becE d msgs pre nm = 0 then .ret (.i (becS d nm)) else .pan (.ifc 107 (.i 4))
theorem becE_4 {msgs : List ByteArray} {pre : List As} {nm : ByteArray} (h : becE d msgs pre nm ≠ 0) : becE d msgs pre nm = 4 := by
  unfold becE at h ⊢
  split
  · rename_i hh; rw [if_pos hh] at h; exact absurd rfl h
  · rfl
theorem c99 (hd : DictOk d) (l : List As) (i : Nat) (hi : i < l.length) : AFn pr 99 [.p bc 0, .row 5 (l.map As.cr), .i i] (ckB bc bm p d) (becV d p.msgs (l.take i) l[i].nm) := by
  refine AFn.small fun hs => AFn.ofL (s99 ?_)
  rw [Smalls, Smalls, Small] at hs
  have hsm := as_small (by rw [Small] at hs; exact hs.2.1.2) l[i] (List.getElem_mem hi)
  obtain ⟨ints, bools, sets, msgs, init, hdl, ⟨so, sn, si, sa⟩, known⟩ := p
  have hct := c145 msgs l[i].nm
  unfold A99
  unfold ckB
  refine a_idxM i hi ?_
  (refine a_fldp ?_; (apply a_ld1p; exact rfl); refine a_bx fun z1 => ?_; (apply a_st 0 _; exact rfl; exact rfl; exact rfl; exact rfl; (try dsimp only [afill, aparts, cl, chunk, List.take, List.drop, List.nil_append, List.cons_append, List.append_nil, List.length_cons, List.length_nil, Nat.zero_add, Nat.reduceAdd, Nat.reduceMul]); try exact rfl))
  refine a_slcTk i (by omega) ?_
  refine a_callR (AFn.frameL _ (anyBec (l.take i) l[i].nm)) ?_
  generalize l[i].nm = nm at *
  refine a_jn (σ := Unit) (fun _ => []) (fun _ => ⟨z1, [.s nm], .box⟩ :: ckB bc bm ⟨ints, bools, sets, msgs, init, hdl, .mk so sn si sa, known⟩ d) (fun _ => becE d msgs (l.take i) nm = 0) ?_ fun J hJ => ?_
  · rintro _ hz
    have hS := c69 (.mk (opD d nm) nm 0 [])
    unfold ckB
    (refine a_nil ?_; refine a_fld ?_; (apply a_ld1 1; exact rfl; exact rfl); (apply a_ld1 0; exact rfl; exact rfl))
    refine a_lkD 2 rfl keyStr hd hsm ?_
    ((apply a_ld1 0; exact rfl; exact rfl); refine a_bldT0 rfl rfl ?_; refine a_callS0 hS ?_; (apply a_ext; exact rfl); (apply a_ext; exact rfl))
    unfold becV
    rw [if_pos hz]
    exact ⟨rfl, List.sublist_cons_self _ _⟩
  · have hbad : becE d msgs (l.take i) nm ≠ 0 → (AE.pan (.ifc 107 (.i 4)) = becV d msgs (l.take i) nm) := fun h => by unfold becV; rw [if_neg h]
    (refine a_nil ?_; refine a_fld ?_; (apply a_ld1 1; exact rfl; exact rfl); (apply a_ld1 0; exact rfl; exact rfl))
    refine a_lkD 2 rfl keyStr hd hsm ?_
    (refine a_neq ?_)
    refine a_cnd (fun q => ?_) (fun q => ?_)
    · cases hm : hasS nm msgs with
      | true =>
        rw [hm] at hct
        (refine a_nil ?_; refine a_fld ?_; refine a_fld ?_; (apply a_ld1 1; exact rfl; exact rfl); (apply a_ld1 0; exact rfl; exact rfl); refine a_callS0 hct ?_; refine a_not ?_; refine a_cndbF rfl ?_)
        refine a_callSP mustF ?_
        exact ⟨hbad (by unfold becE; rw [if_neg (by rw [hm]; simp)]; decide), List.sublist_cons_self _ _⟩
      | false =>
        rw [hm] at hct
        (refine a_nil ?_; refine a_fld ?_; refine a_fld ?_; (apply a_ld1 1; exact rfl; exact rfl); (apply a_ld1 0; exact rfl; exact rfl); refine a_callS0 hct ?_; refine a_not ?_; refine a_cndbT rfl ?_; refine a_not ?_)
        cases ht : (l.take i).any fun x => decide (x.nm = nm) with
        | true =>
          skip
          refine a_callSP mustF ?_
          exact ⟨hbad (by unfold becE; rw [if_neg (by rw [ht]; simp)]; decide), List.sublist_cons_self _ _⟩
        | false =>
          skip
          refine a_callS0 mustT ?_
          exact hJ () _ _ (by unfold becE; rw [if_pos ⟨q, hm, ht⟩]) (by first | exact Gl.refl _ _ | exact Gl.drop (by repeat (first | exact List.Sublist.refl _ | exact List.Sublist.slnil | apply List.Sublist.cons_cons | apply List.Sublist.cons)))
    · refine a_callSP mustF ?_
      exact ⟨hbad (by unfold becE; rw [if_neg (fun h => q h.1)]; decide), List.sublist_cons_self _ _⟩
theorem c102 (hd : DictOk d) (t : Tm) (want : Int) (node : ByteArray) : AFn pr 102 [.p bc 0, t.d, .i want, .s node] (ckB bc bm p d) (ckV (termE d t want node)) := by
  refine AFn.ofL (s102 ?_)
  obtain ⟨ints, bools, sets, msgs, init, hdl, ⟨so, sn, si, sa⟩, known⟩ := p
  have hS := c98 t want
  have hN := c100 t
  have hlen := namesF_len t
  unfold A102
  unfold ckB
  refine a_bxv fun z1 => ?_
  unfold termE
  by_cases hs : sortE t want = 0
  · rw [hs, ckV_0] at hS
    rw [hs, seqE_0]
    ((apply a_ldA 0; exact rfl; exact rfl); refine a_call0 hS ?_; (apply a_ldA 0; exact rfl; exact rfl); refine a_call0 hN ?_; refine a_lenM ?_)
    refine a_lp (σ := Nat) (fun i => [.i i]) (fun _ => ⟨z1, t.cs, .box⟩ :: ckB bc bm ⟨ints, bools, sets, msgs, init, hdl, .mk so sn si sa, known⟩ d) (fun i => i ≤ (NamesF t).length ∧ ((NamesF t).take i).all (mayN d node) = true) (fun i => (NamesF t).length - i) 0 (by first | exact Gl.refl _ _ | exact Gl.drop (by repeat (first | exact List.Sublist.refl _ | exact List.Sublist.slnil | apply List.Sublist.cons_cons | apply List.Sublist.cons))) ⟨Nat.zero_le _, rfl⟩ ?_
    rintro i K ⟨hi, hall⟩ hK
    dsimp only [aix0, aix1, aix2, aix3, aix4, aix5, aix6, aix7, aix8]
    unfold ckB
    (refine a_lss ?_)
    refine a_cnd (fun q => ?_) (fun q => ?_)
    · have hlt : i < (NamesF t).length := by omega
      have hsz : (str (NamesF t)[i].1).size ≤ 9223372036854775807 := by
        have := nameF_size (namesF_right t (List.getElem_mem hlt)).1
        rw [str_size]; omega
      have hK1 := fun (h : mayN d node (NamesF t)[i] = true) v L => hK (i + 1) v L ⟨by omega, by rw [List.take_succ_eq_append_getElem hlt, List.all_append, hall]; simp [h]⟩ (by omega)
      have hbad : mayN d node (NamesF t)[i] = false → (AE.pan (.ifc 107 (.i 4)) = ckV (if (NamesF t).all (mayN d node) = true then 0 else 4)) := fun h => by
        rw [if_neg (by
          intro hh
          have := List.all_eq_true.1 hh _ (List.getElem_mem hlt)
          rw [h] at this; cases this), ckV_n (by decide)]
      clear hK
      refine a_idxM i hlt ?_
      generalize (NamesF t)[i] = x at *
      obtain ⟨nm, op⟩ := x
      unfold mayN at hK1 hbad
      dsimp only at hK1 hbad hsz
      ((apply a_ldAp; exact rfl); refine a_bx fun z2 => ?_; refine a_stA 0 rfl rfl rfl rfl ?_; refine a_fld ?_; refine a_fld ?_; (apply a_ld1 0; exact rfl; exact rfl); refine a_eql ?_)
      refine a_cnd (fun q14 => ?_) (fun q14 => ?_)
      · have q14 : op = 14 := q14
        (refine a_neqS ?_)
        refine a_cnd (fun qn => ?_) (fun qn => ?_)
        · (refine a_fld ?_; (apply a_ld1 0; exact rfl; exact rfl); refine a_eqlS ?_)
          refine a_cnd (fun qe => ?_) (fun qe => ?_)
          · have qe : str nm = node := qe
            skip
            refine a_callS0 mustT ?_
            (refine a_add (by first | omega | assumption | decide) (by first | omega | assumption | decide) ?_)
            exact hK1 (by rw [decide_eq_true q14, decide_eq_false qn, decide_eq_true qe]; rfl) _ _ (by first | exact Gl.refl _ _ | exact Gl.drop (by repeat (first | exact List.Sublist.refl _ | exact List.Sublist.slnil | apply List.Sublist.cons_cons | apply List.Sublist.cons)))
          · have qe : ¬ str nm = node := qe
            (refine a_fld ?_; refine a_fld ?_; (apply a_ld1 0; exact rfl; exact rfl); refine a_nil ?_; refine a_fld ?_; (apply a_ld1 2; exact rfl; exact rfl); refine a_fld ?_; (apply a_ld1 0; exact rfl; exact rfl))
            refine a_lkD 3 rfl keyStr hd hsz ?_
            (refine a_eql ?_)
            by_cases qo : op = opD d (str nm)
            · have qo1 : (Nm.tm (nm, op)).op = opD d (str (nm, op).1) := qo
              rw [decide_eq_true qo1]
              refine a_callS0 mustT ?_
              (refine a_add (by first | omega | assumption | decide) (by first | omega | assumption | decide) ?_)
              exact hK1 (by rw [decide_eq_true qo, Bool.or_true]) _ _ (by first | exact Gl.refl _ _ | exact Gl.drop (by repeat (first | exact List.Sublist.refl _ | exact List.Sublist.slnil | apply List.Sublist.cons_cons | apply List.Sublist.cons)))
            · have qo1 : ¬ (Nm.tm (nm, op)).op = opD d (str (nm, op).1) := qo
              rw [decide_eq_false qo1]
              refine a_callSP mustF ?_
              exact ⟨hbad (by rw [decide_eq_false qo, Bool.or_false]; simp [qe]), List.sublist_append_right [_, _] _⟩
        · have qn : node = ⟨#[]⟩ := Classical.not_not.1 qn
          (refine a_fld ?_; refine a_fld ?_; (apply a_ld1 0; exact rfl; exact rfl); refine a_nil ?_; refine a_fld ?_; (apply a_ld1 2; exact rfl; exact rfl); refine a_fld ?_; (apply a_ld1 0; exact rfl; exact rfl))
          refine a_lkD 3 rfl keyStr hd hsz ?_
          (refine a_eql ?_)
          by_cases qo : op = opD d (str nm)
          · have qo1 : (Nm.tm (nm, op)).op = opD d (str (nm, op).1) := qo
            rw [decide_eq_true qo1]
            refine a_callS0 mustT ?_
            (refine a_add (by first | omega | assumption | decide) (by first | omega | assumption | decide) ?_)
            exact hK1 (by rw [decide_eq_true qo, Bool.or_true]) _ _ (by first | exact Gl.refl _ _ | exact Gl.drop (by repeat (first | exact List.Sublist.refl _ | exact List.Sublist.slnil | apply List.Sublist.cons_cons | apply List.Sublist.cons)))
          · have qo1 : ¬ (Nm.tm (nm, op)).op = opD d (str (nm, op).1) := qo
            rw [decide_eq_false qo1]
            refine a_callSP mustF ?_
            exact ⟨hbad (by rw [decide_eq_false qo, Bool.or_false]; simp [qn]), List.sublist_append_right [_, _] _⟩
      · have q14 : ¬ op = 14 := q14
        (refine a_fld ?_; refine a_fld ?_; (apply a_ld1 0; exact rfl; exact rfl); refine a_nil ?_; refine a_fld ?_; (apply a_ld1 2; exact rfl; exact rfl); refine a_fld ?_; (apply a_ld1 0; exact rfl; exact rfl))
        refine a_lkD 3 rfl keyStr hd hsz ?_
        (refine a_eql ?_)
        by_cases qo : op = opD d (str nm)
        · have qo1 : (Nm.tm (nm, op)).op = opD d (str (nm, op).1) := qo
          rw [decide_eq_true qo1]
          refine a_callS0 mustT ?_
          (refine a_add (by first | omega | assumption | decide) (by first | omega | assumption | decide) ?_)
          exact hK1 (by rw [decide_eq_true qo, Bool.or_true]) _ _ (by first | exact Gl.refl _ _ | exact Gl.drop (by repeat (first | exact List.Sublist.refl _ | exact List.Sublist.slnil | apply List.Sublist.cons_cons | apply List.Sublist.cons)))
        · have qo1 : ¬ (Nm.tm (nm, op)).op = opD d (str (nm, op).1) := qo
          rw [decide_eq_false qo1]
          refine a_callSP mustF ?_
          exact ⟨hbad (by rw [decide_eq_false qo, Bool.or_false]; simp [q14]), List.sublist_append_right [_, _] _⟩
    · rw [show i = (NamesF t).length by omega, List.take_length] at hall
      clear hK
      rw [if_pos hall, ckV_0]
      exact ⟨rfl, List.sublist_cons_self _ _⟩
  · rw [ckV_n hs] at hS
    rw [seqE_n hs, ckV_n hs]
    ((apply a_ldA 0; exact rfl; exact rfl))
    exact a_callP hS ⟨rfl, List.sublist_cons_self _ _⟩
end
end Go.Proofs.YtdalobojhfafbaaGreatDoor
