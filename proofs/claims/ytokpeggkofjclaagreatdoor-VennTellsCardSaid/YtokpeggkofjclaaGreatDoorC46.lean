/- Contracts of layer 13: does a row hold; the term of the small case. -/
import Derived.Test.YtokpeggkofjclaaGreatDoorC41
import Derived.Test.YtokpeggkofjclaaGreatDoorE4
import Derived.Test.YtokpeggkofjclaaGreatDoorM25
import Derived.Test.YtokpeggkofjclaaGreatDoorM21
import Derived.Test.YtokpeggkofjclaaGreatDoorC42
import Derived.Test.YtokpeggkofjclaaGreatDoorE3
import Derived.Test.YtokpeggkofjclaaGreatDoorW13
set_option maxRecDepth 100000
set_option linter.unusedVariables false
namespace Go.V
open Go
def atomT : Tm := mk 22 [mk 4 [mk 3 [mk 9 []], .mk 2 ⟨#[120]⟩ 0 []], .mk 6 ⟨#[]⟩ 2 [mk 3 [.mk 7 ⟨#[97]⟩ 0 []]]]
end Go.V
namespace Go.Proofs.YtokpeggkofjclaaGreatDoor
open Go Go.V
theorem c30 : AFn pr 30 [] [] (.ret atomT.d) := by
  refine AFn.of (s30 ?_)
  unfold A30
  (refine a_bx fun z1 => ?_; refine a_bldT0 rfl rfl ?_; refine a_rowS1 rfl ?_; refine a_bldT rfl rfl ?_; refine a_rowS1 rfl ?_; refine a_bldT rfl rfl ?_; refine a_bx fun z2 => ?_; refine a_stA 0 rfl rfl rfl rfl ?_; refine a_bldT0 rfl rfl ?_; refine a_rowS1 rfl ?_; refine a_bldT rfl rfl ?_; refine a_bldT0 rfl rfl ?_; refine a_rowS2 rfl ?_; refine a_bldT rfl rfl ?_; refine a_bx fun z3 => ?_; refine a_stA 0 rfl rfl rfl rfl ?_; (apply a_ldA 0; exact rfl; exact rfl); (apply a_ldA 1; exact rfl; exact rfl); refine a_rowS2 rfl ?_; refine a_bldT rfl rfl ?_; refine a_stA 2 rfl rfl rfl rfl ?_; (apply a_ldA 2; exact rfl; exact rfl))
  rfl
end Go.Proofs.YtokpeggkofjclaaGreatDoor
/- The laws VennTurned and VennAdds, behind what must be in any case. -/
set_option maxRecDepth 100000
set_option linter.unusedVariables false
namespace Go.V
open Go
theorem MakeF_Ok (t : Tm) : (MakeF t).1.Ok := by
  obtain ⟨h1, h2⟩ := MakeF_ok t
  exact ⟨by omega, by omega⟩
theorem RowF_len {p : Pl} (hp : p.Ok) (t : Tm) (b : Bool) : (RowF p t b).1.c.length ≤ 1000064 := by
  have hu : p.unk ≤ 1000064 := by have := hp.ints; have := p.reg_pos; unfold Pl.unk; omega
  unfold RowF
  split
  · simp
  · next hs =>
    have hs1 : (sortF t).2 = 0 := by omega
    have hs2 : t.op = 22 := by omega
    obtain ⟨_, _, hr, _⟩ := sortF_ok hs1
    cases t with | mk op nm n a =>
    have hs2 : op = 22 := hs2
    subst hs2
    obtain ⟨x, y, rfl, hx, hy⟩ := right2 hr (s1 := 1) (s2 := 1) rfl rfl
    have e0 : (Tm.mk 22 nm n [x, y]).at 0 = x := rfl
    have e1 : (Tm.mk 22 nm n [x, y]).at 1 = y := rfl
    rw [e0, e1]
    cases hq : lineE p x with
    | error e => simp
    | ok u =>
      cases hv : lineE p y with
      | error e => simp
      | ok v =>
        have l1 := line_len x hx u hq
        have l2 := line_len y hy v hv
        simp only
        split
        · simp
        · next r hr2 =>
          split at hr2
          · rw [joinE_len (by omega) hr2]; omega
          · cases hw : joinE subJ v u with
            | error e => rw [hw] at hr2; cases hr2
            | ok w =>
              rw [hw] at hr2
              have hr2 : joinE addJ w (rowF p 0 1 fun _ => false) = .ok r := hr2
              have lw := joinE_len (by omega) hw
              have lr := rowF_len p 0 1 fun _ => false
              rw [joinE_len (by omega) hr2]; omega
end Go.V
namespace Go.Proofs.YtokpeggkofjclaaGreatDoor
open Go Go.V
end Go.Proofs.YtokpeggkofjclaaGreatDoor
/- Contracts of layer 13: what is counted of a world. -/
set_option maxRecDepth 100000
set_option linter.unusedVariables false
namespace Go.V
open Go
theorem or_nat {a b : Nat} (ha : a < 4611686018427387904) (hb : b < 4611686018427387904) : bitsI .or .i64 (a : Int) (b : Int) = ((a ||| b : Nat) : Int) := by
  unfold bitsI
  have hab : a ||| b < 2 ^ 62 := Nat.or_lt_two_pow (by omega) (by omega)
  have e : (BitVec.ofInt IntKind.i64.bits (a : Int) ||| BitVec.ofInt IntKind.i64.bits (b : Int)).toNat = a ||| b := by
    show (BitVec.ofInt 64 (a : Int) ||| BitVec.ofInt 64 (b : Int)).toNat = _
    rw [BitVec.toNat_or]
    have e1 : (BitVec.ofInt 64 (a : Int)).toNat = a := by rw [BitVec.toNat_ofInt]; omega
    have e2 : (BitVec.ofInt 64 (b : Int)).toNat = b := by rw [BitVec.toNat_ofInt]; omega
    rw [e1, e2]
  show IntKind.i64.wrap ((BitVec.ofInt IntKind.i64.bits (a : Int) ||| BitVec.ofInt IntKind.i64.bits (b : Int)).toNat : Int) = _
  rw [e]
  exact i64_wrap (by omega) (by omega)
theorem ge_nil1 {e : Int} {L : List Bx} : Ge (.ret (.tuple [.nil, .i e])) L (.ret (.tuple [.row 1 (nD []), .i e])) [] :=
  ⟨trivial, Gl.trans (Gl.nil (ds' := [.tuple [.row 1 (nD []), .i e]]) 1 (.cons (.tuple (.cons .hit (.cons (.refl _) .nil))) .nil) (WkB.refl _ _ _)) (Gl.drop (List.nil_sublist _))⟩
/-- regions, as they are kept -/
def nI (l : List Nat) : List Int := l.map (Nat.cast : Nat → Int)
theorem nI_len (l : List Nat) : (nI l).length = l.length := by unfold nI; rw [List.length_map]
theorem nI_set (l : List Nat) (i x : Nat) : (nI l).set i (x : Int) = nI (l.set i x) := by unfold nI; rw [List.map_set]
theorem nI_at {l : List Nat} {i : Nat} (h : i < (nI l).length) : (nI l)[i] = ((l.getD i 0 : Nat) : Int) := by
  have h' : i < l.length := by rw [nI_len] at h; exact h
  have e : (nI l)[i]? = some ((l[i] : Nat) : Int) := by unfold nI; rw [List.getElem?_map, List.getElem?_eq_getElem h']; rfl
  rw [List.getElem?_eq_getElem h] at e
  injection e with e
  rw [e, getD_lt' h']
theorem nI_zero (n : Nat) : nI (List.replicate n 0) = List.replicate n 0 := by unfold nI; rw [List.map_replicate]; rfl
/-- one circle's nodes, so far -/
def orT (rg : List Nat) (s : List Bool) (i k : Nat) : List Nat := (orS rg s i).take k ++ rg.drop k
theorem orT_len {rg : List Nat} {s : List Bool} {i k : Nat} (hs : s.length = rg.length) : (orT rg s i k).length = rg.length := by
  unfold orT
  rw [List.length_append, List.length_take, List.length_drop, orS_len hs]; omega
theorem orT_end {rg : List Nat} {s : List Bool} {i : Nat} (hs : s.length = rg.length) : orT rg s i rg.length = orS rg s i := by
  unfold orT
  rw [List.take_of_length_le (by rw [orS_len hs]; omega), List.drop_length, List.append_nil]
theorem orT_get {rg : List Nat} {s : List Bool} {i k : Nat} (hs : s.length = rg.length) (hk : k < rg.length) : (orT rg s i k).getD k 0 = rg.getD k 0 := by
  unfold orT
  have : ((orS rg s i).take k).length = k := by rw [List.length_take, orS_len hs]; omega
  rw [List.getD_eq_getElem?_getD, List.getElem?_append_right (by omega), this, Nat.sub_self, List.getElem?_drop, Nat.add_zero, ← List.getD_eq_getElem?_getD]
theorem orS_get {rg : List Nat} {s : List Bool} {i k : Nat} (hs : s.length = rg.length) (hk : k < (orS rg s i).length) : (orS rg s i)[k] = if s.getD k false then rg.getD k 0 ||| 2 ^ i else rg.getD k 0 := by
  have h1 : k < rg.length := by rw [orS_len hs] at hk; exact hk
  have h2 : k < s.length := by omega
  have e : (orS rg s i)[k]? = some (if s[k] then rg[k] ||| 2 ^ i else rg[k]) := by
    unfold orS
    rw [List.getElem?_map, List.getElem?_eq_getElem (by rw [List.length_zip]; omega), List.getElem_zip]; rfl
  rw [List.getElem?_eq_getElem hk] at e
  injection e with e
  rw [e, getD_lt' h1, getD_lt' h2]
theorem orT_step {rg : List Nat} {s : List Bool} {i k : Nat} (hs : s.length = rg.length) (hk : k < rg.length) : orT rg s i (k + 1) = (orT rg s i k).set k (if s.getD k false then rg.getD k 0 ||| 2 ^ i else rg.getD k 0) := by
  have hk' : k < (orS rg s i).length := by rw [orS_len hs]; exact hk
  have hl : ((orS rg s i).take k).length = k := by rw [List.length_take, orS_len hs]; omega
  unfold orT
  rw [List.take_succ_eq_append_getElem hk', List.append_assoc, List.set_append_right _ _ (by omega), hl, Nat.sub_self, List.drop_eq_getElem_cons hk, List.set_cons_zero, orS_get hs]
  rfl
theorem set_self {l : List Nat} {i : Nat} (h : i < l.length) : l.set i (l.getD i 0) = l := by rw [getD_lt' h]; exact List.set_getElem_self h
theorem orS_lt {rg : List Nat} {s : List Bool} {i : Nat} (h : ∀ x ∈ rg, x < 2 ^ i) : ∀ x ∈ orS rg s i, x < 2 ^ (i + 1) := fun x hx => by
  unfold orS at hx
  obtain ⟨y, hy, rfl⟩ := List.mem_map.1 hx
  have h1 := h y.1 (List.of_mem_zip hy).1
  have h2 : 2 ^ i < 2 ^ (i + 1) := Nat.pow_lt_pow_right (by omega) (by omega)
  split
  · exact Nat.or_lt_two_pow (by omega) h2
  · omega
theorem getD_lt_of {rg : List Nat} {m : Nat} (h : ∀ x ∈ rg, x < m) (hm : 0 < m) (k : Nat) : rg.getD k 0 < m := by
  by_cases hk : k < rg.length
  · rw [getD_lt' hk]; exact h _ (List.getElem_mem _)
  · rw [List.getD_eq_getElem?_getD, List.getElem?_eq_none (by omega)]; exact hm
theorem pow_le62 {i : Nat} (h : i ≤ 61) : 2 ^ i < 4611686018427387904 := by
  have : 2 ^ i < 2 ^ 62 := Nat.pow_lt_pow_right (by omega) (by omega)
  exact this
theorem set_lt {rg : List Nat} {i k : Nat} (h : ∀ x ∈ rg, x < 2 ^ i) : ∀ x ∈ rg.set k (rg.getD k 0 ||| 2 ^ i), x < 2 ^ (i + 1) := fun x hx => by
  have h2 : 2 ^ i < 2 ^ (i + 1) := Nat.pow_lt_pow_right (by omega) (by omega)
  rcases List.mem_or_eq_of_mem_set hx with hx | hx
  · have := h x hx; omega
  · rw [hx]
    have := getD_lt_of h (Nat.pow_pos (by omega)) k
    exact Nat.or_lt_two_pow (by omega) h2
def CountG (p : Pl) (w : Wd) (n : Nat) : List Int × Int :=
  match markS w 0 p.sets (List.replicate n 0) with
  | none => ([], 4)
  | some rg => match markN w p.sets.length p.nodes rg with
    | none => ([], 4)
    | some rg => match markI p w 0 p.ints (tally (List.replicate p.unk 0) rg) with
      | none => ([], 4)
      | some l => (l, 0)
theorem CountF_go (p : Pl) {w : Wd} (hw : rightW w = true) : CountF p w = CountG p w w.nodes.toNat := by
  unfold CountF CountG
  rw [if_neg (by rw [hw]; decide)]
  cases markS w 0 p.sets (List.replicate w.nodes.toNat 0) with
  | none => rfl
  | some rg => cases markN w p.sets.length p.nodes rg <;> rfl
theorem getV {l : List Nv} {nm : ByteArray} {st : Int} {v : Vl} (h : getF l nm st = some v) : getD' l nm st = .tuple [v.d, .b true] := by unfold getD'; rw [h]; rfl
theorem getV0 {l : List Nv} {nm : ByteArray} {st : Int} (h : getF l nm st = none) : getD' l nm st = .tuple [vz.d, .b false] := by unfold getD'; rw [h]; rfl
end Go.V
namespace Go.Proofs.YtokpeggkofjclaaGreatDoor
open Go Go.V
theorem c15 {p : Pl} (hp : p.Ok) (h6 : p.circ ≤ 6) (w : Wd) : AFn pr 15 [p.d, w.d] [] (.ret (.tuple [.row 1 (nD (CountF p w).1), .i (CountF p w).2])) := by
  refine AFn.ofGe (s15 ?_)
  unfold A15
  have hreg := p.reg_pos
  have hunk := unk_le hp
  have hru := reg_unk p
  have hil := hp.ints
  have hR := c19 p (by omega)
  have hU := c21 p (by omega) hp.ints
  have hreg2 : p.reg = 2 ^ p.circ := by unfold Pl.reg; rw [Nat.min_eq_left h6]
  have hns : p.sets.length + p.nodes.length = p.circ := rfl
  refine a_bxv fun z1 => ?_
  refine a_bxv fun z2 => ?_
  ((apply a_ldA 0; exact rfl; exact rfl); refine a_call0 (c45 w) ?_; refine a_not ?_)
  cases hw : rightW w with
  | false =>
    have hC : CountF p w = ([], 1) := by unfold CountF; rw [if_pos hw]
    rw [hC]
    (refine a_cndbT rfl ?_)
    exact ge_nil1
  | true =>
  have hsw := smallW_of hw
  obtain ⟨hn1, hn64, hnl, _⟩ := rightW_spec hw
  obtain ⟨n, hn⟩ : ∃ n : Nat, w.nodes = n := ⟨w.nodes.toNat, by omega⟩
  have hnn : w.nodes.toNat = n := by omega
  have hset : ∀ s v, getF w.names s 2 = some v → v.s.length = n := fun s v hs => by
    have := (getF_okV hw hs).len
    rw [if_pos rfl, hnn] at this
    exact this
  have hnod : ∀ s v, getF w.names s 3 = some v → 0 ≤ v.n ∧ v.n < n := fun s v hs => by
    have := (getF_okV hw hs).nod rfl
    rw [hn] at this
    exact this
  (refine a_cndbF rfl ?_; refine a_fld ?_; (apply a_ld1 0; exact rfl; exact rfl))
  rw [hn]
  refine a_mkS n n rfl rfl (Nat.le_refl _) (by omega) (by omega) fun z3 => ?_
  (refine a_fld ?_; (apply a_ld1 2; exact rfl; exact rfl); refine a_lenM ?_)
  rw [zeros_flat, ← nI_zero]
  have hans := CountF_go p hw
  rw [hnn] at hans
  unfold CountG at hans
  generalize CountF p w = ans at hans ⊢
  refine a_lp (σ := Nat × List Nat) (fun x => [.i x.1]) (fun x => [⟨z3, (nD (nI x.2)).flatten, .row 3 1 n⟩, ⟨z2, w.cs, .box⟩, ⟨z1, p.cs, .box⟩]) (fun x => x.1 ≤ p.sets.length ∧ x.2.length = n ∧ (∀ y ∈ x.2, y < 2 ^ x.1) ∧ markS w x.1 (p.sets.drop x.1) x.2 = markS w 0 p.sets (List.replicate n 0)) (fun x => p.sets.length - x.1) (0, List.replicate n 0) (by first | exact Gl.refl _ _ | exact Gl.drop (by repeat (first | exact List.Sublist.refl _ | exact List.Sublist.slnil | apply List.Sublist.cons_cons | apply List.Sublist.cons))) ⟨Nat.zero_le _, List.length_replicate, fun y hy => by rw [List.eq_of_mem_replicate hy]; exact Nat.pow_pos (by omega), rfl⟩ ?_
  rintro ⟨i, rg⟩ K ⟨hi, hrl, hlt, hm⟩ hK
  dsimp only at hi hrl hlt hm hK ⊢
  dsimp only [aix0, aix1, aix2, aix3, aix4, aix5, aix6, aix7, aix8]
  refine a_lss ?_
  refine a_cnd (fun q => ?_) (fun q => ?_)
  · have hil2 : i < p.sets.length := by omega
    rw [List.drop_eq_getElem_cons hil2, markS] at hm
    refine a_idxM (f := s1) i hil2 ?_
    have hG := c46 w p.sets[i] 2 hsw
    cases hg : getF w.names p.sets[i] 2 with
    | none =>
      rw [hg] at hm
      simp only at hm
      rw [getV0 hg] at hG
      ((apply a_ld1p; exact rfl); (apply a_ldA 1; exact rfl; exact rfl); refine a_call0 hG ?_; (apply a_ext; exact rfl); (apply a_ext; exact rfl); refine a_bx fun z4 => ?_; refine a_stA 0 rfl rfl rfl rfl ?_; refine a_not ?_; refine a_cndbT rfl ?_)
      rw [← hm] at hans
      rw [hans]
      exact ge_nil1
    | some v =>
      rw [hg] at hm
      simp only at hm
      have hvl := hset _ v hg
      have hsl : v.s.length = rg.length := by omega
      rw [getV hg] at hG
      ((apply a_ld1p; exact rfl); (apply a_ldA 1; exact rfl; exact rfl); refine a_call0 hG ?_; (apply a_ext; exact rfl); (apply a_ext; exact rfl); refine a_bx fun z4 => ?_; refine a_stA 0 rfl rfl rfl rfl ?_; refine a_not ?_; refine a_cndbF rfl ?_; refine a_fld ?_; (apply a_ld1 0; exact rfl; exact rfl); refine a_lenM ?_)
      refine a_lp (σ := Nat) (fun k => [.i k]) (fun k => [⟨z4, v.cs, .box⟩, ⟨z3, (nD (nI (orT rg v.s i k))).flatten, .row 3 1 n⟩, ⟨z2, w.cs, .box⟩, ⟨z1, p.cs, .box⟩]) (fun k => k ≤ n) (fun k => n - k) 0 (by first | exact Gl.refl _ _ | exact Gl.drop (by repeat (first | exact List.Sublist.refl _ | exact List.Sublist.slnil | apply List.Sublist.cons_cons | apply List.Sublist.cons))) (Nat.zero_le _) ?_
      rintro k K2 hk hK2
      dsimp only [aix0, aix1, aix2, aix3, aix4, aix5, aix6, aix7, aix8]
      refine a_lss ?_
      refine a_cnd (fun q2 => ?_) (fun q2 => ?_)
      · have hkn : k < n := by omega
        have hst := orT_step (i := i) hsl (k := k) (by omega)
        have hol := orT_len (i := i) (k := k) hsl
        have hgt := orT_get (i := i) hsl (k := k) (by omega)
        have hrk := getD_lt_of hlt (Nat.pow_pos (by omega)) k
        refine a_idxM (f := bc) k (by omega) ?_
        ((apply a_ld1p; exact rfl))
        refine a_cndb (fun q3 => ?_) (fun q3 => ?_)
        · rw [getD_lt' (show k < v.s.length by omega), q3, if_pos rfl] at hst
          refine a_idxO (j := (k : Int)) (by omega) (by omega) ?_
          rw [Int.toNat_natCast]
          refine a_ldNo 1 k rfl (by rw [nI_len]; omega) ?_
          rw [nI_at, hgt]
          refine ⟨by omega, ?_⟩
          rw [shl_one (by omega)]
          refine ⟨rfl, ?_⟩
          dsimp only
          rw [or_nat (by have := pow_le62 (i := i) (by omega); omega) (pow_le62 (by omega))]
          refine a_idxO (j := (k : Int)) (by omega) (by omega) ?_
          rw [Int.toNat_natCast]
          refine a_stN 1 k rfl (by rw [nI_len]; omega) ?_
          rw [nI_set, ← hst]
          (refine a_add (by first | omega | assumption | decide) (by first | omega | assumption | decide) ?_)
          exact hK2 (k + 1) _ _ (by omega) (by omega) (by first | exact Gl.refl _ _ | exact Gl.drop (by repeat (first | exact List.Sublist.refl _ | exact List.Sublist.slnil | apply List.Sublist.cons_cons | apply List.Sublist.cons)))
        · rw [getD_lt' (show k < v.s.length by omega), q3, if_neg (by decide), ← hgt, set_self (by omega)] at hst
          (refine a_add (by first | omega | assumption | decide) (by first | omega | assumption | decide) ?_)
          have := hK2 (k + 1)
          rw [hst] at this
          exact this _ _ (by omega) (by omega) (by first | exact Gl.refl _ _ | exact Gl.drop (by repeat (first | exact List.Sublist.refl _ | exact List.Sublist.slnil | apply List.Sublist.cons_cons | apply List.Sublist.cons)))
      · rw [show k = rg.length by omega, orT_end hsl]
        clear hK2
        (refine a_add (by first | omega | assumption | decide) (by first | omega | assumption | decide) ?_)
        exact hK (i + 1, orS rg v.s i) _ _ ⟨by simp only; omega, by rw [orS_len hsl]; exact hrl, orS_lt hlt, hm⟩ (by simp only; omega) (by first | exact Gl.refl _ _ | exact Gl.drop (by repeat (first | exact List.Sublist.refl _ | exact List.Sublist.slnil | apply List.Sublist.cons_cons | apply List.Sublist.cons)))
  · rw [show i = p.sets.length by omega, List.drop_length, markS] at hm
    rw [show i = p.sets.length by omega] at hlt
    clear hK
    rw [← hm] at hans
    simp only at hans
    clear hm
    (refine a_fld ?_; (apply a_ld1 2; exact rfl; exact rfl); refine a_lenM ?_)
    refine a_lp (σ := Nat × List Nat) (fun x => [.i x.1]) (fun x => [⟨z3, (nD (nI x.2)).flatten, .row 3 1 n⟩, ⟨z2, w.cs, .box⟩, ⟨z1, p.cs, .box⟩]) (fun x => x.1 ≤ p.nodes.length ∧ x.2.length = n ∧ (∀ y ∈ x.2, y < 2 ^ (p.sets.length + x.1)) ∧ markN w (p.sets.length + x.1) (p.nodes.drop x.1) x.2 = markN w p.sets.length p.nodes rg) (fun x => p.nodes.length - x.1) (0, rg) (by first | exact Gl.refl _ _ | exact Gl.drop (by repeat (first | exact List.Sublist.refl _ | exact List.Sublist.slnil | apply List.Sublist.cons_cons | apply List.Sublist.cons))) ⟨Nat.zero_le _, hrl, hlt, rfl⟩ ?_
    clear hrl hlt
    generalize hmn : markN w p.sets.length p.nodes rg = mn at *
    clear hmn rg
    rintro ⟨i, rg⟩ K ⟨hi, hrl, hlt, hm⟩ hK
    dsimp only at hi hrl hlt hm hK ⊢
    dsimp only [aix0, aix1, aix2, aix3, aix4, aix5, aix6, aix7, aix8]
    refine a_lss ?_
    refine a_cnd (fun q => ?_) (fun q => ?_)
    · have hil2 : i < p.nodes.length := by omega
      rw [List.drop_eq_getElem_cons hil2, markN] at hm
      refine a_idxM (f := s1) i hil2 ?_
      have hG := c46 w p.nodes[i] 3 hsw
      cases hg : getF w.names p.nodes[i] 3 with
      | none =>
        rw [hg] at hm
        simp only at hm
        rw [getV0 hg] at hG
        ((apply a_ld1p; exact rfl); (apply a_ldA 1; exact rfl; exact rfl); refine a_call0 hG ?_; (apply a_ext; exact rfl); (apply a_ext; exact rfl); refine a_bx fun z4 => ?_; refine a_stA 0 rfl rfl rfl rfl ?_; refine a_not ?_; refine a_cndbT rfl ?_)
        rw [← hm] at hans
        rw [hans]
        exact ge_nil1
      | some v =>
        rw [hg] at hm
        simp only at hm
        obtain ⟨hv0, hvn⟩ := hnod _ v hg
        have hrk := getD_lt_of hlt (Nat.pow_pos (by omega)) v.n.toNat
        rw [getV hg] at hG
        ((apply a_ld1p; exact rfl); (apply a_ldA 1; exact rfl; exact rfl); refine a_call0 hG ?_; (apply a_ext; exact rfl); (apply a_ext; exact rfl); refine a_bx fun z4 => ?_; refine a_stA 0 rfl rfl rfl rfl ?_; refine a_not ?_; refine a_cndbF rfl ?_; refine a_fld ?_; (apply a_ld1 0; exact rfl; exact rfl))
        refine a_idxO (j := v.n) hv0 hvn ?_
        refine a_ldNo 1 v.n.toNat rfl (by rw [nI_len]; omega) ?_
        rw [nI_at]
        (refine a_fld ?_; (apply a_ld1 3; exact rfl; exact rfl); refine a_lenM ?_; refine a_add (by first | omega | assumption | decide) (by first | omega | assumption | decide) ?_)
        refine ⟨by omega, ?_⟩
        rw [show ((p.sets.length : Int) + (i : Int)) = ((p.sets.length + i : Nat) : Int) by omega, shl_one (by omega)]
        refine ⟨rfl, ?_⟩
        dsimp only
        rw [or_nat (by have := pow_le62 (i := p.sets.length + i) (by omega); omega) (pow_le62 (by omega))]
        refine a_idxO (j := v.n) hv0 hvn ?_
        refine a_stN 1 v.n.toNat rfl (by rw [nI_len]; omega) ?_
        rw [nI_set]
        (refine a_add (by first | omega | assumption | decide) (by first | omega | assumption | decide) ?_)
        exact hK (i + 1, _) _ _ ⟨by simp only; omega, by rw [List.length_set]; exact hrl, set_lt hlt, hm⟩ (by simp only; omega) (by first | exact Gl.refl _ _ | exact Gl.drop (by repeat (first | exact List.Sublist.refl _ | exact List.Sublist.slnil | apply List.Sublist.cons_cons | apply List.Sublist.cons)))
    · rw [show i = p.nodes.length by omega, List.drop_length, markN] at hm
      rw [show i = p.nodes.length by omega, hns, ← hreg2] at hlt
      clear hK
      rw [← hm] at hans
      simp only at hans
      clear hm
      ((apply a_ldA 2; exact rfl; exact rfl); refine a_call0 hU ?_)
      refine a_mkS p.unk p.unk rfl rfl (Nat.le_refl _) (by omega) (by omega) fun z4 => ?_
      rw [zeros_flat]
      (refine a_lenO ?_)
      generalize hta : tally (List.replicate p.unk 0) rg = ta at *
      refine a_lp (σ := Nat × List Int) (fun x => [.i x.1]) (fun x => [⟨z4, (nD x.2).flatten, .row 2 1 p.unk⟩, ⟨z3, (nD (nI rg)).flatten, .row 3 1 n⟩, ⟨z2, w.cs, .box⟩, ⟨z1, p.cs, .box⟩]) (fun x => x.1 ≤ n ∧ x.2.length = p.unk ∧ (∀ j, 0 ≤ x.2.getD j 0 ∧ x.2.getD j 0 ≤ x.1) ∧ tally x.2 (rg.drop x.1) = ta) (fun x => n - x.1) (0, List.replicate p.unk 0) (by first | exact Gl.refl _ _ | exact Gl.drop (by repeat (first | exact List.Sublist.refl _ | exact List.Sublist.slnil | apply List.Sublist.cons_cons | apply List.Sublist.cons))) ⟨Nat.zero_le _, List.length_replicate, fun j => by rw [List.getD_eq_getElem?_getD, List.getElem?_replicate]; split <;> simp, hta⟩ ?_
      rintro ⟨k, l⟩ K ⟨hk, hll, hb, ht⟩ hK
      dsimp only at hk hll hb ht hK ⊢
      dsimp only [aix0, aix1, aix2, aix3, aix4, aix5, aix6, aix7, aix8]
      refine a_lss ?_
      refine a_cnd (fun q2 => ?_) (fun q2 => ?_)
      · have hkn : k < n := by omega
        have hkr : k < rg.length := by omega
        rw [List.drop_eq_getElem_cons hkr, tally] at ht
        have hrk : rg[k] < p.reg := hlt _ (List.getElem_mem _)
        have hbk := hb rg[k]
        refine a_idxO (j := (k : Int)) (by omega) (by omega) ?_
        rw [Int.toNat_natCast]
        refine a_ldNo 1 k rfl (by rw [nI_len]; omega) ?_
        rw [nI_at, getD_lt' hkr]
        skip
        refine a_idxO (j := (rg[k] : Int)) (by omega) (by omega) ?_
        rw [Int.toNat_natCast]
        refine a_ldNo 0 rg[k] rfl (by omega) ?_
        rw [getD_lt' (show rg[k] < l.length by omega)] at ht hbk
        refine a_add (by omega) (by omega) ?_
        refine a_idxO (j := (rg[k] : Int)) (by omega) (by omega) ?_
        rw [Int.toNat_natCast]
        refine a_stN 0 rg[k] rfl (by omega) ?_
        (refine a_add (by first | omega | assumption | decide) (by first | omega | assumption | decide) ?_)
        refine hK (k + 1, _) _ _ ⟨by simp only; omega, by rw [List.length_set]; exact hll, fun j => ?_, ht⟩ (by simp only; omega) (by first | exact Gl.refl _ _ | exact Gl.drop (by repeat (first | exact List.Sublist.refl _ | exact List.Sublist.slnil | apply List.Sublist.cons_cons | apply List.Sublist.cons)))
        have := hb j
        simp only
        rw [getD_set']
        split <;> omega
      · rw [show k = n by omega, List.drop_eq_nil_of_le (by omega), tally] at ht
        clear hK
        subst ht
        (refine a_fld ?_; (apply a_ld1 3; exact rfl; exact rfl); refine a_lenM ?_)
        refine a_lp (σ := Nat × List Int) (fun x => [.i x.1]) (fun x => [⟨z4, (nD x.2).flatten, .row 2 1 p.unk⟩, ⟨z3, (nD (nI rg)).flatten, .row 3 1 n⟩, ⟨z2, w.cs, .box⟩, ⟨z1, p.cs, .box⟩]) (fun x => x.1 ≤ p.ints.length ∧ x.2.length = p.unk ∧ markI p w x.1 (p.ints.drop x.1) x.2 = markI p w 0 p.ints l) (fun x => p.ints.length - x.1) (0, l) (by first | exact Gl.refl _ _ | exact Gl.drop (by repeat (first | exact List.Sublist.refl _ | exact List.Sublist.slnil | apply List.Sublist.cons_cons | apply List.Sublist.cons))) ⟨Nat.zero_le _, hll, rfl⟩ ?_
        generalize hmi : markI p w 0 p.ints l = mi at *
        clear hmi hta hb hll
        rintro ⟨i, l⟩ K ⟨hi, hll, hm⟩ hK
        dsimp only at hi hll hm hK ⊢
        dsimp only [aix0, aix1, aix2, aix3, aix4, aix5, aix6, aix7, aix8]
        refine a_lss ?_
        refine a_cnd (fun q => ?_) (fun q => ?_)
        · have hil2 : i < p.ints.length := by omega
          rw [List.drop_eq_getElem_cons hil2, markI] at hm
          refine a_idxM (f := s1) i hil2 ?_
          have hG := c46 w p.ints[i] 1 hsw
          cases hg : getF w.names p.ints[i] 1 with
          | none =>
            rw [hg] at hm
            simp only at hm
            rw [getV0 hg] at hG
            ((apply a_ld1p; exact rfl); (apply a_ldA 2; exact rfl; exact rfl); refine a_call0 hG ?_; (apply a_ext; exact rfl); (apply a_ext; exact rfl); refine a_bx fun z5 => ?_; refine a_stA 0 rfl rfl rfl rfl ?_; refine a_not ?_; refine a_cndbT rfl ?_)
            rw [← hm] at hans
            rw [hans]
            exact ge_nil1
          | some v =>
            rw [hg] at hm
            simp only at hm
            have hu : p.reg + i < p.unk := by unfold Pl.unk; omega
            rw [getV hg] at hG
            ((apply a_ld1p; exact rfl); (apply a_ldA 2; exact rfl; exact rfl); refine a_call0 hG ?_; (apply a_ext; exact rfl); (apply a_ext; exact rfl); refine a_bx fun z5 => ?_; refine a_stA 0 rfl rfl rfl rfl ?_; refine a_not ?_; refine a_cndbF rfl ?_; (apply a_ldA 4; exact rfl; exact rfl); refine a_callS0 hR ?_; refine a_add (by first | omega | assumption | decide) (by first | omega | assumption | decide) ?_; refine a_fld ?_; (apply a_ld1 0; exact rfl; exact rfl))
            refine a_idxO (j := ((p.reg + i : Nat) : Int)) (by omega) (by omega) ?_
            rw [Int.toNat_natCast]
            refine a_stN 1 (p.reg + i) rfl (by omega) ?_
            (refine a_add (by first | omega | assumption | decide) (by first | omega | assumption | decide) ?_)
            exact hK (i + 1, _) _ _ ⟨by simp only; omega, by rw [List.length_set]; exact hll, hm⟩ (by simp only; omega) (by first | exact Gl.refl _ _ | exact Gl.drop (by repeat (first | exact List.Sublist.refl _ | exact List.Sublist.slnil | apply List.Sublist.cons_cons | apply List.Sublist.cons)))
        · rw [show i = p.ints.length by omega, List.drop_length, markI] at hm
          clear hK
          rw [← hm] at hans
          simp only at hans
          skip
          rw [hans]
          refine ge_fz (f := n1) (l := l) (c := p.unk) n1_len 0 rfl ?_ (List.nil_sublist _)
          rw [hll]
          exact .tuple (.cons .hit (.cons (.refl _) .nil))
end Go.Proofs.YtokpeggkofjclaaGreatDoor
/- The small case of layer 13. -/
set_option maxRecDepth 100000
set_option linter.unusedVariables false
namespace Go.V
open Go
def planA : Pl := ⟨[⟨#[97]⟩], [], [⟨#[120]⟩]⟩
def rowA : Rw := ⟨[1, -1, 1], 0⟩
def worldA : Wd := ⟨3, [⟨⟨#[97]⟩, ⟨2, 0, false, [false, true, true]⟩⟩, ⟨⟨#[120]⟩, ⟨1, 7, false, []⟩⟩]⟩
theorem sort_atom : (sortF atomT).2 = 0 := by kernel_rfl
theorem coll_atom : collT atomT = [([120], 2), ([97], 7)] := by kernel_rfl
theorem names_atom : NamesF atomT = [([97], 7), ([120], 2)] := by
  unfold NamesF
  rw [if_neg (by rw [sort_atom]; decide)]
  refine rising_ext (namesT_rising _) (by decide) fun x => ?_
  rw [namesT_mem, coll_atom]
  simp only [List.mem_cons, List.not_mem_nil, or_false]
  exact Or.comm
theorem plan_atom : planN [([97], 7), ([120], 2)] = planA := by kernel_rfl
theorem make_atom : MakeF atomT = (planA, 0) := by
  unfold MakeF
  rw [if_neg (by rw [sort_atom]; decide), names_atom, plan_atom]
  exact if_neg (by decide)
theorem row_atom : RowF planA atomT true = (rowA, 0) := by kernel_rfl
theorem world_atom : WorldF planA [1, 2, 7] = (worldA, 0) := by kernel_rfl
theorem count_atom : CountF planA worldA = ([1, 2, 7], 0) := by kernel_rfl
end Go.V
namespace Go.Proofs.YtokpeggkofjclaaGreatDoor
open Go Go.V
theorem c9 : AFn pr 9 [] [] (.ret (.b true)) := by
  refine AFn.of (s9 ?_)
  unfold A9
  have hp : planA.Ok := ⟨by decide, by decide⟩
  have hM := c10 atomT
  rw [make_atom] at hM
  have hR := c13 hp atomT true
  rw [row_atom] at hR
  have hW := c17 hp [1, 2, 7]
  rw [world_atom] at hW
  have hC := c15 hp (by decide) worldA
  rw [count_atom] at hC
  have hReg : AFn pr 19 [planA.d] [] (.ret (.i 2)) := c19 planA (by decide)
  have hUnk : AFn pr 21 [planA.d] [] (.ret (.i 3)) := c21 planA (by decide) (by decide)
  have hB := c24 hp
  (refine a_call0 c30 ?_; refine a_call0 hM ?_; (apply a_ext; exact rfl); (apply a_ext; exact rfl); refine a_bx fun z1 => ?_; refine a_stA 0 rfl rfl rfl rfl ?_; (apply a_ldA 0; exact rfl; exact rfl); refine a_callS0 c30 ?_; refine a_callS0 (c13 (by first | omega | assumption | decide) _ _) ?_; (apply a_ext; exact rfl); (apply a_ext; exact rfl); refine a_bx fun z2 => ?_; refine a_stA 0 rfl rfl rfl rfl ?_; (apply a_ldA 1; exact rfl; exact rfl); (apply a_bldS _; exact rfl; (try dsimp only [afill, aparts, cl, chunk, List.take, List.drop, List.nil_append, List.cons_append, List.append_nil, List.length_cons, List.length_nil, Nat.zero_add, Nat.reduceAdd, Nat.reduceMul]); try exact rfl); refine a_call0 hW ?_; (apply a_ext; exact rfl); (apply a_ext; exact rfl); refine a_bx fun z3 => ?_; refine a_stA 0 rfl rfl rfl rfl ?_; (apply a_ldA 2; exact rfl; exact rfl); (apply a_ldA 0; exact rfl; exact rfl); refine a_call0 hC ?_; (apply a_ext; exact rfl); (apply a_ext; exact rfl); refine a_eql ?_; (apply a_jnX; intro J hJ); refine a_cndbT rfl ?_; refine a_eql ?_; exact hJ; dsimp only [aix0, aix1, aix2, aix3, aix4, aix5, aix6, aix7, aix8]; (apply a_jnX; intro J hJ); refine a_cndbT rfl ?_; refine a_eql ?_; exact hJ; dsimp only [aix0, aix1, aix2, aix3, aix4, aix5, aix6, aix7, aix8]; (apply a_jnX; intro J hJ); refine a_cndbT rfl ?_; refine a_eql ?_; exact hJ; dsimp only [aix0, aix1, aix2, aix3, aix4, aix5, aix6, aix7, aix8]; (apply a_jnX; intro J hJ); refine a_cndbT rfl ?_; (apply a_ldA 2; exact rfl; exact rfl); refine a_call0 (c19 _ (by first | omega | assumption | decide)) ?_; refine a_eql ?_; exact hJ; dsimp only [aix0, aix1, aix2, aix3, aix4, aix5, aix6, aix7, aix8]; (apply a_jnX; intro J hJ); refine a_cndbT rfl ?_; (apply a_ldA 2; exact rfl; exact rfl); refine a_call0 (c21 _ (by first | omega | assumption | decide) (by first | omega | assumption | decide)) ?_; refine a_eql ?_; exact hJ; dsimp only [aix0, aix1, aix2, aix3, aix4, aix5, aix6, aix7, aix8]; (apply a_jnX; intro J hJ); refine a_cndbT rfl ?_; refine a_fld ?_; (apply a_ld1 1; exact rfl; exact rfl); refine a_lenM ?_; refine a_eql ?_; exact hJ; dsimp only [aix0, aix1, aix2, aix3, aix4, aix5, aix6, aix7, aix8])
  rw [row_atom]
  ((apply a_jnX; intro J hJ); refine a_cndbT rfl ?_; refine a_fld ?_; (apply a_ld1 1; exact rfl; exact rfl); refine a_idxM (f := n1) 0 (by decide) ?_; (apply a_ld1p; exact rfl); refine a_eql ?_; exact hJ; dsimp only [aix0, aix1, aix2, aix3, aix4, aix5, aix6, aix7, aix8]; (apply a_jnX; intro J hJ); refine a_cndbT rfl ?_; refine a_fld ?_; (apply a_ld1 1; exact rfl; exact rfl); refine a_idxM (f := n1) 1 (by decide) ?_; (apply a_ld1p; exact rfl); refine a_eql ?_; exact hJ; dsimp only [aix0, aix1, aix2, aix3, aix4, aix5, aix6, aix7, aix8]; (apply a_jnX; intro J hJ); refine a_cndbT rfl ?_; refine a_fld ?_; (apply a_ld1 1; exact rfl; exact rfl); refine a_idxM (f := n1) 2 (by decide) ?_; (apply a_ld1p; exact rfl); refine a_eql ?_; exact hJ; dsimp only [aix0, aix1, aix2, aix3, aix4, aix5, aix6, aix7, aix8]; (apply a_jnX; intro J hJ); refine a_cndbT rfl ?_; refine a_fld ?_; (apply a_ld1 1; exact rfl; exact rfl); refine a_eql ?_; exact hJ; dsimp only [aix0, aix1, aix2, aix3, aix4, aix5, aix6, aix7, aix8]; (apply a_jnX; intro J hJ); refine a_cndbT rfl ?_; (apply a_ldA 2; exact rfl; exact rfl); refine a_call0 (c24 (by first | omega | assumption | decide)) ?_; refine a_lenM ?_; refine a_eql ?_; exact hJ; dsimp only [aix0, aix1, aix2, aix3, aix4, aix5, aix6, aix7, aix8]; (apply a_jnX; intro J hJ); refine a_cndbT rfl ?_; refine a_fld ?_; (apply a_ld1 0; exact rfl; exact rfl); refine a_eql ?_; exact hJ; dsimp only [aix0, aix1, aix2, aix3, aix4, aix5, aix6, aix7, aix8]; (apply a_jnX; intro J hJ); refine a_cndbT rfl ?_; refine a_lenM ?_; refine a_eql ?_; exact hJ; dsimp only [aix0, aix1, aix2, aix3, aix4, aix5, aix6, aix7, aix8]; (apply a_jnX; intro J hJ); refine a_cndbT rfl ?_; refine a_idxM (f := n1) 0 (by decide) ?_; (apply a_ld1p; exact rfl); refine a_eql ?_; exact hJ; dsimp only [aix0, aix1, aix2, aix3, aix4, aix5, aix6, aix7, aix8]; (apply a_jnX; intro J hJ); refine a_cndbT rfl ?_; refine a_idxM (f := n1) 1 (by decide) ?_; (apply a_ld1p; exact rfl); refine a_eql ?_; exact hJ; dsimp only [aix0, aix1, aix2, aix3, aix4, aix5, aix6, aix7, aix8]; (apply a_jnX; intro J hJ); refine a_cndbT rfl ?_; refine a_idxM (f := n1) 2 (by decide) ?_; (apply a_ld1p; exact rfl); refine a_eql ?_; exact hJ; dsimp only [aix0, aix1, aix2, aix3, aix4, aix5, aix6, aix7, aix8])
  rfl
end Go.Proofs.YtokpeggkofjclaaGreatDoor
