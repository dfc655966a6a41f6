/- Contracts of layer 13: rows. -/
import Derived.Test.YtokpeggkofjclaaGreatDoorM21
import Derived.Test.YtokpeggkofjclaaGreatDoorW11
import Derived.Test.YtokpeggkofjclaaGreatDoorC14
import Derived.Test.YtokpeggkofjclaaGreatDoorE1
import Derived.Test.YtokpeggkofjclaaGreatDoorW13
set_option maxRecDepth 100000
set_option linter.unusedVariables false
namespace Go.V
open Go
theorem and1_nat {r : Nat} (h : r ≤ 9223372036854775807) : bitsI .and .i64 (r : Int) 1 = ((r % 2 : Nat) : Int) := by
  unfold bitsI
  have e : (BitVec.ofInt IntKind.i64.bits (r : Int) &&& BitVec.ofInt IntKind.i64.bits 1).toNat = r % 2 := by
    show (BitVec.ofInt 64 (r : Int) &&& BitVec.ofInt 64 1).toNat = _
    rw [BitVec.toNat_and]
    have e1 : (BitVec.ofInt 64 (1 : Int)).toNat = 1 := by decide
    have e2 : (BitVec.ofInt 64 (r : Int)).toNat = r := by rw [BitVec.toNat_ofInt]; omega
    rw [e1, e2, Nat.and_one_is_mod]
  show IntKind.i64.wrap ((BitVec.ofInt IntKind.i64.bits (r : Int) &&& BitVec.ofInt IntKind.i64.bits 1).toNat : Int) = _
  rw [e]
  exact i64_wrap (by omega) (by omega)
theorem shl_one {n : Nat} (h : n ≤ 62) : IntKind.i64.wrap (1 * 2 ^ (min ((n : Int).toNat) IntKind.i64.bits)) = ((2 ^ n : Nat) : Int) := by
  have e : min ((n : Int).toNat) IntKind.i64.bits = n := by show min ((n : Int).toNat) 64 = n; omega
  rw [e, Int.one_mul]
  have : ∀ k : Fin 63, IntKind.i64.wrap ((2 : Int) ^ k.1) = ((2 ^ k.1 : Nat) : Int) := by decide +kernel
  exact this ⟨n, by omega⟩
theorem fdiv_nat (r c : Nat) : ((r : Int).fdiv (2 ^ c)) = ((r / 2 ^ c : Nat) : Int) := by
  rw [Int.fdiv_eq_ediv_of_nonneg _ (Int.le_of_lt (Int.pow_pos (by decide)))]
  rw [Int.natCast_ediv, Int.natCast_pow]; rfl
end Go.V
namespace Go.Proofs.YtokpeggkofjclaaGreatDoor
open Go Go.V
theorem c52 {r c : Nat} (hr : r ≤ 9223372036854775807) (hc : c ≤ 64) : AFn pr 52 [.i r, .i c] [] (.ret (.b (inB r c))) := by
  refine AFn.of (s52 ?_)
  unfold A52
  refine ⟨by omega, ?_⟩
  have e1 : min ((c : Int).toNat) IntKind.i64.bits = c := by show min ((c : Int).toNat) 64 = c; omega
  rw [e1, fdiv_nat]
  refine ⟨rfl, ?_⟩
  have hle : r / 2 ^ c ≤ r := Nat.div_le_self _ _
  dsimp only
  rw [and1_nat (r := r / 2 ^ c) (by omega)]
  (refine a_eql ?_)
  refine ret_b ?_
  unfold inB
  by_cases h : r / 2 ^ c % 2 = 1
  · rw [decide_eq_true h, decide_eq_true (by omega)]
  · rw [decide_eq_false h, decide_eq_false (by omega)]
theorem c33 (p : Pl) (hp : p.circ ≤ 1000000) : AFn pr 33 [p.d] [] (.ret (.i p.circ)) := by
  refine AFn.of (s33 ?_)
  unfold Pl.circ at hp
  unfold A33
  refine a_bxv fun z1 => ?_
  (refine a_fld ?_; (apply a_ld1 0; exact rfl; exact rfl); refine a_lenM ?_; refine a_fld ?_; (apply a_ld1 0; exact rfl; exact rfl); refine a_lenM ?_; refine a_add (by first | omega | assumption | decide) (by first | omega | assumption | decide) ?_)
  refine ret_i ?_
  unfold Pl.circ; omega
theorem c19 (p : Pl) (hp : p.circ ≤ 1000000) : AFn pr 19 [p.d] [] (.ret (.i p.reg)) := by
  refine AFn.of (s19 ?_)
  unfold A19
  refine a_bxv fun z1 => ?_
  ((apply a_ldA 0; exact rfl; exact rfl); refine a_call0 (c33 _ (by first | omega | assumption | decide)) ?_; refine a_min ?_)
  have e : (min (p.circ : Int) 6) = ((min p.circ 6 : Nat) : Int) := by omega
  rw [e]
  refine ⟨by omega, ?_⟩
  rw [shl_one (by omega)]
  rfl
theorem c21 (p : Pl) (hp : p.circ ≤ 1000000) (hi : p.ints.length ≤ 1000000) : AFn pr 21 [p.d] [] (.ret (.i p.unk)) := by
  refine AFn.of (s21 ?_)
  unfold A21
  refine a_bxv fun z1 => ?_
  have := p.reg_pos
  ((apply a_ldA 0; exact rfl; exact rfl); refine a_callS0 (c19 _ (by first | omega | assumption | decide)) ?_; refine a_fld ?_; (apply a_ld1 0; exact rfl; exact rfl); refine a_lenM ?_; refine a_add (by first | omega | assumption | decide) (by first | omega | assumption | decide) ?_)
  refine ret_i ?_
  unfold Pl.unk; omega
theorem c122 (l : List ByteArray) (s : ByteArray) (hl : l.length ≤ 1000000) : AFn pr 122 [.row 1 (sD l), .s s] [] (.ret (.i (atS s l 0))) := by
  refine AFn.of (s122 ?_)
  unfold A122 sD
  (refine a_lenM ?_)
  refine a_lp (σ := Nat) (fun i => [.i i]) (fun _ => []) (fun i => i ≤ l.length ∧ atS s (l.drop i) i = atS s l 0) (fun i => l.length - i) 0 (by first | exact Gl.refl _ _ | exact Gl.drop (by repeat (first | exact List.Sublist.refl _ | exact List.Sublist.slnil | apply List.Sublist.cons_cons | apply List.Sublist.cons))) ⟨Nat.zero_le _, rfl⟩ ?_
  rintro i K ⟨hi, hp⟩ hK
  dsimp only [aix0, aix1, aix2, aix3, aix4, aix5, aix6, aix7, aix8]
  (refine a_lss ?_)
  refine a_cnd (fun q => ?_) (fun q => ?_)
  · have hlt : i < l.length := by omega
    rw [List.drop_eq_getElem_cons hlt, atS] at hp
    refine a_idxM i hlt ?_
    ((apply a_ld1p; exact rfl); refine a_eqlS ?_)
    refine a_cnd (fun q2 => ?_) (fun q2 => ?_)
    · rw [if_pos (by simpa using q2.symm)] at hp
      exact ret_i hp
    · rw [if_neg (by simpa using fun h => q2 h.symm)] at hp
      (refine a_add (by first | omega | assumption | decide) (by first | omega | assumption | decide) ?_)
      exact hK (i + 1) _ _ ⟨by omega, hp⟩ (by omega) (by first | exact Gl.refl _ _ | exact Gl.drop (by repeat (first | exact List.Sublist.refl _ | exact List.Sublist.slnil | apply List.Sublist.cons_cons | apply List.Sublist.cons)))
  · rw [List.drop_eq_nil_of_le (by omega), atS] at hp
    exact ret_i hp
/-- what a place is told as: an int, or the panic -/
def rsV {α : Type} (f : α → D) : Except Int α → AE
  | .ok v => .ret (f v)
  | .error e => .pan (.ifc 78 (.i e))
theorem c83 (l : List ByteArray) (s : ByteArray) (hl : l.length ≤ 1000000) : AFn pr 83 [.row 1 (sD l), .s s] [] (rsV (fun n : Nat => .i n) (plcE l s)) := by
  refine AFn.of (s83 ?_)
  unfold A83 plcE
  have := atS_rng s l
  refine a_call0 (c122 l s hl) ?_
  (refine a_lss ?_)
  refine a_cnd (fun q => ?_) (fun q => ?_)
  · rw [if_pos q]; rfl
  · rw [if_neg q]
    refine ret_i ?_
    omega
theorem c87 (n : Int) (b : Bool) : AFn pr 87 [.i n, .b b] [] (rsV D.i (if b = true then .ok n else .error 5)) := by
  refine AFn.of (s87 ?_)
  unfold A87
  (refine a_not ?_)
  cases b with
  | true => rfl
  | false => rfl
end Go.Proofs.YtokpeggkofjclaaGreatDoor
/- Contracts of layer 13: rows of regions; sets as regions. -/
set_option maxRecDepth 100000
set_option linter.unusedVariables false
namespace Go.V
open Go
def n1 (n : Int) : List D := [.i n]
theorem nD_eq (l : List Int) : nD l = l.map n1 := rfl
theorem n1_len (n : Int) : (n1 n).length = 1 := rfl
section
variable {L : List Bx} {ks : List Bx → Prop} {k : D → Prop} {b e c : Nat} {l : List Int}
/-- one of an own row of numbers is written -/
theorem a_stN {y : Int} (i j : Nat) (hi : L[i]? = some (Bx.mk b (nD l).flatten (.row e 1 c))) (hj : j < l.length) (h : ks (L.set i ⟨b, (nD (l.set j y)).flatten, .row e 1 c⟩)) : ast 1 (.p b (0 + j * 1)) (.i y) L ks := by
  rw [nD_eq] at hi h
  refine V.a_st i _ hi rfl rfl (Nat.ble_eq_true_of_le ?_) ?_ h
  · rw [flat_len n1_len]; omega
  · rw [Nat.zero_add]
    exact flat_set n1_len l j hj y
theorem flat_n1 : ∀ l : List Int, (l.map n1).flatten = l.map D.i
  | [] => rfl
  | x :: r => by rw [List.map_cons, List.flatten_cons, flat_n1 r]; rfl
/-- one of an own row of numbers is read -/
theorem a_ldNo (i j : Nat) (hi : L[i]? = some (Bx.mk b (nD l).flatten (.row e 1 c))) (hj : j < l.length) (h : k (.i (l[j]))) : ald1 (.p b (0 + j * 1)) L k := by
  refine a_ld1 i hi ?_ h
  rw [Nat.zero_add, Nat.mul_one, nD_eq, flat_n1, List.getElem?_map, List.getElem?_eq_getElem hj]
  rfl
end
theorem zeros_flat (n : Nat) : (List.replicate n [D.i 0]).flatten = (nD (List.replicate n 0)).flatten := by
  rw [nD_eq, List.map_replicate]; rfl
/-- so far -/
def rowT (p : Pl) (c : Int) (f : Nat → Bool) (i : Nat) : List Int := (List.range p.unk).map fun j => if (decide (j < p.reg) && (decide (j < i) && f j)) = true then c else 0
theorem rowT_len (p : Pl) (c : Int) (f : Nat → Bool) (i : Nat) : (rowT p c f i).length = p.unk := by unfold rowT; simp
theorem rowT_zero (p : Pl) (c : Int) (f : Nat → Bool) : rowT p c f 0 = List.replicate p.unk 0 := by
  unfold rowT
  apply List.ext_getElem
  · simp
  · intro i h1 h2; simp
theorem rowT_end (p : Pl) (c : Int) (f : Nat → Bool) : rowT p c f p.reg = (rowF p c 0 f).c := by
  unfold rowT rowF
  apply List.map_congr_left
  intro j _
  by_cases h : j < p.reg <;> simp [h]
theorem rowT_yes {p : Pl} {c : Int} {f : Nat → Bool} {i : Nat} (hi : i < p.reg) (h : f i = true) : (rowT p c f i).set i c = rowT p c f (i + 1) := by
  unfold rowT
  apply List.ext_getElem
  · simp
  · intro j h1 h2
    rw [List.getElem_set]
    simp only [List.getElem_map, List.getElem_range]
    split
    · rename_i hh; subst hh; simp [hi, h]
    · have : decide (j < i) = decide (j < i + 1) := decide_eq_decide.2 (by omega)
      rw [this]
theorem rowT_no {p : Pl} {c : Int} {f : Nat → Bool} {i : Nat} (h : f i = false) : rowT p c f i = rowT p c f (i + 1) := by
  unfold rowT
  apply List.map_congr_left
  intro j _
  by_cases hji : j = i
  · subst hji; simp [h]
  · have : decide (j < i) = decide (j < i + 1) := decide_eq_decide.2 (by omega)
    rw [this]
theorem reg_unk (p : Pl) : p.reg ≤ p.unk := by unfold Pl.unk; omega
/-- a plan that may be -/
structure Pl.Ok (p : Pl) : Prop where
  circ : p.circ ≤ 64
  ints : p.ints.length ≤ 1000000
end Go.V
namespace Go.Proofs.YtokpeggkofjclaaGreatDoor
open Go Go.V
/-- with an own row -/
theorem row_own {g : Nat} {caps : List D} {Lc : List Bx} {f : Nat → Bool} {p : Pl} (hp : p.Ok) (c k : Int) (hg : ∀ i : Nat, i < p.reg → AFn pr g ([.i i] ++ caps) Lc (.ret (.b (f i)))) :
    ASpec pr 40 [p.d, .i c, .i k, .fn g [] caps] Lc fun a L' => ∃ b cap, a = .ret (.agg [.sl b 0 p.unk cap, .i k]) ∧ L' = ⟨b, (nD (rowF p c k f).c).flatten, .row 2 1 cap⟩ :: Lc := by
  refine ASpec.ge (R := fun a L' => ∃ b cap, Ge a L' (.ret (.agg [.sl b 0 p.unk cap, .i k])) (⟨b, (nD (rowF p c k f).c).flatten, .row 2 1 cap⟩ :: Lc)) (s40 ?_) (fun a L' ⟨b, cap, h⟩ => ⟨_, _, h, b, cap, rfl, rfl⟩)
  unfold A40
  have hreg := p.reg_pos
  have hru := reg_unk p
  have hunk : p.unk ≤ 1000064 := by have := hp.ints; unfold Pl.unk; omega
  have hU := c21 p (by have := hp.circ; omega) hp.ints
  have hR := c19 p (by have := hp.circ; omega)
  refine a_bxv fun z1 => ?_
  refine a_bx fun z2 => ?_
  ((apply a_ldA 1; exact rfl; exact rfl); refine a_call0 hU ?_)
  refine a_mkS p.unk p.unk rfl rfl (Nat.le_refl _) (by omega) (by omega) fun z3 => ?_
  refine V.a_bld [.sl z3 0 p.unk p.unk, .i k] rfl rfl ?_
  refine a_bx fun z5 => ?_
  refine a_stA 0 rfl rfl rfl rfl ?_
  ((apply a_ldA 3; exact rfl; exact rfl); refine a_call0 hR ?_)
  rw [zeros_flat, ← rowT_zero p c f]
  refine a_lp (σ := Nat) (fun i => [.i i]) (fun i => [⟨z5, [.sl z3 0 p.unk p.unk, .i k], .box⟩, ⟨z3, (nD (rowT p c f i)).flatten, .row 2 1 p.unk⟩, ⟨z2, [.nil, .i 0], .box⟩, ⟨z1, p.cs, .box⟩] ++ Lc) (fun i => i ≤ p.reg) (fun i => p.reg - i) 0 (by first | exact Gl.refl _ _ | exact Gl.drop (by repeat (first | exact List.Sublist.refl _ | exact List.Sublist.slnil | apply List.Sublist.cons_cons | apply List.Sublist.cons))) (Nat.zero_le _) ?_
  rintro i K hi hK
  dsimp only [aix0, aix1, aix2, aix3, aix4, aix5, aix6, aix7, aix8]
  refine a_lss ?_
  refine a_cnd (fun q => ?_) (fun q => ?_)
  · have hi1 : i < p.reg := by omega
    refine a_callR (AFn.frameM _ (hg i hi1)) ?_
    refine a_cndb (fun q2 => ?_) (fun q2 => ?_)
    · (refine a_fld ?_; (apply a_ld1 0; exact rfl; exact rfl))
      refine a_idxO (j := (i : Int)) (by omega) (by omega) ?_
      rw [Int.toNat_natCast]
      refine a_stN 1 i rfl (by rw [rowT_len]; omega) ?_
      rw [rowT_yes hi1 q2]
      (refine a_add (by first | omega | assumption | decide) (by first | omega | assumption | decide) ?_)
      exact hK (i + 1) _ _ (by omega) (by omega) (by first | exact Gl.refl _ _ | exact Gl.drop (by repeat (first | exact List.Sublist.refl _ | exact List.Sublist.slnil | apply List.Sublist.cons_cons | apply List.Sublist.cons)))
    · (refine a_add (by first | omega | assumption | decide) (by first | omega | assumption | decide) ?_)
      have hK1 := hK (i + 1)
      rw [← rowT_no q2] at hK1
      exact hK1 _ _ (by omega) (by omega) (by first | exact Gl.refl _ _ | exact Gl.drop (by repeat (first | exact List.Sublist.refl _ | exact List.Sublist.slnil | apply List.Sublist.cons_cons | apply List.Sublist.cons)))
  · rw [show i = p.reg by omega, rowT_end]
    clear hK
    ((apply a_ldA 0; exact rfl; exact rfl); refine a_stA 2 rfl rfl rfl rfl ?_; (apply a_ldA 2; exact rfl; exact rfl))
    exact ⟨z3, p.unk, trivial, (by first | exact Gl.refl _ _ | exact Gl.drop (by repeat (first | exact List.Sublist.refl _ | exact List.Sublist.slnil | apply List.Sublist.cons_cons | apply List.Sublist.cons)))⟩
end Go.Proofs.YtokpeggkofjclaaGreatDoor
/- Contracts of layer 13: sets of regions. -/
set_option maxRecDepth 100000
set_option linter.unusedVariables false
namespace Go.Proofs.YtokpeggkofjclaaGreatDoor
open Go Go.V
mutual
/-- a set as what tells its regions, or the error -/
def setE (p : Pl) : Tm → Except Int D
  | .mk op nm n a => if op = 7 then (plcE p.sets nm).map fun i => .fn 123 [] [.pin [.i i]]
      else if op = 10 then (plcE p.nodes (a.headD (.mk 0 ⟨#[]⟩ 0 [])).nm).map fun i => .fn 124 [] [.pin [.i ((p.sets.length + i : Nat) : Int)]]
      else if op = 8 ∨ op = 9 then .ok (.fn 125 [] [.pin (Tm.mk op nm n a).cs]) else
      match setL p a with
      | x :: y :: _ => x.bind fun u => y.bind fun v => .ok (.fn (if op = 11 then 126 else if op = 12 then 127 else 128) [] [.pin [u], .pin [v]])
      | _ => .error 0
def setL (p : Pl) : List Tm → List (Except Int D)
  | [] => []
  | x :: l => setE p x :: setL p l
end
/-- such a value tells that of a region -/
def IsFn (d : D) (f : Nat → Bool) : Prop := ∃ g caps, d = .fn g [] caps ∧ ∀ r : Nat, r ≤ 63 → AFn pr g ([.i r] ++ caps) [] (.ret (.b (f r)))
theorem c123 {r i : Nat} (hr : r ≤ 63) (hi : i ≤ 64) : AFn pr 123 [.i r, .pin [.i i]] [] (.ret (.b (inB r i))) := by
  refine AFn.of (s123 ?_)
  unfold A123
  ((apply a_ld1p; exact rfl); refine a_call0 (c52 (by first | omega | assumption | decide) (by first | omega | assumption | decide)) ?_)
  rfl
theorem c124 {r i : Nat} (hr : r ≤ 63) (hi : i ≤ 64) : AFn pr 124 [.i r, .pin [.i i]] [] (.ret (.b (inB r i))) := by
  refine AFn.of (s124 ?_)
  unfold A124
  ((apply a_ld1p; exact rfl); refine a_call0 (c52 (by first | omega | assumption | decide) (by first | omega | assumption | decide)) ?_)
  rfl
theorem c125 (r : Nat) (t : Tm) : AFn pr 125 [.i r, .pin t.cs] [] (.ret (.b (decide (t.op = 9)))) := by
  refine AFn.of (s125 ?_)
  unfold A125
  (refine a_fldp ?_; (apply a_ld1p; exact rfl); refine a_eql ?_)
  rfl
section
variable {u v : D} {f h : Nat → Bool} (hu : IsFn u f) (hv : IsFn v h) {r : Nat} (hr : r ≤ 63)
include hu hv hr
theorem c126 : AFn pr 126 [.i r, .pin [u], .pin [v]] [] (.ret (.b (f r || h r))) := by
  refine AFn.of (s126 ?_)
  unfold A126
  obtain ⟨g, c, rfl, hu⟩ := hu
  obtain ⟨g', c', rfl, hv⟩ := hv
  ((apply a_ld1p; exact rfl); refine a_cfW ?_)
  refine a_call0 (hu r hr) ?_
  refine a_cndb (fun q => ?_) (fun q => ?_)
  · rw [q]; rfl
  · rw [q]
    ((apply a_ld1p; exact rfl); refine a_cfW ?_)
    refine a_call0 (hv r hr) ?_
    rfl
theorem c127 : AFn pr 127 [.i r, .pin [u], .pin [v]] [] (.ret (.b (f r && h r))) := by
  refine AFn.of (s127 ?_)
  unfold A127
  obtain ⟨g, c, rfl, hu⟩ := hu
  obtain ⟨g', c', rfl, hv⟩ := hv
  ((apply a_ld1p; exact rfl); refine a_cfW ?_)
  refine a_call0 (hu r hr) ?_
  refine a_cndb (fun q => ?_) (fun q => ?_)
  · rw [q]
    ((apply a_ld1p; exact rfl); refine a_cfW ?_)
    refine a_call0 (hv r hr) ?_
    rfl
  · rw [q]; rfl
theorem c128 : AFn pr 128 [.i r, .pin [u], .pin [v]] [] (.ret (.b (f r && !h r))) := by
  refine AFn.of (s128 ?_)
  unfold A128
  obtain ⟨g, c, rfl, hu⟩ := hu
  obtain ⟨g', c', rfl, hv⟩ := hv
  ((apply a_ld1p; exact rfl); refine a_cfW ?_)
  refine a_call0 (hu r hr) ?_
  refine a_cndb (fun q => ?_) (fun q => ?_)
  · rw [q]
    ((apply a_ld1p; exact rfl); refine a_cfW ?_)
    refine a_call0 (hv r hr) ?_
    rfl
  · rw [q]; rfl
end
theorem set_isFn {p : Pl} (hp : p.Ok) (t : Tm) : rightT t 2 = true → ∀ d, setE p t = .ok d → IsFn d (regT p t) := by
  induction t using Tm.ind' with
  | h t ih =>
    intro h d hd
    have hc := hp.circ
    unfold Pl.circ at hc
    have ho := right_set h
    cases t with | mk op nm n a =>
    simp only [Tm.op] at ho
    rw [setE] at hd
    have two : (op = 11 ∨ op = 12 ∨ op = 13) → ∃ x y u v, a = [x, y] ∧ IsFn u (regT p x) ∧ IsFn v (regT p y) ∧ d = .fn (if op = 11 then 126 else if op = 12 then 127 else 128) [] [.pin [u], .pin [v]] := fun hh => by
      obtain ⟨x, y, rfl, hx, hy⟩ := right2 h (s1 := 2) (s2 := 2) (by rcases hh with e | e | e <;> rw [e] <;> rfl) (by rcases hh with e | e | e <;> rw [e] <;> rfl)
      rw [if_neg (by omega), if_neg (by omega), if_neg (by omega), setL, setL] at hd
      simp only at hd
      cases hu : setE p x with
      | error e => rw [hu] at hd; cases hd
      | ok u =>
        cases hv : setE p y with
        | error e => rw [hu, hv] at hd; cases hd
        | ok v =>
          rw [hu, hv] at hd
          injection hd with hd
          exact ⟨x, y, u, v, rfl, ih x (by simp [Tm.a]) hx u hu, ih y (by simp [Tm.a]) hy v hv, hd.symm⟩
    rcases ho with e | e | e | e | e | e | e
    · subst e
      rw [if_pos rfl, plcE_eq] at hd
      split at hd
      · cases hd
      · next hn =>
        injection hd with hd
        subst hd
        have := plcN_lt (l := p.sets) (s := nm) (by rw [plcE_eq, if_neg hn])
        exact ⟨_, _, rfl, fun r hr => by rw [regT, if_pos rfl]; exact c123 hr (by omega)⟩
    · subst e
      injection hd with hd
      subst hd
      exact ⟨_, _, rfl, fun r hr => c125 r (.mk 8 nm n a)⟩
    · subst e
      injection hd with hd
      subst hd
      exact ⟨_, _, rfl, fun r hr => c125 r (.mk 9 nm n a)⟩
    · subst e
      rw [if_neg (by decide), if_pos rfl, plcE_eq] at hd
      split at hd
      · cases hd
      · next hn =>
        injection hd with hd
        subst hd
        have := plcN_lt (l := p.nodes) (by rw [plcE_eq, if_neg hn])
        exact ⟨_, _, rfl, fun r hr => by rw [regT, if_neg (by decide), if_pos rfl]; exact c124 hr (by omega)⟩
    · obtain ⟨x, y, u, v, rfl, hu, hv, rfl⟩ := two (.inl e)
      subst e
      exact ⟨_, _, rfl, fun r hr => c126 hu hv hr⟩
    · obtain ⟨x, y, u, v, rfl, hu, hv, rfl⟩ := two (.inr (.inl e))
      subst e
      exact ⟨_, _, rfl, fun r hr => c127 hu hv hr⟩
    · obtain ⟨x, y, u, v, rfl, hu, hv, rfl⟩ := two (.inr (.inr e))
      subst e
      exact ⟨_, _, rfl, fun r hr => c128 hu hv hr⟩
end Go.Proofs.YtokpeggkofjclaaGreatDoor
/- Contracts of layer 13: set, joined, line. -/
set_option maxRecDepth 100000
set_option linter.unusedVariables false
namespace Go.V
open Go
theorem ge_pin1 {g z : Nat} {l : List D} {L : List Bx} : Ge (.ret (.fn g [] [.p z 0])) (⟨z, l, .box⟩ :: L) (.ret (.fn g [] [.pin l])) [] :=
  ⟨trivial, Gl.trans (Gl.fzP (ds' := [.fn g [] [.pin l]]) 0 rfl (.cons (.fn .nil (.cons .hit .nil)) .nil) (WkB.refl _ _ _)) (Gl.drop (List.nil_sublist _))⟩
theorem ge_pin2 {g z z' : Nat} {l l' : List D} {L : List Bx} : Ge (.ret (.fn g [] [.p z 0, .p z' 0])) (⟨z', l', .box⟩ :: ⟨z, l, .box⟩ :: L) (.ret (.fn g [] [.pin l, .pin l'])) [] :=
  ⟨trivial, Gl.trans (Gl.fzP (ds' := [.fn g [] [.p z 0, .pin l']]) 0 rfl (.cons (.fn .nil (.cons (.refl _) (.cons .hit .nil))) .nil) (WkB.refl _ _ _))
    (Gl.trans (Gl.fzP (ds' := [.fn g [] [.pin l, .pin l']]) 0 rfl (.cons (.fn .nil (.cons .hit (.cons (.refl _) .nil))) .nil) (WkB.refl _ _ _)) (Gl.drop (List.nil_sublist _)))⟩
theorem ge_pan {d : D} {L : List Bx} : Ge (.pan d) L (.pan d) [] := ge_drop _ _
end Go.V
namespace Go.Proofs.YtokpeggkofjclaaGreatDoor
open Go Go.V
theorem c84 {p : Pl} (hp : p.Ok) (t : Tm) : rightT t 2 = true → AFn pr 84 [p.d, t.d] [] (rsV id (setE p t)) := by
  induction t using Tm.ind' with
  | h t ih =>
    intro h
    have hc := hp.circ
    unfold Pl.circ at hc
    have ho := right_set h
    refine AFn.ofGe (s84 ?_)
    unfold A84
    refine a_bxv fun z1 => ?_
    refine a_bxv fun z2 => ?_
    cases t with | mk op nm n a =>
    simp only [Tm.op] at ho
    refine a_jn (σ := Unit) (fun _ => []) (fun _ => [⟨z2, (Tm.mk op nm n a).cs, .box⟩, ⟨z1, p.cs, .box⟩]) (fun _ => op = 11 ∨ op = 12 ∨ op = 13) ?_ fun J hJ => ?_
    · rintro _ hh
      obtain ⟨x, y, rfl, hx, hy⟩ := right2 h (s1 := 2) (s2 := 2) (by rcases hh with e | e | e <;> rw [e] <;> rfl) (by rcases hh with e | e | e <;> rw [e] <;> rfl)
      have ihx := ih x (by simp [Tm.a]) hx
      have ihy := ih y (by simp [Tm.a]) hy
      have fx := set_isFn hp x hx
      have fy := set_isFn hp y hy
      have hE : setE p (.mk op nm n [x, y]) = (setE p x).bind fun u => (setE p y).bind fun v => .ok (.fn (if op = 11 then 126 else if op = 12 then 127 else 128) [] [.pin [u], .pin [v]]) := by
        rw [setE, if_neg (by omega), if_neg (by omega), if_neg (by omega), setL, setL, setL]
      rw [hE]
      clear hE ih
      ((apply a_ldA 1; exact rfl; exact rfl); refine a_fld ?_; (apply a_ld1 0; exact rfl; exact rfl); refine a_idxT0 ?_; (apply a_ldAp; exact rfl))
      cases hu : setE p x with
      | error e =>
        rw [hu] at ihx
        refine a_callSP ihx ?_
        exact ge_pan
      | ok u =>
        rw [hu] at ihx
        obtain ⟨g, c, rfl, _⟩ := fx u hu
        refine a_callS0 ihx ?_
        (refine a_bx fun z3 => ?_; (apply a_st 0 _; exact rfl; exact rfl; exact rfl; exact rfl; (try dsimp only [afill, aparts, cl, chunk, List.take, List.drop, List.nil_append, List.cons_append, List.append_nil, List.length_cons, List.length_nil, Nat.zero_add, Nat.reduceAdd, Nat.reduceMul]); try exact rfl); (apply a_ldA 2; exact rfl; exact rfl); refine a_fld ?_; (apply a_ld1 1; exact rfl; exact rfl); refine a_idxT1 ?_; (apply a_ldAp; exact rfl))
        cases hv : setE p y with
        | error e =>
          rw [hv] at ihy
          refine a_callSP ihy ?_
          exact ge_pan
        | ok v =>
          rw [hv] at ihy
          obtain ⟨g', c', rfl, _⟩ := fy v hv
          refine a_callS0 ihy ?_
          (refine a_bx fun z4 => ?_; (apply a_st 0 _; exact rfl; exact rfl; exact rfl; exact rfl; (try dsimp only [afill, aparts, cl, chunk, List.take, List.drop, List.nil_append, List.cons_append, List.append_nil, List.length_cons, List.length_nil, Nat.zero_add, Nat.reduceAdd, Nat.reduceMul]); try exact rfl); refine a_fld ?_; (apply a_ld1 2; exact rfl; exact rfl); refine a_eql ?_)
          have hop : (Tm.mk op nm n [x, y]).op = op := rfl
          rcases hh with e | e | e
          · subst e
            (refine a_cndbT rfl ?_)
            exact ge_pin2
          · subst e
            (refine a_cndbF rfl ?_; refine a_eql ?_; refine a_cndbT rfl ?_)
            exact ge_pin2
          · subst e
            (refine a_cndbF rfl ?_; refine a_eql ?_; refine a_cndbF rfl ?_)
            exact ge_pin2
    · (refine a_fld ?_; (apply a_ld1 0; exact rfl; exact rfl); refine a_eql ?_)
      rcases ho with e | e | e | e | e | e | e
      · subst e
        refine a_cndT rfl ?_
        have hP := c83 p.sets nm (by omega)
        rw [setE, if_pos rfl]
        (refine a_fld ?_; (apply a_ld1 1; exact rfl; exact rfl); refine a_fld ?_; (apply a_ld1 0; exact rfl; exact rfl))
        cases hq : plcE p.sets nm with
        | error e => rw [hq] at hP; exact a_callP hP ge_pan
        | ok i =>
          rw [hq] at hP
          refine a_call0 hP ?_
          (refine a_bx fun z3 => ?_; refine a_stA 0 rfl rfl rfl rfl ?_)
          exact ge_pin1
      · subst e
        (refine a_cndbF rfl ?_; refine a_eql ?_; refine a_cndbF rfl ?_; refine a_eql ?_; refine a_cndbT rfl ?_; refine a_cndbT rfl ?_)
        exact ge_pin1
      · subst e
        (refine a_cndbF rfl ?_; refine a_eql ?_; refine a_cndbF rfl ?_; refine a_eql ?_; refine a_cndbF rfl ?_; refine a_eql ?_; refine a_cndbT rfl ?_)
        exact ge_pin1
      · subst e
        obtain ⟨x, rfl, hx⟩ := right1 h (s1 := 3) rfl rfl
        have hP := c83 p.nodes x.nm (by omega)
        rw [setE, if_neg (by decide), if_pos rfl]
        (refine a_cndbF rfl ?_; refine a_eql ?_; refine a_cndbT rfl ?_; refine a_fld ?_; (apply a_ld1 1; exact rfl; exact rfl); refine a_lenM ?_; refine a_fld ?_; (apply a_ld1 1; exact rfl; exact rfl); refine a_fld ?_; (apply a_ld1 0; exact rfl; exact rfl); refine a_idxT0 ?_; refine a_fldp ?_; (apply a_ld1p; exact rfl))
        cases hq : plcE p.nodes x.nm with
        | error e =>
          rw [hq] at hP
          refine a_callSP hP ?_
          show Ge _ _ (rsV id ((plcE p.nodes x.nm).map _)) []
          rw [hq]
          exact ge_pan
        | ok i =>
          rw [hq] at hP
          have hi := (plcE_ok hq).2
          refine a_callS0 hP ?_
          (refine a_add (by first | omega | assumption | decide) (by first | omega | assumption | decide) ?_; refine a_bx fun z3 => ?_; refine a_stA 0 rfl rfl rfl rfl ?_)
          show Ge _ _ (rsV id ((plcE p.nodes x.nm).map _)) []
          rw [hq]
          exact ge_pin1
      · subst e
        (refine a_cndbF rfl ?_; refine a_eql ?_; refine a_cndbF rfl ?_; refine a_eql ?_; refine a_cndbF rfl ?_; refine a_eql ?_; refine a_cndbF rfl ?_)
        exact hJ () _ _ (by omega) (by first | exact Gl.refl _ _ | exact Gl.drop (by repeat (first | exact List.Sublist.refl _ | exact List.Sublist.slnil | apply List.Sublist.cons_cons | apply List.Sublist.cons)))
      · subst e
        (refine a_cndbF rfl ?_; refine a_eql ?_; refine a_cndbF rfl ?_; refine a_eql ?_; refine a_cndbF rfl ?_; refine a_eql ?_; refine a_cndbF rfl ?_)
        exact hJ () _ _ (by omega) (by first | exact Gl.refl _ _ | exact Gl.drop (by repeat (first | exact List.Sublist.refl _ | exact List.Sublist.slnil | apply List.Sublist.cons_cons | apply List.Sublist.cons)))
      · subst e
        (refine a_cndbF rfl ?_; refine a_eql ?_; refine a_cndbF rfl ?_; refine a_eql ?_; refine a_cndbF rfl ?_; refine a_eql ?_; refine a_cndbF rfl ?_)
        exact hJ () _ _ (by omega) (by first | exact Gl.refl _ _ | exact Gl.drop (by repeat (first | exact List.Sublist.refl _ | exact List.Sublist.slnil | apply List.Sublist.cons_cons | apply List.Sublist.cons)))
end Go.Proofs.YtokpeggkofjclaaGreatDoor
