/- Contracts of subst: Free, Fresh; small numbers as texts. -/
import Derived.Test.YtaigilchnadmpaaGreatDoorC24
import Derived.Test.YtaigilchnadmpaaGreatDoorC14
import Derived.Test.YtaigilchnadmpaaGreatDoorC4
import Derived.Test.YtaigilchnadmpaaGreatDoorM13
set_option maxRecDepth 100000
set_option linter.unusedVariables false
namespace Go.V
open Go
/-- where the first is such, -1: none is -/
def idxQ {α : Type} (f : α → Bool) : List α → Nat → Int
  | [], _ => -1
  | x :: r, i => if f x then i else idxQ f r (i + 1)
theorem idxQ_any {α : Type} (f : α → Bool) : ∀ (l : List α) (i : Nat), decide (idxQ f l i ≥ 0) = l.any f
  | [], _ => rfl
  | x :: r, i => by
    rw [idxQ, List.any_cons]
    cases h : f x
    · exact idxQ_any f r (i + 1)
    · simp
theorem str_app (a b : List UInt8) : str a ++ str b = str (a ++ b) := by
  rw [str_of (str a ++ str b)]
  congr 1
section
variable {k : D → Prop}
theorem a_addS {a b : List UInt8} (hl : a.length + b.length ≤ 9223372036854775807) (h : k (.s (str (a ++ b)))) : aar .add (.s (str a)) (.s (str b)) k := by
  show _ ≤ _ ∧ k _
  rw [str_size, str_size, str_app]
  exact ⟨hl, h⟩
theorem a_slcSm {l : List UInt8} {ki : IntKind} (i j : Nat) (hij : i ≤ j) (hj : j ≤ l.length) (h : k (.s (str ((l.take j).drop i)))) {kj : IntKind} : aslcS (.s (str l)) (some (.val (.int ki i))) (some (.val (.int kj j))) k := by
  show ∃ _ _, _
  exact ⟨i, j, ⟨kj, rfl, by rw [str_size]; exact hj⟩, ⟨ki, rfl⟩, hij, by rw [str_extract]; exact h⟩
theorem a_rowA1 {z : List D} {x : As} (hz : z.length = 5) (h : k (.row 5 ([x].map As.cr))) : abldF 5 1 z [(0, 5, .agg x.cr)] k := by
  refine V.a_bldF _ rfl ?_ h
  match z, hz with
  | [_, _, _, _, _], _ => rfl
theorem a_rowA2 {z : List D} {x y : As} (hz : z.length = 10) (h : k (.row 5 ([x, y].map As.cr))) : abldF 5 2 z [(0, 5, .agg x.cr), (5, 5, .agg y.cr)] k := by
  refine V.a_bldF _ rfl ?_ h
  match z, hz with
  | [_, _, _, _, _, _, _, _, _, _], _ => rfl
theorem a_rowA3 {z : List D} {x y u : As} (hz : z.length = 15) (h : k (.row 5 ([x, y, u].map As.cr))) : abldF 5 3 z [(0, 5, .agg x.cr), (5, 5, .agg y.cr), (10, 5, .agg u.cr)] k := by
  refine V.a_bldF _ rfl ?_ h
  match z, hz with
  | [_, _, _, _, _, _, _, _, _, _, _, _, _, _, _], _ => rfl
variable {L : List Bx} {kl : D → List Bx → Prop} {e : Nat}
theorem a_rowAS1 {z : List D} {x : As} (hz : z.length = 5) (h : kl (.row 5 ([x].map As.cr)) L) : abldS e 5 1 z [(0, 5, .agg x.cr)] L kl := .inl (a_rowA1 hz h)
theorem a_rowAS2 {z : List D} {x y : As} (hz : z.length = 10) (h : kl (.row 5 ([x, y].map As.cr)) L) : abldS e 5 2 z [(0, 5, .agg x.cr), (5, 5, .agg y.cr)] L kl := .inl (a_rowA2 hz h)
theorem a_rowAS3 {z : List D} {x y u : As} (hz : z.length = 15) (h : kl (.row 5 ([x, y, u].map As.cr)) L) : abldS e 5 3 z [(0, 5, .agg x.cr), (5, 5, .agg y.cr), (10, 5, .agg u.cr)] L kl := .inl (a_rowA3 hz h)
/-- a name that becomes a term is made -/
theorem a_bldA {z : List D} {ps : List (Nat × Nat × D)} {nm : ByteArray} {t : Tm} (hs : asizes ps = true) (hl : afill z (aparts ps) = .s nm :: t.cs) (h : k (.agg (As.mk nm t).cr)) : abld z ps k := V.a_bld _ hs hl h
end
/-- a map of texts to true, that says this -/
def MapIs (es : List (Value × D)) (p : List UInt8 → Bool) : Prop := (∀ e ∈ es, StrK e.1 ∧ e.2 = .b true) ∧ ∀ s, p s = true ↔ ∃ e ∈ es, e.1 = .string (str s)
theorem mapIs_nil {p : List UInt8 → Bool} (h : ∀ s, p s = false) : MapIs [] p := ⟨fun e he => (by cases he), fun s => by rw [h s]; exact ⟨fun h => (by cases h), fun ⟨e, he, _⟩ => (by cases he)⟩⟩
theorem mapIs_new {es : List (Value × D)} {p q : List UInt8 → Bool} {s0 : List UInt8} (h : MapIs es p) (hs : s0.length ≤ 9223372036854775807) (hq : ∀ s, q s = (p s || decide (s0 = s))) : MapIs (es ++ [(.string (str s0), .b true)]) q := by
  refine ⟨fun e he => ?_, fun s => ?_⟩
  · rcases List.mem_append.1 he with he | he
    · exact h.1 e he
    · rw [List.mem_singleton] at he; subst he; exact ⟨⟨_, rfl, by rw [str_size]; exact hs⟩, rfl⟩
  · rw [hq, Bool.or_eq_true, h.2 s, decide_eq_true_eq]
    constructor
    · rintro (⟨e, he, hh⟩ | rfl)
      · exact ⟨e, List.mem_append_left _ he, hh⟩
      · exact ⟨_, List.mem_append_right _ (List.mem_singleton.2 rfl), rfl⟩
    · rintro ⟨e, he, hh⟩
      rcases List.mem_append.1 he with he | he
      · exact .inl ⟨e, he, hh⟩
      · rw [List.mem_singleton] at he; subst he
        injection hh with hh
        exact .inr (str_inj hh)
theorem mapIs_set {es : List (Value × D)} {p q : List UInt8 → Bool} {s0 : List UInt8} {m : Nat} {d : D} (h : MapIs es p) (hm : es[m]? = some (.string (str s0), d)) (hq : ∀ s, q s = (p s || decide (s0 = s))) : MapIs (es.set m (.string (str s0), .b true)) q := by
  have hml : m < es.length := (List.getElem?_eq_some_iff.1 hm).1
  have hmv : es[m] = (.string (str s0), d) := (List.getElem?_eq_some_iff.1 hm).2
  have hme : es.set m (.string (str s0), .b true) = es := by
    have hd : d = .b true := by have := (h.1 _ (List.getElem_mem hml)).2; rw [hmv] at this; exact this
    rw [← hd, ← hmv]; exact List.set_getElem_self hml
  rw [hme]
  refine ⟨h.1, fun s => ?_⟩
  rw [hq, Bool.or_eq_true, h.2 s, decide_eq_true_eq]
  exact ⟨fun hh => hh.elim id fun e => ⟨_, List.getElem_mem hml, by rw [hmv, e]⟩, .inl⟩
/-- what it says of a text -/
theorem a_lkS {P : Program} {kt : TypeId} {L : List Bx} {k : D → Prop} {b : Nat} {es : List (Value × D)} {p : List UInt8 → Bool} {s : List UInt8} (j : Nat) (hj : L[j]? = some (Bx.mk b [] (.map es))) (mk : MapKey P kt StrK) (h : MapIs es p) (hs : s.length ≤ 9223372036854775807) (hk : k (.b (p s))) :
    alkM P kt false (.b false) (.val (.map (some b))) (.s (str s)) L k := by
  have hK : StrK (.string (str s)) := ⟨_, rfl, by rw [str_size]; exact hs⟩
  cases hp : p s with
  | true =>
    rw [hp] at hk
    obtain ⟨e, he, hh⟩ := (h.2 s).1 hp
    have h2 := (h.1 e he).2
    obtain ⟨e1, e2⟩ := e
    simp only at hh h2
    subst hh h2
    exact a_lkT j hj mk (fun e he => (h.1 e he).1) rfl hK he hk
  | false =>
    rw [hp] at hk
    refine a_lkF j hj mk (fun e he => (h.1 e he).1) rfl hK (fun e he hh => ?_) hk
    rw [(h.2 s).2 ⟨e, he, hh⟩] at hp
    cases hp
def digits : List UInt8 := [48, 49, 50, 51, 52, 53, 54, 55, 56, 57, 97, 98, 99, 100, 101, 102, 103, 104, 105, 106, 107, 108, 109, 110, 111, 112, 113, 114, 115, 116, 117, 118, 119, 120, 121, 122]
def pairs : List UInt8 := (List.range 100).flatMap fun k => [UInt8.ofNat (48 + k / 10), UInt8.ofNat (48 + k % 10)]
theorem digit1 {k : Nat} (h : k < 10) : (digits.take (k + 1)).drop k = digL k := by
  have : ∀ i : Fin 10, (digits.take (i.1 + 1)).drop i.1 = digL i.1 := by decide +kernel
  exact this ⟨k, h⟩
theorem digit2 {k : Nat} (h : k < 100) (h' : 10 ≤ k) : (pairs.take (k * 2 + 2)).drop (k * 2) = digL k := by
  have : ∀ i : Fin 100, 10 ≤ i.1 → (pairs.take (i.1 * 2 + 2)).drop (i.1 * 2) = digL i.1 := by decide +kernel
  exact this ⟨k, h⟩ h'
end Go.V
namespace Go.Proofs.YtaigilchnadmpaaGreatDoor
open Go Go.V
theorem c201 {k : Nat} (h : k < 100) : AFn pr 201 [.i (k : Int)] [] (.ret (.s (str (digL k)))) := by
  refine AFn.of (s201 ?_)
  unfold A201
  (refine a_lss ?_)
  refine a_cnd (fun q => ?_) (fun q => ?_)
  · (refine a_add (by first | omega | assumption | decide) (by first | omega | assumption | decide) ?_)
    refine a_slcSm (l := digits) k (k + 1) (by omega) (by show k + 1 ≤ 36; omega) ?_
    rw [digit1 (by omega)]
  · refine a_mul (by omega) (by omega) ?_
    refine a_mul (by omega) (by omega) ?_
    (refine a_add (by first | omega | assumption | decide) (by first | omega | assumption | decide) ?_)
    have e1 : ((k : Int) * 2) = ((k * 2 : Nat) : Int) := by omega
    have e2 : ((k : Int) * 2 + 2) = ((k * 2 + 2 : Nat) : Int) := by omega
    rw [e2, e1]
    have hp : pairs.length = 200 := by decide +kernel
    refine a_slcSm (l := pairs) (k * 2) (k * 2 + 2) (by omega) (by omega) ?_
    rw [digit2 h (by omega)]
theorem c163 {k : Nat} (h : k < 100) : AFn pr 163 [.i (k : Int), .i 10] [] (.ret (.s (str (digL k)))) := by
  refine AFn.of (s163 ?_)
  unfold A163
  (refine a_eql ?_; refine a_cndbT rfl ?_; (apply a_jn0; intro J); refine a_leq ?_; refine a_cndbT rfl ?_; refine a_lss ?_; refine a_cndT (by first | omega | assumption | decide) ?_; refine a_call0 (c201 (by first | omega | assumption | decide)) ?_)
  rfl
theorem c118 {k : Nat} (h : k < 100) : AFn pr 118 [.i (k : Int)] [] (.ret (.s (str (digL k)))) := by
  refine AFn.of (s118 ?_)
  unfold A118
  (refine a_call0 (c163 (by first | omega | assumption | decide)) ?_)
  rfl
theorem c62 {k : Nat} (h : k < 100) : AFn pr 62 [.i (k : Int)] [] (.ret (.s (str (digL k)))) := by
  refine AFn.of (s62 ?_)
  unfold A62
  (refine a_call0 (c118 (by first | omega | assumption | decide)) ?_)
  rfl
theorem c60 {b : Nat} (x : As) (nm : ByteArray) : AFn pr 60 [.agg x.cr, .p b 0] [⟨b, [.s nm], .box⟩] (.ret (.b (decide (x.nm = nm)))) := by
  refine AFn.ofL (s60 ?_)
  unfold A60
  refine a_bxv fun z1 => ?_
  unfold As.cr
  (refine a_fld ?_; (apply a_ld1 0; exact rfl; exact rfl); (apply a_ld1 1; exact rfl; exact rfl); refine a_eqlS ?_)
  exact ⟨rfl, by simp⟩
theorem c108 {b : Nat} (l : List As) (nm : ByteArray) : AFn pr 108 [.row 5 (l.map As.cr), .fn 60 [] [.p b 0]] [⟨b, [.s nm], .box⟩] (.ret (.i (idxQ (fun x : As => decide (x.nm = nm)) l 0))) := by
  refine AFn.small fun hs => AFn.ofL (s108 ?_)
  rw [Smalls, Small, List.length_map] at hs
  have hs := hs.1.1
  unfold A108
  refine a_lenM ?_
  refine a_lp (σ := Nat) (fun i => [.i i]) (fun _ => [⟨b, [.s nm], .box⟩]) (fun i => i ≤ l.length ∧ idxQ (fun x : As => decide (x.nm = nm)) (l.drop i) i = idxQ (fun x : As => decide (x.nm = nm)) l 0) (fun i => l.length - i) 0 (by first | exact Gl.refl _ _ | exact Gl.drop (by repeat (first | exact List.Sublist.refl _ | exact List.Sublist.slnil | apply List.Sublist.cons_cons | apply List.Sublist.cons))) ⟨Nat.zero_le _, rfl⟩ ?_
  rintro i K ⟨hi, hd⟩ hK
  dsimp only [aix0, aix1, aix2, aix3, aix4, aix5, aix6, aix7, aix8]
  (refine a_lss ?_)
  refine a_cnd (fun h => ?_) (fun h => ?_)
  · have hi1 : i < l.length := by omega
    rw [List.drop_eq_getElem_cons hi1, idxQ] at hd
    refine a_idxM i hi1 ?_
    ((apply a_ldAp; exact rfl); refine a_cfW ?_; refine a_callF1 0 rfl (c60 _ _) ?_)
    refine a_cnd (fun h1 => ?_) (fun h1 => ?_)
    · rw [if_pos (decide_eq_true h1)] at hd
      exact ⟨ret_i hd, List.Sublist.refl _⟩
    · rw [if_neg (by simpa using h1)] at hd
      (refine a_add (by first | omega | assumption | decide) (by first | omega | assumption | decide) ?_)
      exact hK (i + 1) _ _ ⟨by omega, hd⟩ (by omega) (by first | exact Gl.refl _ _ | exact Gl.drop (by repeat (first | exact List.Sublist.refl _ | exact List.Sublist.slnil | apply List.Sublist.cons_cons | apply List.Sublist.cons)))
  · rw [List.drop_eq_nil_of_le (by omega), idxQ] at hd
    exact ⟨ret_i hd, List.Sublist.refl _⟩
theorem c58 {b : Nat} (l : List As) (nm : ByteArray) : AFn pr 58 [.row 5 (l.map As.cr), .fn 60 [] [.p b 0]] [⟨b, [.s nm], .box⟩] (.ret (.b (l.any fun x => decide (x.nm = nm)))) := by
  refine AFn.ofL (s58 ?_)
  unfold A58
  refine a_callR (c108 l nm) ?_
  (refine a_geq ?_)
  exact ⟨ret_b (idxQ_any _ _ _), List.Sublist.refl _⟩
theorem c17 (t : Tm) (nm : ByteArray) : AFn pr 17 [t.d, .s nm] [] (.ret (.b (freeF t nm))) := by
  refine AFn.of (s17 ?_)
  unfold A17
  (refine a_bxv fun z1 => ?_; refine a_bxs fun z2 => ?_; (apply a_ldA 1; exact rfl; exact rfl); refine a_call0 (c59 _) ?_)
  rw [names_as]
  refine a_callF1 0 rfl (c58 _ nm) ?_
  skip
  exact ret_b (by unfold freeF; rw [List.any_map]; rfl)
end Go.Proofs.YtaigilchnadmpaaGreatDoor
/- The contract of subst.Fresh. -/
set_option maxRecDepth 100000
set_option linter.unusedVariables false
namespace Go.V
open Go
theorem name_len {l : List UInt8} (h : nameF l = true) : l.length ≤ 16 := by
  obtain ⟨_, _, _, h, _⟩ := name_iff.1 h
  exact h
theorem str_list (l : List UInt8) : (str l).data.toList = l := by simp [str]
theorem take_min (l : List UInt8) (n : Nat) : l.take (min l.length n) = l.take n := by rw [Nat.min_comm, ← List.take_take, List.take_length]
theorem free_any (t : Tm) (s : List UInt8) : freeF t (str s) = (NamesF t).any fun x => decide (x.1 = s) := by
  unfold freeF
  congr 1
  funext x
  by_cases h : x.1 = s
  · rw [decide_eq_true h, decide_eq_true (by rw [h])]
  · rw [decide_eq_false h, decide_eq_false (fun hh => h (str_inj hh))]
theorem taken_snoc (ts : List Tm) (i : Nat) (hi : i < ts.length) (s : List UInt8) : takenF (ts.take (i + 1)) s = (takenF (ts.take i) s || (NamesF ts[i]).any fun x => decide (x.1 = s)) := by
  unfold takenF
  rw [List.take_succ_eq_append_getElem hi, List.any_append, ← free_any]
  simp
end Go.V
namespace Go.Proofs.YtaigilchnadmpaaGreatDoor
open Go Go.V
theorem mapStr : MapKey pr 9 StrK := mapKey_str (by kernel_rfl)
theorem c19 (ts : List Tm) (l : List UInt8) : AFn pr 19 [.row 4 (Tm.rows ts), .s (str l)] [] (.ret (.s (str (freshL ts l)))) := by
  refine AFn.small fun hsm => AFn.of (s19 ?_)
  rw [Smalls, Small, Tm.rows_len] at hsm
  have hl := hsm.1.1
  unfold A19
  have hname : AFn pr 44 [.s (str l)] [] (.ret (.b (nameF l))) := by have := c44 (s := str l); rwa [str_list] at this
  refine a_jn1 [.s (str (baseL l))] [] ?_ fun J hJ => ?_
  · dsimp only [aix0, aix1, aix2, aix3, aix4, aix5, aix6, aix7, aix8]
    unfold freshL
    have hb := name_len (base_name l)
    have hbn := base_name l
    generalize baseL l = bl at hb hbn ⊢
    (refine a_mkM fun z1 => ?_; refine Tm.a_len ?_)
    refine a_lp (σ := Nat × List (Value × D)) (fun x => [.i x.1]) (fun x => [⟨z1, [], .map x.2⟩]) (fun x => x.1 ≤ ts.length ∧ MapIs x.2 (takenF (ts.take x.1))) (fun x => ts.length - x.1) (0, []) (by first | exact Gl.refl _ _ | exact Gl.drop (by repeat (first | exact List.Sublist.refl _ | exact List.Sublist.slnil | apply List.Sublist.cons_cons | apply List.Sublist.cons))) ⟨Nat.zero_le _, mapIs_nil fun s => rfl⟩ ?_
    rintro ⟨i, es⟩ K ⟨hi, hm⟩ hK
    dsimp only at hi hm hK ⊢
    dsimp only [aix0, aix1, aix2, aix3, aix4, aix5, aix6, aix7, aix8]
    (refine a_lss ?_)
    refine a_cnd (fun q => ?_) (fun q => ?_)
    · have hlt : i < ts.length := by omega
      refine Tm.a_idx i hlt ?_
      ((apply a_ldAp; exact rfl); refine a_bx fun z2 => ?_; refine a_stA 0 rfl rfl rfl rfl ?_; (apply a_ldA 0; exact rfl; exact rfl); refine a_call0 (c59 _) ?_; refine a_lenM ?_)
      refine a_lp (σ := Nat × List (Value × D)) (fun x => [.i x.1]) (fun x => [⟨z2, ts[i].cs, .box⟩, ⟨z1, [], .map x.2⟩]) (fun x => x.1 ≤ (NamesF ts[i]).length ∧ MapIs x.2 (fun s => takenF (ts.take i) s || ((NamesF ts[i]).take x.1).any fun y => decide (y.1 = s))) (fun x => (NamesF ts[i]).length - x.1) (0, es) (by first | exact Gl.refl _ _ | exact Gl.drop (by repeat (first | exact List.Sublist.refl _ | exact List.Sublist.slnil | apply List.Sublist.cons_cons | apply List.Sublist.cons))) ⟨Nat.zero_le _, by simpa using hm⟩ ?_
      rintro ⟨j, es2⟩ K2 ⟨hj, hm2⟩ hK2
      dsimp only at hj hm2 hK2 ⊢
      dsimp only [aix0, aix1, aix2, aix3, aix4, aix5, aix6, aix7, aix8]
      have hlen := namesF_len ts[i]
      (refine a_lss ?_)
      refine a_cnd (fun q2 => ?_) (fun q2 => ?_)
      · have hlt2 : j < (NamesF ts[i]).length := by omega
        refine a_idxM j hlt2 ?_
        ((apply a_ldAp; exact rfl); refine a_bx fun z3 => ?_; refine a_stA 0 rfl rfl rfl rfl ?_; refine a_fld ?_; (apply a_ld1 0; exact rfl; exact rfl))
        have hxn := name_len (namesF_right ts[i] (List.getElem_mem hlt2)).1
        have hq : ∀ s, (takenF (ts.take i) s || ((NamesF ts[i]).take (j + 1)).any fun y => decide (y.1 = s)) = ((takenF (ts.take i) s || ((NamesF ts[i]).take j).any fun y => decide (y.1 = s)) || decide ((NamesF ts[i])[j].1 = s)) := fun s => by
          rw [List.take_succ_eq_append_getElem hlt2, List.any_append, Bool.or_assoc]; simp
        have hK2' := hK2
        clear hK2
        rcases key_or es2 (.string (str (NamesF ts[i])[j].1)) with hno | ⟨m, d, hmm⟩
        · refine a_upN 2 rfl mapStr (fun e he => (hm2.1 e he).1) rfl ⟨_, rfl, by rw [str_size]; omega⟩ hno ?_
          (refine a_add (by first | omega | assumption | decide) (by first | omega | assumption | decide) ?_)
          exact hK2' (j + 1, _) _ _ ⟨by simp only; omega, mapIs_new hm2 (by omega) hq⟩ (by simp only; omega) (by first | exact Gl.refl _ _ | exact Gl.drop (by repeat (first | exact List.Sublist.refl _ | exact List.Sublist.slnil | apply List.Sublist.cons_cons | apply List.Sublist.cons)))
        · refine a_upO 2 m rfl mapStr (fun e he => (hm2.1 e he).1) rfl ⟨_, rfl, by rw [str_size]; omega⟩ hmm ?_
          (refine a_add (by first | omega | assumption | decide) (by first | omega | assumption | decide) ?_)
          exact hK2' (j + 1, _) _ _ ⟨by simp only; omega, mapIs_set hm2 hmm hq⟩ (by simp only; omega) (by first | exact Gl.refl _ _ | exact Gl.drop (by repeat (first | exact List.Sublist.refl _ | exact List.Sublist.slnil | apply List.Sublist.cons_cons | apply List.Sublist.cons)))
      · have hj' : j = (NamesF ts[i]).length := by omega
        subst hj'
        (refine a_add (by first | omega | assumption | decide) (by first | omega | assumption | decide) ?_)
        refine hK (i + 1, es2) _ _ ⟨by simp only; omega, ?_⟩ (by simp only; omega) (by first | exact Gl.refl _ _ | exact Gl.drop (by repeat (first | exact List.Sublist.refl _ | exact List.Sublist.slnil | apply List.Sublist.cons_cons | apply List.Sublist.cons)))
        simp only [List.take_length] at hm2
        have e : takenF (ts.take (i + 1)) = fun s => takenF (ts.take i) s || (NamesF ts[i]).any fun y => decide (y.1 = s) := funext fun s => taken_snoc ts i hlt s
        simp only [e]
        exact hm2
    · have hi' : i = ts.length := by omega
      subst hi'
      rw [List.take_length] at hm
      clear hK
      refine a_lkS 0 rfl mapStr hm (by omega) ?_
      generalize takenF ts = tk at hm ⊢
      (refine a_not ?_)
      refine a_cndb (fun q3 => ?_) (fun q3 => ?_)
      · rw [if_neg (by simpa using q3)]
      · rw [if_pos (by simpa using q3)]
        refine a_lp (σ := Nat × List UInt8) (fun x => [.s (str x.2), .i x.1]) (fun _ => [⟨z1, [], .map es⟩]) (fun x => x.1 ≤ 100 ∧ (x.1 = 100 → freshG tk bl 0 99 = x.2) ∧ (x.1 ≤ 99 → freshG tk bl 0 99 = freshG tk bl x.1 (99 - x.1))) (fun x => 100 - x.1) (0, []) (by first | exact Gl.refl _ _ | exact Gl.drop (by repeat (first | exact List.Sublist.refl _ | exact List.Sublist.slnil | apply List.Sublist.cons_cons | apply List.Sublist.cons))) ⟨Nat.zero_le _, fun h => by simp at h, fun _ => rfl⟩ ?_
        rintro ⟨k, nx⟩ K ⟨hk, hk1, hk2⟩ hK
        dsimp only at hk hk1 hk2 hK ⊢
        dsimp only [aix0, aix1, aix2, aix3, aix4, aix5, aix6, aix7, aix8]
        (refine a_lss ?_)
        refine a_cnd (fun q4 => ?_) (fun q4 => ?_)
        · have hk99 : k ≤ 99 := by omega
          have hk2 := hk2 hk99
          (refine a_lenStr ?_; refine a_min ?_)
          have em : (min (bl.length : Int) 13) = ((min bl.length 13 : Nat) : Int) := by omega
          rw [em]
          refine a_slcSt (min bl.length 13) (by omega) ?_
          rw [take_min]
          have ht := List.length_take_le 13 bl
          have hd := (digL_len k).1
          refine a_addS (b := [95]) (by simp only [List.length_singleton]; omega) ?_
          refine a_callS0 (c62 (by omega)) ?_
          refine a_addS (by simp only [List.length_append, List.length_singleton]; omega) ?_
          have et : bl.take 13 ++ [95] ++ digL k = tryL bl k := rfl
          rw [et]
          have hlen : (tryL bl k).length ≤ 16 := by rw [← et]; simp only [List.length_append, List.length_singleton]; omega
          refine a_lkS 0 rfl mapStr hm (by omega) ?_
          (refine a_not ?_)
          refine a_cndb (fun q5 => ?_) (fun q5 => ?_)
          · have q5 : tk (tryL bl k) = false := by simpa using q5
            have : freshG tk bl k (99 - k) = tryL bl k := by
              cases hn : 99 - k with
              | zero => rfl
              | succ n => rw [freshG, if_neg (by rw [q5]; simp)]
            rw [hk2, this]
          · have q5 : tk (tryL bl k) = true := by simpa using q5
            (refine a_add (by first | omega | assumption | decide) (by first | omega | assumption | decide) ?_)
            refine hK (k + 1, tryL bl k) _ _ ⟨by simp only; omega, fun h => ?_, fun h => ?_⟩ (by simp only; omega) (by first | exact Gl.refl _ _ | exact Gl.drop (by repeat (first | exact List.Sublist.refl _ | exact List.Sublist.slnil | apply List.Sublist.cons_cons | apply List.Sublist.cons)))
            · simp only at h
              rw [hk2, show 99 - k = 0 by omega]; rfl
            · simp only at h
              rw [hk2, show 99 - k = 99 - (k + 1) + 1 by omega, freshG, if_pos q5]
        · have hk100 : k = 100 := by omega
          skip
          rw [hk1 hk100]
  · (refine a_call0 (c44) ?_; refine a_not ?_)
    unfold baseL at hJ
    refine a_cndb (fun q => ?_) (fun q => ?_)
    · have q : nameF l = false := by rw [str_list] at q; simpa using q
      exact hJ _ _ (by rw [if_neg (by rw [q]; simp)]; exact (by first | exact Gl.refl _ _ | exact Gl.drop (by repeat (first | exact List.Sublist.refl _ | exact List.Sublist.slnil | apply List.Sublist.cons_cons | apply List.Sublist.cons))))
    · have q : nameF l = true := by rw [str_list] at q; simpa using q
      exact hJ _ _ (by rw [if_pos q]; exact (by first | exact Gl.refl _ _ | exact Gl.drop (by repeat (first | exact List.Sublist.refl _ | exact List.Sublist.slnil | apply List.Sublist.cons_cons | apply List.Sublist.cons))))
end Go.Proofs.YtaigilchnadmpaaGreatDoor
