/- Terms, as data. -/
import Derived.Test.YtlonmopppgadgaaDoorA8
set_option linter.unusedVariables false
namespace Go.V
open Go
inductive Tm where
  | mk (op : Int) (nm : ByteArray) (n : Int) (a : List Tm)
def Tm.op : Tm → Int | .mk o _ _ _ => o
def Tm.nm : Tm → ByteArray | .mk _ s _ _ => s
def Tm.n : Tm → Int | .mk _ _ n _ => n
def Tm.a : Tm → List Tm | .mk _ _ _ a => a
theorem Tm.ind {P : Tm → Prop} (h : ∀ op nm n a, (∀ x ∈ a, P x) → P (.mk op nm n a)) : ∀ t, P t
  | .mk op nm n a => h op nm n a fun x _ => Tm.ind h x
theorem Tm.ind' {P : Tm → Prop} (h : ∀ t, (∀ x ∈ t.a, P x) → P t) : ∀ t, P t := Tm.ind fun op nm n a ih => h _ ih
mutual
def Tm.cells : Tm → List D
  | .mk op nm n a => [.i op, .s nm, .i n, .row 4 (Tm.rows a)]
def Tm.rows : List Tm → List (List D)
  | [] => []
  | x :: r => Tm.cells x :: Tm.rows r
end
def Tm.cs (t : Tm) : List D := [.i t.op, .s t.nm, .i t.n, .row 4 (Tm.rows t.a)]
abbrev Tm.d (t : Tm) : D := .agg t.cs
theorem Tm.cells_eq (t : Tm) : t.cells = t.cs := by cases t; rw [Tm.cells]; rfl
theorem Tm.rows_nil : Tm.rows [] = [] := by rw [Tm.rows]
theorem Tm.rows_cons (x : Tm) (r : List Tm) : Tm.rows (x :: r) = x.cs :: Tm.rows r := by rw [Tm.rows, Tm.cells_eq]
theorem Tm.rows_eq (a : List Tm) : Tm.rows a = a.map Tm.cs := by
  induction a with
  | nil => exact Tm.rows_nil
  | cons x r ih => rw [Tm.rows_cons, ih]; rfl
theorem Tm.rows_len (a : List Tm) : (Tm.rows a).length = a.length := by rw [Tm.rows_eq, List.length_map]
theorem Tm.rows_get {a : List Tm} {i : Nat} (h : i < a.length) : (Tm.rows a)[i]? = some a[i].cs := by
  rw [Tm.rows_eq, List.getElem?_map, List.getElem?_eq_getElem h]; rfl
theorem Tm.rows_get0 {a : List Tm} {i : Nat} {x : Tm} (h : a[i]? = some x) : (Tm.rows a)[i]? = some x.cs := by
  rw [Tm.rows_eq, List.getElem?_map, h]; rfl
theorem Tm.rows_app (a b : List Tm) : Tm.rows (a ++ b) = Tm.rows a ++ Tm.rows b := by rw [Tm.rows_eq, Tm.rows_eq, Tm.rows_eq, List.map_append]
theorem Tm.cs_len (t : Tm) : t.cs.length = 4 := rfl
theorem Tm.cs_one (t : Tm) : t.cs.all D.one = true := rfl
theorem Tm.flat_len (a : List Tm) : (Tm.rows a).flatten.length = a.length * 4 := by
  rw [Tm.rows_eq]
  induction a with
  | nil => rfl
  | cons x r ih => rw [List.map_cons, List.flatten_cons, List.length_append, ih, Tm.cs_len, List.length_cons]; omega
theorem chunk_rows (a : List Tm) : chunk 4 a.length (Tm.rows a).flatten = Tm.rows a := by
  induction a with
  | nil => rw [Tm.rows_nil]; rfl
  | cons x r ih =>
    rw [Tm.rows_cons, List.flatten_cons, List.length_cons, chunk]
    rw [List.take_left' (Tm.cs_len x), List.drop_left' (Tm.cs_len x), ih]
theorem Tm.a_len {sz : Nat} {a : List Tm} {k : D → Prop} (h : k (.i a.length)) : alenL (.row sz (Tm.rows a)) k := by
  show k (.i (Tm.rows a).length); rw [Tm.rows_len]; exact h
theorem Tm.a_idx {a : List Tm} {ki : IntKind} {k : D → Prop} (i : Nat) (hi : i < a.length) (h : k (.pin a[i].cs)) : aidxS 4 (.row 4 (Tm.rows a)) (.val (.int ki i)) k :=
  V.a_idx i _ (Tm.rows_get hi) h
theorem a_stA {L : List Bx} (i : Nat) {n b : Nat} {l m : List D} {kd : Kd} {ks : List Bx → Prop} (hi : L[i]? = some (Bx.mk b l kd)) (hl : l.length = n) (hm : m.length = n) (ho : m.all D.one = true) (h : ks (L.set i ⟨b, m, kd⟩)) : ast n (.p b 0) (.agg m) L ks :=
  V.a_st i m hi hm ho (Nat.ble_eq_true_of_le (by omega)) (by show l.take 0 ++ m ++ l.drop (0 + n) = m; rw [List.take_zero, List.nil_append, List.drop_eq_nil_of_le (by omega), List.append_nil]) h
/-- a call, by what is known of it in the model: it changes nothing -/
theorem AFn.ofCalls {P : Program} {g : FuncId} {args : List D} {v : Value} (hen : Enters P g) (hok : Okv v) (h : ∀ F w vs, Reps F w args vs → Calls P g vs.toArray w fun e w' => e = .returned v ∧ Ext (fun _ => False) w w') : AFn P g args [] (.ret (.val v)) := by
  intro F w vs aw hr
  refine .inl ⟨hen, (h F w vs hr).mono ?_⟩
  rintro e w' ⟨rfl, x⟩
  obtain ⟨a', e'⟩ := aw.nx x
  exact ⟨.ret (.val v), F, [], e', a', ⟨v, rfl, rep_val hok⟩, rfl, rfl⟩
/-- one that the model itself does -/
theorem AFn.ofExtern {P : Program} {g : FuncId} {args : List D} {d : D} (h : ∀ F w vs, Reps F w args vs → ∃ v, (callFunc g vs.toArray).run P w = .ok (.value v) w ∧ Rep F w d v) : AFn P g args [] (.ret d) := by
  intro F w vs aw hr
  obtain ⟨v, h1, h2⟩ := h F w vs hr
  exact .inr ⟨v, w, h1, .ret d, F, [], Ev.refl .., aw, ⟨v, rfl, h2⟩, rfl, rfl⟩
theorem ext_refl (w : World) : Ext (fun _ => False) w w := ⟨rfl, rfl, rfl, Nat.le_refl _, fun _ _ _ => rfl, Nat.le_refl _⟩
theorem ret_i {a b : Int} (h : a = b) : AE.ret (.i a) = .ret (.i b) := by rw [h]
theorem ret_b {a b : Bool} (h : a = b) : AE.ret (.b a) = .ret (.b b) := by rw [h]
theorem Tm.mk_d (op : Int) (nm : ByteArray) (n : Int) (a : List Tm) : (Tm.mk op nm n a).cs = [.i op, .s nm, .i n, .row 4 (Tm.rows a)] := rfl

theorem smalls_mem : ∀ {l : List D}, Smalls l → ∀ d ∈ l, Small d
  | _ :: _, h, x, hx => by
    rw [Smalls] at h
    rcases List.mem_cons.1 hx with rfl | hx
    · exact h.1
    · exact smalls_mem h.2 x hx
theorem smallr_mem : ∀ {l : List (List D)}, Smallr l → ∀ d ∈ l, Smalls d
  | _ :: _, h, x, hx => by
    rw [Smallr] at h
    rcases List.mem_cons.1 hx with rfl | hx
    · exact h.1
    · exact smallr_mem h.2 x hx
theorem Tm.small {t : Tm} (h : Smalls t.cs) : t.nm.size ≤ 9223372036854775807 ∧ t.a.length ≤ 9223372036854775807 ∧ ∀ x ∈ t.a, Smalls x.cs := by
  unfold Tm.cs at h
  rw [Smalls, Smalls, Smalls, Smalls, Small, Small, Small, Small] at h
  refine ⟨h.2.1, by have := h.2.2.2.1.1; rwa [Tm.rows_len] at this, fun x hx => smallr_mem h.2.2.2.1.2 _ ?_⟩
  rw [Tm.rows_eq]
  exact List.mem_map_of_mem hx
theorem Tm.small_d {t : Tm} (h : Small t.d) : Smalls t.cs := by rw [Tm.d, Small] at h; exact h
theorem ASpec.small {P : Program} {g : FuncId} {args : List D} {L : List Bx} {R : AE → List Bx → Prop} (h : Smalls args → ASpec P g args L R) : ASpec P g args L R :=
  fun F w vs aw hr => h (Reps.small _ _ hr) F w vs aw hr
theorem AFn.small {P : Program} {g : FuncId} {args : List D} {L : List Bx} {a : AE} (h : Smalls args → AFn P g args L a) : AFn P g args L a := ASpec.small h
theorem AFn.of {P : Program} {g : FuncId} {args : List D} {L : List Bx} {a : AE} (h : ASpec P g args [] fun a' L' => a' = a) : AFn P g args L a := by
  refine (ASpec.frame (M := L) h (List.Perm.refl _)).ge fun a' L' h => ?_
  obtain ⟨L2, rfl, rfl⟩ := h
  exact ⟨a', L, ⟨by cases a' <;> trivial, Gl.drop (List.sublist_append_right _ _)⟩, rfl, rfl⟩
/-- among own blocks that stay as they are -/
theorem AFn.ofL {P : Program} {g : FuncId} {args : List D} {L : List Bx} {a : AE} (h : ASpec P g args L fun a' L' => a' = a ∧ L.Sublist L') : AFn P g args L a :=
  ASpec.ge h fun a' L' ⟨h1, h2⟩ => ⟨a', L, ⟨by cases a' <;> trivial, Gl.drop h2⟩, h1, rfl⟩
section
variable {A B : Prop} {k : D → Prop} {L : List Bx} {kl : D → List Bx → Prop}
theorem a_cndT {p : Prop} [Decidable p] (h : p) (hA : A) : acnd (.b (decide p)) A B := by rw [decide_eq_true h]; exact hA
theorem a_cndF {p : Prop} [Decidable p] (h : ¬ p) (hB : B) : acnd (.b (decide p)) A B := by rw [decide_eq_false h]; exact hB
theorem a_cndbT {c : Bool} (h : c = true) (hA : A) : acnd (.b c) A B := by rw [h]; exact hA
theorem a_cndbF {c : Bool} (h : c = false) (hB : B) : acnd (.b c) A B := by rw [h]; exact hB
theorem a_pickT {a b : D} (h : k a) : apick (.b true) a b k := h
theorem a_pickF {a b : D} (h : k b) : apick (.b false) a b k := h
theorem a_notd {p : Prop} [Decidable p] (h : k (.b (decide (¬ p)))) : anotb (.b (decide p)) k := by
  show k (.b !(decide p))
  have : (!decide p) = decide (¬ p) := by by_cases hp : p <;> simp [hp]
  rw [this]; exact h
theorem a_rowT1 {z : List D} {t : Tm} (hz : z.length = 4) (h : k (.row 4 (Tm.rows [t]))) : abldF 4 1 z [(0, 4, .agg t.cs)] k := by
  refine V.a_bldF _ rfl ?_ h
  match z, hz with
  | [_, _, _, _], _ => rw [Tm.rows_cons, Tm.rows_nil]; rfl
theorem a_rowT2 {z : List D} {t u : Tm} (hz : z.length = 8) (h : k (.row 4 (Tm.rows [t, u]))) : abldF 4 2 z [(0, 4, .agg t.cs), (4, 4, .agg u.cs)] k := by
  refine V.a_bldF _ rfl ?_ h
  match z, hz with
  | [_, _, _, _, _, _, _, _], _ => rw [Tm.rows_cons, Tm.rows_cons, Tm.rows_nil]; rfl
theorem a_rowS1 {e : Nat} {z : List D} {t : Tm} (hz : z.length = 4) (h : kl (.row 4 (Tm.rows [t])) L) : abldS e 4 1 z [(0, 4, .agg t.cs)] L kl := .inl (a_rowT1 hz h)
theorem a_rowS2 {e : Nat} {z : List D} {t u : Tm} (hz : z.length = 8) (h : kl (.row 4 (Tm.rows [t, u])) L) : abldS e 4 2 z [(0, 4, .agg t.cs), (4, 4, .agg u.cs)] L kl := .inl (a_rowT2 hz h)
theorem a_idxT0 {x : Tm} {r : List Tm} {ki : IntKind} (h : k (.pin x.cs)) : aidxS 4 (.row 4 (Tm.rows (x :: r))) (.val (.int ki 0)) k := Tm.a_idx (a := x :: r) 0 (by simp) h
theorem a_idxT1 {x y : Tm} {r : List Tm} {ki : IntKind} (h : k (.pin y.cs)) : aidxS 4 (.row 4 (Tm.rows (x :: y :: r))) (.val (.int ki 1)) k := Tm.a_idx (a := x :: y :: r) 1 (by simp) h
/-- a term is made -/
theorem a_bldT {z : List D} {ps : List (Nat × Nat × D)} {op : Int} {nm : ByteArray} {n : Int} {a : List Tm} (hs : asizes ps = true) (hl : afill z (aparts ps) = [.i op, .s nm, .i n, .row 4 (Tm.rows a)]) (h : k (.agg (Tm.mk op nm n a).cs)) : abld z ps k := V.a_bld _ hs hl h
theorem a_bldT0 {z : List D} {ps : List (Nat × Nat × D)} {op : Int} {nm : ByteArray} {n : Int} (hs : asizes ps = true) (hl : afill z (aparts ps) = [.i op, .s nm, .i n, .nil]) (h : k (.agg (Tm.mk op nm n []).cs)) : abld z ps k :=
  V.a_bldW _ [.i op, .s nm, .i n, .row 4 []] hs hl (.same (.same (.same (.nil (.refl _))))) (by rw [← Tm.rows_nil]; exact h)
end
section
variable {P : Program} {g : FuncId} {args : List D} {L : List Bx} {kp k : D → List Bx → Prop}
theorem a_callF1 {d : D} {x : Bx} (i : Nat) (hi : L[i]? = some x) (h : AFn P g args [x] (.ret d)) (hk : k d L) : acallW P g args L kp k := a_call (AFn.frame1 i hi h) hk
theorem a_callSF1 {d : D} {x : Bx} (i : Nat) (hi : L[i]? = some x) (h : AFn P g args [x] (.ret d)) (hk : k d L) : acallS P g args L kp k := a_callS (AFn.frame1 i hi h) hk
theorem a_callU1 {d : D} {x y : Bx} (i : Nat) (hi : L[i]? = some x) (h : AUp P g args [x] (.ret d) [y]) (hk : k d (L.set i y)) : acallW P g args L kp k := a_callU i hi h hk
theorem a_idxPN {n sz b o : Nat} {ki : IntKind} {k : D → Prop} (i : Nat) (h1 : i < n) (h : k (.p b (o + i * sz))) : aidxP n sz (.p b o) (.val (.int ki i)) k := V.a_idxP (by omega) (by omega) (by simpa using h)
/-- ways that meet again, where one alone is gone -/
theorem a_jnX {F : List D → List Bx → Prop} {G} {vs : List D} {L : List Bx} (hG : ∀ J : List D → List Bx → Prop, J vs L → G J) (h : F vs L) : ajn F G :=
  V.a_jn (σ := Unit) (fun _ => vs) (fun _ => L) (fun _ => True) (fun _ _ => h) fun J hJ => hG J (hJ () _ _ trivial (Gl.refl _ _))
/-- ways of which none meets again -/
theorem a_jn0 {F : List D → List Bx → Prop} {G} (hG : ∀ J : List D → List Bx → Prop, G J) : ajn F G := ⟨fun _ _ => False, fun _ _ h => h.elim, hG _⟩
/-- ways that meet again, with nothing turned -/
theorem a_jn1 {F : List D → List Bx → Prop} {G} (vs : List D) (L : List Bx) (h : F vs L) (hG : ∀ J : List D → List Bx → Prop, (∀ v l, Gl v l vs L → J v l) → G J) : ajn F G :=
  V.a_jn (σ := Unit) (fun _ => vs) (fun _ => L) (fun _ => True) (fun _ _ => h) fun J hJ => hG J fun v l hg => hJ () v l trivial hg
end
end Go.V
