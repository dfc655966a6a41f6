/- Terms, as data. -/
import Derived.Test.YtdalobojhfafbaaGreatDoorA8
import Derived.Lib.Bytealg
set_option linter.unusedVariables false
namespace Go.V
open Go
inductive Tm where
  | mk (op : Int) (nm : ByteArray) (n : Int) (a : List Tm)
def Tm.op : Tm → Int | .mk o _ _ _ => o
def Tm.nm : Tm → ByteArray | .mk _ s _ _ => s
def Tm.n : Tm → Int | .mk _ _ n _ => n
def Tm.a : Tm → List Tm | .mk _ _ _ a => a
theorem Tm.ind {P : Tm → Prop} (h : ∀ op nm n a, (∀ x ∈ a, P x) → P (.mk op nm n a)) : ∀ t, P t
  | .mk op nm n a => h op nm n a fun x _ => Tm.ind h x
theorem Tm.ind' {P : Tm → Prop} (h : ∀ t, (∀ x ∈ t.a, P x) → P t) : ∀ t, P t := Tm.ind fun op nm n a ih => h _ ih
mutual
def Tm.cells : Tm → List D
  | .mk op nm n a => [.i op, .s nm, .i n, .row 4 (Tm.rows a)]
def Tm.rows : List Tm → List (List D)
  | [] => []
  | x :: r => Tm.cells x :: Tm.rows r
end
def Tm.cs (t : Tm) : List D := [.i t.op, .s t.nm, .i t.n, .row 4 (Tm.rows t.a)]
abbrev Tm.d (t : Tm) : D := .agg t.cs
theorem Tm.cells_eq (t : Tm) : t.cells = t.cs := by cases t; rw [Tm.cells]; rfl
theorem Tm.rows_nil : Tm.rows [] = [] := by rw [Tm.rows]
theorem Tm.rows_cons (x : Tm) (r : List Tm) : Tm.rows (x :: r) = x.cs :: Tm.rows r := by rw [Tm.rows, Tm.cells_eq]
theorem Tm.rows_eq (a : List Tm) : Tm.rows a = a.map Tm.cs := by
  induction a with
  | nil => exact Tm.rows_nil
  | cons x r ih => rw [Tm.rows_cons, ih]; rfl
theorem Tm.rows_len (a : List Tm) : (Tm.rows a).length = a.length := by rw [Tm.rows_eq, List.length_map]
theorem Tm.rows_get {a : List Tm} {i : Nat} (h : i < a.length) : (Tm.rows a)[i]? = some a[i].cs := by
  rw [Tm.rows_eq, List.getElem?_map, List.getElem?_eq_getElem h]; rfl
theorem Tm.rows_app (a b : List Tm) : Tm.rows (a ++ b) = Tm.rows a ++ Tm.rows b := by rw [Tm.rows_eq, Tm.rows_eq, Tm.rows_eq, List.map_append]
theorem Tm.cs_len (t : Tm) : t.cs.length = 4 := rfl
theorem Tm.cs_one (t : Tm) : t.cs.all D.one = true := rfl
theorem Tm.flat_len (a : List Tm) : (Tm.rows a).flatten.length = a.length * 4 := by
  rw [Tm.rows_eq]
  induction a with
  | nil => rfl
  | cons x r ih => rw [List.map_cons, List.flatten_cons, List.length_append, ih, Tm.cs_len, List.length_cons]; omega
theorem chunk_rows (a : List Tm) : chunk 4 a.length (Tm.rows a).flatten = Tm.rows a := by
  induction a with
  | nil => rw [Tm.rows_nil]; rfl
  | cons x r ih =>
    rw [Tm.rows_cons, List.flatten_cons, List.length_cons, chunk]
    rw [List.take_left' (Tm.cs_len x), List.drop_left' (Tm.cs_len x), ih]
theorem Tm.a_len {sz : Nat} {a : List Tm} {k : D → Prop} (h : k (.i a.length)) : alenL (.row sz (Tm.rows a)) k := by
  show k (.i (Tm.rows a).length); rw [Tm.rows_len]; exact h
theorem Tm.a_idx {a : List Tm} {ki : IntKind} {k : D → Prop} (i : Nat) (hi : i < a.length) (h : k (.pin a[i].cs)) : aidxS 4 (.row 4 (Tm.rows a)) (.val (.int ki i)) k :=
  V.a_idx i _ (Tm.rows_get hi) h
theorem a_stA {L : List Bx} (i : Nat) {n b : Nat} {l m : List D} {kd : Kd} {ks : List Bx → Prop} (hi : L[i]? = some (Bx.mk b l kd)) (hl : l.length = n) (hm : m.length = n) (ho : m.all D.one = true) (h : ks (L.set i ⟨b, m, kd⟩)) : ast n (.p b 0) (.agg m) L ks :=
  V.a_st i m hi hm ho (Nat.ble_eq_true_of_le (by omega)) (by show l.take 0 ++ m ++ l.drop (0 + n) = m; rw [List.take_zero, List.nil_append, List.drop_eq_nil_of_le (by omega), List.append_nil]) h
theorem AFn.ofCalls {P : Program} {g : FuncId} {args : List D} {v : Value} (hen : Enters P g) (hok : Okv v) (h : ∀ F w vs, Reps F w args vs → Calls P g vs.toArray w fun e w' => e = .returned v ∧ Ext (fun _ => False) w w') : AFn P g args [] (.ret (.val v)) := by
  intro F w vs aw hr
  refine .inl ⟨hen, (h F w vs hr).mono ?_⟩
  rintro e w' ⟨rfl, x⟩
  obtain ⟨a', e'⟩ := aw.nx x
  exact ⟨.ret (.val v), F, [], e', a', ⟨v, rfl, rep_val hok⟩, rfl, rfl⟩
theorem AFn.ofExtern {P : Program} {g : FuncId} {args : List D} {d : D} (h : ∀ F w vs, Reps F w args vs → ∃ v, (callFunc g vs.toArray).run P w = .ok (.value v) w ∧ Rep F w d v) : AFn P g args [] (.ret d) := by
  intro F w vs aw hr
  obtain ⟨v, h1, h2⟩ := h F w vs hr
  exact .inr ⟨v, w, h1, .ret d, F, [], Ev.refl .., aw, ⟨v, rfl, h2⟩, rfl, rfl⟩
theorem ext_refl (w : World) : Ext (fun _ => False) w w := ⟨rfl, rfl, rfl, Nat.le_refl _, fun _ _ _ => rfl, Nat.le_refl _⟩
theorem ret_i {a b : Int} (h : a = b) : AE.ret (.i a) = .ret (.i b) := by rw [h]
theorem ret_b {a b : Bool} (h : a = b) : AE.ret (.b a) = .ret (.b b) := by rw [h]
theorem Tm.mk_d (op : Int) (nm : ByteArray) (n : Int) (a : List Tm) : (Tm.mk op nm n a).cs = [.i op, .s nm, .i n, .row 4 (Tm.rows a)] := rfl

theorem smallr_mem : ∀ {l : List (List D)}, Smallr l → ∀ d ∈ l, Smalls d
  | _ :: _, h, x, hx => by
    rw [Smallr] at h
    rcases List.mem_cons.1 hx with rfl | hx
    · exact h.1
    · exact smallr_mem h.2 x hx
theorem Tm.small {t : Tm} (h : Smalls t.cs) : t.nm.size ≤ 9223372036854775807 ∧ t.a.length ≤ 9223372036854775807 ∧ ∀ x ∈ t.a, Smalls x.cs := by
  unfold Tm.cs at h
  rw [Smalls, Smalls, Smalls, Smalls, Small, Small, Small, Small] at h
  refine ⟨h.2.1, by have := h.2.2.2.1.1; rwa [Tm.rows_len] at this, fun x hx => smallr_mem h.2.2.2.1.2 _ ?_⟩
  rw [Tm.rows_eq]
  exact List.mem_map_of_mem hx
theorem Tm.small_d {t : Tm} (h : Small t.d) : Smalls t.cs := by rw [Tm.d, Small] at h; exact h
theorem ASpec.small {P : Program} {g : FuncId} {args : List D} {L : List Bx} {R : AE → List Bx → Prop} (h : Smalls args → ASpec P g args L R) : ASpec P g args L R :=
  fun F w vs aw hr => h (Reps.small _ _ hr) F w vs aw hr
theorem AFn.small {P : Program} {g : FuncId} {args : List D} {L : List Bx} {a : AE} (h : Smalls args → AFn P g args L a) : AFn P g args L a := ASpec.small h
theorem AFn.of {P : Program} {g : FuncId} {args : List D} {L : List Bx} {a : AE} (h : ASpec P g args [] fun a' L' => a' = a) : AFn P g args L a := by
  refine (ASpec.frame (M := L) h (List.Perm.refl _)).ge fun a' L' h => ?_
  obtain ⟨L2, rfl, rfl⟩ := h
  exact ⟨a', L, ⟨by cases a' <;> trivial, Gl.drop (List.sublist_append_right _ _)⟩, rfl, rfl⟩
theorem AFn.ofL {P : Program} {g : FuncId} {args : List D} {L : List Bx} {a : AE} (h : ASpec P g args L fun a' L' => a' = a ∧ L.Sublist L') : AFn P g args L a :=
  ASpec.ge h fun a' L' ⟨h1, h2⟩ => ⟨a', L, ⟨by cases a' <;> trivial, Gl.drop h2⟩, h1, rfl⟩
section
variable {A B : Prop} {k : D → Prop} {L : List Bx} {kl : D → List Bx → Prop}
theorem a_cndT {p : Prop} [Decidable p] (h : p) (hA : A) : acnd (.b (decide p)) A B := by rw [decide_eq_true h]; exact hA
theorem a_cndF {p : Prop} [Decidable p] (h : ¬ p) (hB : B) : acnd (.b (decide p)) A B := by rw [decide_eq_false h]; exact hB
theorem a_cndbT {c : Bool} (h : c = true) (hA : A) : acnd (.b c) A B := by rw [h]; exact hA
theorem a_cndbF {c : Bool} (h : c = false) (hB : B) : acnd (.b c) A B := by rw [h]; exact hB
theorem a_notd {p : Prop} [Decidable p] (h : k (.b (decide (¬ p)))) : anotb (.b (decide p)) k := by
  show k (.b !(decide p))
  have : (!decide p) = decide (¬ p) := by by_cases hp : p <;> simp [hp]
  rw [this]; exact h
theorem a_rowT1 {z : List D} {t : Tm} (hz : z.length = 4) (h : k (.row 4 (Tm.rows [t]))) : abldF 4 1 z [(0, 4, .agg t.cs)] k := by
  refine V.a_bldF _ rfl ?_ h
  match z, hz with
  | [_, _, _, _], _ => rw [Tm.rows_cons, Tm.rows_nil]; rfl
theorem a_rowT2 {z : List D} {t u : Tm} (hz : z.length = 8) (h : k (.row 4 (Tm.rows [t, u]))) : abldF 4 2 z [(0, 4, .agg t.cs), (4, 4, .agg u.cs)] k := by
  refine V.a_bldF _ rfl ?_ h
  match z, hz with
  | [_, _, _, _, _, _, _, _], _ => rw [Tm.rows_cons, Tm.rows_cons, Tm.rows_nil]; rfl
theorem a_rowS1 {e : Nat} {z : List D} {t : Tm} (hz : z.length = 4) (h : kl (.row 4 (Tm.rows [t])) L) : abldS e 4 1 z [(0, 4, .agg t.cs)] L kl := .inl (a_rowT1 hz h)
theorem a_rowS2 {e : Nat} {z : List D} {t u : Tm} (hz : z.length = 8) (h : kl (.row 4 (Tm.rows [t, u])) L) : abldS e 4 2 z [(0, 4, .agg t.cs), (4, 4, .agg u.cs)] L kl := .inl (a_rowT2 hz h)
theorem a_idxT0 {x : Tm} {r : List Tm} {ki : IntKind} (h : k (.pin x.cs)) : aidxS 4 (.row 4 (Tm.rows (x :: r))) (.val (.int ki 0)) k := Tm.a_idx (a := x :: r) 0 (by simp) h
theorem a_idxT1 {x y : Tm} {r : List Tm} {ki : IntKind} (h : k (.pin y.cs)) : aidxS 4 (.row 4 (Tm.rows (x :: y :: r))) (.val (.int ki 1)) k := Tm.a_idx (a := x :: y :: r) 1 (by simp) h
theorem a_bldT {z : List D} {ps : List (Nat × Nat × D)} {op : Int} {nm : ByteArray} {n : Int} {a : List Tm} (hs : asizes ps = true) (hl : afill z (aparts ps) = [.i op, .s nm, .i n, .row 4 (Tm.rows a)]) (h : k (.agg (Tm.mk op nm n a).cs)) : abld z ps k := V.a_bld _ hs hl h
theorem a_bldT0 {z : List D} {ps : List (Nat × Nat × D)} {op : Int} {nm : ByteArray} {n : Int} (hs : asizes ps = true) (hl : afill z (aparts ps) = [.i op, .s nm, .i n, .nil]) (h : k (.agg (Tm.mk op nm n []).cs)) : abld z ps k :=
  V.a_bldW _ [.i op, .s nm, .i n, .row 4 []] hs hl (.same (.same (.same (.nil (.refl _))))) (by rw [← Tm.rows_nil]; exact h)
end
section
variable {P : Program} {g : FuncId} {args : List D} {L : List Bx} {kp k : D → List Bx → Prop}
theorem a_callF1 {d : D} {x : Bx} (i : Nat) (hi : L[i]? = some x) (h : AFn P g args [x] (.ret d)) (hk : k d L) : acallW P g args L kp k := a_call (AFn.frame1 i hi h) hk
theorem a_callSF1 {d : D} {x : Bx} (i : Nat) (hi : L[i]? = some x) (h : AFn P g args [x] (.ret d)) (hk : k d L) : acallS P g args L kp k := a_callS (AFn.frame1 i hi h) hk
theorem a_callU1 {d : D} {x y : Bx} (i : Nat) (hi : L[i]? = some x) (h : AUp P g args [x] (.ret d) [y]) (hk : k d (L.set i y)) : acallW P g args L kp k := a_callU i hi h hk
theorem a_idxPN {n sz b o : Nat} {ki : IntKind} {k : D → Prop} (i : Nat) (h1 : i < n) (h : k (.p b (o + i * sz))) : aidxP n sz (.p b o) (.val (.int ki i)) k := V.a_idxP (by omega) (by omega) (by simpa using h)
theorem a_jnX {F : List D → List Bx → Prop} {G} {vs : List D} {L : List Bx} (hG : ∀ J : List D → List Bx → Prop, J vs L → G J) (h : F vs L) : ajn F G :=
  V.a_jn (σ := Unit) (fun _ => vs) (fun _ => L) (fun _ => True) (fun _ _ => h) fun J hJ => hG J (hJ () _ _ trivial (Gl.refl _ _))
theorem a_jn0 {F : List D → List Bx → Prop} {G} (hG : ∀ J : List D → List Bx → Prop, G J) : ajn F G := ⟨fun _ _ => False, fun _ _ h => h.elim, hG _⟩
theorem a_jn1 {F : List D → List Bx → Prop} {G} (vs : List D) (L : List Bx) (h : F vs L) (hG : ∀ J : List D → List Bx → Prop, (∀ v l, Gl v l vs L → J v l) → G J) : ajn F G :=
  V.a_jn (σ := Unit) (fun _ => vs) (fun _ => L) (fun _ => True) (fun _ _ => h) fun J hJ => hG J fun v l hg => hJ () v l trivial hg
end
end Go.V
set_option linter.unusedVariables false
namespace Go.V
open Go
def str (l : List UInt8) : ByteArray := ⟨l.toArray⟩
theorem str_of (s : ByteArray) : s = str s.data.toList := by cases s; simp [str]
theorem str_size (l : List UInt8) : (str l).size = l.length := by simp [str, ByteArray.size]
theorem str_inj {l m : List UInt8} (h : str l = str m) : l = m := by
  have := congrArg (fun s => s.data.toList) h
  simpa [str] using this
theorem str_get (l : List UInt8) (i : Nat) : (str l)[i]? = l[i]? := by
  by_cases h : i < l.length
  · have h' : i < (str l).size := by rw [str_size]; exact h
    rw [getElem?_pos (str l) i h', List.getElem?_eq_getElem h]
    congr 1
  · have h' : ¬ i < (str l).size := by rw [str_size]; exact h
    rw [getElem?_neg (str l) i h', List.getElem?_eq_none (by omega)]
theorem str_extract (l : List UInt8) (a b : Nat) : (str l).extract a b = str ((l.take b).drop a) := by
  rw [str_of ((str l).extract a b)]
  congr 1
  simp [str, ByteArray.data_extract]
  rw [List.drop_take]
variable {k : D → Prop}
theorem a_idxStr {l : List UInt8} {ki : IntKind} {c : UInt8} (i : Nat) (hc : l[i]? = some c) (h : k (.val (.int .u8 c.toNat))) : aidxStr (.s (str l)) (.val (.int ki i)) k := by
  show _ ∧ ∃ _, _
  exact ⟨by omega, c, by rw [str_get]; simpa using hc, h⟩
theorem a_slcSf {l : List UInt8} {ki : IntKind} (i : Nat) (hi : i ≤ l.length) (h : k (.s (str (l.drop i)))) : aslcS (.s (str l)) (some (.val (.int ki i))) none k := by
  show ∃ _ _, _
  exact ⟨i, (str l).size, rfl, ⟨ki, rfl⟩, by rw [str_size]; exact hi, by rw [str_extract, str_size, List.take_length]; exact h⟩
theorem a_slcSt {l : List UInt8} {ki : IntKind} (i : Nat) (hi : i ≤ l.length) (h : k (.s (str (l.take i)))) : aslcS (.s (str l)) none (some (.val (.int ki i))) k := by
  show ∃ _ _, _
  exact ⟨0, i, ⟨ki, rfl, by rw [str_size]; exact hi⟩, rfl, Nat.zero_le _, by rw [str_extract, List.drop_zero]; exact h⟩
theorem a_lenStr {l : List UInt8} (h : k (.i l.length)) : alenS (.s (str l)) k := by
  show k (.i (str l).size); rw [str_size]; exact h
def inS (l : List UInt8) (x : UInt8) : Bool := l.any fun b => b.toNat == x.toNat
def tabOf (l : List UInt8) : List D := (List.range 256).map fun i => .b (l.any fun b => b.toNat == i)
theorem tabOf_len (l : List UInt8) : (tabOf l).length = 256 := by simp [tabOf]
theorem tabOf_get (l : List UInt8) (x : UInt8) : (tabOf l)[x.toNat]? = some (.b (inS l x)) := by
  have := x.toNat_lt
  simp [tabOf, inS, this]
theorem tabOf_nil : tabOf [] = vals (reps 256 [.bool false]) := by kernel_rfl
theorem tabOf_ones (l : List UInt8) : (tabOf l).all D.one = true := by simp only [tabOf, List.all_map, List.all_eq_true]; intro i _; rfl
theorem tabOf_put (l : List UInt8) (x : UInt8) : (tabOf l).take x.toNat ++ [.b true] ++ (tabOf l).drop (x.toNat + 1) = tabOf (l ++ [x]) := by
  have hx := x.toNat_lt
  apply List.ext_getElem
  · simp [tabOf_len]; omega
  · intro i h1 h2
    have hi : i < 256 := by simpa [tabOf_len] using h2
    by_cases e : i < x.toNat
    · rw [List.getElem_append_left (by simp [tabOf_len]; omega), List.getElem_append_left (by simp [tabOf_len]; omega)]
      have : ¬ x.toNat = i := by omega
      simp [tabOf, this]
    · by_cases e' : i = x.toNat
      · subst e'
        rw [List.getElem_append_left (by simp [tabOf_len]; omega), List.getElem_append_right (by simp [tabOf_len]; omega)]
        simp [tabOf]
      · rw [List.getElem_append_right (by simp [tabOf_len]; omega)]
        have : ¬ x.toNat = i := by omega
        have e2 : x.toNat + 1 + (i - (min x.toNat 256 + 1)) = i := by omega
        simp [tabOf, this, e2]
end Go.V
set_option linter.unusedVariables false
namespace Go.V
mutual
def ofT : Tm → Int → Int → Int → Int × Int
  | .mk _ _ _ a, d, s, m => ofL a d (s + 1) (max m d)
def ofL : List Tm → Int → Int → Int → Int × Int
  | [], _, s, m => (s, m)
  | x :: r, d, s, m => if s > 2000 ∨ d > 100 then (s, m) else ofL r d (ofT x (d + 1) s m).1 (ofT x (d + 1) s m).2
end
theorem ofT_eq (t : Tm) (d s m : Int) : ofT t d s m = ofL t.a d (s + 1) (max m d) := by cases t; rfl
theorem ofL_bound (a : List Tm) (h : ∀ x ∈ a, ∀ d s m, 0 ≤ s → s ≤ 2000 → 0 ≤ (ofT x d s m).1 ∧ (ofT x d s m).1 ≤ 2001) : ∀ d s m, 0 ≤ s → s ≤ 2001 → 0 ≤ (ofL a d s m).1 ∧ (ofL a d s m).1 ≤ 2001 := by
  induction a with
  | nil => intro d s m h0 h1; rw [ofL]; exact ⟨h0, h1⟩
  | cons x r ih =>
    intro d s m h0 h1
    rw [ofL]
    split
    · exact ⟨h0, h1⟩
    · have := h x (by simp) (d + 1) s m h0 (by omega)
      exact ih (fun y hy => h y (by simp [hy])) d _ _ this.1 this.2
theorem ofT_bound (t : Tm) : ∀ d s m, 0 ≤ s → s ≤ 2000 → 0 ≤ (ofT t d s m).1 ∧ (ofT t d s m).1 ≤ 2001 := by
  induction t using Tm.ind with
  | h op nm n a ih =>
    intro d s m h0 h1
    rw [ofT]
    exact ofL_bound a ih d _ _ (by omega) (by omega)

mutual
def deepT : Tm → Int → Int
  | .mk _ _ _ a, m => deepL a (m - 1) 0 + 1
def deepL : List Tm → Int → Int → Int
  | [], _, n => n
  | x :: r, m, n => if n = m then n else deepL r m (max n (deepT x m))
end
theorem deepT_eq (t : Tm) (m : Int) : deepT t m = deepL t.a (m - 1) 0 + 1 := by cases t; rfl
end Go.V
set_option linter.unusedVariables false
namespace Go.V
mutual
def rdeepT : Tm → Int → Int
  | .mk _ _ _ a, m => if m = 1 then 1 else rdeepL a (m - 1) 0 + 1
def rdeepL : List Tm → Int → Int → Int
  | [], _, n => n
  | x :: r, m, n => rdeepL r m (max n (rdeepT x m))
end
theorem rdeepT_eq (t : Tm) (m : Int) : rdeepT t m = if m = 1 then 1 else rdeepL t.a (m - 1) 0 + 1 := by cases t; rfl
theorem rdeepL_bound (a : List Tm) (h : ∀ x ∈ a, ∀ m, 1 ≤ m → 1 ≤ rdeepT x m ∧ rdeepT x m ≤ m) : ∀ m n, 1 ≤ m → 0 ≤ n → n ≤ m → n ≤ rdeepL a m n ∧ rdeepL a m n ≤ m := by
  induction a with
  | nil => intro m n h h0 h1; rw [rdeepL]; omega
  | cons x r ih =>
    intro m n hm h0 h1
    rw [rdeepL]
    have := h x (by simp) m (by omega)
    have := ih (fun y hy => h y (by simp [hy])) m (max n (rdeepT x m)) hm (by omega) (by omega)
    omega
theorem rdeepT_bound (t : Tm) : ∀ m, 1 ≤ m → 1 ≤ rdeepT t m ∧ rdeepT t m ≤ m := by
  induction t using Tm.ind' with
  | h t ih =>
    intro m hm
    rw [rdeepT_eq]
    split
    · omega
    · have := rdeepL_bound t.a ih (m - 1) 0 (by omega) (by omega) (by omega)
      omega
theorem deepL_top (a : List Tm) : ∀ m, deepL a m m = m := by
  induction a with
  | nil => intro m; rw [deepL]
  | cons x r ih => intro m; rw [deepL, if_pos rfl]
theorem rdeepL_top (a : List Tm) : ∀ m n, 1 ≤ m → n = m → rdeepL a m n = m := by
  induction a with
  | nil => intro m n _ h; rw [rdeepL, h]
  | cons x r ih =>
    intro m n hm h
    have := rdeepT_bound x m hm
    rw [rdeepL]
    exact ih m _ hm (by omega)
theorem deep_eqL (a : List Tm) (h : ∀ x ∈ a, ∀ m, 1 ≤ m → deepT x m = rdeepT x m) : ∀ m n, 1 ≤ m → deepL a m n = rdeepL a m n := by
  induction a with
  | nil => intro m n _; rw [deepL, rdeepL]
  | cons x r ih =>
    intro m n hm
    rw [deepL, rdeepL]
    split
    · next e =>
      have := rdeepT_bound x m hm
      rw [rdeepL_top r m _ hm (by omega), e]
    · rw [h x (by simp) m hm]
      exact ih (fun y hy => h y (by simp [hy])) m _ hm
theorem deep_eq (t : Tm) : ∀ m, 1 ≤ m → deepT t m = rdeepT t m := by
  induction t using Tm.ind' with
  | h t ih =>
    intro m hm
    rw [deepT_eq, rdeepT_eq]
    split
    · next e => subst e; rw [show (1 : Int) - 1 = 0 from rfl, deepL_top]; rfl
    · rw [deep_eqL t.a ih (m - 1) 0 (by omega)]
mutual
def sameT : Tm → Tm → Bool
  | .mk o s n a, .mk o' s' n' a' => decide (o = o') && decide (s = s') && decide (n = n') && sameL a a'
def sameL : List Tm → List Tm → Bool
  | [], [] => true
  | x :: r, y :: q => sameT x y && sameL r q
  | _, _ => false
end
theorem sameT_eq (t u : Tm) : sameT t u = (decide (t.op = u.op) && decide (t.nm = u.nm) && decide (t.n = u.n) && sameL t.a u.a) := by cases t; cases u; rfl
theorem sameL_len : ∀ {a b : List Tm}, a.length ≠ b.length → sameL a b = false
  | [], [], h => absurd rfl h
  | [], _ :: _, _ => rfl
  | _ :: _, [], _ => rfl
  | x :: r, y :: q, h => by
    rw [sameL, sameL_len (a := r) (b := q) (by simpa using h), Bool.and_false]
def sameF (t u : Tm) : Bool := decide (deepT t 101 ≤ 100) && decide (deepT u 101 ≤ 100) && sameT t u
end Go.V
set_option linter.unusedVariables false
namespace Go.V
def letters : List UInt8 := [65, 66, 67, 68, 69, 70, 71, 72, 73, 74, 75, 76, 77, 78, 79, 80, 81, 82, 83, 84, 85, 86, 87, 88, 89, 90, 97, 98, 99, 100, 101, 102, 103, 104, 105, 106, 107, 108, 109, 110, 111, 112, 113, 114, 115, 116, 117, 118, 119, 120, 121, 122]
def chars : List UInt8 := [65, 66, 67, 68, 69, 70, 71, 72, 73, 74, 75, 76, 77, 78, 79, 80, 81, 82, 83, 84, 85, 86, 87, 88, 89, 90, 97, 98, 99, 100, 101, 102, 103, 104, 105, 106, 107, 108, 109, 110, 111, 112, 113, 114, 115, 116, 117, 118, 119, 120, 121, 122, 48, 49, 50, 51, 52, 53, 54, 55, 56, 57, 95]
def trimL (c l : List UInt8) : List UInt8 := (l.reverse.dropWhile (inS c)).reverse.dropWhile (inS c)
def nameF : List UInt8 → Bool
  | [] => false
  | x :: r => decide ((x :: r).length ≤ 16) && decide (0 ≤ Lib.indexByte letters x) && decide (trimL chars (x :: r) = [])
structure Shp where
  sort : Int
  name : Bool
  number : Bool
  a : List Int
  many : Bool
def shp : List Shp :=
  [⟨0, false, false, [], false⟩, ⟨1, false, true, [], false⟩, ⟨1, true, false, [], false⟩, ⟨1, false, false, [2], false⟩, ⟨1, false, false, [1, 1], false⟩, ⟨1, false, false, [1, 1], false⟩, ⟨1, false, true, [1], false⟩,
   ⟨2, true, false, [], false⟩, ⟨2, false, false, [], false⟩, ⟨2, false, false, [], false⟩, ⟨2, false, false, [3], false⟩, ⟨2, false, false, [2, 2], false⟩, ⟨2, false, false, [2, 2], false⟩, ⟨2, false, false, [2, 2], false⟩,
   ⟨3, true, false, [], false⟩, ⟨4, true, false, [], false⟩, ⟨4, false, false, [], false⟩, ⟨4, false, false, [], false⟩, ⟨4, false, false, [4], false⟩, ⟨4, false, false, [4], true⟩, ⟨4, false, false, [4], true⟩, ⟨4, false, false, [4, 4], false⟩,
   ⟨4, false, false, [1, 1], false⟩, ⟨4, false, false, [1, 1], false⟩, ⟨4, false, false, [1, 1], false⟩, ⟨4, false, false, [3, 2], false⟩, ⟨4, false, false, [2, 2], false⟩, ⟨4, false, false, [2, 2], false⟩, ⟨4, false, false, [3, 3], false⟩]
def shA (a : List Int) : D := match a with | [] => .nil | a => .row 1 (a.map fun x => [.i x])
def Shp.cs (s : Shp) : List D := [.i s.sort, .b s.name, .b s.number, shA s.a, .b s.many]
def tabD : List D := shp.flatMap Shp.cs
def shpAt (op : Int) : Shp := shp.getD op.toNat ⟨0, false, false, [], false⟩
def badHead (S : Shp) (nm : ByteArray) (n : Int) (len : Nat) (m : Int) : Bool :=
  (decide (m ≠ 0) && decide (S.sort ≠ m)) || (S.name && !nameF nm.data.toList) || (!S.name && decide (nm ≠ ⟨#[]⟩)) || (!S.number && decide (n ≠ 0)) || (!S.many && decide ((len : Int) ≠ S.a.length))
mutual
def rightT : Tm → Int → Bool
  | .mk op nm n a, m => decide (1 ≤ op) && decide (op ≤ 28) && !badHead (shpAt op) nm n a.length m && rightL (shpAt op) a 0
def rightL : Shp → List Tm → Nat → Bool
  | _, [], _ => true
  | S, x :: r, i => rightT x (S.a.getD (bif S.many then 0 else i) 0) && rightL S r (i + 1)
end
theorem rightT_eq (t : Tm) (m : Int) : rightT t m = (decide (1 ≤ t.op) && decide (t.op ≤ 28) && !badHead (shpAt t.op) t.nm t.n t.a.length m && rightL (shpAt t.op) t.a 0) := by cases t; rw [rightT]; rfl

theorem shp_many (op : Int) : (shpAt op).many = true → (shpAt op).a.length = 1 := by
  unfold shpAt
  intro h
  by_cases hlt : op.toNat < shp.length
  · have : ∀ i : Fin 29, (shp.getD i.1 ⟨0, false, false, [], false⟩).many = true → (shp.getD i.1 ⟨0, false, false, [], false⟩).a.length = 1 := by decide
    exact this ⟨op.toNat, hlt⟩ h
  · rw [List.getD_eq_getElem?_getD, List.getElem?_eq_none (by omega)] at h
    exact absurd h (by simp)
theorem flat_drop : ∀ (l : List Shp) (i : Nat) (h : i < l.length), ((l.flatMap Shp.cs).drop (i * 5)).take 5 = l[i].cs
  | s :: r, 0, _ => rfl
  | s :: r, i + 1, h => by
    rw [List.flatMap_cons]
    have e : (i + 1) * 5 = s.cs.length + i * 5 := by show (i + 1) * 5 = 5 + i * 5; omega
    rw [e, List.drop_append, List.drop_eq_nil_of_le (by omega), List.nil_append, show s.cs.length + i * 5 - s.cs.length = i * 5 by omega]
    exact flat_drop r i (by simpa using h)
theorem tab_at {op : Int} (h1 : 1 ≤ op) (h2 : op ≤ 28) : (tabD.drop (0 + op.toNat * 5)).take 5 = (shpAt op).cs := by
  have hlt : op.toNat < shp.length := by show op.toNat < 29; omega
  rw [Nat.zero_add]
  have := flat_drop shp op.toNat hlt
  unfold tabD
  rw [this]
  simp [shpAt, hlt]
theorem tab_sort {op : Int} (h1 : 1 ≤ op) (h2 : op ≤ 28) : tabD[0 + op.toNat * 5 + 0]? = some (.i (shpAt op).sort) := by
  have := congrArg (fun l => l[0]?) (tab_at h1 h2)
  simpa [List.getElem?_drop, Shp.cs] using this
theorem shA_one (a : List Int) : (shA a).one = true := by cases a <;> rfl
theorem Shp.cs_one (s : Shp) : s.cs.all D.one = true := by
  have := shA_one s.a
  unfold Shp.cs
  rw [List.all_cons, List.all_cons, List.all_cons, List.all_cons, this]; rfl
theorem a_lenA {a : List Int} {k : D → Prop} (h : k (.i a.length)) : alenL (shA a) k := by
  cases a with
  | nil => exact h
  | cons x r => show k (.i (List.length _)); rw [List.length_map]; exact h
theorem a_idxA {a : List Int} {ki : IntKind} {k : D → Prop} (i : Nat) (hi : i < a.length) (h : k (.pin [.i a[i]])) : aidxS 1 (shA a) (.val (.int ki i)) k := by
  cases a with
  | nil => exact absurd hi (Nat.not_lt_zero _)
  | cons x r => exact V.a_idx i _ (by rw [List.getElem?_map, List.getElem?_eq_getElem hi]; rfl) h
def sortF (t : Tm) : Int × Int :=
  if (ofT t 1 0 0).1 > 2000 ∨ (ofT t 1 0 0).2 > 100 then (0, 7) else if rightT t 0 then ((shpAt t.op).sort, 0) else (0, 3)
end Go.V
