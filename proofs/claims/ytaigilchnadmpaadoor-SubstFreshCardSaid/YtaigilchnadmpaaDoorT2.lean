/- Values, names and worlds, as data. -/
import Derived.Test.YtaigilchnadmpaaDoorG0
set_option linter.unusedVariables false
namespace Go.V
open Go
structure Vl where
  sort : Int
  n : Int
  b : Bool
  s : List Bool
def bc (x : Bool) : List D := [.b x]
def Vl.cs (v : Vl) : List D := [.i v.sort, .i v.n, .b v.b, .row 1 (v.s.map bc)]
abbrev Vl.d (v : Vl) : D := .agg v.cs
structure Nv where
  nm : ByteArray
  v : Vl
def Nv.cs (x : Nv) : List D := [.s x.nm, .i x.v.sort, .i x.v.n, .b x.v.b, .row 1 (x.v.s.map bc)]
structure Wd where
  nodes : Int
  names : List Nv
def Wd.cs (w : Wd) : List D := [.i w.nodes, .row 5 (w.names.map Nv.cs)]
abbrev Wd.d (w : Wd) : D := .agg w.cs
def vz : Vl := ⟨0, 0, false, []⟩
theorem bc_len (x : Bool) : (bc x).length = 1 := rfl
theorem bc_one (x : Bool) : (bc x).all D.one = true := rfl
theorem Nv.cs_len (x : Nv) : x.cs.length = 5 := rfl
theorem Nv.cs_one (x : Nv) : x.cs.all D.one = true := rfl
theorem map_at {α : Type} {f : α → List D} {l : List α} {i : Nat} (h : i < l.length) : (l.map f)[i]? = some (f l[i]) := by
  rw [List.getElem?_map, List.getElem?_eq_getElem h]; rfl
section
variable {k : D → Prop}
theorem a_lenM {α : Type} {sz : Nat} {f : α → List D} {l : List α} (h : k (.i l.length)) : alenL (.row sz (l.map f)) k := by
  show k (.i (l.map f).length); rw [List.length_map]; exact h
theorem a_idxM {α : Type} {sz : Nat} {f : α → List D} {l : List α} {ki : IntKind} (i : Nat) (hi : i < l.length) (h : k (.pin (f l[i]))) : aidxS sz (.row sz (l.map f)) (.val (.int ki i)) k := V.a_idx i _ (map_at hi) h
theorem a_idxMz {α : Type} {sz : Nat} {f : α → List D} {l : List α} {ki : IntKind} {j : Int} (i : Nat) (hj : j = i) (hi : i < l.length) (h : k (.pin (f l[i]))) : aidxS sz (.row sz (l.map f)) (.val (.int ki j)) k := by subst hj; exact a_idxM i hi h
/-- a value is made -/
theorem a_bldV {z : List D} {ps : List (Nat × Nat × D)} {a b : Int} {c : Bool} {s : List Bool} (hs : asizes ps = true) (hl : afill z (aparts ps) = [.i a, .i b, .b c, .row 1 (s.map bc)]) (h : k (.agg (Vl.mk a b c s).cs)) : abld z ps k := V.a_bld _ hs hl h
theorem a_bldV0 {z : List D} {ps : List (Nat × Nat × D)} {a b : Int} {c : Bool} (hs : asizes ps = true) (hl : afill z (aparts ps) = [.i a, .i b, .b c, .nil]) (h : k (.agg (Vl.mk a b c []).cs)) : abld z ps k :=
  V.a_bldW _ [.i a, .i b, .b c, .row 1 []] hs hl (.same (.same (.same (.nil (.refl _))))) h
theorem a_bldW0 {z : List D} {ps : List (Nat × Nat × D)} {a : Int} (hs : asizes ps = true) (hl : afill z (aparts ps) = [.i a, .nil]) (h : k (.agg (Wd.mk a []).cs)) : abld z ps k :=
  V.a_bldW _ [.i a, .row 5 []] hs hl (.same (.nil (.refl _))) h
theorem a_bldWd {z : List D} {ps : List (Nat × Nat × D)} {a : Int} {l : List Nv} (hs : asizes ps = true) (hl : afill z (aparts ps) = [.i a, .row 5 (l.map Nv.cs)]) (h : k (.agg (Wd.mk a l).cs)) : abld z ps k := V.a_bld _ hs hl h
theorem a_bldNv {z : List D} {ps : List (Nat × Nat × D)} {nm : ByteArray} {a b : Int} {c : Bool} {s : List Bool} (hs : asizes ps = true) (hl : afill z (aparts ps) = [.s nm, .i a, .i b, .b c, .row 1 (s.map bc)]) (h : k (.agg (Nv.mk nm ⟨a, b, c, s⟩).cs)) : abld z ps k := V.a_bld _ hs hl h
theorem a_rowN1 {z : List D} {x : Nv} (hz : z.length = 5) (h : k (.row 5 ([x].map Nv.cs))) : abldF 5 1 z [(0, 5, .agg x.cs)] k := by
  refine V.a_bldF _ rfl ?_ h
  match z, hz with
  | [_, _, _, _, _], _ => rfl
theorem a_rowN2 {z : List D} {x y : Nv} (hz : z.length = 10) (h : k (.row 5 ([x, y].map Nv.cs))) : abldF 5 2 z [(0, 5, .agg x.cs), (5, 5, .agg y.cs)] k := by
  refine V.a_bldF _ rfl ?_ h
  match z, hz with
  | [_, _, _, _, _, _, _, _, _, _], _ => rfl
theorem a_rowB3 {z : List D} {x y u : Bool} (hz : z.length = 3) (h : k (.row 1 ([x, y, u].map bc))) : abldF 1 3 z [(0, 1, .b x), (1, 1, .b y), (2, 1, .b u)] k := by
  refine V.a_bldF _ rfl ?_ h
  match z, hz with
  | [_, _, _], _ => rfl
section
variable {L : List Bx} {kl : D → List Bx → Prop} {e : Nat}
theorem a_rowNS1 {z : List D} {x : Nv} (hz : z.length = 5) (h : kl (.row 5 ([x].map Nv.cs)) L) : abldS e 5 1 z [(0, 5, .agg x.cs)] L kl := .inl (a_rowN1 hz h)
theorem a_rowNS2 {z : List D} {x y : Nv} (hz : z.length = 10) (h : kl (.row 5 ([x, y].map Nv.cs)) L) : abldS e 5 2 z [(0, 5, .agg x.cs), (5, 5, .agg y.cs)] L kl := .inl (a_rowN2 hz h)
theorem a_rowBS3 {z : List D} {x y u : Bool} (hz : z.length = 3) (h : kl (.row 1 ([x, y, u].map bc)) L) : abldS e 1 3 z [(0, 1, .b x), (1, 1, .b y), (2, 1, .b u)] L kl := .inl (a_rowB3 hz h)
end
theorem a_eqSn {sz : Nat} {l : List (List D)} (h1 : l = [] → k (.b true)) (h2 : k (.b false)) : aeqS false .eql (.row sz l) .nil k := by
  cases l with
  | nil => exact ⟨h1 rfl, h2⟩
  | cons x l => exact h2
end
theorem a_callR {P : Program} {g : FuncId} {args : List D} {L : List Bx} {kp k : D → List Bx → Prop} {d : D} (h : AFn P g args L (.ret d)) (hk : k d L) : acallW P g args L kp k := V.a_call h hk
theorem a_callSR {P : Program} {g : FuncId} {args : List D} {L : List Bx} {kp k : D → List Bx → Prop} {d : D} (h : AFn P g args L (.ret d)) (hk : k d L) : acallS P g args L kp k := V.a_callS h hk
theorem a_callP {P : Program} {g : FuncId} {args : List D} {L : List Bx} {kp k : D → List Bx → Prop} {d : D} (h : AFn P g args [] (.pan d)) (hk : kp d L) : acallW P g args L kp k := V.a_call (ae := .pan d) h.frame hk
theorem a_callSP {P : Program} {g : FuncId} {args : List D} {L : List Bx} {kp k : D → List Bx → Prop} {d : D} (h : AFn P g args [] (.pan d)) (hk : kp d L) : acallS P g args L kp k := V.a_callS (ae := .pan d) h.frame hk
/-- among others that stand ahead -/
theorem AFn.frameM {P : Program} {g : FuncId} {args : List D} {Lc : List Bx} {a : AE} (M : List Bx) (h : AFn P g args Lc a) : AFn P g args (M ++ Lc) a :=
  (ASpec.frame (L1 := M ++ Lc) (M := M) h List.perm_append_comm).permOut fun a' L' ⟨L2, h1, h2, h3⟩ => ⟨M ++ Lc, by rw [h1, h3]; exact List.perm_append_comm, h2, rfl⟩
theorem AFn.frameL {P : Program} {g : FuncId} {args : List D} {Lc : List Bx} {a : AE} (M : List Bx) (h : AFn P g args Lc a) : AFn P g args (Lc ++ M) a :=
  (ASpec.frame (L1 := Lc ++ M) (M := M) h (List.Perm.refl _)).mono fun a' L' ⟨L2, h1, h2, h3⟩ => ⟨h2, by rw [h1, h3]⟩
/-- one of a row of bools is written -/
theorem a_stB {L : List Bx} {ks : List Bx → Prop} {b e c : Nat} {l : List Bool} {y : Bool} (i j : Nat) (hi : L[i]? = some (Bx.mk b (l.map bc).flatten (.row e 1 c))) (hj : j < l.length) (h : ks (L.set i ⟨b, ((l.set j y).map bc).flatten, .row e 1 c⟩)) : ast 1 (.p b (0 + j * 1)) (.b y) L ks := by
  refine V.a_st i _ hi rfl rfl (Nat.ble_eq_true_of_le ?_) ?_ h
  · rw [flat_len bc_len]; omega
  · rw [Nat.zero_add]
    exact flat_set bc_len l j hj y
/-- a row is given up, told so in what is given -/
theorem ge_fz {α : Type} {f : α → List D} {sz b e c cap : Nat} (hsz : ∀ x, (f x).length = sz) {d d' : D} {L M : List Bx} {l : List α} (i : Nat) (hi : L[i]? = some (Bx.mk b (l.map f).flatten (.row e sz cap))) (hd : Wk (.sl b 0 l.length c) (.row sz (l.map f)) d d') (hM : M.Sublist (L.eraseIdx i)) : Ge (.ret d) L (.ret d') M := by
  refine ⟨trivial, Gl.trans (Gl.fz (n := l.length) (c := c) (ds' := [d']) i hi (flat_len hsz l) ?_ (WkB.refl _ _ _)) (Gl.drop hM)⟩
  rw [chunk_flat hsz]
  exact .cons hd .nil
/-- a row is given up, and all others with it -/
theorem gl_row {α : Type} {f : α → List D} {sz b e c cap : Nat} (hsz : ∀ x, (f x).length = sz) {L : List Bx} {l : List α} (i : Nat) (hi : L[i]? = some (Bx.mk b (l.map f).flatten (.row e sz cap))) : Gl [.sl b 0 l.length c] L [.row sz (l.map f)] [] := by
  refine Gl.trans (Gl.fz (n := l.length) (c := c) (ds' := [.row sz (l.map f)]) i hi (flat_len hsz l) ?_ (WkB.refl _ _ _)) (Gl.drop (List.nil_sublist _))
  rw [chunk_flat hsz]
  exact .cons .hit .nil
theorem gl_nil {sz : Nat} {L : List Bx} : Gl [.nil] L [.row sz []] [] := Gl.trans (Gl.nil sz (.cons .hit .nil) (WkB.refl _ _ _)) (Gl.drop (List.nil_sublist _))
theorem ge_row {α : Type} {f : α → List D} {sz b e c cap : Nat} (hsz : ∀ x, (f x).length = sz) {L : List Bx} {l : List α} (i : Nat) (hi : L[i]? = some (Bx.mk b (l.map f).flatten (.row e sz cap))) : Ge (.ret (.sl b 0 l.length c)) L (.ret (.row sz (l.map f))) [] := ⟨trivial, gl_row hsz i hi⟩
theorem ge_nil {sz : Nat} {L : List Bx} : Ge (.ret .nil) L (.ret (.row sz [])) [] := ⟨trivial, gl_nil⟩
theorem Vl.small {v : Vl} (h : Smalls v.cs) : (-9223372036854775808 ≤ v.sort ∧ v.sort ≤ 9223372036854775807) ∧ (-9223372036854775808 ≤ v.n ∧ v.n ≤ 9223372036854775807) ∧ v.s.length ≤ 9223372036854775807 := by
  unfold Vl.cs at h
  rw [Smalls, Smalls, Smalls, Smalls, Small, Small, Small] at h
  obtain ⟨h1, h2, _, h4, _⟩ := h
  rw [Small, List.length_map] at h4
  simp only [Okv, loN, hiN] at h1 h2
  exact ⟨by omega, by omega, h4.1⟩
theorem Vl.small_d {v : Vl} (h : Small v.d) : Smalls v.cs := by rw [Vl.d, Small] at h; exact h
theorem Nv.small {x : Nv} (h : Smalls x.cs) : x.nm.size ≤ 9223372036854775807 ∧ Smalls x.v.cs := by
  unfold Nv.cs at h
  rw [Smalls, Small] at h
  exact ⟨h.1, h.2⟩
theorem Wd.small {w : Wd} (h : Small w.d) : (-9223372036854775808 ≤ w.nodes ∧ w.nodes ≤ 9223372036854775807) ∧ w.names.length ≤ 9223372036854775807 ∧ ∀ x ∈ w.names, Smalls x.cs := by
  rw [Wd.d, Small] at h
  unfold Wd.cs at h
  rw [Smalls, Smalls, Small, Small, List.length_map] at h
  obtain ⟨h1, ⟨h2, h3⟩, _⟩ := h
  simp only [Okv, loN, hiN] at h1
  exact ⟨by omega, h2, fun x hx => smallr_mem h3 _ (List.mem_map_of_mem hx)⟩
end Go.V
