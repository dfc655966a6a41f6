/- What Norm makes has the names of the term. -/
import Derived.Test.YtlonmopppgadgaaDoorN1
import Derived.Test.YtlonmopppgadgaaDoorP1
set_option linter.unusedVariables false
namespace Go.V
theorem coll_mk (op : Int) (a : List Tm) : collT (mk op a) = collL a := by unfold mk; rw [collT, if_pos rfl]; rfl
theorem coll_le (x y : Tm) : collT (leT x y) = collT x ++ collT y := by
  show collT (mk 22 [x, y]) = _
  rw [coll_mk, collL, collL, collL, List.append_nil]
theorem coll_empty (x : Tm) : collT (emptyT x) = collT x := by
  unfold emptyT
  rw [coll_le, show Tm.mk 3 ⟨#[]⟩ 0 [x] = mk 3 [x] from rfl, show Tm.mk 1 ⟨#[]⟩ 0 [] = mk 1 [] from rfl, coll_mk, coll_mk, collL, collL]
  simp [collL]
theorem mk_a (op : Int) (a : List Tm) : (mk op a).a = a := rfl
theorem Tm.mk_a' (op : Int) (nm : ByteArray) (n : Int) (a : List Tm) : (Tm.mk op nm n a).a = a := rfl
theorem coll_plain (op : Int) (x y : Tm) (h1 : 23 ≤ op) (h2 : op ≤ 28) : ∀ no z, z ∈ collT (normT (mk op [x, y]) no) ↔ z ∈ collT x ∨ z ∈ collT y := by
  intro no z
  have hop : op = 23 ∨ op = 24 ∨ op = 25 ∨ op = 26 ∨ op = 27 ∨ op = 28 := by omega
  have e : mk op [x, y] = Tm.mk op ⟨#[]⟩ 0 [x, y] := rfl
  rcases hop with rfl | rfl | rfl | rfl | rfl | rfl <;> rw [e, normT] <;>
    simp only [Int.reduceEq, if_false, or_self, if_true] <;>
    cases no <;>
    simp [plainT, Tm.at, mk_a, Tm.mk_a', Tm.op, coll_mk, coll_le, coll_empty, collL] <;> grind
theorem norm_coll (t : Tm) : rightT t 4 = true → ∀ no z, z ∈ collT (normT t no) ↔ z ∈ collT t := by
  induction t using Tm.ind' with
  | h t ih =>
    intro h
    revert ih
    refine bool_cases (P := fun t => (∀ x ∈ t.a, rightT x 4 = true → ∀ no z, z ∈ collT (normT x no) ↔ z ∈ collT x) → ∀ no z, z ∈ collT (normT t no) ↔ z ∈ collT t) h ?_ ?_ ?_ ?_ ?_ ?_ ?_
    · intro nm n a _ no z
      rw [normT_15]
      cases no
      · exact Iff.rfl
      · show z ∈ collT (mk 18 [_]) ↔ _
        rw [coll_mk, collL, collL, List.append_nil]
    · intro op ho _ no z
      rw [normT_16 ho, coll_mk, coll_mk]
    · intro x hx ih no z
      rw [normT_not, ih x (by simp [mk, Tm.a]) hx, coll_mk, collL, collL, List.append_nil]
    · intro op a ho hx ih no z
      rw [normT_19 ho, coll_mk, coll_mk, collL_mem, collL_mem]
      constructor
      · rintro ⟨u, hu, hz⟩
        obtain ⟨x, hx', rfl⟩ := List.mem_map.1 hu
        exact ⟨x, hx', (ih x hx' (hx x hx') _ _).1 hz⟩
      · rintro ⟨x, hx', hz⟩
        exact ⟨_, List.mem_map.2 ⟨x, hx', rfl⟩, (ih x hx' (hx x hx') _ _).2 hz⟩
    · intro x y hx hy ih no z
      rw [normT_21, coll_mk, coll_mk, collL_mem, collL_mem]
      simp only [List.mem_cons, List.not_mem_nil, or_false, exists_eq_or_imp, exists_eq_left]
      rw [ih x (by simp [mk, Tm.a]) hx, ih y (by simp [mk, Tm.a]) hy]
    · intro x y _ no z
      rw [normT_le]
      cases no
      · exact Iff.rfl
      · show z ∈ collT (mk 18 [_]) ↔ _
        rw [coll_mk, collL, collL, List.append_nil]
    · intro op x y h1 h2 _ no z
      rw [coll_plain op x y h1 h2, coll_mk, collL, collL, collL]
      simp
end Go.V
