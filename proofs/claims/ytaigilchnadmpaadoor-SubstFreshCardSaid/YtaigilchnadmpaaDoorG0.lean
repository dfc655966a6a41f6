/- Rows that grow, of whatever has so many cells; calls among own blocks; blocks told in another order, or in part. -/
import Derived.Test.YtaigilchnadmpaaDoorT1
set_option linter.unusedSectionVars false
set_option linter.unusedVariables false
namespace Go.V
open Go
section
variable {P : Program} {F F' : Nat → Prop} {w w' : World} {L L' L1 M : List Bx} {g : FuncId} {args : List D} {ds ds' : List D} {kp k : D → List Bx → Prop}
theorem Gl.perm (h : L.Perm L') : Gl ds L ds L' := fun F w vs a hr => ⟨F, (Ev.refl F L w).perm (List.Perm.refl _) h, a.perm h, hr⟩
/-- of one that asks for own blocks: they stand behind others, and stay there -/
theorem a_callM {R : AE → List Bx → Prop} (M : List Bx) (hL : L = M ++ L1) (h : ASpec P g args L1 R) (hk : ∀ a L', R a L' → a.on kp k (M ++ L')) : acallW P g args L kp k := by
  subst hL
  refine a_callW (R := fun a L2 => ∃ L', L2 = M ++ L' ∧ R a L') ?_ ?_
  · exact (h.frame (L1 := M ++ L1) (M := M) List.perm_append_comm).permOut fun a L' ⟨L2, h1, h2⟩ => ⟨M ++ L2, by rw [h1]; exact List.perm_append_comm, L2, rfl, h2⟩
  · rintro a L2 ⟨L', rfl, h2⟩
    exact hk a L' h2
/-- what a row holds behind so many is forgotten -/
theorem Gl.cut (i : Nat) {b e sz cap n : Nat} {l : List D} (hi : L[i]? = some (Bx.mk b l (.row e sz cap))) (hl : n * sz ≤ l.length) : Gl ds L ds (L.set i ⟨b, l.take (n * sz), .row e sz cap⟩) := by
  intro F w vs a hr
  have hil : i < L.length := (List.getElem?_eq_some_iff.1 hi).1
  have hm := List.mem_of_getElem? hi
  have bs : (L.set i ⟨b, l.take (n * sz), .row e sz cap⟩).map Bx.b = L.map Bx.b := by
    rw [List.map_set]
    apply List.ext_getElem?
    intro j
    rw [List.getElem?_set]
    split
    · next h =>
      subst h
      rw [List.getElem?_map, hi, if_pos (by simpa using hil)]; rfl
    · rfl
  have hmem : ∀ x ∈ L.set i ⟨b, l.take (n * sz), .row e sz cap⟩, x ∈ L ∨ x = ⟨b, l.take (n * sz), .row e sz cap⟩ := fun x hx => (List.mem_or_eq_of_mem_set hx)
  have hown : ∀ x ∈ L.set i ⟨b, l.take (n * sz), .row e sz cap⟩, ∃ y ∈ L, y.b = x.b := fun x hx => by
    rcases hmem x hx with h | rfl
    · exact ⟨x, h, rfl⟩
    · exact ⟨_, hm, rfl⟩
  refine ⟨F, ⟨rfl, rfl, rfl, Nat.le_refl _, fun _ _ _ => rfl, fun _ h => h, fun _ _ h => .inl h, fun x hx _ => hown x hx, Nat.le_refl _⟩, ⟨?_, by rw [bs]; exact a.nodup, ?_, a.lt⟩, hr⟩
  · intro x hx
    rcases hmem x hx with h | rfl
    · exact a.own x h
    · obtain ⟨c, t, us, h1, h2, h3, h4⟩ := (a.own _ hm).row (fun _ hh => by cases hh)
      simp only at h1 h2 h3 h4
      have hlen : (l.take (n * sz)).length = n * sz := by rw [List.length_take]; omega
      refine ⟨.inr ⟨c, t, us.take (n * sz), h1, h2.take _, ?_, ?_⟩⟩
      · simp only [hlen]
        rw [h3, List.take_take]; congr 1; omega
      · obtain ⟨q1, q2, q3, q4⟩ := h4
        exact ⟨q1, q2, q3, n, hlen⟩
  · intro x hx hf
    obtain ⟨y, hy, he⟩ := hown x hx
    exact a.sep y hy (he ▸ hf)
end
/-! ### rows that grow -/
section
variable {α : Type}
def gv (b c : Nat) : List α → D
  | [] => .nil
  | _ :: l => .sl b 0 (l.length + 1) c
def gb (cs : α → List D) (e sz b c : Nat) : List α → List Bx
  | [] => []
  | x :: l => [⟨b, ((x :: l).map cs).flatten, .row e sz c⟩]
variable {cs : α → List D} {sz : Nat} (hsz : ∀ x, (cs x).length = sz) (h1 : ∀ x, (cs x).all D.one = true)
include hsz in
theorem flat_len (l : List α) : (l.map cs).flatten.length = l.length * sz := by
  induction l with
  | nil => simp
  | cons x r ih => rw [List.map_cons, List.flatten_cons, List.length_append, ih, hsz, List.length_cons, Nat.succ_mul]; omega
include h1 in
theorem flat_one (l : List α) : (l.map cs).flatten.all D.one = true := by
  induction l with
  | nil => rfl
  | cons x r ih => rw [List.map_cons, List.flatten_cons, List.all_append, h1, ih]; rfl
include hsz in
theorem chunk_flat (l : List α) : chunk sz l.length (l.map cs).flatten = l.map cs := by
  induction l with
  | nil => rfl
  | cons x r ih =>
    rw [List.map_cons, List.flatten_cons, List.length_cons, chunk, List.take_left' (hsz x), List.drop_left' (hsz x), ih]
include hsz in
/-- one of a row's -/
theorem flat_at (l : List α) (i : Nat) (hi : i < l.length) : (((l.map cs).flatten).drop (i * sz)).take sz = cs l[i] := by
  induction l generalizing i with
  | nil => exact absurd hi (Nat.not_lt_zero _)
  | cons x r ih =>
    rw [List.map_cons, List.flatten_cons]
    cases i with
    | zero => rw [Nat.zero_mul, List.drop_zero, List.take_left' (hsz x)]; rfl
    | succ i =>
      rw [Nat.succ_mul, Nat.add_comm (i * sz) sz, List.drop_append, hsz x, List.drop_eq_nil_of_le (by rw [hsz]; omega), List.nil_append, show sz + i * sz - sz = i * sz by omega]
      exact ih i (by simpa using hi)
include hsz in
theorem flat_take (l : List α) (n : Nat) : ((l.map cs).flatten).take (n * sz) = ((l.take n).map cs).flatten := by
  induction l generalizing n with
  | nil => simp
  | cons x r ih =>
    cases n with
    | zero => simp
    | succ n =>
      rw [List.map_cons, List.flatten_cons, Nat.succ_mul, Nat.add_comm, List.take_append, hsz x, List.take_of_length_le (by rw [hsz]; omega), show sz + n * sz - sz = n * sz by omega, ih, List.take_succ_cons, List.map_cons, List.flatten_cons]
include hsz in
theorem flat_drop' (l : List α) (n : Nat) : ((l.map cs).flatten).drop (n * sz) = ((l.drop n).map cs).flatten := by
  induction l generalizing n with
  | nil => simp
  | cons x r ih =>
    cases n with
    | zero => simp
    | succ n =>
      rw [List.map_cons, List.flatten_cons, Nat.succ_mul, Nat.add_comm, List.drop_append, hsz x, List.drop_eq_nil_of_le (by rw [hsz]; omega), List.nil_append, show sz + n * sz - sz = n * sz by omega, ih, List.drop_succ_cons]
include hsz in
/-- one of a row's is written anew -/
theorem flat_set (l : List α) (i : Nat) (hi : i < l.length) (y : α) : ((l.map cs).flatten).take (i * sz) ++ cs y ++ ((l.map cs).flatten).drop (i * sz + sz) = ((l.set i y).map cs).flatten := by
  rw [flat_take hsz, show i * sz + sz = (i + 1) * sz by rw [Nat.succ_mul], flat_drop' hsz, List.set_eq_take_append_cons_drop, if_pos hi, List.map_append, List.flatten_append, List.map_cons, List.flatten_cons, List.append_assoc]
variable {L : List Bx} {kl : D → List Bx → Prop} {k : D → Prop} {ks : List Bx → Prop} {e b c bytes : Nat}
include hsz in
theorem rowG_src {x : α} : asrc sz (.row sz [cs x]) L 1 (cs x) := ⟨rfl, rfl, by simp⟩
include hsz h1 in
theorem a_appG0 {x : α} (hb : bytes ≤ 140737488355328) (h : ∀ b c, kl (gv b c [x]) (⟨b, ([x].map cs).flatten, .row e sz c⟩ :: L)) : aapp e sz bytes .nil (.row sz [cs x]) L kl := by
  refine V.a_app0 1 (cs x) (rowG_src hsz) (h1 x) (by omega) (by omega) fun b c => ?_
  have := h b c
  simp only [List.map_cons, List.map_nil, List.flatten_cons, List.flatten_nil, List.append_nil] at this
  exact this
include hsz h1 in
theorem a_appG1 {x y : α} {l : List α} (i : Nat) (hi : L[i]? = some ⟨b, ((y :: l).map cs).flatten, .row e sz c⟩) (hb : (l.length + 2) * bytes ≤ 140737488355328)
    (h : ∀ b' c', kl (gv b' c' (y :: l ++ [x])) (L.set i ⟨b', ((y :: l ++ [x]).map cs).flatten, .row e sz c'⟩)) : aapp e sz bytes (gv b c (y :: l)) (.row sz [cs x]) L kl := by
  refine V.a_app i _ 1 (cs x) hi (by rw [flat_len hsz]; rfl) (rowG_src hsz) (h1 x) hb fun b' c' => ?_
  have := h b' c'
  have e1 : ((y :: l ++ [x]).map cs).flatten = ((y :: l).map cs).flatten ++ cs x := by
    rw [List.map_append, List.flatten_append]; simp
  rw [e1] at this
  have e2 : gv b' c' (y :: l ++ [x]) = .sl b' 0 (l.length + 1 + 1) c' := by
    show D.sl b' 0 ((l ++ [x]).length + 1) c' = _
    rw [List.length_append]; rfl
  rw [e2] at this
  exact this
include hsz in
/-- one of an own row's is read -/
theorem a_ldG {l : List α} (i j : Nat) (hi : L[i]? = some ⟨b, (l.map cs).flatten, .row e sz c⟩) (hj : j < l.length) (h : k (.agg (cs l[j]))) : aldN sz (.p b (0 + j * sz)) L k :=
  V.a_ldN i (cs l[j]) hi (by rw [Nat.zero_add]; exact flat_at hsz l j hj) (hsz _) h
include hsz h1 in
/-- one of an own row's is written -/
theorem a_stG {l : List α} {y : α} (i j : Nat) (hi : L[i]? = some ⟨b, (l.map cs).flatten, .row e sz c⟩) (hj : j < l.length) (h : ks (L.set i ⟨b, ((l.set j y).map cs).flatten, .row e sz c⟩)) : ast sz (.p b (0 + j * sz)) (.agg (cs y)) L ks :=
  V.a_st i _ hi (hsz y) (h1 y) (Nat.ble_eq_true_of_le (by
    rw [flat_len hsz, Nat.zero_add]
    have := Nat.mul_le_mul_right sz (show j + 1 ≤ l.length from hj)
    rw [Nat.succ_mul] at this
    exact this)) (by rw [Nat.zero_add]; exact flat_set hsz l j hj y) h
theorem a_lenG {l : List α} (h : k (.i l.length)) : alenL (gv b c l) k := by
  cases l with
  | nil => exact h
  | cons x l => exact h
end
/-- the cells said so, where each is -/
theorem wkL_map {h r : D} {α : Type} {f f' : α → List D} (hf : ∀ x, WkL h r (f x) (f' x)) : ∀ l : List α, WkL h r (l.map f).flatten (l.map f').flatten
  | [] => .nil
  | x :: l => by
    rw [List.map_cons, List.map_cons, List.flatten_cons, List.flatten_cons]
    have app : ∀ {a a' b b' : List D}, WkL h r a a' → WkL h r b b' → WkL h r (a ++ b) (a' ++ b') := by
      intro a a' b b' h1 h2
      induction a generalizing a' with
      | nil => cases h1; exact h2
      | cons d a ih => cases h1 with | cons q t => exact .cons q (ih t)
    exact app (hf x) (wkL_map hf l)
end Go.V
