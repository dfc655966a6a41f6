/- Rows that grow, of whatever has so many cells; calls among own blocks; blocks told in another order, or in part. -/
import Derived.Test.YtdalobojhfafbaaGreatDoorT1
import Derived.DeepKeys5
import Derived.StringKeys
set_option linter.unusedSectionVars false
set_option linter.unusedVariables false
namespace Go.V
open Go
section
variable {P : Program} {F F' : Nat → Prop} {w w' : World} {L L' L1 M : List Bx} {g : FuncId} {args : List D} {ds ds' : List D} {kp k : D → List Bx → Prop}
theorem Gl.perm (h : L.Perm L') : Gl ds L ds L' := fun F w vs a hr => ⟨F, (Ev.refl F L w).perm (List.Perm.refl _) h, a.perm h, hr⟩
theorem a_callM {R : AE → List Bx → Prop} (M : List Bx) (hL : L = M ++ L1) (h : ASpec P g args L1 R) (hk : ∀ a L', R a L' → a.on kp k (M ++ L')) : acallW P g args L kp k := by
  subst hL
  refine a_callW (R := fun a L2 => ∃ L', L2 = M ++ L' ∧ R a L') ?_ ?_
  · exact (h.frame (L1 := M ++ L1) (M := M) List.perm_append_comm).permOut fun a L' ⟨L2, h1, h2⟩ => ⟨M ++ L2, by rw [h1]; exact List.perm_append_comm, L2, rfl, h2⟩
  · rintro a L2 ⟨L', rfl, h2⟩
    exact hk a L' h2
theorem Gl.cut (i : Nat) {b e sz cap n : Nat} {l : List D} (hi : L[i]? = some (Bx.mk b l (.row e sz cap))) (hl : n * sz ≤ l.length) : Gl ds L ds (L.set i ⟨b, l.take (n * sz), .row e sz cap⟩) := by
  intro F w vs a hr
  have hil : i < L.length := (List.getElem?_eq_some_iff.1 hi).1
  have hm := List.mem_of_getElem? hi
  have bs : (L.set i ⟨b, l.take (n * sz), .row e sz cap⟩).map Bx.b = L.map Bx.b := by
    rw [List.map_set]
    apply List.ext_getElem?
    intro j
    rw [List.getElem?_set]
    split
    · next h =>
      subst h
      rw [List.getElem?_map, hi, if_pos (by simpa using hil)]; rfl
    · rfl
  have hmem : ∀ x ∈ L.set i ⟨b, l.take (n * sz), .row e sz cap⟩, x ∈ L ∨ x = ⟨b, l.take (n * sz), .row e sz cap⟩ := fun x hx => (List.mem_or_eq_of_mem_set hx)
  have hown : ∀ x ∈ L.set i ⟨b, l.take (n * sz), .row e sz cap⟩, ∃ y ∈ L, y.b = x.b := fun x hx => by
    rcases hmem x hx with h | rfl
    · exact ⟨x, h, rfl⟩
    · exact ⟨_, hm, rfl⟩
  refine ⟨F, ⟨rfl, rfl, rfl, Nat.le_refl _, fun _ _ _ => rfl, fun _ h => h, fun _ _ h => .inl h, fun x hx _ => hown x hx, Nat.le_refl _⟩, ⟨?_, by rw [bs]; exact a.nodup, ?_, a.lt⟩, hr⟩
  · intro x hx
    rcases hmem x hx with h | rfl
    · exact a.own x h
    · obtain ⟨c, t, us, h1, h2, h3, h4⟩ := (a.own _ hm).row (fun _ hh => by cases hh)
      simp only at h1 h2 h3 h4
      have hlen : (l.take (n * sz)).length = n * sz := by rw [List.length_take]; omega
      refine ⟨.inr ⟨c, t, us.take (n * sz), h1, h2.take _, ?_, ?_⟩⟩
      · simp only [hlen]
        rw [h3, List.take_take]; congr 1; omega
      · obtain ⟨q1, q2, q3, q4⟩ := h4
        exact ⟨q1, q2, q3, n, hlen⟩
  · intro x hx hf
    obtain ⟨y, hy, he⟩ := hown x hx
    exact a.sep y hy (he ▸ hf)
end
section
variable {α : Type}
def gv (b c : Nat) : List α → D
  | [] => .nil
  | _ :: l => .sl b 0 (l.length + 1) c
def gb (cs : α → List D) (e sz b c : Nat) : List α → List Bx
  | [] => []
  | x :: l => [⟨b, ((x :: l).map cs).flatten, .row e sz c⟩]
variable {cs : α → List D} {sz : Nat} (hsz : ∀ x, (cs x).length = sz) (h1 : ∀ x, (cs x).all D.one = true)
include hsz in
theorem flat_len (l : List α) : (l.map cs).flatten.length = l.length * sz := by
  induction l with
  | nil => simp
  | cons x r ih => rw [List.map_cons, List.flatten_cons, List.length_append, ih, hsz, List.length_cons, Nat.succ_mul]; omega
include h1 in
theorem flat_one (l : List α) : (l.map cs).flatten.all D.one = true := by
  induction l with
  | nil => rfl
  | cons x r ih => rw [List.map_cons, List.flatten_cons, List.all_append, h1, ih]; rfl
include hsz in
theorem chunk_flat (l : List α) : chunk sz l.length (l.map cs).flatten = l.map cs := by
  induction l with
  | nil => rfl
  | cons x r ih =>
    rw [List.map_cons, List.flatten_cons, List.length_cons, chunk, List.take_left' (hsz x), List.drop_left' (hsz x), ih]
include hsz in
theorem flat_at (l : List α) (i : Nat) (hi : i < l.length) : (((l.map cs).flatten).drop (i * sz)).take sz = cs l[i] := by
  induction l generalizing i with
  | nil => exact absurd hi (Nat.not_lt_zero _)
  | cons x r ih =>
    rw [List.map_cons, List.flatten_cons]
    cases i with
    | zero => rw [Nat.zero_mul, List.drop_zero, List.take_left' (hsz x)]; rfl
    | succ i =>
      rw [Nat.succ_mul, Nat.add_comm (i * sz) sz, List.drop_append, hsz x, List.drop_eq_nil_of_le (by rw [hsz]; omega), List.nil_append, show sz + i * sz - sz = i * sz by omega]
      exact ih i (by simpa using hi)
include hsz in
theorem flat_take (l : List α) (n : Nat) : ((l.map cs).flatten).take (n * sz) = ((l.take n).map cs).flatten := by
  induction l generalizing n with
  | nil => simp
  | cons x r ih =>
    cases n with
    | zero => simp
    | succ n =>
      rw [List.map_cons, List.flatten_cons, Nat.succ_mul, Nat.add_comm, List.take_append, hsz x, List.take_of_length_le (by rw [hsz]; omega), show sz + n * sz - sz = n * sz by omega, ih, List.take_succ_cons, List.map_cons, List.flatten_cons]
include hsz in
theorem flat_drop' (l : List α) (n : Nat) : ((l.map cs).flatten).drop (n * sz) = ((l.drop n).map cs).flatten := by
  induction l generalizing n with
  | nil => simp
  | cons x r ih =>
    cases n with
    | zero => simp
    | succ n =>
      rw [List.map_cons, List.flatten_cons, Nat.succ_mul, Nat.add_comm, List.drop_append, hsz x, List.drop_eq_nil_of_le (by rw [hsz]; omega), List.nil_append, show sz + n * sz - sz = n * sz by omega, ih, List.drop_succ_cons]
include hsz in
theorem flat_set (l : List α) (i : Nat) (hi : i < l.length) (y : α) : ((l.map cs).flatten).take (i * sz) ++ cs y ++ ((l.map cs).flatten).drop (i * sz + sz) = ((l.set i y).map cs).flatten := by
  rw [flat_take hsz, show i * sz + sz = (i + 1) * sz by rw [Nat.succ_mul], flat_drop' hsz, List.set_eq_take_append_cons_drop, if_pos hi, List.map_append, List.flatten_append, List.map_cons, List.flatten_cons, List.append_assoc]
variable {L : List Bx} {kl : D → List Bx → Prop} {k : D → Prop} {ks : List Bx → Prop} {e b c bytes : Nat}
include hsz in
theorem rowG_src {x : α} : asrc sz (.row sz [cs x]) L 1 (cs x) := ⟨rfl, rfl, by simp⟩
include hsz h1 in
theorem a_appG0 {x : α} (hb : bytes ≤ 140737488355328) (h : ∀ b c, kl (gv b c [x]) (⟨b, ([x].map cs).flatten, .row e sz c⟩ :: L)) : aapp e sz bytes .nil (.row sz [cs x]) L kl := by
  refine V.a_app0 1 (cs x) (rowG_src hsz) (h1 x) (by omega) (by omega) fun b c => ?_
  have := h b c
  simp only [List.map_cons, List.map_nil, List.flatten_cons, List.flatten_nil, List.append_nil] at this
  exact this
include hsz h1 in
theorem a_appG1 {x y : α} {l : List α} (i : Nat) (hi : L[i]? = some ⟨b, ((y :: l).map cs).flatten, .row e sz c⟩) (hb : (l.length + 2) * bytes ≤ 140737488355328)
    (h : ∀ b' c', kl (gv b' c' (y :: l ++ [x])) (L.set i ⟨b', ((y :: l ++ [x]).map cs).flatten, .row e sz c'⟩)) : aapp e sz bytes (gv b c (y :: l)) (.row sz [cs x]) L kl := by
  refine V.a_app i _ 1 (cs x) hi (by rw [flat_len hsz]; rfl) (rowG_src hsz) (h1 x) hb fun b' c' => ?_
  have := h b' c'
  have e1 : ((y :: l ++ [x]).map cs).flatten = ((y :: l).map cs).flatten ++ cs x := by
    rw [List.map_append, List.flatten_append]; simp
  rw [e1] at this
  have e2 : gv b' c' (y :: l ++ [x]) = .sl b' 0 (l.length + 1 + 1) c' := by
    show D.sl b' 0 ((l ++ [x]).length + 1) c' = _
    rw [List.length_append]; rfl
  rw [e2] at this
  exact this
include hsz in
theorem a_ldG {l : List α} (i j : Nat) (hi : L[i]? = some ⟨b, (l.map cs).flatten, .row e sz c⟩) (hj : j < l.length) (h : k (.agg (cs l[j]))) : aldN sz (.p b (0 + j * sz)) L k :=
  V.a_ldN i (cs l[j]) hi (by rw [Nat.zero_add]; exact flat_at hsz l j hj) (hsz _) h
include hsz h1 in
theorem a_stG {l : List α} {y : α} (i j : Nat) (hi : L[i]? = some ⟨b, (l.map cs).flatten, .row e sz c⟩) (hj : j < l.length) (h : ks (L.set i ⟨b, ((l.set j y).map cs).flatten, .row e sz c⟩)) : ast sz (.p b (0 + j * sz)) (.agg (cs y)) L ks :=
  V.a_st i _ hi (hsz y) (h1 y) (Nat.ble_eq_true_of_le (by
    rw [flat_len hsz, Nat.zero_add]
    have := Nat.mul_le_mul_right sz (show j + 1 ≤ l.length from hj)
    rw [Nat.succ_mul] at this
    exact this)) (by rw [Nat.zero_add]; exact flat_set hsz l j hj y) h
theorem a_lenG {l : List α} (h : k (.i l.length)) : alenL (gv b c l) k := by
  cases l with
  | nil => exact h
  | cons x l => exact h
end
theorem wkL_map {h r : D} {α : Type} {f f' : α → List D} (hf : ∀ x, WkL h r (f x) (f' x)) : ∀ l : List α, WkL h r (l.map f).flatten (l.map f').flatten
  | [] => .nil
  | x :: l => by
    rw [List.map_cons, List.map_cons, List.flatten_cons, List.flatten_cons]
    have app : ∀ {a a' b b' : List D}, WkL h r a a' → WkL h r b b' → WkL h r (a ++ b) (a' ++ b') := by
      intro a a' b b' h1 h2
      induction a generalizing a' with
      | nil => cases h1; exact h2
      | cons d a ih => cases h1 with | cons q t => exact .cons q (ih t)
    exact app (hf x) (wkL_map hf l)
end Go.V
set_option linter.unusedVariables false
namespace Go.V
open Go
section
variable {α : Type} {cs : α → List D} {sz e b c bytes : Nat} {kl : D → List Bx → Prop} {L0 M N : List Bx} {l r : List α}
theorem flat_asrcG (r : List α) {L : List Bx} : asrc sz (.row sz (r.map cs)) L r.length (r.map cs).flatten := ⟨rfl, by rw [List.length_map], rfl⟩
theorem a_appAll (hsz : ∀ x, (cs x).length = sz) (h1 : ∀ x, (cs x).all D.one = true) (hb : (l.length + r.length) * bytes ≤ 140737488355328) (hL : L0 = M ++ gb cs e sz b c l ++ N)
    (h : ∀ b' c' L', L'.Perm (M ++ gb cs e sz b' c' (l ++ r) ++ N) → kl (gv b' c' (l ++ r)) L') : aapp e sz bytes (gv b c l) (.row sz (r.map cs)) L0 kl := by
  subst hL
  cases l with
  | nil =>
    cases r with
    | nil => exact a_app00 ⟨rfl, rfl, rfl⟩ (h b c _ (List.Perm.refl _))
    | cons x r =>
      show aapp e sz bytes .nil _ (M ++ [] ++ N) kl
      rw [List.append_nil]
      refine a_app0 (x :: r).length _ (flat_asrcG (x :: r)) (flat_one h1 _) (by simpa using hb) (by simp) fun b' c' => h b' c' _ ?_
      rw [List.append_assoc]
      exact List.perm_middle.symm
  | cons z l =>
    have ei : (M ++ gb cs e sz b c (z :: l) ++ N)[M.length]? = some ⟨b, ((z :: l).map cs).flatten, .row e sz c⟩ := by
      rw [List.append_assoc, List.getElem?_append_right (Nat.le_refl _), Nat.sub_self]; rfl
    refine V.a_app M.length _ r.length (r.map cs).flatten ei (by rw [flat_len hsz]; rfl) (flat_asrcG r) (flat_one h1 _) (by simpa using hb) fun b' c' => ?_
    have e1 : ((z :: l ++ r).map cs).flatten = ((z :: l).map cs).flatten ++ (r.map cs).flatten := by
      rw [List.map_append, List.flatten_append]
    have es : (M ++ gb cs e sz b c (z :: l) ++ N).set M.length ⟨b', ((z :: l).map cs).flatten ++ (r.map cs).flatten, .row e sz c'⟩ = M ++ gb cs e sz b' c' (z :: l ++ r) ++ N := by
      rw [List.append_assoc, List.append_assoc, List.set_append_right _ _ (Nat.le_refl _), Nat.sub_self, ← e1]; rfl
    have e2 : gv b' c' (z :: l ++ r) = .sl b' 0 (l.length + 1 + r.length) c' := by
      show D.sl b' 0 ((l ++ r).length + 1) c' = _
      rw [List.length_append, show l.length + r.length + 1 = l.length + 1 + r.length by omega]
    rw [es, ← e2]; exact h b' c' _ (List.Perm.refl _)
theorem a_appH (hsz : ∀ x, (cs x).length = sz) (h1 : ∀ x, (cs x).all D.one = true) (hb : (l.length + r.length) * bytes ≤ 140737488355328)
    (h : ∀ b' c', kl (gv b' c' (l ++ r)) (gb cs e sz b' c' (l ++ r) ++ N)) : aapp e sz bytes (gv b c l) (.row sz (r.map cs)) (gb cs e sz b c l ++ N) kl := by
  cases l with
  | nil =>
    cases r with
    | nil => exact a_app00 ⟨rfl, rfl, rfl⟩ (h b c)
    | cons x r => exact a_app0 (x :: r).length _ (flat_asrcG (x :: r)) (flat_one h1 _) (by simpa using hb) (by simp) fun b' c' => h b' c'
  | cons z l =>
    refine V.a_app 0 _ r.length (r.map cs).flatten rfl (by rw [flat_len hsz]; rfl) (flat_asrcG r) (flat_one h1 _) (by simpa using hb) fun b' c' => ?_
    have e1 : ((z :: l ++ r).map cs).flatten = ((z :: l).map cs).flatten ++ (r.map cs).flatten := by
      rw [List.map_append, List.flatten_append]
    have e2 : gv b' c' (z :: l ++ r) = .sl b' 0 (l.length + 1 + r.length) c' := by
      show D.sl b' 0 ((l ++ r).length + 1) c' = _
      rw [List.length_append, show l.length + r.length + 1 = l.length + 1 + r.length by omega]
    rw [← e2]
    show kl _ (⟨b', ((z :: l).map cs).flatten ++ (r.map cs).flatten, .row e sz c'⟩ :: N)
    rw [← e1]
    exact h b' c'
theorem a_appH1 {x : α} (hsz : ∀ x, (cs x).length = sz) (h1 : ∀ x, (cs x).all D.one = true) (hb : (l.length + 1) * bytes ≤ 140737488355328)
    (h : ∀ b' c', kl (gv b' c' (l ++ [x])) (gb cs e sz b' c' (l ++ [x]) ++ N)) : aapp e sz bytes (gv b c l) (.row sz [cs x]) (gb cs e sz b c l ++ N) kl :=
  a_appH (r := [x]) hsz h1 hb h
theorem a_appOne {x : α} (hsz : ∀ x, (cs x).length = sz) (h1 : ∀ x, (cs x).all D.one = true) (hb : (l.length + 1) * bytes ≤ 140737488355328) (hL : L0 = M ++ gb cs e sz b c l ++ N)
    (h : ∀ b' c' L', L'.Perm (M ++ gb cs e sz b' c' (l ++ [x]) ++ N) → kl (gv b' c' (l ++ [x])) L') : aapp e sz bytes (gv b c l) (.row sz [cs x]) L0 kl :=
  a_appAll (r := [x]) hsz h1 hb hL h
theorem perm_pull {P A B : List Bx} : (P ++ (A ++ B)).Perm (A ++ (P ++ B)) := by
  rw [← List.append_assoc, ← List.append_assoc]
  exact List.Perm.append_right _ List.perm_append_comm
theorem gl_gvR (hsz : ∀ x, (cs x).length = sz) {ds ds' : List D} {L : List Bx} (hd : WkL (gv b c l) (.row sz (l.map cs)) ds ds') : Gl ds (gb cs e sz b c l ++ L) ds' L := by
  cases l with
  | nil => exact Gl.nil sz hd (WkB.refl _ _ _)
  | cons y l =>
    refine Gl.fz (n := l.length + 1) (c := c) 0 rfl (flat_len hsz (y :: l)) ?_ ?_
    · rw [show l.length + 1 = (y :: l).length from rfl, chunk_flat hsz]; exact hd
    · exact WkB.refl _ _ _
theorem gl_gvB (hsz : ∀ x, (cs x).length = sz) {ds ds' : List D} {L L' : List Bx} (hd : WkL (gv b c l) (.row sz (l.map cs)) ds ds') (hL : WkB (gv b c l) (.row sz (l.map cs)) L L') : Gl ds (gb cs e sz b c l ++ L) ds' L' := by
  cases l with
  | nil => exact Gl.nil sz hd hL
  | cons y l =>
    refine Gl.fz (n := l.length + 1) (c := c) 0 rfl (flat_len hsz (y :: l)) ?_ ?_
    · rw [show l.length + 1 = (y :: l).length from rfl, chunk_flat hsz]; exact hd
    · rw [show l.length + 1 = (y :: l).length from rfl, chunk_flat hsz]; exact hL
theorem gl_gv0 (hsz : ∀ x, (cs x).length = sz) {ds ds' : List D} (hd : WkL (gv b c l) (.row sz (l.map cs)) ds ds') : Gl ds (gb cs e sz b c l) ds' [] := by
  have := gl_gvB (L := []) (L' := []) (e := e) hsz hd .nil
  rwa [List.append_nil] at this
theorem ge_gvR (hsz : ∀ x, (cs x).length = sz) {L : List Bx} (hL : L.Perm (M ++ gb cs e sz b c l ++ N)) : Ge (.ret (gv b c l)) L (.ret (.row sz (l.map cs))) [] :=
  ⟨trivial, Gl.trans (Gl.perm hL) (Gl.trans (Gl.drop (L' := gb cs e sz b c l ++ N) (by rw [List.append_assoc]; exact List.sublist_append_right _ _)) (Gl.trans (gl_gvR (ds' := [.row sz (l.map cs)]) hsz (.cons .hit .nil)) (Gl.drop (List.nil_sublist _))))⟩
end
section
variable {A N : List Bx} {k : D → Prop} {ks : List Bx → Prop}
theorem right_at {i : Nat} {x : Bx} (h : N[i]? = some x) : (A ++ N)[A.length + i]? = some x := by
  rw [List.getElem?_append_right (by omega), Nat.add_sub_cancel_left]; exact h
theorem a_ldr1 {l : List D} {kd : Kd} {d : D} {b o : Nat} (i : Nat) (hi : N[i]? = some (Bx.mk b l kd)) (hd : l[o]? = some d) (h : k d) : ald1 (.p b o) (A ++ N) k := ⟨_, l, kd, d, right_at hi, hd, h⟩
theorem a_ldrN {n b o : Nat} {l : List D} {kd : Kd} (i : Nat) (m : List D) (hi : N[i]? = some (Bx.mk b l kd)) (hm : (l.drop o).take n = m) (hn : m.length = n) (h : k (.agg m)) : aldN n (.p b o) (A ++ N) k := ⟨_, l, kd, m, right_at hi, hm, hn, h⟩
theorem a_ldrA {n b : Nat} {l : List D} {kd : Kd} (i : Nat) (hi : N[i]? = some (Bx.mk b l kd)) (hn : l.length = n) (h : k (.agg l)) : aldN n (.p b 0) (A ++ N) k :=
  ⟨_, l, kd, l, right_at hi, by rw [List.drop_zero]; exact List.take_of_length_le (Nat.le_of_eq hn), hn, h⟩
theorem a_str {n b o : Nat} {l : List D} {v : D} {kd : Kd} (i : Nat) (m : List D) (hi : N[i]? = some (Bx.mk b l kd)) (hv : (cl v).length = n) (ho : (cl v).all D.one = true) (hl : Nat.ble (o + n) l.length = true) (hm : l.take o ++ cl v ++ l.drop (o + n) = m)
    (h : ks (A ++ N.set i ⟨b, m, kd⟩)) : ast n (.p b o) v (A ++ N) ks :=
  ⟨_, l, kd, m, right_at hi, hv, ho, Nat.le_of_ble_eq_true hl, hm, by rw [List.set_append_right _ _ (by omega), Nat.add_sub_cancel_left]; exact h⟩
theorem a_strA {n b : Nat} {l m : List D} {kd : Kd} (i : Nat) (hi : N[i]? = some (Bx.mk b l kd)) (hl : l.length = n) (hm : m.length = n) (ho : m.all D.one = true) (h : ks (A ++ N.set i ⟨b, m, kd⟩)) : ast n (.p b 0) (.agg m) (A ++ N) ks :=
  a_str i m hi hm ho (Nat.ble_eq_true_of_le (by omega)) (by show l.take 0 ++ m ++ l.drop (0 + n) = m; rw [List.take_zero, List.nil_append, List.drop_eq_nil_of_le (by omega), List.append_nil]) h
theorem a_c1 {x : Bx} {b o : Nat} {L : List Bx} (h : ald1 (.p b o) L k) : ald1 (.p b o) (x :: L) k := by
  obtain ⟨i, l, kd, d, h1, h2, h3⟩ := h
  exact ⟨i + 1, l, kd, d, h1, h2, h3⟩
theorem a_cN {x : Bx} {n b o : Nat} {L : List Bx} (h : aldN n (.p b o) L k) : aldN n (.p b o) (x :: L) k := by
  obtain ⟨i, l, kd, m, h1, h2, h3, h4⟩ := h
  exact ⟨i + 1, l, kd, m, h1, h2, h3, h4⟩
theorem a_cS {x : Bx} {n b o : Nat} {v : D} {L : List Bx} (h : ast n (.p b o) v L fun L' => ks (x :: L')) : ast n (.p b o) v (x :: L) ks := by
  obtain ⟨i, l, kd, m, h1, h2, h3, h4, h5, h6⟩ := h
  exact ⟨i + 1, l, kd, m, h1, h2, h3, h4, h5, h6⟩
end
end Go.V
set_option linter.unusedVariables false
namespace Go.V
open Go
structure Vl where
  sort : Int
  n : Int
  b : Bool
  s : List Bool
def bc (x : Bool) : List D := [.b x]
def Vl.cs (v : Vl) : List D := [.i v.sort, .i v.n, .b v.b, .row 1 (v.s.map bc)]
abbrev Vl.d (v : Vl) : D := .agg v.cs
structure Nv where
  nm : ByteArray
  v : Vl
def Nv.cs (x : Nv) : List D := [.s x.nm, .i x.v.sort, .i x.v.n, .b x.v.b, .row 1 (x.v.s.map bc)]
structure Wd where
  nodes : Int
  names : List Nv
def Wd.cs (w : Wd) : List D := [.i w.nodes, .row 5 (w.names.map Nv.cs)]
abbrev Wd.d (w : Wd) : D := .agg w.cs
def vz : Vl := ⟨0, 0, false, []⟩
theorem bc_len (x : Bool) : (bc x).length = 1 := rfl
theorem bc_one (x : Bool) : (bc x).all D.one = true := rfl
theorem Nv.cs_len (x : Nv) : x.cs.length = 5 := rfl
theorem Nv.cs_one (x : Nv) : x.cs.all D.one = true := rfl
theorem map_at {α : Type} {f : α → List D} {l : List α} {i : Nat} (h : i < l.length) : (l.map f)[i]? = some (f l[i]) := by
  rw [List.getElem?_map, List.getElem?_eq_getElem h]; rfl
section
variable {k : D → Prop}
theorem a_lenM {α : Type} {sz : Nat} {f : α → List D} {l : List α} (h : k (.i l.length)) : alenL (.row sz (l.map f)) k := by
  show k (.i (l.map f).length); rw [List.length_map]; exact h
theorem a_idxM {α : Type} {sz : Nat} {f : α → List D} {l : List α} {ki : IntKind} (i : Nat) (hi : i < l.length) (h : k (.pin (f l[i]))) : aidxS sz (.row sz (l.map f)) (.val (.int ki i)) k := V.a_idx i _ (map_at hi) h
theorem a_idxMz {α : Type} {sz : Nat} {f : α → List D} {l : List α} {ki : IntKind} {j : Int} (i : Nat) (hj : j = i) (hi : i < l.length) (h : k (.pin (f l[i]))) : aidxS sz (.row sz (l.map f)) (.val (.int ki j)) k := by subst hj; exact a_idxM i hi h
theorem a_bldV {z : List D} {ps : List (Nat × Nat × D)} {a b : Int} {c : Bool} {s : List Bool} (hs : asizes ps = true) (hl : afill z (aparts ps) = [.i a, .i b, .b c, .row 1 (s.map bc)]) (h : k (.agg (Vl.mk a b c s).cs)) : abld z ps k := V.a_bld _ hs hl h
theorem a_bldV0 {z : List D} {ps : List (Nat × Nat × D)} {a b : Int} {c : Bool} (hs : asizes ps = true) (hl : afill z (aparts ps) = [.i a, .i b, .b c, .nil]) (h : k (.agg (Vl.mk a b c []).cs)) : abld z ps k :=
  V.a_bldW _ [.i a, .i b, .b c, .row 1 []] hs hl (.same (.same (.same (.nil (.refl _))))) h
theorem a_bldW0 {z : List D} {ps : List (Nat × Nat × D)} {a : Int} (hs : asizes ps = true) (hl : afill z (aparts ps) = [.i a, .nil]) (h : k (.agg (Wd.mk a []).cs)) : abld z ps k :=
  V.a_bldW _ [.i a, .row 5 []] hs hl (.same (.nil (.refl _))) h
theorem a_bldWd {z : List D} {ps : List (Nat × Nat × D)} {a : Int} {l : List Nv} (hs : asizes ps = true) (hl : afill z (aparts ps) = [.i a, .row 5 (l.map Nv.cs)]) (h : k (.agg (Wd.mk a l).cs)) : abld z ps k := V.a_bld _ hs hl h
theorem a_bldNv {z : List D} {ps : List (Nat × Nat × D)} {nm : ByteArray} {a b : Int} {c : Bool} {s : List Bool} (hs : asizes ps = true) (hl : afill z (aparts ps) = [.s nm, .i a, .i b, .b c, .row 1 (s.map bc)]) (h : k (.agg (Nv.mk nm ⟨a, b, c, s⟩).cs)) : abld z ps k := V.a_bld _ hs hl h
theorem a_rowN1 {z : List D} {x : Nv} (hz : z.length = 5) (h : k (.row 5 ([x].map Nv.cs))) : abldF 5 1 z [(0, 5, .agg x.cs)] k := by
  refine V.a_bldF _ rfl ?_ h
  match z, hz with
  | [_, _, _, _, _], _ => rfl
section
variable {L : List Bx} {kl : D → List Bx → Prop} {e : Nat}
theorem a_rowNS1 {z : List D} {x : Nv} (hz : z.length = 5) (h : kl (.row 5 ([x].map Nv.cs)) L) : abldS e 5 1 z [(0, 5, .agg x.cs)] L kl := .inl (a_rowN1 hz h)
end
theorem a_eqSn {sz : Nat} {l : List (List D)} (h1 : l = [] → k (.b true)) (h2 : k (.b false)) : aeqS false .eql (.row sz l) .nil k := by
  cases l with
  | nil => exact ⟨h1 rfl, h2⟩
  | cons x l => exact h2
end
theorem a_callR {P : Program} {g : FuncId} {args : List D} {L : List Bx} {kp k : D → List Bx → Prop} {d : D} (h : AFn P g args L (.ret d)) (hk : k d L) : acallW P g args L kp k := V.a_call h hk
theorem a_callSR {P : Program} {g : FuncId} {args : List D} {L : List Bx} {kp k : D → List Bx → Prop} {d : D} (h : AFn P g args L (.ret d)) (hk : k d L) : acallS P g args L kp k := V.a_callS h hk
theorem a_callP {P : Program} {g : FuncId} {args : List D} {L : List Bx} {kp k : D → List Bx → Prop} {d : D} (h : AFn P g args [] (.pan d)) (hk : kp d L) : acallW P g args L kp k := V.a_call (ae := .pan d) h.frame hk
theorem a_callSP {P : Program} {g : FuncId} {args : List D} {L : List Bx} {kp k : D → List Bx → Prop} {d : D} (h : AFn P g args [] (.pan d)) (hk : kp d L) : acallS P g args L kp k := V.a_callS (ae := .pan d) h.frame hk
theorem AFn.frameM {P : Program} {g : FuncId} {args : List D} {Lc : List Bx} {a : AE} (M : List Bx) (h : AFn P g args Lc a) : AFn P g args (M ++ Lc) a :=
  (ASpec.frame (L1 := M ++ Lc) (M := M) h List.perm_append_comm).permOut fun a' L' ⟨L2, h1, h2, h3⟩ => ⟨M ++ Lc, by rw [h1, h3]; exact List.perm_append_comm, h2, rfl⟩
theorem AFn.frameL {P : Program} {g : FuncId} {args : List D} {Lc : List Bx} {a : AE} (M : List Bx) (h : AFn P g args Lc a) : AFn P g args (Lc ++ M) a :=
  (ASpec.frame (L1 := Lc ++ M) (M := M) h (List.Perm.refl _)).mono fun a' L' ⟨L2, h1, h2, h3⟩ => ⟨h2, by rw [h1, h3]⟩
theorem a_stB {L : List Bx} {ks : List Bx → Prop} {b e c : Nat} {l : List Bool} {y : Bool} (i j : Nat) (hi : L[i]? = some (Bx.mk b (l.map bc).flatten (.row e 1 c))) (hj : j < l.length) (h : ks (L.set i ⟨b, ((l.set j y).map bc).flatten, .row e 1 c⟩)) : ast 1 (.p b (0 + j * 1)) (.b y) L ks := by
  refine V.a_st i _ hi rfl rfl (Nat.ble_eq_true_of_le ?_) ?_ h
  · rw [flat_len bc_len]; omega
  · rw [Nat.zero_add]
    exact flat_set bc_len l j hj y
theorem ge_fz {α : Type} {f : α → List D} {sz b e c cap : Nat} (hsz : ∀ x, (f x).length = sz) {d d' : D} {L M : List Bx} {l : List α} (i : Nat) (hi : L[i]? = some (Bx.mk b (l.map f).flatten (.row e sz cap))) (hd : Wk (.sl b 0 l.length c) (.row sz (l.map f)) d d') (hM : M.Sublist (L.eraseIdx i)) : Ge (.ret d) L (.ret d') M := by
  refine ⟨trivial, Gl.trans (Gl.fz (n := l.length) (c := c) (ds' := [d']) i hi (flat_len hsz l) ?_ (WkB.refl _ _ _)) (Gl.drop hM)⟩
  rw [chunk_flat hsz]
  exact .cons hd .nil
theorem gl_row {α : Type} {f : α → List D} {sz b e c cap : Nat} (hsz : ∀ x, (f x).length = sz) {L : List Bx} {l : List α} (i : Nat) (hi : L[i]? = some (Bx.mk b (l.map f).flatten (.row e sz cap))) : Gl [.sl b 0 l.length c] L [.row sz (l.map f)] [] := by
  refine Gl.trans (Gl.fz (n := l.length) (c := c) (ds' := [.row sz (l.map f)]) i hi (flat_len hsz l) ?_ (WkB.refl _ _ _)) (Gl.drop (List.nil_sublist _))
  rw [chunk_flat hsz]
  exact .cons .hit .nil
theorem gl_nil {sz : Nat} {L : List Bx} : Gl [.nil] L [.row sz []] [] := Gl.trans (Gl.nil sz (.cons .hit .nil) (WkB.refl _ _ _)) (Gl.drop (List.nil_sublist _))
theorem ge_row {α : Type} {f : α → List D} {sz b e c cap : Nat} (hsz : ∀ x, (f x).length = sz) {L : List Bx} {l : List α} (i : Nat) (hi : L[i]? = some (Bx.mk b (l.map f).flatten (.row e sz cap))) : Ge (.ret (.sl b 0 l.length c)) L (.ret (.row sz (l.map f))) [] := ⟨trivial, gl_row hsz i hi⟩
theorem ge_nil {sz : Nat} {L : List Bx} : Ge (.ret .nil) L (.ret (.row sz [])) [] := ⟨trivial, gl_nil⟩
theorem Vl.small {v : Vl} (h : Smalls v.cs) : (-9223372036854775808 ≤ v.sort ∧ v.sort ≤ 9223372036854775807) ∧ (-9223372036854775808 ≤ v.n ∧ v.n ≤ 9223372036854775807) ∧ v.s.length ≤ 9223372036854775807 := by
  unfold Vl.cs at h
  rw [Smalls, Smalls, Smalls, Smalls, Small, Small, Small] at h
  obtain ⟨h1, h2, _, h4, _⟩ := h
  rw [Small, List.length_map] at h4
  simp only [Okv, loN, hiN] at h1 h2
  exact ⟨by omega, by omega, h4.1⟩
theorem Vl.small_d {v : Vl} (h : Small v.d) : Smalls v.cs := by rw [Vl.d, Small] at h; exact h
theorem Nv.small {x : Nv} (h : Smalls x.cs) : x.nm.size ≤ 9223372036854775807 ∧ Smalls x.v.cs := by
  unfold Nv.cs at h
  rw [Smalls, Small] at h
  exact ⟨h.1, h.2⟩
theorem Wd.small {w : Wd} (h : Small w.d) : (-9223372036854775808 ≤ w.nodes ∧ w.nodes ≤ 9223372036854775807) ∧ w.names.length ≤ 9223372036854775807 ∧ ∀ x ∈ w.names, Smalls x.cs := by
  rw [Wd.d, Small] at h
  unfold Wd.cs at h
  rw [Smalls, Smalls, Small, Small, List.length_map] at h
  obtain ⟨h1, ⟨h2, h3⟩, _⟩ := h
  simp only [Okv, loN, hiN] at h1
  exact ⟨by omega, h2, fun x hx => smallr_mem h3 _ (List.mem_map_of_mem hx)⟩
end Go.V
set_option linter.unusedVariables false
namespace Go.V
open Go Go.WideShapes Go.ChangeShapes
theorem mapKey_of {P : Program} {k : TypeId} (K : WideMaps.KeyLaw P k) : MapKey P k (fun v => ∃ l, keyOf P k v = some l) :=
  ⟨fun w em _ ⟨_, h⟩ => K.check w em h, fun w _ ⟨_, h⟩ es hes => K.find w h es hes, fun w _ ⟨_, h⟩ => K.stays w h⟩
theorem MapKey.sub {P : Program} {k : TypeId} {K K' : Value → Prop} (h : MapKey P k K) (hk : ∀ v, K' v → K v) : MapKey P k K' :=
  ⟨fun w em v hv => h.check w em v (hk v hv), fun w x hx es hes => h.find w x (hk x hx) es fun e he => hk _ (hes e he), fun w v hv => h.stays w v (hk v hv)⟩
def pairV (s : ByteArray) (n : Int) : Value := .agg #[.string s, .int .i64 n]
theorem pairV_inj {s s' : ByteArray} {n n' : Int} (h : pairV s n = pairV s' n') : s = s' ∧ n = n' := by
  unfold pairV at h
  injection h with h
  have h0 := congrArg Array.toList h
  simp only [List.cons.injEq, Value.string.injEq, Value.int.injEq, and_true, true_and] at h0
  exact h0
def PairK (v : Value) : Prop := ∃ s n, v = pairV s n ∧ s.size ≤ 9223372036854775807 ∧ -9223372036854775808 ≤ n ∧ n ≤ 9223372036854775807
def StrK (v : Value) : Prop := ∃ s, v = .string s ∧ s.size ≤ 9223372036854775807
theorem mapKey_str {P : Program} {k : TypeId} (hu : P.underlying k = some .string) : MapKey P k StrK :=
  (mapKey_of (WideMaps.string_law hu)).sub fun v ⟨s, h, hs⟩ => h ▸ ⟨_, WideMaps.keyOf_string_mk hu hs⟩
theorem mapKey_pair {P : Program} {k : TypeId} {fs : Array Field} {a b : Field} (hl : laidOutB P = true) (hsmall : P.types.size + 2 ≤ 10000) (hrow : k < P.types.size) (hk : P.keyType k = true)
    (hu : P.underlying k = some (.struct fs)) (hfs : fs = #[a, b]) (ha : P.underlying a.type = some .string) (hb : P.underlying b.type = some (.int .i64)) (ho : a.offset = 0) (ho' : b.offset = 1)
    (hc : P.cellsOf k = 2) (hca : P.cellsOf a.type = 1) (hcb : P.cellsOf b.type = 1) (hn : (a.name != "_") = true) (hn' : (b.name != "_") = true) : MapKey P k PairK := by
  refine (mapKey_of (deep_law_gate hl hsmall hrow hk (by rw [hu]))).sub ?_
  rintro v ⟨s, n, rfl, h1, h2, h3⟩
  subst hfs
  obtain ⟨m, hm⟩ : ∃ m, P.types.size = m + 1 := ⟨P.types.size - 1, (Nat.succ_pred_eq_of_pos (Nat.lt_of_le_of_lt (Nat.zero_le _) hrow)).symm⟩
  have hf : (pairV s n).formed P k = true := by simp [pairV, Value.formed, hu, hc]
  have hw : (Lit.int .i64 n).wf = true := by
    simp [Lit.wf, IntKind.min, IntKind.max, IntKind.signed, IntKind.bits]
    omega
  unfold keyOf
  rw [hu]
  simp only [hk, hf, Bool.and_self, if_true]
  have : P.keyLits (P.types.size + 1) k (pairV s n).cells.toList = some [.string s.data.toList, .int .i64 n] := by
    rw [hm]
    unfold Program.keyLits
    simp only [hu, pairV, Value.cells]
    rw [if_pos (by simp [hc]; exact ⟨by simpa using hn, by simpa using hn'⟩)]
    have e1 : P.keyLits (m + 1) a.type [.string s] = some [.string s.data.toList] := by
      unfold Program.keyLits
      simp only [ha]
      rw [if_pos (show s.size ≤ maxLen from h1)]
    have e2 : P.keyLits (m + 1) b.type [.int .i64 n] = some [.int .i64 n] := by
      unfold Program.keyLits
      simp only [hb]
      rw [if_pos (by simp [hw])]
    simp [ho, ho', hca, hcb, e1, e2]
  rw [this]
  exact ⟨_, rfl⟩
section
variable {P : Program} {kt : TypeId} {L : List Bx} {k : D → Prop} {kl : List Bx → Prop} {b : Nat} {es : List (Value × D)} {K : Value → Prop}
theorem a_lkT {ok : Bool} {z i d : D} {key : Value} (j : Nat) (hj : L[j]? = some (Bx.mk b [] (.map es))) (mk : MapKey P kt K) (hes : ∀ e ∈ es, K e.1) (hi : dkv i = some key) (hk : K key) (hd : (key, d) ∈ es) (h : k (aresOk ok d true)) : alkM P kt ok z (.val (.map (some b))) i L k :=
  ⟨j, es, K, key, hj, mk, hes, hi, hk, .inl ⟨d, hd, h⟩⟩
theorem a_lkF {ok : Bool} {z i : D} {key : Value} (j : Nat) (hj : L[j]? = some (Bx.mk b [] (.map es))) (mk : MapKey P kt K) (hes : ∀ e ∈ es, K e.1) (hi : dkv i = some key) (hk : K key) (hd : ∀ e ∈ es, e.1 ≠ key) (h : k (aresOk ok z false)) : alkM P kt ok z (.val (.map (some b))) i L k :=
  ⟨j, es, K, key, hj, mk, hes, hi, hk, .inr ⟨hd, h⟩⟩
theorem a_upN {i v : D} {key : Value} (j : Nat) (hj : L[j]? = some (Bx.mk b [] (.map es))) (mk : MapKey P kt K) (hes : ∀ e ∈ es, K e.1) (hi : dkv i = some key) (hk : K key) (hd : ∀ e ∈ es, e.1 ≠ key) (h : kl (L.set j ⟨b, [], .map (es ++ [(key, v)])⟩)) : aupM P kt (.val (.map (some b))) i v L kl :=
  ⟨j, es, K, key, hj, mk, hes, hi, hk, .inl ⟨hd, h⟩⟩
theorem a_upO {i v d : D} {key : Value} (j m : Nat) (hj : L[j]? = some (Bx.mk b [] (.map es))) (mk : MapKey P kt K) (hes : ∀ e ∈ es, K e.1) (hi : dkv i = some key) (hk : K key) (hd : es[m]? = some (key, d)) (h : kl (L.set j ⟨b, [], .map (es.set m (key, v))⟩)) : aupM P kt (.val (.map (some b))) i v L kl :=
  ⟨j, es, K, key, hj, mk, hes, hi, hk, .inr ⟨m, d, hd, h⟩⟩
theorem dkv_pair (s : ByteArray) (n : Int) : dkv (.agg [.s s, .i n]) = some (pairV s n) := by
  rw [dkv, dkvs, dkvs, dkvs, dkv, dkv]; rfl
end
end Go.V
