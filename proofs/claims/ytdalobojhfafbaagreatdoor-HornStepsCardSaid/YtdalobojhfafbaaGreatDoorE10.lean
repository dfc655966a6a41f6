/- own and Get, their answers in own rows. -/
import Derived.Test.YtdalobojhfafbaaGreatDoorM15
import Derived.Test.YtdalobojhfafbaaGreatDoorW8
set_option maxRecDepth 100000
set_option linter.unusedVariables false
namespace Go.V
inductive NoRow : D → Prop
  | val (v : Value) : NoRow (.val v)
  | agg {l : List D} (h : ∀ d ∈ l, NoRow d) : NoRow (.agg l)
  | tuple {l : List D} (h : ∀ d ∈ l, NoRow d) : NoRow (.tuple l)
theorem reps_flat {F F' : Nat → Prop} {w : World} : ∀ {l : List D} {vs : List Value}, (∀ d ∈ l, ∀ v, Rep F w d v → Rep F' w d v) → Reps F w l vs → Reps F' w l vs
  | [], vs, _, h => by rw [Reps] at h ⊢; exact h
  | d :: l, vs, hh, h => by
    rw [Reps] at h ⊢
    obtain ⟨v, r, rfl, h1, h2⟩ := h
    exact ⟨v, r, rfl, hh d (by simp) v h1, reps_flat (fun e he => hh e (by simp [he])) h2⟩
theorem NoRow.rep {F F' : Nat → Prop} {w : World} {d : D} (h : NoRow d) : ∀ v, Rep F w d v → Rep F' w d v := by
  induction h with
  | val v => intro u hr; rw [Rep] at hr ⊢; exact hr
  | agg h ih => intro u hr; rw [Rep] at hr ⊢; obtain ⟨vs, rfl, hr⟩ := hr; exact ⟨vs, rfl, reps_flat ih hr⟩
  | tuple h ih => intro u hr; rw [Rep] at hr ⊢; obtain ⟨vs, rfl, hr⟩ := hr; exact ⟨vs, rfl, reps_flat ih hr⟩
theorem ASpec.borrow {P : Program} {g : FuncId} {args args' : List D} {L : List Bx} {R : AE → List Bx → Prop} (h : ASpec P g args' [] R) (hg : Gl args L args' [])
    (hf : ∀ a L', R a L' → (∃ d, a = .ret d ∧ NoRow d) ∧ ∀ x ∈ L', (∀ d ∈ x.l, NoRow d) ∧ ∀ es, x.k ≠ .map es) : ASpec P g args L fun a L' => ∃ L2, L' = L2 ++ L ∧ R a L2 := by
  intro F w vs a hr
  obtain ⟨F1, e1, a1, r1⟩ := hg F w vs a hr
  refine (h F1 w vs a1 r1).mono ?_
  rintro e w' ⟨ae, F2, L2, h1, h2, h3, h4⟩
  obtain ⟨⟨d, rfl, hd⟩, hL⟩ := hf _ _ h4
  have no : ∀ k : Nat, ∀ x ∈ ([] : List Bx), x.b ≠ k := fun k x hx => by cases hx
  have keep : Keeps F w F w' := ⟨h1.size, fun _ _ h => h, fun k hk _ => h1.block k hk (no k)⟩
  have fresh : ∀ x ∈ L2, w.heap.size ≤ x.b := fun x hx => by
    rcases Nat.lt_or_ge x.b w.heap.size with hlt | hge
    · obtain ⟨y, hy, _⟩ := h1.own x hx hlt
      cases hy
    · exact hge
  have old : ∀ x ∈ L, x.b < w.heap.size := fun x hx => (a.own x hx).lt
  refine ⟨.ret d, F, L2 ++ L, ⟨h1.os, h1.tape, h1.output, h1.size, fun k hk _ => h1.block k hk (no k), fun _ h => h, fun _ _ h => .inl h, fun x hx hlt => ?_, h1.drawn⟩,
    ⟨fun x hx => ?_, ?_, fun x hx => ?_, fun b hb => Nat.lt_of_lt_of_le (a.lt b hb) h1.size⟩, ?_, L2, rfl, h4⟩
  · rcases List.mem_append.1 hx with hx | hx
    · exact absurd (fresh x hx) (by omega)
    · exact ⟨x, hx, rfl⟩
  · rcases List.mem_append.1 hx with hx | hx
    · obtain ⟨c, t, us, b1, b2, b3, b4⟩ := (h2.own x hx).row (hL x hx).2
      exact ⟨.inr ⟨c, t, us, b1, reps_flat (fun e he v hv => ((hL x hx).1 e he).rep v hv) b2, b3, b4⟩⟩
    · exact (a.own x hx).keep keep (h1.block x.b (old x hx) (no _))
  · rw [List.map_append, List.nodup_append]
    refine ⟨h2.nodup, a.nodup, fun p hp q hq => ?_⟩
    obtain ⟨x, hx, rfl⟩ := List.mem_map.1 hp
    obtain ⟨y, hy, rfl⟩ := List.mem_map.1 hq
    have := fresh x hx
    have := old y hy
    omega
  · rcases List.mem_append.1 hx with hx | hx
    · intro hF
      have := fresh x hx
      have := a.lt _ hF
      omega
    · exact a.sep x hx
  · obtain ⟨u, rfl, h5⟩ := h3
    exact ⟨u, rfl, hd.rep u h5⟩
def Vl.os (v : Vl) (b c : Nat) : List D := [.i v.sort, .i v.n, .b v.b, .sl b 0 v.s.length c]
structure SetR (sd : D) (x : Bx) (s : List Bool) : Prop where
  one : sd.one = true
  plain : NoRow sd
  cells : ∀ d ∈ x.l, NoRow d
  kind : ∀ es, x.k ≠ .map es
  shape : (sd = .nil ∧ s = []) ∨ ∃ b e c cap, sd = .sl b 0 s.length c ∧ x = ⟨b, (s.map bc).flatten, .row e 1 cap⟩
  fz : ∀ {ds ds' : List D} {L1 L2 : List Bx}, WkL sd (.row 1 (s.map bc)) ds ds' → WkB sd (.row 1 (s.map bc)) L1 L2 → Gl ds (x :: L1) ds' L2
end Go.V
namespace Go.Proofs.YtdalobojhfafbaaGreatDoor
open Go Go.V
theorem clone_own {s : List Bool} (hne : s ≠ []) (hl : s.length ≤ 140737488355328) : ASpec pr 49 [.row 1 (s.map bc)] [] fun a L' => ∃ b c, a = .ret (.sl b 0 s.length c) ∧ L' = [⟨b, (s.map bc).flatten, .row 4 1 c⟩] := by
  refine ASpec.sub (s49 ?_)
  unfold A49
  refine a_eqSn (fun h => absurd (List.map_eq_nil_iff.1 h) hne) ?_
  refine a_cndbF rfl ?_
  refine a_bldO [] rfl rfl fun z1 => ?_
  refine a_app 0 [] s.length (s.map bc).flatten rfl rfl ⟨rfl, by rw [List.length_map], rfl⟩ (flat_one bc_one s) (by omega) fun b' c' => ?_
  rw [Nat.zero_add]
  exact ⟨_, List.Sublist.refl _, b', c', rfl, rfl⟩
theorem own_own (v : Vl) (hne : v.s ≠ []) (hl : v.s.length ≤ 140737488355328) : ASpec pr 54 [v.d] [] fun a L' => ∃ b c, a = .ret (.agg (v.os b c)) ∧ L' = [⟨b, (v.s.map bc).flatten, .row 4 1 c⟩] := by
  refine ASpec.sub (s54 ?_)
  unfold A54
  refine a_bxv fun z1 => ?_
  refine a_bx fun z2 => ?_
  refine a_fld ?_
  refine a_ld1 1 rfl rfl ?_
  refine a_callF (M := [⟨z2, [.i 0, .i 0, .b false, .nil], .box⟩, ⟨z1, v.cs, .box⟩]) (L1 := []) (List.Perm.refl _) (clone_own hne hl) ?_
  rintro a L' ⟨b, c, rfl, rfl⟩
  simp only [AE.on, List.cons_append, List.nil_append]
  (refine a_fld ?_; (apply a_st 2 _; exact rfl; exact rfl; exact rfl; exact rfl; (try dsimp only [afill, aparts, cl, chunk, List.take, List.drop, List.nil_append, List.cons_append, List.append_nil, List.length_cons, List.length_nil, Nat.zero_add, Nat.reduceAdd, Nat.reduceMul]); try exact rfl); (apply a_ldA 2; exact rfl; exact rfl); refine a_stA 1 rfl rfl rfl rfl ?_; (apply a_ldA 1; exact rfl; exact rfl))
  exact ⟨_, .cons_cons _ (List.nil_sublist _), b, c, rfl, rfl⟩
end Go.Proofs.YtdalobojhfafbaaGreatDoor
