/- Steps of what runs: what a done step changes. -/
import Derived.Test.YtdalobojhfafbaaGreatDoorM33
set_option linter.unusedVariables false
namespace Go.V
open Go
section
variable {p : Pr} {n : Int} {S T : Sm} {x : Stp}
theorem doubled (hS : SOk p n S) (hk : x.kind = 2) (e : doesF S x = some T) : T.l.length = S.l.length + 1 ∧ T.w = S.w := by
  unfold doesF at e
  rw [if_neg (by omega), if_pos hk] at e
  obtain ⟨_, h1, h2, _⟩ := Double_ok hS e
  exact ⟨by rw [h2, List.length_append]; rfl, h1⟩
theorem dropped (hS : SOk p n S) (hk : x.kind = 3) (e : doesF S x = some T) : T.l.length + 1 = S.l.length ∧ T.w = S.w := by
  unfold doesF at e
  rw [if_neg (by omega), if_neg (by omega), if_pos hk] at e
  obtain ⟨_, h1, h2, h3⟩ := Drop_ok hS e
  refine ⟨?_, h1⟩
  have := (there_is h3).2.1
  rw [h2, List.length_eraseIdx_of_lt this]; omega
theorem names_at {w u : Wd} (hw : rightW w = true) (hu : rightW u = true) (hk : w.names.map keyN = u.names.map keyN) {k : Nat} (h1 : k < w.names.length) (h2 : k < u.names.length) : w.names[k].nm = u.names[k].nm ∧ ((∀ s, getF w.names w.names[k].nm s = getF u.names w.names[k].nm s) → w.names[k].v = u.names[k].v) := by
  have e : keyN w.names[k] = keyN u.names[k] := by
    have := congrArg (fun l => l[k]?) hk
    simp only [List.getElem?_map, List.getElem?_eq_getElem h1, List.getElem?_eq_getElem h2, Option.map_some] at this
    exact Option.some.inj this
  unfold keyN at e
  injection e with e1 e2
  refine ⟨e1, fun h => ?_⟩
  have g1 := world_own hw (List.getElem_mem h1)
  have g2 := world_own hu (List.getElem_mem h2)
  rw [h, e1, e2, g2] at g1
  exact (Option.some.inj g1).symm
theorem timed (hp : PrOk p) (hS : SOk p n S) (hk : 4 ≤ x.kind) (e : doesF S x = some T) : ∃ (i : Nat) (hi : i < p.hs.length), x.i = i ∧ T.l.length = S.l.length + p.hs[i].send.length ∧
    ∀ k (h1 : k < T.w.names.length) (h2 : k < S.w.names.length), (∀ y ∈ p.hs[i].dos, y.nm ≠ T.w.names[k].nm) → (∀ s ∈ p.hs[i].send, s ≠ T.w.names[k].nm) → T.w.names[k].v = S.w.names[k].v := by
  unfold doesF at e
  rw [if_neg (by omega), if_neg (by omega), if_neg (by omega)] at e
  split at e
  · obtain ⟨h0, hi, _, _, _, _, _, hD⟩ := Timer_ok hp hS e
    refine ⟨x.i.toNat, hi, h0, by rw [hD.pend, List.length_append, List.length_map], fun k h1 h2 hd hs => ?_⟩
    exact (names_at hD.ok.w.right hS.w.right (by rw [hD.ok.w.keys, hS.w.keys]) h1 h2).2 fun s => hD.same _ s hd hs
  · cases e
end
end Go.V
