/- The contract of subst.Fresh. -/
import Derived.Test.YtaigilchnadmpaaGreatDoorC25
set_option maxRecDepth 100000
set_option linter.unusedVariables false
namespace Go.V
open Go
theorem name_len {l : List UInt8} (h : nameF l = true) : l.length ≤ 16 := by
  obtain ⟨_, _, _, h, _⟩ := name_iff.1 h
  exact h
theorem str_list (l : List UInt8) : (str l).data.toList = l := by simp [str]
theorem take_min (l : List UInt8) (n : Nat) : l.take (min l.length n) = l.take n := by rw [Nat.min_comm, ← List.take_take, List.take_length]
theorem free_any (t : Tm) (s : List UInt8) : freeF t (str s) = (NamesF t).any fun x => decide (x.1 = s) := by
  unfold freeF
  congr 1
  funext x
  by_cases h : x.1 = s
  · rw [decide_eq_true h, decide_eq_true (by rw [h])]
  · rw [decide_eq_false h, decide_eq_false (fun hh => h (str_inj hh))]
theorem taken_snoc (ts : List Tm) (i : Nat) (hi : i < ts.length) (s : List UInt8) : takenF (ts.take (i + 1)) s = (takenF (ts.take i) s || (NamesF ts[i]).any fun x => decide (x.1 = s)) := by
  unfold takenF
  rw [List.take_succ_eq_append_getElem hi, List.any_append, ← free_any]
  simp
end Go.V
namespace Go.Proofs.YtaigilchnadmpaaGreatDoor
open Go Go.V
theorem mapStr : MapKey pr 9 StrK := mapKey_str (by kernel_rfl)
theorem c19 (ts : List Tm) (l : List UInt8) : AFn pr 19 [.row 4 (Tm.rows ts), .s (str l)] [] (.ret (.s (str (freshL ts l)))) := by
  refine AFn.small fun hsm => AFn.of (s19 ?_)
  rw [Smalls, Small, Tm.rows_len] at hsm
  have hl := hsm.1.1
  unfold A19
  have hname : AFn pr 44 [.s (str l)] [] (.ret (.b (nameF l))) := by have := c44 (s := str l); rwa [str_list] at this
  refine a_jn1 [.s (str (baseL l))] [] ?_ fun J hJ => ?_
  · dsimp only [aix0, aix1, aix2, aix3, aix4, aix5, aix6, aix7, aix8]
    unfold freshL
    have hb := name_len (base_name l)
    have hbn := base_name l
    generalize baseL l = bl at hb hbn ⊢
    (refine a_mkM fun z1 => ?_; refine Tm.a_len ?_)
    refine a_lp (σ := Nat × List (Value × D)) (fun x => [.i x.1]) (fun x => [⟨z1, [], .map x.2⟩]) (fun x => x.1 ≤ ts.length ∧ MapIs x.2 (takenF (ts.take x.1))) (fun x => ts.length - x.1) (0, []) (by first | exact Gl.refl _ _ | exact Gl.drop (by repeat (first | exact List.Sublist.refl _ | exact List.Sublist.slnil | apply List.Sublist.cons_cons | apply List.Sublist.cons))) ⟨Nat.zero_le _, mapIs_nil fun s => rfl⟩ ?_
    rintro ⟨i, es⟩ K ⟨hi, hm⟩ hK
    dsimp only at hi hm hK ⊢
    dsimp only [aix0, aix1, aix2, aix3, aix4, aix5, aix6, aix7, aix8]
    (refine a_lss ?_)
    refine a_cnd (fun q => ?_) (fun q => ?_)
    · have hlt : i < ts.length := by omega
      refine Tm.a_idx i hlt ?_
      ((apply a_ldAp; exact rfl); refine a_bx fun z2 => ?_; refine a_stA 0 rfl rfl rfl rfl ?_; (apply a_ldA 0; exact rfl; exact rfl); refine a_call0 (c59 _) ?_; refine a_lenM ?_)
      refine a_lp (σ := Nat × List (Value × D)) (fun x => [.i x.1]) (fun x => [⟨z2, ts[i].cs, .box⟩, ⟨z1, [], .map x.2⟩]) (fun x => x.1 ≤ (NamesF ts[i]).length ∧ MapIs x.2 (fun s => takenF (ts.take i) s || ((NamesF ts[i]).take x.1).any fun y => decide (y.1 = s))) (fun x => (NamesF ts[i]).length - x.1) (0, es) (by first | exact Gl.refl _ _ | exact Gl.drop (by repeat (first | exact List.Sublist.refl _ | exact List.Sublist.slnil | apply List.Sublist.cons_cons | apply List.Sublist.cons))) ⟨Nat.zero_le _, by simpa using hm⟩ ?_
      rintro ⟨j, es2⟩ K2 ⟨hj, hm2⟩ hK2
      dsimp only at hj hm2 hK2 ⊢
      dsimp only [aix0, aix1, aix2, aix3, aix4, aix5, aix6, aix7, aix8]
      have hlen := namesF_len ts[i]
      (refine a_lss ?_)
      refine a_cnd (fun q2 => ?_) (fun q2 => ?_)
      · have hlt2 : j < (NamesF ts[i]).length := by omega
        refine a_idxM j hlt2 ?_
        ((apply a_ldAp; exact rfl); refine a_bx fun z3 => ?_; refine a_stA 0 rfl rfl rfl rfl ?_; refine a_fld ?_; (apply a_ld1 0; exact rfl; exact rfl))
        have hxn := name_len (namesF_right ts[i] (List.getElem_mem hlt2)).1
        have hq : ∀ s, (takenF (ts.take i) s || ((NamesF ts[i]).take (j + 1)).any fun y => decide (y.1 = s)) = ((takenF (ts.take i) s || ((NamesF ts[i]).take j).any fun y => decide (y.1 = s)) || decide ((NamesF ts[i])[j].1 = s)) := fun s => by
          rw [List.take_succ_eq_append_getElem hlt2, List.any_append, Bool.or_assoc]; simp
        have hK2' := hK2
        clear hK2
        rcases key_or es2 (.string (str (NamesF ts[i])[j].1)) with hno | ⟨m, d, hmm⟩
        · refine a_upN 2 rfl mapStr (fun e he => (hm2.1 e he).1) rfl ⟨_, rfl, by rw [str_size]; omega⟩ hno ?_
          (refine a_add (by first | omega | assumption | decide) (by first | omega | assumption | decide) ?_)
          exact hK2' (j + 1, _) _ _ ⟨by simp only; omega, mapIs_new hm2 (by omega) hq⟩ (by simp only; omega) (by first | exact Gl.refl _ _ | exact Gl.drop (by repeat (first | exact List.Sublist.refl _ | exact List.Sublist.slnil | apply List.Sublist.cons_cons | apply List.Sublist.cons)))
        · refine a_upO 2 m rfl mapStr (fun e he => (hm2.1 e he).1) rfl ⟨_, rfl, by rw [str_size]; omega⟩ hmm ?_
          (refine a_add (by first | omega | assumption | decide) (by first | omega | assumption | decide) ?_)
          exact hK2' (j + 1, _) _ _ ⟨by simp only; omega, mapIs_set hm2 hmm hq⟩ (by simp only; omega) (by first | exact Gl.refl _ _ | exact Gl.drop (by repeat (first | exact List.Sublist.refl _ | exact List.Sublist.slnil | apply List.Sublist.cons_cons | apply List.Sublist.cons)))
      · have hj' : j = (NamesF ts[i]).length := by omega
        subst hj'
        (refine a_add (by first | omega | assumption | decide) (by first | omega | assumption | decide) ?_)
        refine hK (i + 1, es2) _ _ ⟨by simp only; omega, ?_⟩ (by simp only; omega) (by first | exact Gl.refl _ _ | exact Gl.drop (by repeat (first | exact List.Sublist.refl _ | exact List.Sublist.slnil | apply List.Sublist.cons_cons | apply List.Sublist.cons)))
        simp only [List.take_length] at hm2
        have e : takenF (ts.take (i + 1)) = fun s => takenF (ts.take i) s || (NamesF ts[i]).any fun y => decide (y.1 = s) := funext fun s => taken_snoc ts i hlt s
        simp only [e]
        exact hm2
    · have hi' : i = ts.length := by omega
      subst hi'
      rw [List.take_length] at hm
      clear hK
      refine a_lkS 0 rfl mapStr hm (by omega) ?_
      generalize takenF ts = tk at hm ⊢
      (refine a_not ?_)
      refine a_cndb (fun q3 => ?_) (fun q3 => ?_)
      · rw [if_neg (by simpa using q3)]
      · rw [if_pos (by simpa using q3)]
        refine a_lp (σ := Nat × List UInt8) (fun x => [.s (str x.2), .i x.1]) (fun _ => [⟨z1, [], .map es⟩]) (fun x => x.1 ≤ 100 ∧ (x.1 = 100 → freshG tk bl 0 99 = x.2) ∧ (x.1 ≤ 99 → freshG tk bl 0 99 = freshG tk bl x.1 (99 - x.1))) (fun x => 100 - x.1) (0, []) (by first | exact Gl.refl _ _ | exact Gl.drop (by repeat (first | exact List.Sublist.refl _ | exact List.Sublist.slnil | apply List.Sublist.cons_cons | apply List.Sublist.cons))) ⟨Nat.zero_le _, fun h => by simp at h, fun _ => rfl⟩ ?_
        rintro ⟨k, nx⟩ K ⟨hk, hk1, hk2⟩ hK
        dsimp only at hk hk1 hk2 hK ⊢
        dsimp only [aix0, aix1, aix2, aix3, aix4, aix5, aix6, aix7, aix8]
        (refine a_lss ?_)
        refine a_cnd (fun q4 => ?_) (fun q4 => ?_)
        · have hk99 : k ≤ 99 := by omega
          have hk2 := hk2 hk99
          (refine a_lenStr ?_; refine a_min ?_)
          have em : (min (bl.length : Int) 13) = ((min bl.length 13 : Nat) : Int) := by omega
          rw [em]
          refine a_slcSt (min bl.length 13) (by omega) ?_
          rw [take_min]
          have ht := List.length_take_le 13 bl
          have hd := (digL_len k).1
          refine a_addS (b := [95]) (by simp only [List.length_singleton]; omega) ?_
          refine a_callS0 (c62 (by omega)) ?_
          refine a_addS (by simp only [List.length_append, List.length_singleton]; omega) ?_
          have et : bl.take 13 ++ [95] ++ digL k = tryL bl k := rfl
          rw [et]
          have hlen : (tryL bl k).length ≤ 16 := by rw [← et]; simp only [List.length_append, List.length_singleton]; omega
          refine a_lkS 0 rfl mapStr hm (by omega) ?_
          (refine a_not ?_)
          refine a_cndb (fun q5 => ?_) (fun q5 => ?_)
          · have q5 : tk (tryL bl k) = false := by simpa using q5
            have : freshG tk bl k (99 - k) = tryL bl k := by
              cases hn : 99 - k with
              | zero => rfl
              | succ n => rw [freshG, if_neg (by rw [q5]; simp)]
            rw [hk2, this]
          · have q5 : tk (tryL bl k) = true := by simpa using q5
            (refine a_add (by first | omega | assumption | decide) (by first | omega | assumption | decide) ?_)
            refine hK (k + 1, tryL bl k) _ _ ⟨by simp only; omega, fun h => ?_, fun h => ?_⟩ (by simp only; omega) (by first | exact Gl.refl _ _ | exact Gl.drop (by repeat (first | exact List.Sublist.refl _ | exact List.Sublist.slnil | apply List.Sublist.cons_cons | apply List.Sublist.cons)))
            · simp only at h
              rw [hk2, show 99 - k = 0 by omega]; rfl
            · simp only at h
              rw [hk2, show 99 - k = 99 - (k + 1) + 1 by omega, freshG, if_pos q5]
        · have hk100 : k = 100 := by omega
          skip
          rw [hk1 hk100]
  · (refine a_call0 (c44) ?_; refine a_not ?_)
    unfold baseL at hJ
    refine a_cndb (fun q => ?_) (fun q => ?_)
    · have q : nameF l = false := by rw [str_list] at q; simpa using q
      exact hJ _ _ (by rw [if_neg (by rw [q]; simp)]; exact (by first | exact Gl.refl _ _ | exact Gl.drop (by repeat (first | exact List.Sublist.refl _ | exact List.Sublist.slnil | apply List.Sublist.cons_cons | apply List.Sublist.cons))))
    · have q : nameF l = true := by rw [str_list] at q; simpa using q
      exact hJ _ _ (by rw [if_pos q]; exact (by first | exact Gl.refl _ _ | exact Gl.drop (by repeat (first | exact List.Sublist.refl _ | exact List.Sublist.slnil | apply List.Sublist.cons_cons | apply List.Sublist.cons))))
end Go.Proofs.YtaigilchnadmpaaGreatDoor
