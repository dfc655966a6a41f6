/- Keys of maps: a string; a string and a whole number. -/
import Derived.Test.YtaigilchnadmpaaDoorT2
import Derived.DeepKeys5
import Derived.StringKeys
set_option linter.unusedVariables false
namespace Go.V
open Go Go.WideShapes Go.ChangeShapes
theorem mapKey_of {P : Program} {k : TypeId} (K : WideMaps.KeyLaw P k) : MapKey P k (fun v => ∃ l, keyOf P k v = some l) :=
  ⟨fun w em _ ⟨_, h⟩ => K.check w em h, fun w _ ⟨_, h⟩ es hes => K.find w h es hes, fun w _ ⟨_, h⟩ => K.stays w h⟩
theorem MapKey.sub {P : Program} {k : TypeId} {K K' : Value → Prop} (h : MapKey P k K) (hk : ∀ v, K' v → K v) : MapKey P k K' :=
  ⟨fun w em v hv => h.check w em v (hk v hv), fun w x hx es hes => h.find w x (hk x hx) es fun e he => hk _ (hes e he), fun w v hv => h.stays w v (hk v hv)⟩
def pairV (s : ByteArray) (n : Int) : Value := .agg #[.string s, .int .i64 n]
theorem pairV_inj {s s' : ByteArray} {n n' : Int} (h : pairV s n = pairV s' n') : s = s' ∧ n = n' := by
  unfold pairV at h
  injection h with h
  have h0 := congrArg Array.toList h
  simp only [List.cons.injEq, Value.string.injEq, Value.int.injEq, and_true, true_and] at h0
  exact h0
def PairK (v : Value) : Prop := ∃ s n, v = pairV s n ∧ s.size ≤ 9223372036854775807 ∧ -9223372036854775808 ≤ n ∧ n ≤ 9223372036854775807
def StrK (v : Value) : Prop := ∃ s, v = .string s ∧ s.size ≤ 9223372036854775807
theorem mapKey_str {P : Program} {k : TypeId} (hu : P.underlying k = some .string) : MapKey P k StrK :=
  (mapKey_of (WideMaps.string_law hu)).sub fun v ⟨s, h, hs⟩ => h ▸ ⟨_, WideMaps.keyOf_string_mk hu hs⟩
theorem mapKey_pair {P : Program} {k : TypeId} {fs : Array Field} {a b : Field} (hl : laidOutB P = true) (hsmall : P.types.size + 2 ≤ 10000) (hrow : k < P.types.size) (hk : P.keyType k = true)
    (hu : P.underlying k = some (.struct fs)) (hfs : fs = #[a, b]) (ha : P.underlying a.type = some .string) (hb : P.underlying b.type = some (.int .i64)) (ho : a.offset = 0) (ho' : b.offset = 1)
    (hc : P.cellsOf k = 2) (hca : P.cellsOf a.type = 1) (hcb : P.cellsOf b.type = 1) (hn : (a.name != "_") = true) (hn' : (b.name != "_") = true) : MapKey P k PairK := by
  refine (mapKey_of (deep_law_gate hl hsmall hrow hk (by rw [hu]))).sub ?_
  rintro v ⟨s, n, rfl, h1, h2, h3⟩
  subst hfs
  obtain ⟨m, hm⟩ : ∃ m, P.types.size = m + 1 := ⟨P.types.size - 1, (Nat.succ_pred_eq_of_pos (Nat.lt_of_le_of_lt (Nat.zero_le _) hrow)).symm⟩
  have hf : (pairV s n).formed P k = true := by simp [pairV, Value.formed, hu, hc]
  have hw : (Lit.int .i64 n).wf = true := by
    simp [Lit.wf, IntKind.min, IntKind.max, IntKind.signed, IntKind.bits]
    omega
  unfold keyOf
  rw [hu]
  simp only [hk, hf, Bool.and_self, if_true]
  have : P.keyLits (P.types.size + 1) k (pairV s n).cells.toList = some [.string s.data.toList, .int .i64 n] := by
    rw [hm]
    unfold Program.keyLits
    simp only [hu, pairV, Value.cells]
    rw [if_pos (by simp [hc]; exact ⟨by simpa using hn, by simpa using hn'⟩)]
    have e1 : P.keyLits (m + 1) a.type [.string s] = some [.string s.data.toList] := by
      unfold Program.keyLits
      simp only [ha]
      rw [if_pos (show s.size ≤ maxLen from h1)]
    have e2 : P.keyLits (m + 1) b.type [.int .i64 n] = some [.int .i64 n] := by
      unfold Program.keyLits
      simp only [hb]
      rw [if_pos (by simp [hw])]
    simp [ho, ho', hca, hcb, e1, e2]
  rw [this]
  exact ⟨_, rfl⟩
section
variable {P : Program} {kt : TypeId} {L : List Bx} {k : D → Prop} {kl : List Bx → Prop} {b : Nat} {es : List (Value × D)} {K : Value → Prop}
theorem a_lkT {ok : Bool} {z i d : D} {key : Value} (j : Nat) (hj : L[j]? = some (Bx.mk b [] (.map es))) (mk : MapKey P kt K) (hes : ∀ e ∈ es, K e.1) (hi : dkv i = some key) (hk : K key) (hd : (key, d) ∈ es) (h : k (aresOk ok d true)) : alkM P kt ok z (.val (.map (some b))) i L k :=
  ⟨j, es, K, key, hj, mk, hes, hi, hk, .inl ⟨d, hd, h⟩⟩
theorem a_lkF {ok : Bool} {z i : D} {key : Value} (j : Nat) (hj : L[j]? = some (Bx.mk b [] (.map es))) (mk : MapKey P kt K) (hes : ∀ e ∈ es, K e.1) (hi : dkv i = some key) (hk : K key) (hd : ∀ e ∈ es, e.1 ≠ key) (h : k (aresOk ok z false)) : alkM P kt ok z (.val (.map (some b))) i L k :=
  ⟨j, es, K, key, hj, mk, hes, hi, hk, .inr ⟨hd, h⟩⟩
theorem a_upN {i v : D} {key : Value} (j : Nat) (hj : L[j]? = some (Bx.mk b [] (.map es))) (mk : MapKey P kt K) (hes : ∀ e ∈ es, K e.1) (hi : dkv i = some key) (hk : K key) (hd : ∀ e ∈ es, e.1 ≠ key) (h : kl (L.set j ⟨b, [], .map (es ++ [(key, v)])⟩)) : aupM P kt (.val (.map (some b))) i v L kl :=
  ⟨j, es, K, key, hj, mk, hes, hi, hk, .inl ⟨hd, h⟩⟩
theorem a_upO {i v d : D} {key : Value} (j m : Nat) (hj : L[j]? = some (Bx.mk b [] (.map es))) (mk : MapKey P kt K) (hes : ∀ e ∈ es, K e.1) (hi : dkv i = some key) (hk : K key) (hd : es[m]? = some (key, d)) (h : kl (L.set j ⟨b, [], .map (es.set m (key, v))⟩)) : aupM P kt (.val (.map (some b))) i v L kl :=
  ⟨j, es, K, key, hj, mk, hes, hi, hk, .inr ⟨m, d, hd, h⟩⟩
theorem dkv_pair (s : ByteArray) (n : Int) : dkv (.agg [.s s, .i n]) = some (pairV s n) := by
  rw [dkv, dkvs, dkvs, dkvs, dkv, dkv]; rfl
end
end Go.V
