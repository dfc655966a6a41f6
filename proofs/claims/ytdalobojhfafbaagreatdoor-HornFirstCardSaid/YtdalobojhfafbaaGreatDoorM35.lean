/- A protocol that runs: what its steps come to. -/
import Derived.Test.YtdalobojhfafbaaGreatDoorM29
import Derived.Test.YtdalobojhfafbaaGreatDoorM16
import Derived.KernelRfl
set_option linter.unusedVariables false
namespace Go.V
open Go
structure Pn where
  nm : ByteArray
  node : Int
def Pn.cs (x : Pn) : List D := [.s x.nm, .i x.node]
theorem Pn.cs_len (x : Pn) : x.cs.length = 2 := rfl
theorem Pn.cs_one (x : Pn) : x.cs.all D.one = true := rfl
def pnz : Pn := ⟨⟨#[]⟩, 0⟩
structure Sm where
  hs : List Ha
  safe : Tm
  w : Wd
  l : List Pn
def ownP (hs : List Ha) (safe : Tm) : Pr := ⟨[], [], [], [], [], hs, safe, []⟩
def namesW (l : List ByteArray) (v : Vl) (w : Wd) : Wd := l.foldl (fun w s => withF w s v) w
def initW (n : Int) : List As → Wd → Except Int Wd
  | [], w => .ok w
  | x :: r, w => if (evalF x.to ⟨n, []⟩).2 ≠ 0 then .error (evalF x.to ⟨n, []⟩).2 else initW n r (withF w x.nm (evalF x.to ⟨n, []⟩).1)
def noneV (n : Int) : Vl := ⟨2, 0, false, List.replicate n.toNat false⟩
def firstW (p : Pr) (n : Int) : Wd := namesW p.msgs (noneV n) (namesW p.sets (noneV n) (namesW p.bools ⟨4, 0, false, []⟩ (namesW p.ints ⟨1, 0, false, []⟩ ⟨n, []⟩)))
def NewF (p : Pr) (n : Int) : Except Int Sm :=
  if CheckF p ≠ 0 then .error (CheckF p) else if n < 1 ∨ 64 < n then .error 1 else match initW n p.init (firstW p n) with
    | .error e => .error e
    | .ok w => .ok ⟨p.hs, p.safe, w, []⟩
def nodeV (n : Int) : Vl := ⟨3, n, false, []⟩
def dueW (w : Wd) (h : Ha) (node : Int) : Wd := withF w h.node (nodeV node)
def dueB (w : Wd) (h : Ha) (node : Int) : Bool := decide ((evalF h.whn (dueW w h node)).2 = 0) && (evalF h.whn (dueW w h node)).1.b
def doW (w : Wd) : List As → Wd → Option Wd
  | [], n => some n
  | x :: r, n => if (evalF x.to w).2 ≠ 0 then none else doW w r (withF n x.nm (evalF x.to w).1)
def sendV (n : Wd) (s : ByteArray) (node : Int) : Vl := ⟨((getF n.names s 2).getD vz).sort, ((getF n.names s 2).getD vz).n, ((getF n.names s 2).getD vz).b, ((getF n.names s 2).getD vz).s.set node.toNat true⟩
def sendW (node : Int) : List ByteArray → Wd → Wd
  | [], n => n
  | s :: r, n => sendW node r (withF n s (sendV n s node))
def doF (S : Sm) (h : Ha) (node : Int) (pd : List Pn) : Option Sm :=
  match doW (dueW S.w h node) h.dos S.w with
  | none => none
  | some n => if 256 < pd.length + h.send.length then none else some ⟨S.hs, S.safe, sendW node h.send n, pd ++ h.send.map fun s => ⟨s, node⟩⟩
def thereB (l : List Pn) (i : Int) : Bool := decide (0 ≤ i) && decide (i < l.length)
def DoubleF (S : Sm) (i : Int) : Option Sm := if thereB S.l i = true ∧ S.l.length < 256 then some ⟨S.hs, S.safe, S.w, S.l ++ [S.l.getD i.toNat pnz]⟩ else none
def DropF (S : Sm) (i : Int) : Option Sm := if thereB S.l i = true then some ⟨S.hs, S.safe, S.w, S.l.eraseIdx i.toNat⟩ else none
def handF (w : Wd) (m : Pn) : List Ha → Option Ha
  | [] => none
  | h :: r => if h.timer = false ∧ h.nm = m.nm ∧ dueB w h m.node = true then some h else handF w m r
def DeliverF (S : Sm) (i : Int) : Option Sm :=
  if thereB S.l i = true then match handF S.w (S.l.getD i.toNat pnz) S.hs with
    | some h => doF S h (S.l.getD i.toNat pnz).node (S.l.eraseIdx i.toNat)
    | none => some ⟨S.hs, S.safe, S.w, S.l.eraseIdx i.toNat⟩
  else none
def TimerF (S : Sm) (k node : Int) : Option Sm :=
  if 0 ≤ k ∧ k < S.hs.length ∧ (S.hs.getD k.toNat hz).timer = true ∧ 0 ≤ node ∧ node < S.w.nodes ∧ dueB S.w (S.hs.getD k.toNat hz) node = true then doF S (S.hs.getD k.toNat hz) node S.l else none
end Go.V
/- A protocol that runs: its worlds stay right. -/
set_option linter.unusedVariables false
namespace Go.V
open Go
def keyP (p : Pr) : List (ByteArray × Int) := (dictP p).map fun x => (x.1, (shpAt x.2).sort)
theorem dict_ops {p : Pr} {x : ByteArray × Int} (h : x ∈ dictP p) : x.2 = 2 ∨ x.2 = 15 ∨ x.2 = 7 := by
  unfold dictP opL at h
  simp only [List.mem_append, List.mem_map] at h
  rcases h with ((⟨_, _, rfl⟩ | ⟨_, _, rfl⟩) | ⟨_, _, rfl⟩) | ⟨_, _, rfl⟩ <;> simp
theorem becS_eq {d : Dict} {s : ByteArray} (hs : nameF s.data.toList = true) (ho : opD d s = 2 ∨ opD d s = 15 ∨ opD d s = 7) : becS d s = (shpAt (opD d s)).sort := by
  unfold becS
  have hr : rightT (.mk (opD d s) s 0 []) 0 = true := by
    rw [rightT_eq]
    have h2 : (shpAt 2) = ⟨1, true, false, [], false⟩ := rfl
    have h7 : (shpAt 7) = ⟨2, true, false, [], false⟩ := rfl
    have h15 : (shpAt 15) = ⟨4, true, false, [], false⟩ := rfl
    rcases ho with h | h | h <;> rw [h] <;> simp [Tm.op, Tm.a, Tm.nm, Tm.n, h2, h7, h15, badHead, hs, rightL]
  have e : (Tm.mk (opD d s) s 0 []) = Nm.tm (s.data.toList, opD d s) := rfl
  rw [e] at hr ⊢
  rw [Nm.sort hr]
section
variable {w : Wd} {nm : ByteArray} {v : Vl}
theorem with_keys (h : (nm, v.sort) ∈ w.names.map keyN) : (withF w nm v).names.map keyN = w.names.map keyN := by
  show (putL nm v w.names).map keyN = _
  rcases put_cases nm v w.names with ⟨_, h2⟩ | ⟨j, x, h1, h2, h3, h4⟩
  · obtain ⟨x, hx, he⟩ := List.mem_map.1 h
    exact absurd ⟨congrArg Prod.fst he, congrArg Prod.snd he⟩ (h2 x hx)
  · rw [h1, List.map_set]
    apply List.ext_getElem?
    intro i
    rw [List.getElem?_set]
    split
    · next hij =>
      subst hij
      split
      · rw [List.getElem?_map, h2]; simp [keyN, h3, h4]
      · next hl => rw [List.getElem?_eq_none (by omega)]
    · rfl
theorem with_new_names (h : ∀ x ∈ w.names, x.nm ≠ nm) : (withF w nm v) = ⟨w.nodes, w.names ++ [⟨nm, v⟩]⟩ := by
  unfold withF
  rcases put_cases nm v w.names with ⟨h1, _⟩ | ⟨j, x, h1, h2, h3, h4⟩
  · rw [h1]
  · exact absurd h3 (h x (List.mem_of_getElem? h2))
theorem keys_len {K : List (ByteArray × Int)} (h : w.names.map keyN = K) : w.names.length = K.length := by rw [← h, List.length_map]
theorem with_same (nm' : ByteArray) (s : Int) (h : ¬ (nm' = nm ∧ s = v.sort)) : getF (withF w nm v).names nm' s = getF w.names nm' s := (put_law nm v w.names).2.1 nm' s h
theorem with_has : getF (withF w nm v).names nm v.sort = some v := (put_law nm v w.names).1
theorem getF_key {l : List Nv} {s : Int} : (∃ v, getF l nm s = some v) ↔ (nm, s) ∈ l.map keyN := by
  constructor
  · rintro ⟨v, h⟩
    obtain ⟨x, hx, h1, h2, h3⟩ := getF_mem h
    exact List.mem_map.2 ⟨x, hx, by rw [keyN, h2, h1, h3]⟩
  · intro h
    cases hg : getF l nm s with
    | some v => exact ⟨v, rfl⟩
    | none =>
      obtain ⟨x, hx, he⟩ := List.mem_map.1 h
      unfold getF at hg
      rw [Option.map_eq_none_iff, List.find?_eq_none] at hg
      have := hg x hx
      rw [show x.nm = nm from congrArg Prod.fst he, show x.v.sort = s from congrArg Prod.snd he] at this
      simp at this
end
/-- a world that has those names -/
structure WOk (K : List (ByteArray × Int)) (n : Int) (w : Wd) : Prop where
  right : rightW w = true
  nodes : w.nodes = n
  keys : w.names.map keyN = K
theorem WOk.with {K : List (ByteArray × Int)} {n : Int} {w : Wd} {nm : ByteArray} {v : Vl} (h : WOk K n w) (hk : (nm, v.sort) ∈ K) (hn : nameF nm.data.toList = true) (hv : isF v n = true) (hl : K.length < 64) : WOk K n (withF w nm v) :=
  ⟨with_right h.right hn (by rw [h.nodes]; exact hv) (by rw [keys_len h.keys]; exact hl), h.nodes, by rw [with_keys (by rw [h.keys]; exact hk), h.keys]⟩
theorem namesW_ok {v : Vl} {n : Int} : ∀ {l : List ByteArray} {K : List (ByteArray × Int)} {w : Wd}, WOk K n w → (∀ s ∈ l, nameF s.data.toList = true) → (∀ s ∈ l, ∀ x ∈ K, x.1 ≠ s) → l.Nodup → isF v n = true → K.length + l.length ≤ 64 →
    WOk (K ++ l.map fun s => (s, v.sort)) n (namesW l v w) ∧ (namesW l v w).names = w.names ++ l.map fun s => ⟨s, v⟩
  | [], K, w, h, _, _, _, _, _ => by
    refine ⟨by rw [List.map_nil, List.append_nil]; exact h, by rw [List.map_nil, List.append_nil]; rfl⟩
  | s :: l, K, w, h, hn, hf, hd, hv, hl => by
    rw [List.nodup_cons] at hd
    simp only [List.length_cons] at hl
    have hnew : ∀ x ∈ w.names, x.nm ≠ s := fun x hx => hf s List.mem_cons_self (keyN x) (by rw [← h.keys]; exact List.mem_map_of_mem hx)
    have e := with_new_names (v := v) hnew
    have h1 : WOk (K ++ [(s, v.sort)]) n (withF w s v) := ⟨with_right h.right (hn s List.mem_cons_self) (by rw [h.nodes]; exact hv) (by rw [keys_len h.keys]; omega), h.nodes, by rw [e]; show (w.names ++ [(⟨s, v⟩ : Nv)]).map keyN = _; rw [List.map_append, h.keys]; rfl⟩
    obtain ⟨i1, i2⟩ := namesW_ok (l := l) h1 (fun t ht => hn t (List.mem_cons_of_mem _ ht)) (fun t ht x hx => by
      rcases List.mem_append.1 hx with hx | hx
      · exact hf t (List.mem_cons_of_mem _ ht) x hx
      · rw [List.mem_singleton.1 hx]; exact fun hh => hd.1 (by rw [show s = t from hh]; exact ht)) hd.2 hv (by rw [List.length_append]; simp only [List.length_cons, List.length_nil]; omega)
    refine ⟨?_, ?_⟩
    · rw [List.append_assoc] at i1; exact i1
    · show (namesW l v (withF w s v)).names = _
      rw [i2, e, List.append_assoc]; rfl
theorem world0 {n : Int} (h1 : 1 ≤ n) (h2 : n ≤ 64) : WOk [] n ⟨n, []⟩ := ⟨by unfold rightW; simp [rightLW, h1, h2], rfl, rfl⟩
theorem noneV_is {n : Int} (h1 : 1 ≤ n) : isF (noneV n) n = true := by
  unfold isF noneV
  dsimp only
  rw [List.length_replicate, if_pos rfl, decide_eq_true (show ((n.toNat : Nat) : Int) = n by omega), decide_eq_true (show ((2 : Int) = 1 ∨ ((2 : Int) = 3 ∧ (0 : Int) ≤ 0 ∧ 0 < n) ∨ ((2 : Int) = 2 ∧ (0 : Int) = 0) ∨ ((2 : Int) = 4 ∧ (0 : Int) = 0)) from Or.inr (Or.inr (Or.inl ⟨rfl, rfl⟩)))]
  rfl
theorem int0_is (n : Int) : isF ⟨1, 0, false, []⟩ n = true := by
  unfold isF; simp
theorem bool0_is (n : Int) : isF ⟨4, 0, false, []⟩ n = true := by
  unfold isF; simp
theorem keyP_eq (p : Pr) : keyP p = ((([] ++ p.ints.map fun s => (s, (1 : Int))) ++ p.bools.map fun s => (s, (4 : Int))) ++ p.sets.map fun s => (s, (2 : Int))) ++ p.msgs.map fun s => (s, (2 : Int)) := by
  unfold keyP dictP opL
  simp only [List.map_append, List.map_map, List.nil_append]
  rfl
theorem keyP_fst (p : Pr) : (keyP p).map (·.1) = (dictP p).map (·.1) := by unfold keyP; rw [List.map_map]; rfl
theorem keyP_len {p : Pr} (h : PrOk p) : (keyP p).length ≤ 60 := by
  obtain ⟨⟨⟨f1, f2, f3, f4⟩, _⟩, _⟩ := (show ((p.ints.length ≤ 15 ∧ p.bools.length ≤ 15 ∧ p.sets.length ≤ 15 ∧ p.msgs.length ≤ 15) ∧ (p.hs.length ≤ 32 ∧ p.known.length ≤ 32 ∧ p.init.length ≤ 32)) ∧ ∀ h ∈ p.hs, h.dos.length ≤ 32 ∧ h.send.length ≤ 32 by
    have := h.few
    unfold fewB at this
    rw [Bool.and_eq_true, Bool.and_eq_true, decide_eq_true_eq, decide_eq_true_eq, List.all_eq_true] at this
    simpa only [decide_eq_true_eq] using this)
  rw [keyP_eq]
  simp only [List.length_append, List.length_map, List.length_nil]
  omega
theorem keyP_of {p : Pr} {s : ByteArray} (h : opD (dictP p) s ≠ 0) : (s, (shpAt (opD (dictP p) s)).sort) ∈ keyP p := List.mem_map.2 ⟨_, opD_mem h, rfl⟩
theorem keyP_name {p : Pr} (h : PrOk p) {x : ByteArray × Int} (hx : x ∈ keyP p) : nameF x.1.data.toList = true := by
  obtain ⟨y, hy, rfl⟩ := List.mem_map.1 hx
  exact h.names y hy
/-- the names at first: each as it is at first -/
def firstN (p : Pr) (n : Int) : List Nv := (p.ints.map fun s => ⟨s, ⟨1, 0, false, []⟩⟩) ++ (p.bools.map fun s => ⟨s, ⟨4, 0, false, []⟩⟩) ++ (p.sets.map fun s => ⟨s, noneV n⟩) ++ p.msgs.map fun s => ⟨s, noneV n⟩
theorem firstW_ok {p : Pr} {n : Int} (h : PrOk p) (h1 : 1 ≤ n) (h2 : n ≤ 64) : WOk (keyP p) n (firstW p n) ∧ (firstW p n).names = firstN p n := by
  have hnd := h.nodup
  have hnm := h.names
  have hlen := keyP_len h
  rw [keyP_eq] at hlen ⊢
  unfold dictP at hnd hnm
  unfold opL at hnd hnm
  simp only [List.map_append, List.map_map] at hnd
  have e : ((fun x : ByteArray × Int => x.1) ∘ fun s => (s, (2 : Int))) = id := rfl
  have e' : ((fun x : ByteArray × Int => x.1) ∘ fun s => (s, (15 : Int))) = id := rfl
  have e'' : ((fun x : ByteArray × Int => x.1) ∘ fun s => (s, (7 : Int))) = id := rfl
  rw [e, e', e'', List.map_id, List.map_id, List.map_id, List.map_id] at hnd
  obtain ⟨n3, n4, d4⟩ := List.nodup_append.1 hnd
  obtain ⟨n2, n5, d3⟩ := List.nodup_append.1 n3
  obtain ⟨n1, n6, d2⟩ := List.nodup_append.1 n2
  simp only [List.length_append, List.length_map, List.length_nil] at hlen
  have m1 : ∀ s ∈ p.ints, nameF s.data.toList = true := fun s hs => hnm (s, 2) (by simp [hs])
  have m2 : ∀ s ∈ p.bools, nameF s.data.toList = true := fun s hs => hnm (s, 15) (by simp [hs])
  have m3 : ∀ s ∈ p.sets, nameF s.data.toList = true := fun s hs => hnm (s, 7) (by simp [hs])
  have m4 : ∀ s ∈ p.msgs, nameF s.data.toList = true := fun s hs => hnm (s, 7) (by simp [hs])
  obtain ⟨a1, a2⟩ := namesW_ok (v := ⟨1, 0, false, []⟩) (l := p.ints) (world0 h1 h2) m1 (fun s hs x hx => by cases hx) n1 (int0_is n) (by simp only [List.length_nil]; omega)
  obtain ⟨b1, b2⟩ := namesW_ok (v := ⟨4, 0, false, []⟩) (l := p.bools) a1 m2 (fun s hs x hx => by
    simp only [List.nil_append, List.mem_map] at hx
    obtain ⟨t, ht, rfl⟩ := hx
    exact d2 t ht s hs) n6 (bool0_is n) (by simp only [List.length_append, List.length_map, List.length_nil]; omega)
  obtain ⟨c1, c2⟩ := namesW_ok (v := noneV n) (l := p.sets) b1 m3 (fun s hs x hx => by
    simp only [List.nil_append, List.mem_append, List.mem_map] at hx
    rcases hx with ⟨t, ht, rfl⟩ | ⟨t, ht, rfl⟩
    · exact d3 t (List.mem_append_left _ ht) s hs
    · exact d3 t (List.mem_append_right _ ht) s hs) n5 (noneV_is h1) (by simp only [List.length_append, List.length_map, List.length_nil]; omega)
  obtain ⟨f1, f2⟩ := namesW_ok (v := noneV n) (l := p.msgs) c1 m4 (fun s hs x hx => by
    simp only [List.nil_append, List.mem_append, List.mem_map] at hx
    rcases hx with (⟨t, ht, rfl⟩ | ⟨t, ht, rfl⟩) | ⟨t, ht, rfl⟩
    · exact d4 t (List.mem_append_left _ (List.mem_append_left _ ht)) s hs
    · exact d4 t (List.mem_append_left _ (List.mem_append_right _ ht)) s hs
    · exact d4 t (List.mem_append_right _ ht) s hs) n4 (noneV_is h1) (by simp only [List.length_append, List.length_map, List.length_nil]; omega)
  refine ⟨f1, ?_⟩
  show (namesW p.msgs (noneV n) _).names = _
  rw [f2, c2, b2, a2]
  rfl
end Go.V
/- A protocol that runs: what stays so at each step. -/
set_option linter.unusedVariables false
namespace Go.V
open Go
/-- a value that a term has, in a name of its sort -/
theorem WOk.eval {K : List (ByteArray × Int)} {n : Int} {w u : Wd} {t : Tm} {nm : ByteArray} {s : Int} (h : WOk K n w) (hu : rightW u = true) (hun : u.nodes = n) (ht : sortF t = (s, 0)) (he : (evalF t u).2 = 0) (hk : (nm, s) ∈ K) (hn : nameF nm.data.toList = true) (hl : K.length < 64) :
    WOk K n (withF w nm (evalF t u).1) ∧ (evalF t u).1.sort = s := by
  obtain ⟨_, hok, hf⟩ := eval_okV hu (t := t) (by rw [ht]) he
  have hs := hok.sort
  rw [ht] at hs
  exact ⟨h.with (by rw [hs]; exact hk) hn (by rw [← hun]; exact hf) hl, hs⟩
theorem initW_ok {p : Pr} {n : Int} (hp : PrOk p) (h1 : 1 ≤ n) (h2 : n ≤ 64) : ∀ {l : List As} {w w' : Wd}, (∀ x ∈ l, opD (dictP p) x.nm ≠ 0 ∧ sortF x.to = (becS (dictP p) x.nm, 0)) → WOk (keyP p) n w → initW n l w = .ok w' → WOk (keyP p) n w'
  | [], w, w', _, h, e => by rw [initW] at e; cases e; exact h
  | x :: r, w, w', hx, h, e => by
    rw [initW] at e
    split at e
    · cases e
    · next g =>
      obtain ⟨a1, a2⟩ := hx x List.mem_cons_self
      have hk := keyP_of a1
      have hnm := keyP_name hp hk
      rw [becS_eq hnm (dict_ops (opD_mem a1))] at a2
      exact initW_ok hp h1 h2 (fun y hy => hx y (List.mem_cons_of_mem _ hy)) (h.eval (world0 h1 h2).right rfl a2 (Decidable.of_not_not g) hk hnm (by have := keyP_len hp; omega)).1 e
theorem init_all {p : Pr} (hp : PrOk p) : ∀ x ∈ p.init, opD (dictP p) x.nm ≠ 0 ∧ sortF x.to = (becS (dictP p) x.nm, 0) := fun x hx => by
  obtain ⟨h1, _, h2, _⟩ := firstE_all hp.init x hx
  exact ⟨h1, h2⟩
/-- the names that Init does not say have what they had -/
theorem initW_same {n : Int} {nm : ByteArray} {s : Int} : ∀ {l : List As} {w w' : Wd}, (∀ x ∈ l, x.nm ≠ nm) → initW n l w = .ok w' → getF w'.names nm s = getF w.names nm s
  | [], w, w', _, e => by rw [initW] at e; cases e; rfl
  | x :: r, w, w', hx, e => by
    rw [initW] at e
    split at e
    · cases e
    · rw [initW_same (fun y hy => hx y (List.mem_cons_of_mem _ hy)) e, with_same nm s (fun hh => hx x List.mem_cons_self hh.1.symm)]
/-- a set's bit -/
def bitW (w : Wd) (s : ByteArray) (i : Nat) : Bool := (((getF w.names s 2).getD vz).s).getD i false
/-- what holds of a running protocol -/
structure SOk (p : Pr) (n : Int) (S : Sm) : Prop where
  hs : S.hs = p.hs
  safe : S.safe = p.safe
  w : WOk (keyP p) n S.w
  few : S.l.length ≤ 256
  pend : ∀ m ∈ S.l, m.nm ∈ p.msgs ∧ 0 ≤ m.node ∧ m.node < n ∧ bitW S.w m.nm m.node.toNat = true
theorem New_ok {p : Pr} {n : Int} {S : Sm} (h : NewF p n = .ok S) : PrOk p ∧ 1 ≤ n ∧ n ≤ 64 ∧ SOk p n S ∧ S.l = [] ∧ initW n p.init (firstW p n) = .ok S.w := by
  unfold NewF at h
  split at h
  · cases h
  · next g =>
    split at h
    · cases h
    · next g2 =>
      have hp := CheckF_ok (Decidable.of_not_not g)
      have h1 : 1 ≤ n := by omega
      have h2 : n ≤ 64 := by omega
      split at h
      · cases h
      · next w hw =>
        cases h
        exact ⟨hp, h1, h2, ⟨rfl, rfl, initW_ok hp h1 h2 (init_all hp) (firstW_ok hp h1 h2).1 hw, Nat.zero_le _, fun m hm => by cases hm⟩, rfl, hw⟩
section
variable {p : Pr} {n : Int}
/-- what a handler's step does -/
structure Does (p : Pr) (n : Int) (h : Ha) (i : Int) (S T : Sm) (pd : List Pn) : Prop where
  ok : SOk p n T
  mono : ∀ s ∈ p.msgs, ∀ j, bitW S.w s j = true → bitW T.w s j = true
  pend : T.l = pd ++ h.send.map fun s => ⟨s, i⟩
  same : ∀ nm s, (∀ x ∈ h.dos, x.nm ≠ nm) → (∀ s ∈ h.send, s ≠ nm) → getF T.w.names nm s = getF S.w.names nm s
end
end Go.V
/- Steps of what runs: what stays, what changes. -/
set_option linter.unusedVariables false
namespace Go.V
open Go
structure Stp where
  kind : Int
  i : Int
  node : Int
def Stp.cs (x : Stp) : List D := [.i x.kind, .i x.i, .i x.node]
theorem Stp.cs_len (x : Stp) : x.cs.length = 3 := rfl
def doesF (S : Sm) (x : Stp) : Option Sm :=
  if x.kind = 0 ∨ x.kind = 1 then DeliverF S x.i else if x.kind = 2 then DoubleF S x.i else if x.kind = 3 then DropF S x.i else if x.kind = 4 ∨ x.kind = 5 ∨ x.kind = 6 then TimerF S x.i x.node else none
section
variable {p : Pr} {n : Int} {S T : Sm}
theorem there_is {l : List Pn} {i : Int} (h : thereB l i = true) : i = (i.toNat : Int) ∧ i.toNat < l.length ∧ l.getD i.toNat pnz ∈ l := by
  unfold thereB at h
  simp only [Bool.and_eq_true, decide_eq_true_eq] at h
  have hlt : i.toNat < l.length := by omega
  refine ⟨by omega, hlt, ?_⟩
  rw [List.getD_eq_getElem?_getD, List.getElem?_eq_getElem hlt]; exact List.getElem_mem hlt
theorem less_ok {l : List Pn} (hS : SOk p n S) (hl : ∀ m ∈ l, m ∈ S.l) (h256 : l.length ≤ 256) : SOk p n ⟨S.hs, S.safe, S.w, l⟩ :=
  ⟨hS.hs, hS.safe, hS.w, h256, fun m hm => hS.pend m (hl m hm)⟩
theorem Double_ok {i : Int} (hS : SOk p n S) (e : DoubleF S i = some T) : SOk p n T ∧ T.w = S.w ∧ T.l = S.l ++ [S.l.getD i.toNat pnz] ∧ thereB S.l i = true := by
  unfold DoubleF at e
  split at e
  · next g =>
    cases e
    refine ⟨less_ok hS (fun m hm => ?_) ?_, rfl, rfl, g.1⟩
    · rcases List.mem_append.1 hm with h | h
      · exact h
      · rw [List.mem_singleton] at h; subst h; exact (there_is g.1).2.2
    · rw [List.length_append]; exact g.2
  · cases e
end
def sn (n : Int) : Tm := .mk 1 ⟨#[]⟩ n []
end Go.V
/- What a right world holds under each name; the first world. -/
set_option linter.unusedVariables false
namespace Go.V
open Go
section
variable {p : Pr} {n : Int} {S : Sm}
end
end Go.V
/- Steps of what runs: what a done step changes. -/
set_option linter.unusedVariables false
namespace Go.V
open Go
section
variable {p : Pr} {n : Int} {S T : Sm} {x : Stp}
theorem doubled (hS : SOk p n S) (hk : x.kind = 2) (e : doesF S x = some T) : T.l.length = S.l.length + 1 ∧ T.w = S.w := by
  unfold doesF at e
  rw [if_neg (by omega), if_pos hk] at e
  obtain ⟨_, h1, h2, _⟩ := Double_ok hS e
  exact ⟨by rw [h2, List.length_append]; rfl, h1⟩
end
end Go.V
/- What must hold at first, in the first world. -/
set_option linter.unusedVariables false
namespace Go.V
open Go
theorem firstE_nodup {d : Dict} {msgs : List ByteArray} : ∀ {l pre : List As}, firstE d msgs pre l = 0 → (∀ x ∈ l, ∀ y ∈ pre, y.nm ≠ x.nm) ∧ (l.map As.nm).Nodup
  | [], _, _ => ⟨(by intro x hx; cases hx), List.nodup_nil⟩
  | z :: r, pre, h => by
    rw [firstE] at h
    obtain ⟨h1, h2⟩ := seqE_zero.1 h
    obtain ⟨_, h4⟩ := seqE_zero.1 h2
    obtain ⟨_, h6⟩ := seqE_zero.1 h4
    obtain ⟨i1, i2⟩ := firstE_nodup h6
    unfold becE at h1
    rw [ite4_zero (by decide)] at h1
    have hz : ∀ y ∈ pre, y.nm ≠ z.nm := fun y hy e => by
      have := h1.2.2
      rw [List.any_eq_false] at this
      exact this y hy (decide_eq_true e)
    refine ⟨fun x hx y hy => ?_, ?_⟩
    · rcases List.mem_cons.1 hx with rfl | hx
      · exact hz y hy
      · exact i1 x hx y (List.mem_append_left _ hy)
    · rw [List.map_cons, List.nodup_cons]
      refine ⟨fun hm => ?_, i2⟩
      obtain ⟨x, hx, e⟩ := List.mem_map.1 hm
      exact i1 x hx z (List.mem_append_right _ (List.mem_singleton.2 rfl)) e.symm
theorem initW_has {n : Int} {a : As} : ∀ {l : List As} {w w' : Wd}, (l.map As.nm).Nodup → a ∈ l → initW n l w = .ok w' → (evalF a.to ⟨n, []⟩).2 = 0 ∧ getF w'.names a.nm (evalF a.to ⟨n, []⟩).1.sort = some (evalF a.to ⟨n, []⟩).1
  | [], _, _, _, h, _ => by cases h
  | z :: r, w, w', hd, h, e => by
    rw [List.map_cons, List.nodup_cons] at hd
    rw [initW] at e
    split at e
    · cases e
    · next g =>
      rcases List.mem_cons.1 h with rfl | h
      · refine ⟨Decidable.of_not_not g, ?_⟩
        rw [initW_same (fun y hy he => hd.1 (by rw [← he]; exact List.mem_map_of_mem hy)) e]
        exact with_has
      · exact initW_has hd.2 h e
theorem nodup_fst {l : List (ByteArray × Int)} {nm : ByteArray} {s t : Int} : (l.map (·.1)).Nodup → (nm, s) ∈ l → (nm, t) ∈ l → s = t := by
  induction l with
  | nil => intro _ h; cases h
  | cons x r ih =>
    intro hd h1 h2
    rw [List.map_cons, List.nodup_cons] at hd
    rcases List.mem_cons.1 h1 with e1 | h1
    · rcases List.mem_cons.1 h2 with e2 | h2
      · rw [← e1] at e2; exact (congrArg Prod.snd e2).symm
      · exact absurd (List.mem_map.2 ⟨_, h2, by rw [← e1]⟩) hd.1
    · rcases List.mem_cons.1 h2 with e2 | h2
      · exact absurd (List.mem_map.2 ⟨_, h1, by rw [← e2]⟩) hd.1
      · exact ih hd.2 h1 h2
def zL (p : Pr) (n : Int) : List (ByteArray × Tm × Vl) := (p.ints.map fun s => (s, mk 1 [], ⟨1, 0, false, []⟩)) ++ (p.bools.map fun s => (s, mk 17 [], ⟨4, 0, false, []⟩)) ++ (p.sets.map fun s => (s, mk 8 [], noneV n)) ++ p.msgs.map fun s => (s, mk 8 [], noneV n)
theorem zL_first (p : Pr) (n : Int) : firstL p = p.init ++ (zL p n).map fun z => ⟨z.1, z.2.1⟩ := by
  unfold firstL zL asL
  simp only [List.map_append, List.map_map, List.append_assoc]
  rfl
theorem zL_names (p : Pr) (n : Int) : firstN p n = (zL p n).map fun z => ⟨z.1, z.2.2⟩ := by
  unfold firstN zL
  simp only [List.map_append, List.map_map]
  rfl
section
variable {p : Pr} {n : Int} {S : Sm}
theorem none_ev (n : Int) : evV ⟨n, []⟩ (mk 8 []) = .ok (noneV n) := by
  show Except.ok (whereF ⟨n, []⟩ fun _ => false) = .ok (noneV n)
  unfold whereF noneV vS
  rw [List.map_const', List.length_range]
theorem pickA_app2 (l m : List As) (nm : ByteArray) (s : Int) : pickA (l ++ m) nm s = (pickA l nm s).or (pickA m nm s) := by
  unfold pickA
  rw [List.find?_append]
  cases l.find? _ <;> rfl
theorem pickA_non {l : List As} {nm : ByteArray} {s : Int} (h : ∀ x ∈ l, x.nm = nm → sortF x.to ≠ (s, 0)) : pickA l nm s = none := by
  unfold pickA
  rw [Option.map_eq_none_iff, List.find?_eq_none]
  intro x hx hh
  simp only [Bool.and_eq_true, decide_eq_true_eq] at hh
  exact h x hx hh.1 hh.2
theorem pickA_is {a : As} {s : Int} : ∀ {l : List As}, (l.map As.nm).Nodup → a ∈ l → sortF a.to = (s, 0) → pickA l a.nm s = some a.to
  | [], _, h, _ => by cases h
  | z :: r, hd, h, hs => by
    rw [List.map_cons, List.nodup_cons] at hd
    unfold pickA
    rw [List.find?_cons]
    rcases List.mem_cons.1 h with rfl | h
    · rw [decide_eq_true rfl, decide_eq_true hs]; rfl
    · have : decide (z.nm = a.nm) = false := decide_eq_false fun e => hd.1 (by rw [e]; exact List.mem_map_of_mem h)
      rw [this]
      exact pickA_is hd.2 h hs
theorem zL_ok (h1 : 1 ≤ n) (h2 : n ≤ 64) : ∀ z ∈ zL p n, sortF z.2.1 = (z.2.2.sort, 0) ∧ evV ⟨n, []⟩ z.2.1 = .ok z.2.2 := by
  intro z hz
  unfold zL at hz
  simp only [List.mem_append, List.mem_map] at hz
  rcases hz with ((⟨s, _, rfl⟩ | ⟨s, _, rfl⟩) | ⟨s, _, rfl⟩) | ⟨s, _, rfl⟩
  · exact ⟨by kernel_rfl, by first | rfl | simp [evV]⟩
  · exact ⟨by kernel_rfl, by first | rfl | simp [evV]⟩
  · exact ⟨by kernel_rfl, none_ev n⟩
  · exact ⟨by kernel_rfl, none_ev n⟩
theorem zL_pick (h1 : 1 ≤ n) (h2 : n ≤ 64) (nm : ByteArray) (s : Int) : match pickA ((zL p n).map fun z => ⟨z.1, z.2.1⟩) nm s with | some v => ∃ x, evV ⟨n, []⟩ v = .ok x ∧ getF (firstN p n) nm s = some x | none => getF (firstN p n) nm s = none := by
  have hz := zL_ok (p := p) h1 h2
  unfold pickA getF
  rw [zL_names]
  generalize zL p n = Z at *
  induction Z with
  | nil => rfl
  | cons z r ih =>
    obtain ⟨a1, a2⟩ := hz z List.mem_cons_self
    have ih := ih fun y hy => hz y (List.mem_cons_of_mem _ hy)
    simp only [List.map_cons, List.find?_cons]
    have e : (decide (z.1 = nm) && decide (sortF z.2.1 = (s, 0))) = (decide (z.1 = nm) && decide (z.2.2.sort = s)) := by
      rw [a1]
      congr 1
      exact decide_eq_decide.2 ⟨fun h => congrArg Prod.fst h, fun h => by rw [h]⟩
    rw [e]
    cases (decide (z.1 = nm) && decide (z.2.2.sort = s)) with
    | true => exact ⟨_, a2, rfl⟩
    | false => exact ih
theorem first_pick (h : NewF p n = .ok S) (nm : ByteArray) (s : Int) : match pickA (firstL p) nm s with | some v => ∃ x, evV ⟨n, []⟩ v = .ok x ∧ getF S.w.names nm s = some x | none => getF S.w.names nm s = getF (Wd.mk n []).names nm s := by
  obtain ⟨hp, h1, h2, hS, _, hin⟩ := New_ok h
  have hw0 := (world0 h1 h2).right
  have hd := (firstE_nodup hp.init).2
  have hnd : ((keyP p).map (·.1)).Nodup := by rw [keyP_fst]; exact hp.nodup
  have hkey : ∀ {s : Int}, (∃ v, getF S.w.names nm s = some v) → (nm, s) ∈ keyP p := fun {s} hv => by
    have := getF_key.1 hv
    rw [hS.w.keys] at this; exact this
  have hz := zL_pick (p := p) h1 h2 nm s
  have hf := firstW_ok hp h1 h2
  have hzk : (∃ v, getF (firstN p n) nm s = some v) → (nm, s) ∈ keyP p := fun hv => by
    have := getF_key.1 hv
    rw [← hf.2, hf.1.keys] at this; exact this
  rw [zL_first p n]
  by_cases ha : ∃ a ∈ p.init, a.nm = nm
  · obtain ⟨a, ham, rfl⟩ := ha
    obtain ⟨g1, g2⟩ := initW_has hd ham hin
    obtain ⟨b1, b2⟩ := init_all hp a ham
    have hk := keyP_of b1
    have hnm := keyP_name hp hk
    rw [becS_eq hnm (dict_ops (opD_mem b1))] at b2
    obtain ⟨c1, c2, _⟩ := eval_okV hw0 (by rw [b2]) g1
    have hso : (evalF a.to ⟨n, []⟩).1.sort = (shpAt (opD (dictP p) a.nm)).sort := by rw [c2.sort, b2]
    rw [hso] at g2
    generalize (shpAt (opD (dictP p) a.nm)).sort = s0 at *
    by_cases hs : s = s0
    · subst hs
      have : pickA (p.init ++ (zL p n).map fun z => ⟨z.1, z.2.1⟩) a.nm s = some a.to := by
        rw [pickA_app2, pickA_is hd ham b2]; rfl
      rw [this]
      exact ⟨_, c1, g2⟩
    · have hi : pickA p.init a.nm s = none := pickA_non fun x hx e he => by
        obtain ⟨q1, q2⟩ := init_all hp x hx
        have q3 := keyP_of q1
        rw [becS_eq (keyP_name hp q3) (dict_ops (opD_mem q1)), he] at q2
        have q4 : s = (shpAt (opD (dictP p) x.nm)).sort := congrArg Prod.fst q2
        rw [← q4, e] at q3
        exact hs (nodup_fst hnd q3 hk)
      rw [pickA_app2, hi, Option.none_or]
      have hno : getF S.w.names a.nm s = none := by
        cases hg : getF S.w.names a.nm s with
        | none => rfl
        | some v => exact absurd (nodup_fst hnd (hkey ⟨v, hg⟩) hk) hs
      cases hq : pickA ((zL p n).map fun z => ⟨z.1, z.2.1⟩) a.nm s with
      | none => exact hno
      | some v =>
        rw [hq] at hz
        obtain ⟨x, _, hx⟩ := hz
        exact absurd (nodup_fst hnd (hzk ⟨x, hx⟩) hk) hs
  · have hi : pickA p.init nm s = none := pickA_non fun x hx e => absurd ⟨x, hx, e⟩ ha
    rw [pickA_app2, hi, Option.none_or, initW_same (fun x hx e => ha ⟨x, hx, e⟩) hin, hf.2]
    exact hz
/-- First's term has the value there that the term has in the first world -/
theorem first_value (h : NewF p n = .ok S) {q : Tm} (he : (FirstF p q).2 = 0) : evalF (FirstF p q).1 ⟨n, []⟩ = evalF q S.w := by
  obtain ⟨hp, h1, h2, hS, _, hin⟩ := New_ok h
  have hw0 := (world0 h1 h2).right
  unfold FirstF at he ⊢
  by_cases hq : askedE p q ≠ 0
  · rw [if_pos hq] at he; exact absurd he hq
  rw [if_neg hq] at he ⊢
  unfold putE at he ⊢
  by_cases hp2 : (PutF q (firstL p)).2 ≠ 0
  · rw [if_pos hp2] at he; cases he
  rw [if_neg hp2]
  dsimp only
  have hp3 := Decidable.of_not_not hp2
  unfold PutF at hp3 ⊢
  by_cases hs : (sortF q).2 ≠ 0
  · rw [if_pos hs] at hp3; exact absurd hp3 hs
  rw [if_neg hs] at hp3 ⊢
  by_cases hb : badA (firstL p) ≠ 0
  · rw [if_pos hb] at hp3; exact absurd hp3 hb
  rw [if_neg hb] at hp3 ⊢
  unfold outF at hp3 ⊢
  by_cases ho : (sortF (ptT (pickT (firstL p)) q)).2 ≠ 0
  · rw [if_pos ho] at hp3; exact absurd hp3 ho
  rw [if_neg ho]
  dsimp only
  have hs0 := Decidable.of_not_not hs
  have ho0 := Decidable.of_not_not ho
  obtain ⟨_, _, r, _⟩ := sortF_ok hs0
  rw [evalF_of hw0 (Prod.ext rfl ho0 : sortF (ptT (pickT (firstL p)) q) = (_, 0)), evalF_of hS.w.right (Prod.ext rfl hs0 : sortF q = (_, 0)), pt_val hS.w.nodes.symm (first_pick h) q r]
end
end Go.V
