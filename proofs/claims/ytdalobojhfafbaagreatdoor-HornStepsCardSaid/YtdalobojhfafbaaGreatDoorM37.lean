/- A protocol that runs: what its steps come to. -/
import Derived.Test.YtdalobojhfafbaaGreatDoorM29
import Derived.Test.YtdalobojhfafbaaGreatDoorM16
import Derived.KernelRfl
import Derived.Test.YtdalobojhfafbaaGreatDoorM15
set_option linter.unusedVariables false
namespace Go.V
open Go
structure Pn where
  nm : ByteArray
  node : Int
def Pn.cs (x : Pn) : List D := [.s x.nm, .i x.node]
theorem Pn.cs_len (x : Pn) : x.cs.length = 2 := rfl
theorem Pn.cs_one (x : Pn) : x.cs.all D.one = true := rfl
def pnz : Pn := ⟨⟨#[]⟩, 0⟩
structure Sm where
  hs : List Ha
  safe : Tm
  w : Wd
  l : List Pn
def ownP (hs : List Ha) (safe : Tm) : Pr := ⟨[], [], [], [], [], hs, safe, []⟩
def namesW (l : List ByteArray) (v : Vl) (w : Wd) : Wd := l.foldl (fun w s => withF w s v) w
def initW (n : Int) : List As → Wd → Except Int Wd
  | [], w => .ok w
  | x :: r, w => if (evalF x.to ⟨n, []⟩).2 ≠ 0 then .error (evalF x.to ⟨n, []⟩).2 else initW n r (withF w x.nm (evalF x.to ⟨n, []⟩).1)
def noneV (n : Int) : Vl := ⟨2, 0, false, List.replicate n.toNat false⟩
def firstW (p : Pr) (n : Int) : Wd := namesW p.msgs (noneV n) (namesW p.sets (noneV n) (namesW p.bools ⟨4, 0, false, []⟩ (namesW p.ints ⟨1, 0, false, []⟩ ⟨n, []⟩)))
def NewF (p : Pr) (n : Int) : Except Int Sm :=
  if CheckF p ≠ 0 then .error (CheckF p) else if n < 1 ∨ 64 < n then .error 1 else match initW n p.init (firstW p n) with
    | .error e => .error e
    | .ok w => .ok ⟨p.hs, p.safe, w, []⟩
def nodeV (n : Int) : Vl := ⟨3, n, false, []⟩
def dueW (w : Wd) (h : Ha) (node : Int) : Wd := withF w h.node (nodeV node)
def dueB (w : Wd) (h : Ha) (node : Int) : Bool := decide ((evalF h.whn (dueW w h node)).2 = 0) && (evalF h.whn (dueW w h node)).1.b
def doW (w : Wd) : List As → Wd → Option Wd
  | [], n => some n
  | x :: r, n => if (evalF x.to w).2 ≠ 0 then none else doW w r (withF n x.nm (evalF x.to w).1)
def sendV (n : Wd) (s : ByteArray) (node : Int) : Vl := ⟨((getF n.names s 2).getD vz).sort, ((getF n.names s 2).getD vz).n, ((getF n.names s 2).getD vz).b, ((getF n.names s 2).getD vz).s.set node.toNat true⟩
def sendW (node : Int) : List ByteArray → Wd → Wd
  | [], n => n
  | s :: r, n => sendW node r (withF n s (sendV n s node))
def doF (S : Sm) (h : Ha) (node : Int) (pd : List Pn) : Option Sm :=
  match doW (dueW S.w h node) h.dos S.w with
  | none => none
  | some n => if 256 < pd.length + h.send.length then none else some ⟨S.hs, S.safe, sendW node h.send n, pd ++ h.send.map fun s => ⟨s, node⟩⟩
def thereB (l : List Pn) (i : Int) : Bool := decide (0 ≤ i) && decide (i < l.length)
def DoubleF (S : Sm) (i : Int) : Option Sm := if thereB S.l i = true ∧ S.l.length < 256 then some ⟨S.hs, S.safe, S.w, S.l ++ [S.l.getD i.toNat pnz]⟩ else none
def DropF (S : Sm) (i : Int) : Option Sm := if thereB S.l i = true then some ⟨S.hs, S.safe, S.w, S.l.eraseIdx i.toNat⟩ else none
def handF (w : Wd) (m : Pn) : List Ha → Option Ha
  | [] => none
  | h :: r => if h.timer = false ∧ h.nm = m.nm ∧ dueB w h m.node = true then some h else handF w m r
def DeliverF (S : Sm) (i : Int) : Option Sm :=
  if thereB S.l i = true then match handF S.w (S.l.getD i.toNat pnz) S.hs with
    | some h => doF S h (S.l.getD i.toNat pnz).node (S.l.eraseIdx i.toNat)
    | none => some ⟨S.hs, S.safe, S.w, S.l.eraseIdx i.toNat⟩
  else none
def TimerF (S : Sm) (k node : Int) : Option Sm :=
  if 0 ≤ k ∧ k < S.hs.length ∧ (S.hs.getD k.toNat hz).timer = true ∧ 0 ≤ node ∧ node < S.w.nodes ∧ dueB S.w (S.hs.getD k.toNat hz) node = true then doF S (S.hs.getD k.toNat hz) node S.l else none
end Go.V
set_option linter.unusedVariables false
namespace Go.V
open Go
def keyP (p : Pr) : List (ByteArray × Int) := (dictP p).map fun x => (x.1, (shpAt x.2).sort)
theorem dict_ops {p : Pr} {x : ByteArray × Int} (h : x ∈ dictP p) : x.2 = 2 ∨ x.2 = 15 ∨ x.2 = 7 := by
  unfold dictP opL at h
  simp only [List.mem_append, List.mem_map] at h
  rcases h with ((⟨_, _, rfl⟩ | ⟨_, _, rfl⟩) | ⟨_, _, rfl⟩) | ⟨_, _, rfl⟩ <;> simp
theorem becS_eq {d : Dict} {s : ByteArray} (hs : nameF s.data.toList = true) (ho : opD d s = 2 ∨ opD d s = 15 ∨ opD d s = 7) : becS d s = (shpAt (opD d s)).sort := by
  unfold becS
  have hr : rightT (.mk (opD d s) s 0 []) 0 = true := by
    rw [rightT_eq]
    have h2 : (shpAt 2) = ⟨1, true, false, [], false⟩ := rfl
    have h7 : (shpAt 7) = ⟨2, true, false, [], false⟩ := rfl
    have h15 : (shpAt 15) = ⟨4, true, false, [], false⟩ := rfl
    rcases ho with h | h | h <;> rw [h] <;> simp [Tm.op, Tm.a, Tm.nm, Tm.n, h2, h7, h15, badHead, hs, rightL]
  have e : (Tm.mk (opD d s) s 0 []) = Nm.tm (s.data.toList, opD d s) := rfl
  rw [e] at hr ⊢
  rw [Nm.sort hr]
section
variable {w : Wd} {nm : ByteArray} {v : Vl}
theorem with_keys (h : (nm, v.sort) ∈ w.names.map keyN) : (withF w nm v).names.map keyN = w.names.map keyN := by
  show (putL nm v w.names).map keyN = _
  rcases put_cases nm v w.names with ⟨_, h2⟩ | ⟨j, x, h1, h2, h3, h4⟩
  · obtain ⟨x, hx, he⟩ := List.mem_map.1 h
    exact absurd ⟨congrArg Prod.fst he, congrArg Prod.snd he⟩ (h2 x hx)
  · rw [h1, List.map_set]
    apply List.ext_getElem?
    intro i
    rw [List.getElem?_set]
    split
    · next hij =>
      subst hij
      split
      · rw [List.getElem?_map, h2]; simp [keyN, h3, h4]
      · next hl => rw [List.getElem?_eq_none (by omega)]
    · rfl
theorem with_new_names (h : ∀ x ∈ w.names, x.nm ≠ nm) : (withF w nm v) = ⟨w.nodes, w.names ++ [⟨nm, v⟩]⟩ := by
  unfold withF
  rcases put_cases nm v w.names with ⟨h1, _⟩ | ⟨j, x, h1, h2, h3, h4⟩
  · rw [h1]
  · exact absurd h3 (h x (List.mem_of_getElem? h2))
theorem keys_len {K : List (ByteArray × Int)} (h : w.names.map keyN = K) : w.names.length = K.length := by rw [← h, List.length_map]
theorem with_same (nm' : ByteArray) (s : Int) (h : ¬ (nm' = nm ∧ s = v.sort)) : getF (withF w nm v).names nm' s = getF w.names nm' s := (put_law nm v w.names).2.1 nm' s h
theorem with_has : getF (withF w nm v).names nm v.sort = some v := (put_law nm v w.names).1
theorem getF_key {l : List Nv} {s : Int} : (∃ v, getF l nm s = some v) ↔ (nm, s) ∈ l.map keyN := by
  constructor
  · rintro ⟨v, h⟩
    obtain ⟨x, hx, h1, h2, h3⟩ := getF_mem h
    exact List.mem_map.2 ⟨x, hx, by rw [keyN, h2, h1, h3]⟩
  · intro h
    cases hg : getF l nm s with
    | some v => exact ⟨v, rfl⟩
    | none =>
      obtain ⟨x, hx, he⟩ := List.mem_map.1 h
      unfold getF at hg
      rw [Option.map_eq_none_iff, List.find?_eq_none] at hg
      have := hg x hx
      rw [show x.nm = nm from congrArg Prod.fst he, show x.v.sort = s from congrArg Prod.snd he] at this
      simp at this
end
structure WOk (K : List (ByteArray × Int)) (n : Int) (w : Wd) : Prop where
  right : rightW w = true
  nodes : w.nodes = n
  keys : w.names.map keyN = K
theorem WOk.with {K : List (ByteArray × Int)} {n : Int} {w : Wd} {nm : ByteArray} {v : Vl} (h : WOk K n w) (hk : (nm, v.sort) ∈ K) (hn : nameF nm.data.toList = true) (hv : isF v n = true) (hl : K.length < 64) : WOk K n (withF w nm v) :=
  ⟨with_right h.right hn (by rw [h.nodes]; exact hv) (by rw [keys_len h.keys]; exact hl), h.nodes, by rw [with_keys (by rw [h.keys]; exact hk), h.keys]⟩
theorem namesW_ok {v : Vl} {n : Int} : ∀ {l : List ByteArray} {K : List (ByteArray × Int)} {w : Wd}, WOk K n w → (∀ s ∈ l, nameF s.data.toList = true) → (∀ s ∈ l, ∀ x ∈ K, x.1 ≠ s) → l.Nodup → isF v n = true → K.length + l.length ≤ 64 →
    WOk (K ++ l.map fun s => (s, v.sort)) n (namesW l v w) ∧ (namesW l v w).names = w.names ++ l.map fun s => ⟨s, v⟩
  | [], K, w, h, _, _, _, _, _ => by
    refine ⟨by rw [List.map_nil, List.append_nil]; exact h, by rw [List.map_nil, List.append_nil]; rfl⟩
  | s :: l, K, w, h, hn, hf, hd, hv, hl => by
    rw [List.nodup_cons] at hd
    simp only [List.length_cons] at hl
    have hnew : ∀ x ∈ w.names, x.nm ≠ s := fun x hx => hf s List.mem_cons_self (keyN x) (by rw [← h.keys]; exact List.mem_map_of_mem hx)
    have e := with_new_names (v := v) hnew
    have h1 : WOk (K ++ [(s, v.sort)]) n (withF w s v) := ⟨with_right h.right (hn s List.mem_cons_self) (by rw [h.nodes]; exact hv) (by rw [keys_len h.keys]; omega), h.nodes, by rw [e]; show (w.names ++ [(⟨s, v⟩ : Nv)]).map keyN = _; rw [List.map_append, h.keys]; rfl⟩
    obtain ⟨i1, i2⟩ := namesW_ok (l := l) h1 (fun t ht => hn t (List.mem_cons_of_mem _ ht)) (fun t ht x hx => by
      rcases List.mem_append.1 hx with hx | hx
      · exact hf t (List.mem_cons_of_mem _ ht) x hx
      · rw [List.mem_singleton.1 hx]; exact fun hh => hd.1 (by rw [show s = t from hh]; exact ht)) hd.2 hv (by rw [List.length_append]; simp only [List.length_cons, List.length_nil]; omega)
    refine ⟨?_, ?_⟩
    · rw [List.append_assoc] at i1; exact i1
    · show (namesW l v (withF w s v)).names = _
      rw [i2, e, List.append_assoc]; rfl
theorem world0 {n : Int} (h1 : 1 ≤ n) (h2 : n ≤ 64) : WOk [] n ⟨n, []⟩ := ⟨by unfold rightW; simp [rightLW, h1, h2], rfl, rfl⟩
theorem noneV_is {n : Int} (h1 : 1 ≤ n) : isF (noneV n) n = true := by
  unfold isF noneV
  dsimp only
  rw [List.length_replicate, if_pos rfl, decide_eq_true (show ((n.toNat : Nat) : Int) = n by omega), decide_eq_true (show ((2 : Int) = 1 ∨ ((2 : Int) = 3 ∧ (0 : Int) ≤ 0 ∧ 0 < n) ∨ ((2 : Int) = 2 ∧ (0 : Int) = 0) ∨ ((2 : Int) = 4 ∧ (0 : Int) = 0)) from Or.inr (Or.inr (Or.inl ⟨rfl, rfl⟩)))]
  rfl
theorem int0_is (n : Int) : isF ⟨1, 0, false, []⟩ n = true := by
  unfold isF; simp
theorem bool0_is (n : Int) : isF ⟨4, 0, false, []⟩ n = true := by
  unfold isF; simp
theorem keyP_eq (p : Pr) : keyP p = ((([] ++ p.ints.map fun s => (s, (1 : Int))) ++ p.bools.map fun s => (s, (4 : Int))) ++ p.sets.map fun s => (s, (2 : Int))) ++ p.msgs.map fun s => (s, (2 : Int)) := by
  unfold keyP dictP opL
  simp only [List.map_append, List.map_map, List.nil_append]
  rfl
theorem keyP_fst (p : Pr) : (keyP p).map (·.1) = (dictP p).map (·.1) := by unfold keyP; rw [List.map_map]; rfl
theorem keyP_len {p : Pr} (h : PrOk p) : (keyP p).length ≤ 60 := by
  obtain ⟨⟨⟨f1, f2, f3, f4⟩, _⟩, _⟩ := (show ((p.ints.length ≤ 15 ∧ p.bools.length ≤ 15 ∧ p.sets.length ≤ 15 ∧ p.msgs.length ≤ 15) ∧ (p.hs.length ≤ 32 ∧ p.known.length ≤ 32 ∧ p.init.length ≤ 32)) ∧ ∀ h ∈ p.hs, h.dos.length ≤ 32 ∧ h.send.length ≤ 32 by
    have := h.few
    unfold fewB at this
    rw [Bool.and_eq_true, Bool.and_eq_true, decide_eq_true_eq, decide_eq_true_eq, List.all_eq_true] at this
    simpa only [decide_eq_true_eq] using this)
  rw [keyP_eq]
  simp only [List.length_append, List.length_map, List.length_nil]
  omega
theorem keyP_of {p : Pr} {s : ByteArray} (h : opD (dictP p) s ≠ 0) : (s, (shpAt (opD (dictP p) s)).sort) ∈ keyP p := List.mem_map.2 ⟨_, opD_mem h, rfl⟩
theorem keyP_msg {p : Pr} {s : ByteArray} (h : s ∈ p.msgs) : (s, (2 : Int)) ∈ keyP p := by
  rw [keyP_eq]
  exact List.mem_append_right _ (List.mem_map_of_mem h)
theorem keyP_name {p : Pr} (h : PrOk p) {x : ByteArray × Int} (hx : x ∈ keyP p) : nameF x.1.data.toList = true := by
  obtain ⟨y, hy, rfl⟩ := List.mem_map.1 hx
  exact h.names y hy
def firstN (p : Pr) (n : Int) : List Nv := (p.ints.map fun s => ⟨s, ⟨1, 0, false, []⟩⟩) ++ (p.bools.map fun s => ⟨s, ⟨4, 0, false, []⟩⟩) ++ (p.sets.map fun s => ⟨s, noneV n⟩) ++ p.msgs.map fun s => ⟨s, noneV n⟩
theorem firstW_ok {p : Pr} {n : Int} (h : PrOk p) (h1 : 1 ≤ n) (h2 : n ≤ 64) : WOk (keyP p) n (firstW p n) ∧ (firstW p n).names = firstN p n := by
  have hnd := h.nodup
  have hnm := h.names
  have hlen := keyP_len h
  rw [keyP_eq] at hlen ⊢
  unfold dictP at hnd hnm
  unfold opL at hnd hnm
  simp only [List.map_append, List.map_map] at hnd
  have e : ((fun x : ByteArray × Int => x.1) ∘ fun s => (s, (2 : Int))) = id := rfl
  have e' : ((fun x : ByteArray × Int => x.1) ∘ fun s => (s, (15 : Int))) = id := rfl
  have e'' : ((fun x : ByteArray × Int => x.1) ∘ fun s => (s, (7 : Int))) = id := rfl
  rw [e, e', e'', List.map_id, List.map_id, List.map_id, List.map_id] at hnd
  obtain ⟨n3, n4, d4⟩ := List.nodup_append.1 hnd
  obtain ⟨n2, n5, d3⟩ := List.nodup_append.1 n3
  obtain ⟨n1, n6, d2⟩ := List.nodup_append.1 n2
  simp only [List.length_append, List.length_map, List.length_nil] at hlen
  have m1 : ∀ s ∈ p.ints, nameF s.data.toList = true := fun s hs => hnm (s, 2) (by simp [hs])
  have m2 : ∀ s ∈ p.bools, nameF s.data.toList = true := fun s hs => hnm (s, 15) (by simp [hs])
  have m3 : ∀ s ∈ p.sets, nameF s.data.toList = true := fun s hs => hnm (s, 7) (by simp [hs])
  have m4 : ∀ s ∈ p.msgs, nameF s.data.toList = true := fun s hs => hnm (s, 7) (by simp [hs])
  obtain ⟨a1, a2⟩ := namesW_ok (v := ⟨1, 0, false, []⟩) (l := p.ints) (world0 h1 h2) m1 (fun s hs x hx => by cases hx) n1 (int0_is n) (by simp only [List.length_nil]; omega)
  obtain ⟨b1, b2⟩ := namesW_ok (v := ⟨4, 0, false, []⟩) (l := p.bools) a1 m2 (fun s hs x hx => by
    simp only [List.nil_append, List.mem_map] at hx
    obtain ⟨t, ht, rfl⟩ := hx
    exact d2 t ht s hs) n6 (bool0_is n) (by simp only [List.length_append, List.length_map, List.length_nil]; omega)
  obtain ⟨c1, c2⟩ := namesW_ok (v := noneV n) (l := p.sets) b1 m3 (fun s hs x hx => by
    simp only [List.nil_append, List.mem_append, List.mem_map] at hx
    rcases hx with ⟨t, ht, rfl⟩ | ⟨t, ht, rfl⟩
    · exact d3 t (List.mem_append_left _ ht) s hs
    · exact d3 t (List.mem_append_right _ ht) s hs) n5 (noneV_is h1) (by simp only [List.length_append, List.length_map, List.length_nil]; omega)
  obtain ⟨f1, f2⟩ := namesW_ok (v := noneV n) (l := p.msgs) c1 m4 (fun s hs x hx => by
    simp only [List.nil_append, List.mem_append, List.mem_map] at hx
    rcases hx with (⟨t, ht, rfl⟩ | ⟨t, ht, rfl⟩) | ⟨t, ht, rfl⟩
    · exact d4 t (List.mem_append_left _ (List.mem_append_left _ ht)) s hs
    · exact d4 t (List.mem_append_left _ (List.mem_append_right _ ht)) s hs
    · exact d4 t (List.mem_append_right _ ht) s hs) n4 (noneV_is h1) (by simp only [List.length_append, List.length_map, List.length_nil]; omega)
  refine ⟨f1, ?_⟩
  show (namesW p.msgs (noneV n) _).names = _
  rw [f2, c2, b2, a2]
  rfl
end Go.V
set_option linter.unusedVariables false
namespace Go.V
open Go
theorem WOk.eval {K : List (ByteArray × Int)} {n : Int} {w u : Wd} {t : Tm} {nm : ByteArray} {s : Int} (h : WOk K n w) (hu : rightW u = true) (hun : u.nodes = n) (ht : sortF t = (s, 0)) (he : (evalF t u).2 = 0) (hk : (nm, s) ∈ K) (hn : nameF nm.data.toList = true) (hl : K.length < 64) :
    WOk K n (withF w nm (evalF t u).1) ∧ (evalF t u).1.sort = s := by
  obtain ⟨_, hok, hf⟩ := eval_okV hu (t := t) (by rw [ht]) he
  have hs := hok.sort
  rw [ht] at hs
  exact ⟨h.with (by rw [hs]; exact hk) hn (by rw [← hun]; exact hf) hl, hs⟩
theorem initW_ok {p : Pr} {n : Int} (hp : PrOk p) (h1 : 1 ≤ n) (h2 : n ≤ 64) : ∀ {l : List As} {w w' : Wd}, (∀ x ∈ l, opD (dictP p) x.nm ≠ 0 ∧ sortF x.to = (becS (dictP p) x.nm, 0)) → WOk (keyP p) n w → initW n l w = .ok w' → WOk (keyP p) n w'
  | [], w, w', _, h, e => by rw [initW] at e; cases e; exact h
  | x :: r, w, w', hx, h, e => by
    rw [initW] at e
    split at e
    · cases e
    · next g =>
      obtain ⟨a1, a2⟩ := hx x List.mem_cons_self
      have hk := keyP_of a1
      have hnm := keyP_name hp hk
      rw [becS_eq hnm (dict_ops (opD_mem a1))] at a2
      exact initW_ok hp h1 h2 (fun y hy => hx y (List.mem_cons_of_mem _ hy)) (h.eval (world0 h1 h2).right rfl a2 (Decidable.of_not_not g) hk hnm (by have := keyP_len hp; omega)).1 e
theorem init_all {p : Pr} (hp : PrOk p) : ∀ x ∈ p.init, opD (dictP p) x.nm ≠ 0 ∧ sortF x.to = (becS (dictP p) x.nm, 0) := fun x hx => by
  obtain ⟨h1, _, h2, _⟩ := firstE_all hp.init x hx
  exact ⟨h1, h2⟩
def bitW (w : Wd) (s : ByteArray) (i : Nat) : Bool := (((getF w.names s 2).getD vz).s).getD i false
structure SOk (p : Pr) (n : Int) (S : Sm) : Prop where
  hs : S.hs = p.hs
  safe : S.safe = p.safe
  w : WOk (keyP p) n S.w
  few : S.l.length ≤ 256
  pend : ∀ m ∈ S.l, m.nm ∈ p.msgs ∧ 0 ≤ m.node ∧ m.node < n ∧ bitW S.w m.nm m.node.toNat = true
theorem New_ok {p : Pr} {n : Int} {S : Sm} (h : NewF p n = .ok S) : PrOk p ∧ 1 ≤ n ∧ n ≤ 64 ∧ SOk p n S ∧ S.l = [] ∧ initW n p.init (firstW p n) = .ok S.w := by
  unfold NewF at h
  split at h
  · cases h
  · next g =>
    split at h
    · cases h
    · next g2 =>
      have hp := CheckF_ok (Decidable.of_not_not g)
      have h1 : 1 ≤ n := by omega
      have h2 : n ≤ 64 := by omega
      split at h
      · cases h
      · next w hw =>
        cases h
        exact ⟨hp, h1, h2, ⟨rfl, rfl, initW_ok hp h1 h2 (init_all hp) (firstW_ok hp h1 h2).1 hw, Nat.zero_le _, fun m hm => by cases hm⟩, rfl, hw⟩
section
variable {p : Pr} {n : Int}
theorem node_is {i : Int} (h0 : 0 ≤ i) (h1 : i < n) : isF (nodeV i) n = true := by
  unfold isF nodeV
  dsimp only
  rw [decide_eq_true (show ((3 : Int) = 1 ∨ ((3 : Int) = 3 ∧ 0 ≤ i ∧ i < n) ∨ ((3 : Int) = 2 ∧ i = 0) ∨ ((3 : Int) = 4 ∧ i = 0)) from Or.inr (Or.inl ⟨rfl, h0, h1⟩))]
  rfl
theorem due_ok {w : Wd} {h : Ha} {i : Int} (hp : PrOk p) (hw : WOk (keyP p) n w) (hh : HaOk (dictP p) p.msgs h) (h0 : 0 ≤ i) (h1 : i < n) : rightW (dueW w h i) = true ∧ (dueW w h i).nodes = n ∧ dueW w h i = ⟨w.nodes, w.names ++ [⟨h.node, nodeV i⟩]⟩ := by
  refine ⟨with_right hw.right hh.node (by rw [hw.nodes]; exact node_is h0 h1) (by rw [keys_len hw.keys]; have := keyP_len hp; omega), hw.nodes, with_new_names fun x hx he => ?_⟩
  have hk : keyN x ∈ keyP p := by rw [← hw.keys]; exact List.mem_map_of_mem hx
  obtain ⟨y, hy, hye⟩ := List.mem_map.1 hk
  have h3 : y.1 = h.node := (congrArg Prod.fst hye).trans he
  exact opD_no dictP_nz hh.fresh y hy h3
theorem doW_ok {u : Wd} (hp : PrOk p) (hu : rightW u = true) (hun : u.nodes = n) : ∀ {l : List As} {w w' : Wd}, (∀ x ∈ l, opD (dictP p) x.nm ≠ 0 ∧ sortF x.to = (becS (dictP p) x.nm, 0)) → WOk (keyP p) n w → doW u l w = some w' → WOk (keyP p) n w'
  | [], w, w', _, h, e => by rw [doW] at e; cases e; exact h
  | x :: r, w, w', hx, h, e => by
    rw [doW] at e
    split at e
    · cases e
    · next g =>
      obtain ⟨a1, a2⟩ := hx x List.mem_cons_self
      have hk := keyP_of a1
      have hnm := keyP_name hp hk
      rw [becS_eq hnm (dict_ops (opD_mem a1))] at a2
      exact doW_ok hp hu hun (fun y hy => hx y (List.mem_cons_of_mem _ hy)) (h.eval hu hun a2 (Decidable.of_not_not g) hk hnm (by have := keyP_len hp; omega)).1 e
theorem doW_same {u : Wd} {nm : ByteArray} {s : Int} : ∀ {l : List As} {w w' : Wd}, (∀ x ∈ l, x.nm ≠ nm) → doW u l w = some w' → getF w'.names nm s = getF w.names nm s
  | [], w, w', _, e => by rw [doW] at e; cases e; rfl
  | x :: r, w, w', hx, e => by
    rw [doW] at e
    split at e
    · cases e
    · rw [doW_same (fun y hy => hx y (List.mem_cons_of_mem _ hy)) e, with_same nm s (fun hh => hx x List.mem_cons_self hh.1.symm)]
theorem getF_is {w : Wd} {K : List (ByteArray × Int)} {nm : ByteArray} (hw : WOk K n w) (hk : (nm, (2 : Int)) ∈ K) : ∃ v, getF w.names nm 2 = some v ∧ v.sort = 2 ∧ v.s.length = n.toNat ∧ isF v n = true ∧ v.n = 0 ∧ v.b = false := by
  obtain ⟨v, hv⟩ := getF_key.2 (by rw [hw.keys]; exact hk)
  obtain ⟨x, hx, h1, h2, h3⟩ := getF_mem hv
  have hr := (rightLW_mem (rightW_spec hw.right).2.2.2 x hx).2
  rw [h1] at hr
  have hokv := (isF_ok (rightW_spec hw.right).1 hr).1
  refine ⟨v, hv, h3, ?_, by rw [← hw.nodes]; exact hr, hokv.num (.inl h3), hokv.bol (by rw [h3]; decide)⟩
  rw [← hw.nodes, hokv.len, if_pos h3]
theorem set_is {v : Vl} {i : Nat} (h : isF v n = true) : isF ⟨v.sort, v.n, v.b, v.s.set i true⟩ n = true := by
  unfold isF at h ⊢
  dsimp only
  rw [List.length_set]; exact h
theorem send_one {w : Wd} {s : ByteArray} {i : Int} (hp : PrOk p) (hw : WOk (keyP p) n w) (hs : s ∈ p.msgs) : WOk (keyP p) n (withF w s (sendV w s i)) ∧ (sendV w s i).sort = 2 := by
  obtain ⟨v, h1, h2, h3, h4, _⟩ := getF_is hw (keyP_msg hs)
  have e : sendV w s i = ⟨v.sort, v.n, v.b, v.s.set i.toNat true⟩ := by unfold sendV; rw [h1]; rfl
  rw [e]
  refine ⟨hw.with ?_ (keyP_name hp (keyP_msg hs)) (set_is h4) (by have := keyP_len hp; omega), h2⟩
  show (s, v.sort) ∈ keyP p
  rw [h2]; exact keyP_msg hs
theorem sendW_ok {i : Int} (hp : PrOk p) : ∀ {l : List ByteArray} {w : Wd}, WOk (keyP p) n w → (∀ s ∈ l, s ∈ p.msgs) → WOk (keyP p) n (sendW i l w)
  | [], w, hw, _ => hw
  | s :: l, w, hw, hl => by
    rw [sendW]
    exact sendW_ok hp (send_one hp hw (hl s List.mem_cons_self)).1 fun t ht => hl t (List.mem_cons_of_mem _ ht)
theorem sendW_same {i : Int} {nm : ByteArray} {st : Int} : ∀ {l : List ByteArray} {w : Wd}, (∀ s ∈ l, s ≠ nm) → getF (sendW i l w).names nm st = getF w.names nm st
  | [], w, _ => rfl
  | s :: l, w, hl => by
    rw [sendW, sendW_same (fun t ht => hl t (List.mem_cons_of_mem _ ht)), with_same nm st (fun hh => hl s List.mem_cons_self hh.1.symm)]
theorem bit_one {w : Wd} {s t : ByteArray} {i : Int} {j : Nat} (hp : PrOk p) (hw : WOk (keyP p) n w) (hs : s ∈ p.msgs) (h0 : 0 ≤ i) (h1 : i < n) : bitW (withF w s (sendV w s i)) t j = (bitW w t j || (decide (t = s) && decide (j = i.toNat))) := by
  obtain ⟨v, g1, g2, g3, g4, _⟩ := getF_is hw (keyP_msg hs)
  have e : sendV w s i = ⟨v.sort, v.n, v.b, v.s.set i.toNat true⟩ := by unfold sendV; rw [g1]; rfl
  have hsort := (send_one hp hw hs (i := i)).2
  unfold bitW
  by_cases ht : t = s
  · subst ht
    have := with_has (w := w) (nm := t) (v := sendV w t i)
    rw [hsort] at this
    rw [this, g1, e]
    show (v.s.set i.toNat true).getD j false = (v.s.getD j false || _)
    rw [List.getD_eq_getElem?_getD, List.getD_eq_getElem?_getD, List.getElem?_set]
    by_cases hj : i.toNat = j
    · subst hj
      rw [if_pos rfl, if_pos (by omega)]
      simp
    · rw [if_neg hj, decide_eq_false (show ¬ j = i.toNat from fun hh => hj hh.symm)]
      simp
  · rw [with_same t 2 (fun hh => ht hh.1), decide_eq_false ht]
    simp
theorem bit_send {i : Int} {t : ByteArray} {j : Nat} (hp : PrOk p) (h0 : 0 ≤ i) (h1 : i < n) : ∀ {l : List ByteArray} {w : Wd}, WOk (keyP p) n w → (∀ s ∈ l, s ∈ p.msgs) → bitW (sendW i l w) t j = (bitW w t j || ((l.any fun s => decide (t = s)) && decide (j = i.toNat)))
  | [], w, hw, _ => by rw [sendW]; simp
  | s :: l, w, hw, hl => by
    rw [sendW, bit_send hp h0 h1 (send_one hp hw (hl s List.mem_cons_self)).1 (fun t ht => hl t (List.mem_cons_of_mem _ ht)), bit_one hp hw (hl s List.mem_cons_self) h0 h1, List.any_cons]
    cases bitW w t j <;> cases decide (t = s) <;> cases (l.any fun s => decide (t = s)) <;> cases decide (j = i.toNat) <;> rfl
structure Does (p : Pr) (n : Int) (h : Ha) (i : Int) (S T : Sm) (pd : List Pn) : Prop where
  ok : SOk p n T
  mono : ∀ s ∈ p.msgs, ∀ j, bitW S.w s j = true → bitW T.w s j = true
  pend : T.l = pd ++ h.send.map fun s => ⟨s, i⟩
  same : ∀ nm s, (∀ x ∈ h.dos, x.nm ≠ nm) → (∀ s ∈ h.send, s ≠ nm) → getF T.w.names nm s = getF S.w.names nm s
theorem do_ok {S T : Sm} {h : Ha} {i : Int} {pd : List Pn} (hp : PrOk p) (hS : SOk p n S) (hh : h ∈ p.hs) (h0 : 0 ≤ i) (h1 : i < n) (hpd : ∀ m ∈ pd, m ∈ S.l) (e : doF S h i pd = some T) : Does p n h i S T pd := by
  have ho := handsE_all hp.hands h hh
  unfold doF at e
  split at e
  · cases e
  · next w hw =>
    split at e
    · cases e
    · next hlen =>
      cases e
      obtain ⟨d1, d2, _⟩ := due_ok hp hS.w ho h0 h1
      have hnx := doW_ok hp d1 d2 (fun x hx => ⟨(ho.dos x hx).1, (ho.dos x hx).2.2.1⟩) hS.w hw
      have hms : ∀ s ∈ h.send, s ∈ p.msgs := fun s hs => hasS_iff.1 (ho.send s hs)
      have hdo : ∀ s ∈ p.msgs, ∀ x ∈ h.dos, x.nm ≠ s := fun s hs x hx he => by
        have := (ho.dos x hx).2.1
        rw [he, hasS_iff.2 hs] at this
        cases this
      have hbd : ∀ s ∈ p.msgs, ∀ j, bitW w s j = bitW S.w s j := fun s hs j => by unfold bitW; rw [doW_same (hdo s hs) hw]
      have hmono : ∀ s ∈ p.msgs, ∀ j, bitW S.w s j = true → bitW (sendW i h.send w) s j = true := fun s hs j hb => by
        rw [bit_send hp h0 h1 hnx hms, hbd s hs, hb]; rfl
      refine ⟨⟨hS.hs, hS.safe, sendW_ok hp hnx hms, ?_, ?_⟩, hmono, rfl, ?_⟩
      · simp only [List.length_append, List.length_map]; omega
      · intro m hm
        rcases List.mem_append.1 hm with hm | hm
        · obtain ⟨q1, q2, q3, q4⟩ := hS.pend m (hpd m hm)
          exact ⟨q1, q2, q3, hmono _ q1 _ q4⟩
        · obtain ⟨s, hs, rfl⟩ := List.mem_map.1 hm
          refine ⟨hms s hs, h0, h1, ?_⟩
          show bitW (sendW i h.send w) s i.toNat = true
          rw [bit_send hp h0 h1 hnx hms, show (h.send.any fun t => decide (s = t)) = true from List.any_eq_true.2 ⟨s, hs, decide_eq_true rfl⟩, decide_eq_true rfl]; simp
      · intro nm s q1 q2
        show getF (sendW i h.send w).names nm s = _
        rw [sendW_same q2, doW_same q1 hw]
end
end Go.V
set_option linter.unusedVariables false
namespace Go.V
open Go
structure Stp where
  kind : Int
  i : Int
  node : Int
def Stp.cs (x : Stp) : List D := [.i x.kind, .i x.i, .i x.node]
theorem Stp.cs_len (x : Stp) : x.cs.length = 3 := rfl
def doesF (S : Sm) (x : Stp) : Option Sm :=
  if x.kind = 0 ∨ x.kind = 1 then DeliverF S x.i else if x.kind = 2 then DoubleF S x.i else if x.kind = 3 then DropF S x.i else if x.kind = 4 ∨ x.kind = 5 ∨ x.kind = 6 then TimerF S x.i x.node else none
theorem handF_is {w : Wd} {m : Pn} {h : Ha} : ∀ {l : List Ha}, handF w m l = some h → h ∈ l ∧ h.timer = false ∧ h.nm = m.nm ∧ dueB w h m.node = true
  | [], e => by cases e
  | x :: r, e => by
    rw [handF] at e
    split at e
    · next g => cases e; exact ⟨List.mem_cons_self, g⟩
    · obtain ⟨h1, h2⟩ := handF_is e; exact ⟨List.mem_cons_of_mem _ h1, h2⟩
section
variable {p : Pr} {n : Int} {S T : Sm}
theorem there_is {l : List Pn} {i : Int} (h : thereB l i = true) : i = (i.toNat : Int) ∧ i.toNat < l.length ∧ l.getD i.toNat pnz ∈ l := by
  unfold thereB at h
  simp only [Bool.and_eq_true, decide_eq_true_eq] at h
  have hlt : i.toNat < l.length := by omega
  refine ⟨by omega, hlt, ?_⟩
  rw [List.getD_eq_getElem?_getD, List.getElem?_eq_getElem hlt]; exact List.getElem_mem hlt
theorem less_ok {l : List Pn} (hS : SOk p n S) (hl : ∀ m ∈ l, m ∈ S.l) (h256 : l.length ≤ 256) : SOk p n ⟨S.hs, S.safe, S.w, l⟩ :=
  ⟨hS.hs, hS.safe, hS.w, h256, fun m hm => hS.pend m (hl m hm)⟩
theorem erase_few {i : Nat} (hS : SOk p n S) : (S.l.eraseIdx i).length ≤ 256 := by have := List.length_eraseIdx_le S.l i; have := hS.few; omega
theorem Double_ok {i : Int} (hS : SOk p n S) (e : DoubleF S i = some T) : SOk p n T ∧ T.w = S.w ∧ T.l = S.l ++ [S.l.getD i.toNat pnz] ∧ thereB S.l i = true := by
  unfold DoubleF at e
  split at e
  · next g =>
    cases e
    refine ⟨less_ok hS (fun m hm => ?_) ?_, rfl, rfl, g.1⟩
    · rcases List.mem_append.1 hm with h | h
      · exact h
      · rw [List.mem_singleton] at h; subst h; exact (there_is g.1).2.2
    · rw [List.length_append]; exact g.2
  · cases e
theorem Deliver_ok {i : Int} (hp : PrOk p) (hS : SOk p n S) (e : DeliverF S i = some T) : thereB S.l i = true ∧ ((handF S.w (S.l.getD i.toNat pnz) S.hs = none ∧ SOk p n T ∧ T.w = S.w ∧ T.l = S.l.eraseIdx i.toNat) ∨
    ∃ h, handF S.w (S.l.getD i.toNat pnz) S.hs = some h ∧ h ∈ p.hs ∧ doF S h (S.l.getD i.toNat pnz).node (S.l.eraseIdx i.toNat) = some T ∧ Does p n h (S.l.getD i.toNat pnz).node S T (S.l.eraseIdx i.toNat)) := by
  unfold DeliverF at e
  split at e
  · next g =>
    refine ⟨g, ?_⟩
    have hm := hS.pend _ (there_is g).2.2
    split at e
    · next h hh =>
      have hi : h ∈ p.hs := by rw [← hS.hs]; exact (handF_is hh).1
      exact .inr ⟨h, hh, hi, e, do_ok hp hS hi hm.2.1 hm.2.2.1 (fun m hm => List.mem_of_mem_eraseIdx hm) e⟩
    · next hh =>
      cases e
      exact .inl ⟨hh, less_ok hS (fun m hm => List.mem_of_mem_eraseIdx hm) (erase_few hS), rfl, rfl⟩
  · cases e
theorem Timer_ok {k i : Int} (hp : PrOk p) (hS : SOk p n S) (e : TimerF S k i = some T) : k = (k.toNat : Int) ∧ ∃ hk : k.toNat < p.hs.length, (p.hs[k.toNat]).timer = true ∧ 0 ≤ i ∧ i < n ∧ dueB S.w p.hs[k.toNat] i = true ∧ doF S p.hs[k.toNat] i S.l = some T ∧ Does p n p.hs[k.toNat] i S T S.l := by
  unfold TimerF at e
  split at e
  · next g =>
    obtain ⟨g0, g1, g2, g3, g4, g5⟩ := g
    have hlt : k.toNat < p.hs.length := by rw [← hS.hs]; omega
    have hget : S.hs.getD k.toNat hz = p.hs[k.toNat] := by
      rw [hS.hs, List.getD_eq_getElem?_getD, List.getElem?_eq_getElem hlt]; rfl
    rw [hget] at g2 g5 e
    have h4 : i < n := by rw [← hS.w.nodes]; exact g4
    exact ⟨by omega, hlt, g2, g3, h4, g5, e, do_ok hp hS (List.getElem_mem hlt) g3 h4 (fun m hm => hm) e⟩
  · cases e
end
def sn (n : Int) : Tm := .mk 1 ⟨#[]⟩ n []
end Go.V
set_option linter.unusedVariables false
namespace Go.V
open Go
section
variable {p : Pr} {n : Int} {S : Sm}
end
end Go.V
set_option linter.unusedVariables false
namespace Go.V
open Go
section
variable {p : Pr} {n : Int} {S T : Sm} {x : Stp}
theorem doubled (hS : SOk p n S) (hk : x.kind = 2) (e : doesF S x = some T) : T.l.length = S.l.length + 1 ∧ T.w = S.w := by
  unfold doesF at e
  rw [if_neg (by omega), if_pos hk] at e
  obtain ⟨_, h1, h2, _⟩ := Double_ok hS e
  exact ⟨by rw [h2, List.length_append]; rfl, h1⟩
end
end Go.V
set_option linter.unusedVariables false
namespace Go.V
open Go
theorem nodup_fst {l : List (ByteArray × Int)} {nm : ByteArray} {s t : Int} : (l.map (·.1)).Nodup → (nm, s) ∈ l → (nm, t) ∈ l → s = t := by
  induction l with
  | nil => intro _ h; cases h
  | cons x r ih =>
    intro hd h1 h2
    rw [List.map_cons, List.nodup_cons] at hd
    rcases List.mem_cons.1 h1 with e1 | h1
    · rcases List.mem_cons.1 h2 with e2 | h2
      · rw [← e1] at e2; exact (congrArg Prod.snd e2).symm
      · exact absurd (List.mem_map.2 ⟨_, h2, by rw [← e1]⟩) hd.1
    · rcases List.mem_cons.1 h2 with e2 | h2
      · exact absurd (List.mem_map.2 ⟨_, h1, by rw [← e2]⟩) hd.1
      · exact ih hd.2 h1 h2
section
variable {p : Pr} {n : Int} {S : Sm}
theorem pickA_app2 (l m : List As) (nm : ByteArray) (s : Int) : pickA (l ++ m) nm s = (pickA l nm s).or (pickA m nm s) := by
  unfold pickA
  rw [List.find?_append]
  cases l.find? _ <;> rfl
theorem pickA_non {l : List As} {nm : ByteArray} {s : Int} (h : ∀ x ∈ l, x.nm = nm → sortF x.to ≠ (s, 0)) : pickA l nm s = none := by
  unfold pickA
  rw [Option.map_eq_none_iff, List.find?_eq_none]
  intro x hx hh
  simp only [Bool.and_eq_true, decide_eq_true_eq] at hh
  exact h x hx hh.1 hh.2
theorem pickA_is {a : As} {s : Int} : ∀ {l : List As}, (l.map As.nm).Nodup → a ∈ l → sortF a.to = (s, 0) → pickA l a.nm s = some a.to
  | [], _, h, _ => by cases h
  | z :: r, hd, h, hs => by
    rw [List.map_cons, List.nodup_cons] at hd
    unfold pickA
    rw [List.find?_cons]
    rcases List.mem_cons.1 h with rfl | h
    · rw [decide_eq_true rfl, decide_eq_true hs]; rfl
    · have : decide (z.nm = a.nm) = false := decide_eq_false fun e => hd.1 (by rw [e]; exact List.mem_map_of_mem h)
      rw [this]
      exact pickA_is hd.2 h hs
end
end Go.V
set_option linter.unusedVariables false
namespace Go.V
open Go
theorem handsE_one {d : Dict} {msgs : List ByteArray} {h : Ha} : ∀ {l : List Ha}, handsE d msgs l = 0 → h ∈ l → handE d msgs h = 0
  | [], _, hm => by cases hm
  | x :: r, h0, hm => by
    rw [handsE] at h0
    obtain ⟨h1, h2⟩ := seqE_zero.1 h0
    rcases List.mem_cons.1 hm with rfl | hm
    · exact h1
    · exact handsE_one h2 hm
theorem doE_nodup {d : Dict} {msgs : List ByteArray} {node : ByteArray} : ∀ {l pre : List As}, doE d msgs node pre l = 0 → (∀ x ∈ l, ∀ y ∈ pre, y.nm ≠ x.nm) ∧ (l.map As.nm).Nodup
  | [], _, _ => ⟨(by intro x hx; cases hx), List.nodup_nil⟩
  | z :: r, pre, h => by
    rw [doE] at h
    obtain ⟨h1, h2⟩ := seqE_zero.1 h
    obtain ⟨_, h6⟩ := seqE_zero.1 h2
    obtain ⟨i1, i2⟩ := doE_nodup h6
    unfold becE at h1
    rw [ite4_zero (by decide)] at h1
    have hz : ∀ y ∈ pre, y.nm ≠ z.nm := fun y hy e => by
      have := h1.2.2
      rw [List.any_eq_false] at this
      exact this y hy (decide_eq_true e)
    refine ⟨fun x hx y hy => ?_, ?_⟩
    · rcases List.mem_cons.1 hx with rfl | hx
      · exact hz y hy
      · exact i1 x hx y (List.mem_append_left _ hy)
    · rw [List.map_cons, List.nodup_cons]
      refine ⟨fun hm => ?_, i2⟩
      obtain ⟨x, hx, e⟩ := List.mem_map.1 hm
      exact i1 x hx z (List.mem_append_right _ (List.mem_singleton.2 rfl)) e.symm
theorem hand_nodup {d : Dict} {msgs : List ByteArray} {h : Ha} (h0 : handE d msgs h = 0) : (h.dos.map As.nm).Nodup := by
  unfold handE at h0
  exact (doE_nodup (seqE_zero.1 (seqE_zero.1 (seqE_zero.1 (seqE_zero.1 h0).2).2).2).1).2
theorem doW_has {u : Wd} {a : As} : ∀ {l : List As} {w w' : Wd}, (l.map As.nm).Nodup → a ∈ l → doW u l w = some w' → (evalF a.to u).2 = 0 ∧ getF w'.names a.nm (evalF a.to u).1.sort = some (evalF a.to u).1
  | [], _, _, _, h, _ => by cases h
  | z :: r, w, w', hd, h, e => by
    rw [List.map_cons, List.nodup_cons] at hd
    rw [doW] at e
    split at e
    · cases e
    · next g =>
      rcases List.mem_cons.1 h with rfl | h
      · refine ⟨Decidable.of_not_not g, ?_⟩
        rw [doW_same (fun y hy he => hd.1 (by rw [← he]; exact List.mem_map_of_mem hy)) e]
        exact with_has
      · exact doW_has hd.2 h e
theorem sendW_has {i : Int} {nm : ByteArray} {v : Vl} : ∀ {l : List ByteArray} {w : Wd}, nm ∈ l → getF w.names nm 2 = some v → v.sort = 2 → getF (sendW i l w).names nm 2 = some ⟨v.sort, v.n, v.b, v.s.set i.toNat true⟩
  | [], _, h, _, _ => by cases h
  | t :: r, w, h, hg, hs => by
    rw [sendW]
    have e : ∀ {u : Vl}, getF w.names t 2 = some u → sendV w t i = ⟨u.sort, u.n, u.b, u.s.set i.toNat true⟩ := fun hu => by unfold sendV; rw [hu]; rfl
    by_cases ht : t = nm
    · subst ht
      have hh : getF (withF w t (sendV w t i)).names t 2 = some ⟨v.sort, v.n, v.b, v.s.set i.toNat true⟩ := by
        have := with_has (nm := t) (v := sendV w t i) (w := w)
        rw [e hg] at this ⊢
        dsimp only at this
        rw [hs] at this ⊢
        exact this
      by_cases hr : t ∈ r
      · rw [sendW_has hr hh hs]
        dsimp only
        rw [List.set_set]
      · rw [sendW_same (fun s hs he => hr (by rw [← he]; exact hs))]
        exact hh
    · rcases List.mem_cons.1 h with h | h
      · exact absurd h.symm ht
      · refine sendW_has h ?_ hs
        rw [with_same nm 2 (fun hh => ht hh.1.symm)]; exact hg
theorem set_or {n : Nat} {s : List Bool} (h : s.length = n) {i : Nat} (hi : i < n) : (List.range n).map (fun j => s.getD j false || decide ((j : Int) = (i : Int))) = s.set i true := by
  refine List.ext_getElem (by rw [List.length_map, List.length_range, List.length_set, h]) fun j h1 h2 => ?_
  rw [List.getElem_map, List.getElem_range, List.getElem_set]
  have hj : j < s.length := by simpa using h2
  rw [List.getD_eq_getElem?_getD, List.getElem?_eq_getElem hj]
  by_cases hij : i = j
  · rw [if_pos hij, decide_eq_true (by omega), Bool.or_true]
  · rw [if_neg hij, decide_eq_false (by omega), Bool.or_false]; rfl
section
variable {p : Pr} {n : Int} {S T : Sm} {h : Ha} {i : Int} {pd : List Pn}
theorem key_none {w : Wd} {nm : ByteArray} {s t : Int} (hw : WOk (keyP p) n w) (hnd : ((keyP p).map (·.1)).Nodup) (hk : (nm, t) ∈ keyP p) (hs : s ≠ t) : getF w.names nm s = none := by
  cases hg : getF w.names nm s with
  | none => rfl
  | some v =>
    have := getF_key.1 ⟨v, hg⟩
    rw [hw.keys] at this
    exact absurd (nodup_fst hnd this hk) hs
theorem send_sort (h : Ha) (s : ByteArray) (hs : nameF s.data.toList = true) (hn : nameF h.node.data.toList = true) : sortF (sendT h s).to = (2, 0) := by
  show sortF (.mk 11 ⟨#[]⟩ 0 [.mk 7 s 0 [], .mk 10 ⟨#[]⟩ 0 [.mk 14 h.node 0 []]]) = (2, 0)
  have k7 : (shpAt 7) = ⟨2, true, false, [], false⟩ := rfl
  have k14 : (shpAt 14) = ⟨3, true, false, [], false⟩ := rfl
  have k10 : (shpAt 10) = ⟨2, false, false, [3], false⟩ := rfl
  have k11 : (shpAt 11) = ⟨2, false, false, [2, 2], false⟩ := rfl
  rw [sortF_eq, if_neg (by simp [Tm.size_mk, Tm.dep_mk, Tm.sizeL_nil, Tm.depL_nil, Tm.sizeL_cons, Tm.depL_cons]), if_pos]
  · rfl
  · simp [rightT_eq, Tm.op, Tm.a, Tm.nm, Tm.n, k7, k14, k10, k11, badHead, hs, hn, rightL]
theorem step_pick (hp : PrOk p) (hn1 : 1 ≤ n) (hn2 : n ≤ 64) (hS : SOk p n S) (hh : h ∈ p.hs) (h0 : 0 ≤ i) (h1 : i < n) (hT : SOk p n T) (e : doF S h i pd = some T) (nm : ByteArray) (s : Int) :
    match pickA (becT h) nm s with | some v => ∃ x, evV (dueW S.w h i) v = .ok x ∧ getF (withF T.w h.node (nodeV i)).names nm s = some x | none => getF (withF T.w h.node (nodeV i)).names nm s = getF (dueW S.w h i).names nm s := by
  have ho := handsE_all hp.hands h hh
  have hd := hand_nodup (handsE_one hp.hands hh)
  have hnd : ((keyP p).map (·.1)).Nodup := by rw [keyP_fst]; exact hp.nodup
  obtain ⟨d1, d2, _⟩ := due_ok hp hS.w ho h0 h1
  have hms : ∀ s ∈ h.send, s ∈ p.msgs := fun s hs => hasS_iff.1 (ho.send s hs)
  have hnk : ∀ x ∈ keyP p, x.1 ≠ h.node := fun x hx he => by
    obtain ⟨y, hy, rfl⟩ := List.mem_map.1 hx
    exact opD_no dictP_nz ho.fresh y hy he
  unfold doF at e
  split at e
  · cases e
  next w hw =>
  split at e
  · cases e
  cases e
  dsimp only at hT ⊢
  have hnx := doW_ok hp d1 d2 (fun x hx => ⟨(ho.dos x hx).1, (ho.dos x hx).2.2.1⟩) hS.w hw
  unfold becT
  rw [pickA_app2]
  by_cases hnode : nm = h.node ∧ s = 3
  · obtain ⟨rfl, rfl⟩ := hnode
    have e1 : pickA h.dos h.node 3 = none := pickA_non fun x hx he => absurd he (hnk _ (keyP_of (ho.dos x hx).1))
    have e2 : pickA (h.send.map (sendT h)) h.node 3 = none := pickA_non fun x hx he => by
      obtain ⟨s, hs, rfl⟩ := List.mem_map.1 hx
      exact absurd he (hnk _ (keyP_msg (hms s hs)))
    rw [e1, e2]
    show getF _ _ (nodeV i).sort = getF _ _ (nodeV i).sort
    unfold dueW
    rw [with_has, with_has]
  have hu : getF (dueW S.w h i).names nm s = getF S.w.names nm s := with_same nm s hnode
  rw [hu, with_same nm s hnode]
  by_cases ha : ∃ a ∈ h.dos, a.nm = nm
  · obtain ⟨a, ham, rfl⟩ := ha
    obtain ⟨g1, g2⟩ := doW_has hd ham hw
    obtain ⟨b1, b0, b2, _⟩ := ho.dos a ham
    have hk := keyP_of b1
    have hnm := keyP_name hp hk
    rw [becS_eq hnm (dict_ops (opD_mem b1))] at b2
    obtain ⟨c1, c2, _⟩ := eval_okV d1 (by rw [b2]) g1
    have hso : (evalF a.to (dueW S.w h i)).1.sort = (shpAt (opD (dictP p) a.nm)).sort := by rw [c2.sort, b2]
    rw [hso] at g2
    have hns : ∀ s ∈ h.send, s ≠ a.nm := fun s hs he => by
      rw [← he, ho.send s hs] at b0; cases b0
    generalize (shpAt (opD (dictP p) a.nm)).sort = s0 at *
    have e2 : pickA (h.send.map (sendT h)) a.nm s = none := pickA_non fun x hx he => by
      obtain ⟨s, hs, rfl⟩ := List.mem_map.1 hx
      exact absurd he (hns s hs)
    by_cases hs : s = s0
    · subst hs
      rw [pickA_is hd ham b2]
      refine ⟨_, c1, ?_⟩
      rw [sendW_same hns]; exact g2
    · have e1 : pickA h.dos a.nm s = none := pickA_non fun x hx e he => by
        obtain ⟨q1, _, q2, _⟩ := ho.dos x hx
        have q3 := keyP_of q1
        rw [becS_eq (keyP_name hp q3) (dict_ops (opD_mem q1)), he] at q2
        have q4 : s = (shpAt (opD (dictP p) x.nm)).sort := congrArg Prod.fst q2
        rw [← q4, e] at q3
        exact hs (nodup_fst hnd q3 hk)
      rw [e1, e2]
      show getF _ _ _ = getF _ _ _
      rw [key_none hT.w hnd hk hs, key_none hS.w hnd hk hs]
  · have e1 : pickA h.dos nm s = none := pickA_non fun x hx e => absurd ⟨x, hx, e⟩ ha
    rw [e1, Option.none_or]
    have hN : ∀ s, getF w.names nm s = getF S.w.names nm s := fun s => doW_same (fun x hx e => ha ⟨x, hx, e⟩) hw
    by_cases hb : nm ∈ h.send
    · have hk := keyP_msg (hms nm hb)
      have hnm := keyP_name hp hk
      by_cases hs : s = 2
      · subst hs
        obtain ⟨v, v1, v2, v3, _, v5, v6⟩ := getF_is hS.w hk
        have hsend := sendW_has (i := i) hb (by rw [hN]; exact v1) v2
        rw [hsend]
        have : pickA (h.send.map (sendT h)) nm 2 = some (sendT h nm).to := by
          clear hsend hT
          have hall : ∀ t ∈ h.send, nameF t.data.toList = true := fun t ht => keyP_name hp (keyP_msg (hms t ht))
          revert hb hall
          generalize h.send = l
          intro hb hall
          induction l with
          | nil => cases hb
          | cons t r ih =>
            rw [List.map_cons]
            unfold pickA at ih ⊢
            rw [List.find?_cons, send_sort h t (hall t List.mem_cons_self) ho.node]
            by_cases ht : t = nm
            · subst ht
              rw [show decide ((sendT h t).nm = t) = true from decide_eq_true rfl]; rfl
            · rw [show decide ((sendT h t).nm = nm) = false from decide_eq_false ht]
              rcases List.mem_cons.1 hb with hb | hb
              · exact absurd hb.symm ht
              · exact ih hb fun t ht => hall t (List.mem_cons_of_mem _ ht)
        rw [this]
        refine ⟨_, ?_, rfl⟩
        have hnd : getF (dueW S.w h i).names h.node 3 = some (nodeV i) := with_has (nm := h.node) (v := nodeV i) (w := S.w)
        have hnv : getF (dueW S.w h i).names nm 2 = some v := by rw [hu]; exact v1
        show evV (dueW S.w h i) (.mk 11 ⟨#[]⟩ 0 [.mk 7 nm 0 [], .mk 10 ⟨#[]⟩ 0 [.mk 14 h.node 0 []]]) = _
        simp only [evV, evL]
        have q1 : opV (dueW S.w h i) 7 nm 0 [] = .ok v := by
          show nameV _ _ 2 = _
          unfold nameV; rw [hnv]
        have q2 : opV (dueW S.w h i) 14 h.node 0 [] = .ok (nodeV i) := by
          show nameV _ _ 3 = _
          unfold nameV; rw [hnd]
        rw [q1, q2]
        dsimp only
        have q3 : opV (dueW S.w h i) 10 ⟨#[]⟩ 0 [nodeV i] = .ok (whereF (dueW S.w h i) fun j => decide ((j : Int) = i)) := rfl
        rw [q3]
        dsimp only
        show Except.ok (whereF (dueW S.w h i) fun j => v.s.getD j false || (whereF (dueW S.w h i) fun j => decide ((j : Int) = i)).s.getD j false) = _
        rw [v2, v5, v6]
        unfold whereF vS
        rw [d2]
        congr 2
        rw [← set_or v3 (i := i.toNat) (by omega)]
        refine List.map_congr_left fun j hj => ?_
        have hj2 : j < n.toNat := List.mem_range.1 hj
        rw [List.getD_eq_getElem?_getD (l := List.map _ _), List.getElem?_map, List.getElem?_range hj2]
        rw [show ((i.toNat : Nat) : Int) = i by omega]
        rfl
      · have e2 : pickA (h.send.map (sendT h)) nm s = none := pickA_non fun x hx he hs2 => by
          obtain ⟨t, ht, rfl⟩ := List.mem_map.1 hx
          rw [send_sort h t (keyP_name hp (keyP_msg (hms t ht))) ho.node] at hs2
          exact hs (congrArg Prod.fst hs2).symm
        rw [e2]
        show getF _ _ _ = getF _ _ _
        rw [key_none hT.w hnd hk hs, key_none hS.w hnd hk hs]
    · have e2 : pickA (h.send.map (sendT h)) nm s = none := pickA_non fun x hx he => by
        obtain ⟨t, ht, rfl⟩ := List.mem_map.1 hx
        exact absurd (show t ∈ h.send from ht) (by rw [show t = nm from he]; exact hb)
      rw [e2]
      show getF _ _ _ = getF _ _ _
      rw [sendW_same (fun t ht he => hb (by rw [← he]; exact ht)), hN]
end
end Go.V
set_option linter.unusedVariables false
namespace Go.V
open Go
section
variable {p : Pr} {n : Int} {S T : Sm} {h : Ha} {i : Int} {pd : List Pn}
theorem put_step {q : Tm} (hp : PrOk p) (hn1 : 1 ≤ n) (hn2 : n ≤ 64) (hS : SOk p n S) (hh : h ∈ p.hs) (h0 : 0 ≤ i) (h1 : i < n) (hT : SOk p n T) (e : doF S h i pd = some T) (hq : askedE p q = 0) :
    evV (dueW S.w h i) (ptT (pickT (becT h)) q) = evV T.w q := by
  unfold askedE at hq
  have h2 := (seqE_zero.1 hq).2
  by_cases hs : (sortF q).2 ≠ 0
  · rw [if_pos hs] at h2; exact absurd h2 hs
  rw [if_neg hs] at h2
  split at h2
  · cases h2
  split at h2
  · cases h2
  next g =>
  have hs0 := Decidable.of_not_not hs
  obtain ⟨_, _, r, _⟩ := sortF_ok hs0
  have ho := handsE_all hp.hands h hh
  have hn : NamesF q = namesT q := by unfold NamesF; rw [if_neg (by rw [hs0]; decide)]
  rw [pt_val (u := withF T.w h.node (nodeV i)) (by show S.w.nodes = T.w.nodes; rw [hS.w.nodes, hT.w.nodes]) (step_pick hp hn1 hn2 hS hh h0 h1 hT e) q r]
  refine ev_apart (w := T.w) (u := withF T.w h.node (nodeV i)) rfl q 0 r fun x hx => ?_
  have hx2 : x ∈ NamesF q := by rw [hn, namesT_mem]; exact hx
  have hne : x.2 ≠ 14 := fun e => g (List.any_eq_true.2 ⟨x, hx2, decide_eq_true e⟩)
  refine with_same _ _ fun hh2 => ?_
  obtain ⟨k1, k2, k3, _⟩ := coll_named r hx
  have : ∀ k : Fin 29, 1 ≤ k.1 → (shpAt (k.1 : Int)).name = true → (shpAt (k.1 : Int)).sort = 3 → k.1 = 14 := by decide
  have h3 := this ⟨x.2.toNat, by omega⟩ (by simp only; omega)
  simp only [Int.toNat_of_nonneg (show 0 ≤ x.2 by omega)] at h3
  exact hne (by have := h3 k3 hh2.2; omega)
theorem ahead_value (hp : PrOk p) (hn1 : 1 ≤ n) (hS : SOk p n S) (hh : h ∈ p.hs) (h0 : 0 ≤ i) (h1 : i < n) (hdue : dueB S.w h i = true) (hbit : h.timer = true ∨ bitW S.w h.nm i.toNat = true ∧ h.nm ∈ p.msgs) : evV (dueW S.w h i) (aheadT h) = .ok (vB true) := by
  have ho := handsE_all hp.hands h hh
  obtain ⟨d1, d2, _⟩ := due_ok hp hS.w ho h0 h1
  unfold dueB at hdue
  simp only [Bool.and_eq_true, decide_eq_true_eq] at hdue
  obtain ⟨c1, c2, _⟩ := eval_okV d1 (by rw [ho.whn]) hdue.1
  have hb := hdue.2
  generalize (evalF h.whn (dueW S.w h i)).1 = v at *
  unfold aheadT mk
  by_cases ht : h.timer = true
  · rw [if_pos ht]
    simp only [evV, evL, c1]
    show Except.ok (vB ([v].all Vl.b)) = _
    simp [hb]
  · rw [if_neg ht]
    obtain ⟨hbit, hm⟩ := hbit.resolve_left ht
    obtain ⟨w, v1, _⟩ := getF_is hS.w (keyP_msg hm)
    have hnd : getF (dueW S.w h i).names h.node 3 = some (nodeV i) := with_has (nm := h.node) (v := nodeV i) (w := S.w)
    have hnv : getF (dueW S.w h i).names h.nm 2 = some w := by
      unfold dueW
      rw [with_same h.nm 2 (fun hh => absurd (show (2 : Int) = 3 from hh.2) (by decide))]; exact v1
    have q1 : opV (dueW S.w h i) 7 h.nm 0 [] = .ok w := by
      show nameV _ _ 2 = _
      unfold nameV; rw [hnv]
    have q2 : opV (dueW S.w h i) 14 h.node 0 [] = .ok (nodeV i) := by
      show nameV _ _ 3 = _
      unfold nameV; rw [hnd]
    have q3 : opV (dueW S.w h i) 25 ⟨#[]⟩ 0 [nodeV i, w] = .ok (vB (w.s.getD i.toNat false)) := rfl
    unfold bitW at hbit
    rw [v1] at hbit
    replace hbit : w.s.getD i.toNat false = true := hbit
    rw [hbit] at q3
    unfold nodeT varS
    simp only [evV, evL, c1, q1, q2, q3]
    show Except.ok (vB ([v, vB true].all Vl.b)) = _
    simp [hb]
theorem step_value {q : Tm} {j : Nat} (hj : j < p.hs.length) (hp : PrOk p) (hn1 : 1 ≤ n) (hn2 : n ≤ 64) (hS : SOk p n S) (h0 : 0 ≤ i) (h1 : i < n) (hT : SOk p n T) (e : doF S p.hs[j] i pd = some T) (hdue : dueB S.w p.hs[j] i = true)
    (hbit : p.hs[j].timer = true ∨ bitW S.w p.hs[j].nm i.toNat = true ∧ p.hs[j].nm ∈ p.msgs) (hE : (StepF p j q).2 = 0) :
    ∃ B, (StepF p j q).1 = mk 21 [aheadT p.hs[j], B] ∧ evalF (aheadT p.hs[j]) (dueW S.w p.hs[j] i) = (vB true, 0) ∧ (evalF (StepF p j q).1 (dueW S.w p.hs[j] i)).1.b = (evalF q T.w).1.b ∧ (evalF (StepF p j q).1 (dueW S.w p.hs[j] i)).2 = (evalF q T.w).2 := by
  have hh := List.getElem_mem hj
  have hget : p.hs.getD ((j : Int)).toNat hz = p.hs[j] := by
    rw [Int.toNat_natCast, List.getD_eq_getElem?_getD, List.getElem?_eq_getElem hj]; rfl
  have ho := handsE_all hp.hands _ hh
  obtain ⟨d1, d2, _⟩ := due_ok hp hS.w ho h0 h1
  unfold StepF at hE ⊢
  by_cases hq : askedE p q ≠ 0
  · rw [if_pos hq] at hE; exact absurd hE hq
  rw [if_neg hq, if_neg (by omega), hget] at hE ⊢
  have hq0 := Decidable.of_not_not hq
  have hput := put_step hp hn1 hn2 hS hh h0 h1 hT e hq0
  have hah := ahead_value hp hn1 hS hh h0 h1 hdue hbit
  by_cases hp2 : (putE q (becT p.hs[j])).2 ≠ 0
  · rw [if_pos hp2] at hE; exact absurd hE hp2
  rw [if_neg hp2] at hE ⊢
  have hB : (putE q (becT p.hs[j])).1 = ptT (pickT (becT p.hs[j])) q ∧ (sortF q).2 = 0 := by
    clear hE
    unfold putE at hp2 ⊢
    by_cases hp3 : (PutF q (becT p.hs[j])).2 ≠ 0
    · rw [if_pos hp3] at hp2; exact absurd (fun h => by cases h) hp2
    rw [if_neg hp3]
    dsimp only
    have hp3 := Decidable.of_not_not hp3
    unfold PutF at hp3 ⊢
    by_cases hs : (sortF q).2 ≠ 0
    · rw [if_pos hs] at hp3; exact absurd hp3 hs
    rw [if_neg hs] at hp3 ⊢
    by_cases hb : badA (becT p.hs[j]) ≠ 0
    · rw [if_pos hb] at hp3; exact absurd hp3 hb
    rw [if_neg hb] at hp3 ⊢
    unfold outF at hp3 ⊢
    by_cases ho : (sortF (ptT (pickT (becT p.hs[j])) q)).2 ≠ 0
    · rw [if_pos ho] at hp3; exact absurd hp3 ho
    rw [if_neg ho]
    exact ⟨rfl, Decidable.of_not_not hs⟩
  rw [hB.1] at hE ⊢
  generalize ptT (pickT (becT p.hs[j])) q = B at *
  unfold wholeE at hE ⊢
  by_cases hw : (sortF (mk 21 [aheadT p.hs[j], B])).2 ≠ 0
  · rw [if_pos hw] at hE; cases hE
  rw [if_neg hw]
  have hw0 := Decidable.of_not_not hw
  obtain ⟨z1, z2, r, _⟩ := sortF_ok hw0
  have hA0 : (sortF (aheadT p.hs[j])).2 = 0 := by
    rw [sortF_eq, if_neg, if_pos]
    · exact right_any (((right_iff _ _).1 r).kids 0 (Nat.succ_pos 1))
    · unfold mk at z1 z2
      simp only [Tm.size_mk, Tm.dep_mk, Tm.sizeL_cons, Tm.depL_cons, Tm.sizeL_nil, Tm.depL_nil] at z1 z2
      omega
  refine ⟨B, rfl, ?_, ?_⟩
  · rw [evalF_of d1 (Prod.ext rfl hA0 : sortF (aheadT p.hs[j]) = (_, 0)), hah]
  · rw [evalF_of d1 (Prod.ext rfl hw0 : sortF (mk 21 [aheadT p.hs[j], B]) = (_, 0)), evalF_of hT.w.right (Prod.ext rfl hB.2 : sortF q = (_, 0))]
    unfold mk
    simp only [evV, evL, hah, hput]
    cases evV T.w q with
    | error x => exact ⟨rfl, rfl⟩
    | ok v =>
      refine ⟨?_, rfl⟩
      show (v.b || !true) = v.b
      simp
end
end Go.V
