/- Protocols, and what is right about them. -/
import Derived.Test.YtdalobojhfafbaaGreatDoorM17
import Derived.Test.YtdalobojhfafbaaGreatDoorT1
set_option linter.unusedVariables false
namespace Go.V
open Go
def sT (l : List ByteArray) : List (List D) := l.map fun s => [.s s]
structure Ha where
  timer : Bool
  nm : ByteArray
  node : ByteArray
  whn : Tm
  dos : List As
  send : List ByteArray
def Ha.cs (h : Ha) : List D := [.b h.timer, .s h.nm, .s h.node] ++ h.whn.cs ++ [.row 5 (h.dos.map As.cr), .row 1 (sT h.send)]
abbrev Ha.d (h : Ha) : D := .agg h.cs
theorem Ha.cs_len (h : Ha) : h.cs.length = 9 := rfl
theorem Ha.cs_one (h : Ha) : h.cs.all D.one = true := by cases h with | mk a b c t e f => cases t; rfl
structure Pr where
  ints : List ByteArray
  bools : List ByteArray
  sets : List ByteArray
  msgs : List ByteArray
  init : List As
  hs : List Ha
  safe : Tm
  known : List Tm
def Pr.cs (p : Pr) : List D := [.row 1 (sT p.ints), .row 1 (sT p.bools), .row 1 (sT p.sets), .row 1 (sT p.msgs), .row 5 (p.init.map As.cr), .row 9 (p.hs.map Ha.cs)] ++ p.safe.cs ++ [.row 4 (Tm.rows p.known)]
abbrev Pr.d (p : Pr) : D := .agg p.cs
theorem Pr.cs_len (p : Pr) : p.cs.length = 11 := rfl
def hasS (s : ByteArray) (l : List ByteArray) : Bool := decide (0 ≤ atS s l 0)
def seqE (a b : Int) : Int := if a = 0 then b else a
abbrev Dict := List (ByteArray × Int)
def opD (d : Dict) (s : ByteArray) : Int := ((d.find? fun x => decide (x.1 = s)).map (·.2)).getD 0
def declE (op : Int) : List ByteArray → Dict → Except Int Dict
  | [], d => .ok d
  | s :: r, d => if nameF s.data.toList = true ∧ opD d s = 0 then declE op r (d ++ [(s, op)]) else .error 4
def namesE (p : Pr) : Except Int Dict := (declE 2 p.ints []).bind fun d => (declE 15 p.bools d).bind fun d => (declE 7 p.sets d).bind fun d => declE 7 p.msgs d
def fewB (p : Pr) : Bool := decide (p.ints.length ≤ 15 ∧ p.bools.length ≤ 15 ∧ p.sets.length ≤ 15 ∧ p.msgs.length ≤ 15) && decide (p.hs.length ≤ 32 ∧ p.known.length ≤ 32 ∧ p.init.length ≤ 32) && p.hs.all fun h => decide (h.dos.length ≤ 32 ∧ h.send.length ≤ 32)
def sortE (t : Tm) (want : Int) : Int := if (sortF t).2 ≠ 0 then (sortF t).2 else if (sortF t).1 = want then 0 else 3
def mayN (d : Dict) (node : ByteArray) (x : Nm) : Bool := (decide (x.2 = 14) && !decide (node = ⟨#[]⟩) && decide (str x.1 = node)) || decide (x.2 = opD d (str x.1))
def termE (d : Dict) (t : Tm) (want : Int) (node : ByteArray) : Int := seqE (sortE t want) (if (NamesF t).all (mayN d node) = true then 0 else 4)
def becE (d : Dict) (msgs : List ByteArray) (pre : List As) (nm : ByteArray) : Int := if opD d nm ≠ 0 ∧ hasS nm msgs = false ∧ (pre.any fun x => decide (x.nm = nm)) = false then 0 else 4
def becS (d : Dict) (nm : ByteArray) : Int := (sortF (.mk (opD d nm) nm 0 [])).1
def firstE (d : Dict) (msgs : List ByteArray) : List As → List As → Int
  | _, [] => 0
  | pre, x :: r => seqE (becE d msgs pre x.nm) (seqE (sortE x.to (becS d x.nm)) (seqE (if (NamesF x.to).length = 0 then 0 else 4) (firstE d msgs (pre ++ [x]) r)))
def doE (d : Dict) (msgs : List ByteArray) (node : ByteArray) : List As → List As → Int
  | _, [] => 0
  | pre, x :: r => seqE (becE d msgs pre x.nm) (seqE (termE d x.to (becS d x.nm) node) (doE d msgs node (pre ++ [x]) r))
def handE (d : Dict) (msgs : List ByteArray) (h : Ha) : Int :=
  seqE (if nameF h.nm.data.toList = true ∧ (h.timer = true ∨ hasS h.nm msgs = true) then 0 else 4)
  (seqE (if nameF h.node.data.toList = true ∧ opD d h.node = 0 then 0 else 4)
  (seqE (termE d h.whn 4 h.node)
  (seqE (doE d msgs h.node [] h.dos)
  (if (h.send.all fun s => hasS s msgs) = true then 0 else 4))))
def handsE (d : Dict) (msgs : List ByteArray) : List Ha → Int
  | [] => 0
  | h :: r => seqE (handE d msgs h) (handsE d msgs r)
def saidE (d : Dict) : List Tm → Int
  | [] => 0
  | t :: r => seqE (termE d t 4 ⟨#[]⟩) (saidE d r)
def CheckF (p : Pr) : Int := if fewB p = false then 7 else match namesE p with
  | .error e => e
  | .ok d => seqE (firstE d p.msgs [] p.init) (seqE (handsE d p.msgs p.hs) (saidE d (p.safe :: p.known)))
end Go.V
set_option linter.unusedVariables false
namespace Go.V
open Go
def tz : Tm := .mk 0 ⟨#[]⟩ 0 []
def wholeE (t : Tm) : Tm × Int := if (sortF t).2 ≠ 0 then (tz, 7) else (t, 0)
def askedE (p : Pr) (q : Tm) : Int := seqE (CheckF p) (if (sortF q).2 ≠ 0 then (sortF q).2 else if (sortF q).1 ≠ 4 then 3 else if ((NamesF q).any fun x => decide (x.2 = 14)) = true then 4 else 0)
def putE (q : Tm) (l : List As) : Tm × Int := if (PutF q l).2 ≠ 0 then (tz, 7) else ((PutF q l).1, 0)
def asL (l : List ByteArray) (t : Tm) : List As := l.map fun s => ⟨s, t⟩
def firstL (p : Pr) : List As := p.init ++ asL p.ints (mk 1 []) ++ asL p.bools (mk 17 []) ++ asL p.sets (mk 8 []) ++ asL p.msgs (mk 8 [])
def FirstF (p : Pr) (q : Tm) : Tm × Int := if askedE p q ≠ 0 then (tz, askedE p q) else putE q (firstL p)
def nodeT (h : Ha) : Tm := .mk 14 h.node 0 []
def varS (s : ByteArray) : Tm := .mk 7 s 0 []
def aheadT (h : Ha) : Tm := mk 19 (if h.timer then [h.whn] else [h.whn, mk 25 [nodeT h, varS h.nm]])
def sendT (h : Ha) (s : ByteArray) : As := ⟨s, mk 11 [varS s, mk 10 [nodeT h]]⟩
def becT (h : Ha) : List As := h.dos ++ h.send.map (sendT h)
def hz : Ha := ⟨false, ⟨#[]⟩, ⟨#[]⟩, tz, [], []⟩
def StepF (p : Pr) (i : Int) (q : Tm) : Tm × Int :=
  if askedE p q ≠ 0 then (tz, askedE p q) else if i < 0 ∨ p.hs.length ≤ i then (tz, 1) else
    if (putE q (becT (p.hs.getD i.toNat hz))).2 ≠ 0 then (tz, (putE q (becT (p.hs.getD i.toNat hz))).2) else
      wholeE (mk 21 [aheadT (p.hs.getD i.toNat hz), (putE q (becT (p.hs.getD i.toNat hz))).1])
structure Cl where
  h : Int
  k : Int
  t : Tm
def Cl.cs (c : Cl) : List D := [.i c.h, .i c.k] ++ c.t.cs
theorem Cl.cs_len (c : Cl) : c.cs.length = 6 := rfl
def impE (known : List Tm) (r : Tm × Int) : Tm × Int := if r.2 ≠ 0 then (tz, r.2) else wholeE (mk 21 [mk 19 known, r.1])
def knownL (p : Pr) (kept : List Int) : List Tm := kept.map fun k => p.known.getD k.toNat tz
def clsL (p : Pr) (kept : List Int) : List (Cl × Int) :=
  (kept.map fun k => (⟨-1, k, (FirstF p (p.known.getD k.toNat tz)).1⟩, (FirstF p (p.known.getD k.toNat tz)).2)) ++
  ((List.range p.hs.length).flatMap fun (h : Nat) => kept.map fun k => (⟨(h : Int), k, (impE (knownL p kept) (StepF p (h : Int) (p.known.getD k.toNat tz))).1⟩, (impE (knownL p kept) (StepF p (h : Int) (p.known.getD k.toNat tz))).2)) ++
  [(⟨-1, -1, (impE (knownL p kept) (p.safe, 0)).1⟩, (impE (knownL p kept) (p.safe, 0)).2)]
def failE : List (Cl × Int) → Int
  | [] => 0
  | x :: r => seqE x.2 (failE r)
def inKnown (p : Pr) (kept : List Int) : Bool := kept.all fun k => decide (0 ≤ k) && decide (k < p.known.length)
def ClausesF (p : Pr) (kept : List Int) : List Cl × Int :=
  if inKnown p kept = false then ([], 1) else if CheckF p ≠ 0 then ([], CheckF p) else
    if failE (clsL p kept) ≠ 0 then ([], failE (clsL p kept)) else ((clsL p kept).map (·.1), 0)
end Go.V
set_option linter.unusedVariables false
namespace Go.V
open Go
theorem seqE_zero {a b : Int} : seqE a b = 0 ↔ a = 0 ∧ b = 0 := by
  unfold seqE
  constructor
  · intro h
    split at h
    · next g => exact ⟨g, h⟩
    · next g => exact absurd h g
  · rintro ⟨rfl, rfl⟩; rfl
theorem ite4_zero {p : Prop} [Decidable p] {e : Int} (he : e ≠ 0) : (if p then (0 : Int) else e) = 0 ↔ p := by
  split
  · next h => exact ⟨fun _ => h, fun _ => rfl⟩
  · next h => exact ⟨fun h2 => absurd h2 he, fun h2 => absurd h2 h⟩
def opL (op : Int) (l : List ByteArray) : Dict := l.map fun s => (s, op)
def dictP (p : Pr) : Dict := opL 2 p.ints ++ opL 15 p.bools ++ opL 7 p.sets ++ opL 7 p.msgs
theorem opD_mem {d : Dict} {s : ByteArray} (h : opD d s ≠ 0) : (s, opD d s) ∈ d := by
  unfold opD at h ⊢
  cases hf : d.find? fun x => decide (x.1 = s) with
  | none => rw [hf] at h; exact absurd rfl h
  | some x =>
    have h1 := List.find?_some hf
    have h2 := List.mem_of_find?_eq_some hf
    simp only [decide_eq_true_eq] at h1
    show (s, x.2) ∈ d
    rw [← h1]; exact h2
theorem opD_no {d : Dict} {s : ByteArray} (hz : ∀ x ∈ d, x.2 ≠ 0) (h : opD d s = 0) : ∀ x ∈ d, x.1 ≠ s := by
  unfold opD at h
  cases hf : d.find? fun x => decide (x.1 = s) with
  | none =>
    intro x hx
    have := List.find?_eq_none.1 hf x hx
    simpa using this
  | some x =>
    rw [hf] at h
    exact absurd h (hz x (List.mem_of_find?_eq_some hf))
theorem declE_spec {op : Int} (hop : op ≠ 0) : ∀ {l : List ByteArray} {d d' : Dict}, declE op l d = .ok d' → (∀ x ∈ d, x.2 ≠ 0) → (d.map (·.1)).Nodup → d' = d ++ opL op l ∧ (∀ s ∈ l, nameF s.data.toList = true) ∧ (d'.map (·.1)).Nodup ∧ ∀ x ∈ d', x.2 ≠ 0
  | [], d, d', h, hz, hn => by
    rw [declE] at h; cases h
    exact ⟨(List.append_nil _).symm, fun s hs => (by cases hs), hn, hz⟩
  | s :: l, d, d', h, hz, hn => by
    rw [declE] at h
    split at h
    · next g =>
      have hno := opD_no hz g.2
      obtain ⟨h1, h2, h3, h4⟩ := declE_spec hop h (fun x hx => by
        rcases List.mem_append.1 hx with hx | hx
        · exact hz x hx
        · rw [List.mem_singleton.1 hx]; exact hop) (by
        rw [List.map_append, List.nodup_append]
        refine ⟨hn, by simp, fun a ha b hb => ?_⟩
        obtain ⟨x, hx, rfl⟩ := List.mem_map.1 ha
        simp only [List.map_cons, List.map_nil, List.mem_singleton] at hb
        rw [hb]; exact hno x hx)
      refine ⟨by rw [h1, List.append_assoc]; rfl, fun t ht => ?_, h3, h4⟩
      rcases List.mem_cons.1 ht with rfl | ht
      · exact g.1
      · exact h2 t ht
    · cases h
structure PrOk (p : Pr) : Prop where
  few : fewB p = true
  nodup : ((dictP p).map (·.1)).Nodup
  names : ∀ x ∈ dictP p, nameF x.1.data.toList = true
  init : firstE (dictP p) p.msgs [] p.init = 0
  hands : handsE (dictP p) p.msgs p.hs = 0
  said : saidE (dictP p) (p.safe :: p.known) = 0
theorem dictP_nz {p : Pr} : ∀ x ∈ dictP p, x.2 ≠ 0 := by
  intro x hx
  unfold dictP opL at hx
  simp only [List.mem_append, List.mem_map] at hx
  rcases hx with ((⟨_, _, rfl⟩ | ⟨_, _, rfl⟩) | ⟨_, _, rfl⟩) | ⟨_, _, rfl⟩ <;> simp
theorem namesE_spec {p : Pr} {d : Dict} (h : namesE p = .ok d) : d = dictP p ∧ (d.map (·.1)).Nodup ∧ ∀ x ∈ d, nameF x.1.data.toList = true := by
  unfold namesE at h
  cases e1 : declE 2 p.ints [] with
  | error e => rw [e1] at h; cases h
  | ok d1 =>
  rw [e1] at h
  obtain ⟨a1, a2, a3, a4⟩ := declE_spec (by decide) e1 (fun x hx => by cases hx) (by simp)
  cases e2 : declE 15 p.bools d1 with
  | error e =>
    replace h : (declE 15 p.bools d1).bind (fun d => (declE 7 p.sets d).bind fun d => declE 7 p.msgs d) = .ok d := h
    rw [e2] at h; cases h
  | ok d2 =>
  replace h : (declE 15 p.bools d1).bind (fun d => (declE 7 p.sets d).bind fun d => declE 7 p.msgs d) = .ok d := h
  rw [e2] at h
  obtain ⟨b1, b2, b3, b4⟩ := declE_spec (by decide) e2 a4 a3
  cases e3 : declE 7 p.sets d2 with
  | error e =>
    replace h : (declE 7 p.sets d2).bind (fun d => declE 7 p.msgs d) = .ok d := h
    rw [e3] at h; cases h
  | ok d3 =>
  replace h : (declE 7 p.sets d2).bind (fun d => declE 7 p.msgs d) = .ok d := h
  rw [e3] at h
  obtain ⟨c1, c2, c3, c4⟩ := declE_spec (by decide) e3 b4 b3
  obtain ⟨f1, f2, f3, f4⟩ := declE_spec (by decide) (show declE 7 p.msgs d3 = .ok d from h) c4 c3
  have hd : d = dictP p := by rw [f1, c1, b1, a1]; rfl
  refine ⟨hd, f3, fun x hx => ?_⟩
  rw [hd] at hx
  unfold dictP opL at hx
  simp only [List.mem_append, List.mem_map] at hx
  rcases hx with ((⟨s, hs, rfl⟩ | ⟨s, hs, rfl⟩) | ⟨s, hs, rfl⟩) | ⟨s, hs, rfl⟩
  · exact a2 s hs
  · exact b2 s hs
  · exact c2 s hs
  · exact f2 s hs
theorem declE_err {op e : Int} : ∀ {l : List ByteArray} {d : Dict}, declE op l d = .error e → e = 4
  | [], d, h => by rw [declE] at h; cases h
  | s :: l, d, h => by
    rw [declE] at h
    split at h
    · exact declE_err h
    · cases h; rfl
theorem namesE_err {p : Pr} {e : Int} (h : namesE p = .error e) : e = 4 := by
  unfold namesE at h
  cases e1 : declE 2 p.ints [] with
  | error e => rw [e1] at h; cases h; exact declE_err e1
  | ok d1 =>
  rw [e1] at h
  replace h : (declE 15 p.bools d1).bind (fun d => (declE 7 p.sets d).bind fun d => declE 7 p.msgs d) = .error e := h
  cases e2 : declE 15 p.bools d1 with
  | error e => rw [e2] at h; cases h; exact declE_err e2
  | ok d2 =>
  rw [e2] at h
  replace h : (declE 7 p.sets d2).bind (fun d => declE 7 p.msgs d) = .error e := h
  cases e3 : declE 7 p.sets d2 with
  | error e => rw [e3] at h; cases h; exact declE_err e3
  | ok d3 => rw [e3] at h; exact declE_err h
theorem CheckF_ok {p : Pr} (h : CheckF p = 0) : PrOk p := by
  unfold CheckF at h
  by_cases hf : fewB p = false
  · rw [if_pos hf] at h; cases h
  · rw [if_neg hf] at h
    cases hn : namesE p with
    | error e =>
      rw [hn] at h
      have := namesE_err hn
      have : e = 0 := h
      omega
    | ok d =>
      rw [hn] at h
      obtain ⟨h1, h2, h3⟩ := namesE_spec hn
      subst h1
      obtain ⟨g1, g2⟩ := seqE_zero.1 h
      obtain ⟨g3, g4⟩ := seqE_zero.1 g2
      exact ⟨by simpa using hf, h2, h3, g1, g3, g4⟩
theorem firstE_all {d : Dict} {msgs : List ByteArray} : ∀ {l pre : List As}, firstE d msgs pre l = 0 → ∀ x ∈ l, opD d x.nm ≠ 0 ∧ hasS x.nm msgs = false ∧ sortF x.to = (becS d x.nm, 0) ∧ NamesF x.to = []
  | [], _, _, _, h => by cases h
  | y :: r, pre, h, x, hx => by
    rw [firstE] at h
    obtain ⟨h1, h2⟩ := seqE_zero.1 h
    obtain ⟨h3, h4⟩ := seqE_zero.1 h2
    obtain ⟨h5, h6⟩ := seqE_zero.1 h4
    rcases List.mem_cons.1 hx with rfl | hx
    · unfold becE at h1
      rw [ite4_zero (by decide)] at h1
      rw [ite4_zero (by decide)] at h5
      refine ⟨h1.1, h1.2.1, ?_, List.eq_nil_of_length_eq_zero h5⟩
      unfold sortE at h3
      split at h3
      · next g => exact absurd h3 g
      · next g =>
        rw [ite4_zero (by decide)] at h3
        exact Prod.ext h3 (by simpa using g)
    · exact firstE_all h6 x hx
theorem termE_zero {d : Dict} {t : Tm} {want : Int} {node : ByteArray} (h : termE d t want node = 0) : sortF t = (want, 0) ∧ ∀ x ∈ NamesF t, mayN d node x = true := by
  unfold termE at h
  obtain ⟨h1, h2⟩ := seqE_zero.1 h
  rw [ite4_zero (by decide)] at h2
  refine ⟨?_, fun x hx => List.all_eq_true.1 h2 x hx⟩
  unfold sortE at h1
  split at h1
  · next g => exact absurd h1 g
  · next g =>
    rw [ite4_zero (by decide)] at h1
    exact Prod.ext h1 (by simpa using g)
theorem doE_all {d : Dict} {msgs : List ByteArray} {node : ByteArray} : ∀ {l pre : List As}, doE d msgs node pre l = 0 → ∀ x ∈ l, opD d x.nm ≠ 0 ∧ hasS x.nm msgs = false ∧ sortF x.to = (becS d x.nm, 0) ∧ ∀ y ∈ NamesF x.to, mayN d node y = true
  | [], _, _, _, h => by cases h
  | y :: r, pre, h, x, hx => by
    rw [doE] at h
    obtain ⟨h1, h2⟩ := seqE_zero.1 h
    obtain ⟨h3, h4⟩ := seqE_zero.1 h2
    rcases List.mem_cons.1 hx with rfl | hx
    · unfold becE at h1
      rw [ite4_zero (by decide)] at h1
      obtain ⟨q1, q2⟩ := termE_zero h3
      exact ⟨h1.1, h1.2.1, q1, q2⟩
    · exact doE_all h4 x hx
structure HaOk (d : Dict) (msgs : List ByteArray) (h : Ha) : Prop where
  nm : nameF h.nm.data.toList = true
  msg : h.timer = true ∨ hasS h.nm msgs = true
  node : nameF h.node.data.toList = true
  fresh : opD d h.node = 0
  whn : sortF h.whn = (4, 0)
  whnN : ∀ y ∈ NamesF h.whn, mayN d h.node y = true
  dos : ∀ x ∈ h.dos, opD d x.nm ≠ 0 ∧ hasS x.nm msgs = false ∧ sortF x.to = (becS d x.nm, 0) ∧ ∀ y ∈ NamesF x.to, mayN d h.node y = true
  send : ∀ s ∈ h.send, hasS s msgs = true
theorem handE_ok {d : Dict} {msgs : List ByteArray} {h : Ha} (h0 : handE d msgs h = 0) : HaOk d msgs h := by
  unfold handE at h0
  obtain ⟨h1, h2⟩ := seqE_zero.1 h0
  obtain ⟨h3, h4⟩ := seqE_zero.1 h2
  obtain ⟨h5, h6⟩ := seqE_zero.1 h4
  obtain ⟨h7, h8⟩ := seqE_zero.1 h6
  rw [ite4_zero (by decide)] at h1 h3 h8
  obtain ⟨q1, q2⟩ := termE_zero h5
  exact ⟨h1.1, h1.2, h3.1, h3.2, q1, q2, doE_all h7, fun s hs => List.all_eq_true.1 h8 s hs⟩
theorem handsE_all {d : Dict} {msgs : List ByteArray} : ∀ {l : List Ha}, handsE d msgs l = 0 → ∀ h ∈ l, HaOk d msgs h
  | [], _, _, h => by cases h
  | y :: r, h, x, hx => by
    rw [handsE] at h
    obtain ⟨h1, h2⟩ := seqE_zero.1 h
    rcases List.mem_cons.1 hx with rfl | hx
    · exact handE_ok h1
    · exact handsE_all h2 x hx
theorem saidE_all {d : Dict} : ∀ {l : List Tm}, saidE d l = 0 → ∀ t ∈ l, sortF t = (4, 0) ∧ ∀ y ∈ NamesF t, mayN d ⟨#[]⟩ y = true
  | [], _, _, h => by cases h
  | y :: r, h, x, hx => by
    rw [saidE] at h
    obtain ⟨h1, h2⟩ := seqE_zero.1 h
    rcases List.mem_cons.1 hx with rfl | hx
    · exact termE_zero h1
    · exact saidE_all h2 x hx
theorem hasS_iff {s : ByteArray} {l : List ByteArray} : hasS s l = true ↔ s ∈ l := by
  unfold hasS
  rw [decide_eq_true_eq]
  rcases atS_cases s l 0 with ⟨h1, h2⟩ | ⟨j, h1, h2⟩
  · rw [h1]; exact ⟨fun h => absurd h (by decide), fun h => absurd h h2⟩
  · rw [h1]; exact ⟨fun _ => List.mem_of_getElem? h2, fun _ => by omega⟩
end Go.V
