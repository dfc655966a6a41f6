/- The words of a small reckoning of what must hold ahead of a piece of code (its soundness stands in V1): definitions alone. -/
import Derived.WalkKit
import Derived.Recover
import Derived.Orders
import Derived.Laws.MakeOwn
import Derived.Laws.AppendOwn
import Derived.Laws.Tables
import GoSem.Instr.MakeMap
import GoSem.Instr.MapUpdate
import GoSem.Instr.TypeAssert
namespace Go.V

/-! ### environments -/
structure Env where
  get : Nat → Value
  dfr : List Deferred
def mem (i : Nat) : List Nat → Bool
  | [] => false
  | d :: D => bif Nat.beq i d then true else mem i D
def pos (i : Nat) : List Nat → Nat → Option Nat
  | [], _ => none
  | d :: D, j => bif Nat.beq i d then some j else pos i D (j + 1)
def Env.put (e : Env) (d : Option Tmp) (v : Value) : Env :=
  match d with
  | some d => ⟨fun i => bif Nat.beq i d then v else e.get i, e.dfr⟩
  | none => e
def Env.mix (e : Env) (D : List Nat) (u : Nat → Value) : Env := ⟨fun i => bif mem i D then u i else e.get i, e.dfr⟩
def ix (vs : List Value) (j : Nat) : Value := vs.getD j undef
def Env.putL (e : Env) (L : List Nat) (vs : List Value) : Env :=
  ⟨fun i => match pos i L 0 with | some j => ix vs j | none => e.get i, e.dfr⟩
def Env.ev (e : Env) : Operand → Value
  | .tmp t => e.get t
  | .const v => v
  | .global g => .pointer (some ⟨g, 0, none⟩)
  | .func f => .func (.func f) #[] #[]

/-! ### memory -/
def Cells (w : World) (a : Addr) (l : List Value) : Prop := ∀ i (h : i < l.length), w.cell? (a.add i) = some l[i]
structure Ext (S : Nat → Prop) (w w' : World) : Prop where
  os : w'.os = w.os
  tape : w'.tape = w.tape
  output : w'.output = w.output
  size : w.heap.size ≤ w'.heap.size
  block : ∀ k, k < w.heap.size → ¬ S k → w'.heap[k]? = w.heap[k]?
  drawn : w.drawn ≤ w'.drawn

/-! ### operations -/
def pick (c a b : Value) (k : Value → Prop) : Prop :=
  match c with | .bool t => k (bif t then a else b) | _ => False
def bx (t : TypeId) (v : List Value) (w : World) (k : Value → World → Prop) : Prop :=
  k (.pointer (some ⟨w.heap.size, 0, none⟩)) (w.alloc (.cells v.toArray t))
def bxv (t : TypeId) (v : Value) (w : World) (k : Value → World → Prop) : Prop :=
  match v with | .agg cs => bx t cs.toList w k | .tuple _ => False | v => bx t [v] w k
def ld1 (p : Value) (w : World) (k : Value → Prop) : Prop :=
  match p with | .pointer (some a) => ∃ v, w.cell? a = some v ∧ k v | _ => False
def ldN (n : Nat) (p : Value) (w : World) (k : Value → Prop) : Prop :=
  match p with | .pointer (some a) => ∃ l, l.length = n ∧ Cells w a l ∧ k (.agg l.toArray) | _ => False
def st (n : Nat) (p v : Value) (w : World) (k : World → Prop) : Prop :=
  match p with
  | .pointer (some ⟨b, off, none⟩) => v.cells.size = n ∧ (∀ u ∈ v.cells.toList, u.oneCell' = true) ∧
      ∃ c t, w.heap[b]? = some (.cells c t (0, 0)) ∧ off + n ≤ c.size ∧ k (w.setRow b (c.toList.take off ++ v.cells.toList ++ c.toList.drop (off + n)).toArray)
  | _ => False
def nilc (p : Value) (k : Value → Prop) : Prop := match p with | .pointer (some a) => k (.pointer (some a)) | _ => False
def fld (off : Nat) (p : Value) (k : Value → Prop) : Prop :=
  match p with | .pointer (some ⟨b, o, none⟩) => k (.pointer (some ⟨b, o + off, none⟩)) | _ => False
def idxS (sz : Nat) (x i : Value) (k : Value → Prop) : Prop :=
  match x, i with
  | .slice (some ⟨b, o, none⟩) n _, .int _ j => 0 ≤ j ∧ j < n ∧ k (.pointer (some ⟨b, o + j.toNat * sz, none⟩))
  | _, _ => False
def idxP (n sz : Nat) (x i : Value) (k : Value → Prop) : Prop :=
  match x, i with
  | .pointer (some ⟨b, o, none⟩), .int _ j => 0 ≤ j ∧ j < n ∧ k (.pointer (some ⟨b, o + j.toNat * sz, none⟩))
  | _, _ => False
def idxStr (x i : Value) (k : Value → Prop) : Prop :=
  match x, i with
  | .string s, .int _ j => 0 ≤ j ∧ ∃ c, s[j.toNat]? = some c ∧ k (.int .u8 c.toNat)
  | _, _ => False
def fillL (z : List Value) : List (Nat × List Value) → List Value
  | [] => z
  | (o, l) :: r => fillL (z.take o ++ l ++ z.drop (o + l.length)) r
def sizes : List (Nat × Nat × Value) → Prop
  | [] => True
  | (_, n, v) :: r => v.cells.size = n ∧ sizes r
def parts (l : List (Nat × Nat × Value)) : List (Nat × List Value) := l.map fun p => (p.1, p.2.2.cells.toList)
def bld (z : List Value) (ps : List (Nat × Nat × Value)) (k : Value → Prop) : Prop :=
  sizes ps ∧ k (.agg (fillL z (parts ps)).toArray)
def bldS (e : TypeId) (n : Nat) (z : List Value) (ps : List (Nat × Nat × Value)) (w : World) (k : Value → World → Prop) : Prop :=
  sizes ps ∧ k (.slice (some ⟨w.heap.size, 0, none⟩) n n) (w.alloc (.cells (fillL z (parts ps)).toArray e))
def field1 (off : Nat) (x : Value) (k : Value → Prop) : Prop :=
  match x with | .agg cs => ∃ v, cs[off]? = some v ∧ k v | _ => False
def fieldN (off n : Nat) (x : Value) (k : Value → Prop) : Prop :=
  match x with | .agg cs => k (.agg ((cs.toList.drop off).take n).toArray) | _ => False
def ext (j : Nat) (x : Value) (k : Value → Prop) : Prop :=
  match x with | .tuple vs => ∃ v, vs.toList[j]? = some v ∧ k v | _ => False
def bitsI (op : BinOp) (a : IntKind) (m n : Int) : Int :=
  match op with
  | .and => a.wrap (BitVec.ofInt a.bits m &&& BitVec.ofInt a.bits n).toNat
  | .or => a.wrap (BitVec.ofInt a.bits m ||| BitVec.ofInt a.bits n).toNat
  | .xor => a.wrap (BitVec.ofInt a.bits m ^^^ BitVec.ofInt a.bits n).toNat
  | _ => a.wrap (BitVec.ofInt a.bits m &&& ~~~(BitVec.ofInt a.bits n)).toNat
def ar (op : BinOp) (x y : Value) (k : Value → Prop) : Prop :=
  match x, y with
  | .int a m, .int b n => (match op with
    | .add => a = b ∧ k (.int a (a.wrap (m + n)))
    | .sub => a = b ∧ k (.int a (a.wrap (m - n)))
    | .mul => a = b ∧ k (.int a (a.wrap (m * n)))
    | .quo => a = b ∧ n ≠ 0 ∧ k (.int a (a.wrap (m.tdiv n)))
    | .rem => a = b ∧ n ≠ 0 ∧ k (.int a (m.tmod n))
    | .eql => a = b ∧ k (.bool (m == n))
    | .neq => a = b ∧ k (.bool (m != n))
    | .lss => a = b ∧ k (.bool (decide (m < n)))
    | .leq => a = b ∧ k (.bool (decide (m ≤ n)))
    | .gtr => a = b ∧ k (.bool (decide (m > n)))
    | .geq => a = b ∧ k (.bool (decide (m ≥ n)))
    | .shl => 0 ≤ n ∧ k (.int a (a.wrap (m * 2 ^ (min n.toNat a.bits))))
    | .shr => 0 ≤ n ∧ k (.int a (m.fdiv (2 ^ (min n.toNat a.bits))))
    | .and => a = b ∧ k (.int a (bitsI .and a m n))
    | .or => a = b ∧ k (.int a (bitsI .or a m n))
    | .xor => a = b ∧ k (.int a (bitsI .xor a m n))
    | .andNot => a = b ∧ k (.int a (bitsI .andNot a m n)))
  | .string a, .string b => (match op with
    | .add => a.size + b.size ≤ 9223372036854775807 ∧ k (.string (a ++ b))
    | .eql => k (.bool (a.toList == b.toList))
    | .neq => k (.bool !(a.toList == b.toList))
    | .lss => k (.bool (Op.bytesLess a.toList b.toList))
    | .leq => k (.bool (Op.bytesLess a.toList b.toList || a.toList == b.toList))
    | .gtr => k (.bool !(Op.bytesLess a.toList b.toList || a.toList == b.toList))
    | .geq => k (.bool !(Op.bytesLess a.toList b.toList))
    | _ => False)
  | _, _ => False
def arF (op : BinOp) (x y : Value) (k : Value → Prop) : Prop :=
  match x, y with
  | .float a m, .float b n => a = b ∧ (match op with
    | .add => ∃ r, a.format.add m n = some r ∧ k (.float a r)
    | .sub => ∃ r, a.format.sub m n = some r ∧ k (.float a r)
    | .mul => ∃ r, a.format.mul m n = some r ∧ k (.float a r)
    | .quo => ∃ r, a.format.div m n = some r ∧ k (.float a r)
    | .eql => k (.bool (a.format.order m n == some .eq))
    | .neq => k (.bool (a.format.order m n != some .eq))
    | .lss => k (.bool (a.format.order m n == some .lt))
    | .leq => k (.bool (a.format.order m n == some .lt || a.format.order m n == some .eq))
    | .gtr => k (.bool (a.format.order m n == some .gt))
    | .geq => k (.bool (a.format.order m n == some .gt || a.format.order m n == some .eq))
    | _ => False)
  | _, _ => False
def eqP (op : BinOp) (x y : Value) (k : Value → Prop) : Prop :=
  match x, y with
  | .pointer a, .pointer none => (match op with
    | .eql => k (.bool a.isNone)
    | .neq => k (.bool (!a.isNone))
    | _ => False)
  | _, _ => False
def arB (op : BinOp) (x y : Value) (k : Value → Prop) : Prop :=
  match x, y with
  | .bool a, .bool b => (match op with
    | .eql => k (.bool (a == b))
    | .neq => k (.bool (!(a == b)))
    | _ => False)
  | _, _ => False
def eqS (op : BinOp) (x y : Value) (k : Value → Prop) : Prop :=
  match x, y with
  | .slice a _ _, .slice none _ _ => (match op with
    | .eql => k (.bool a.isNone)
    | .neq => k (.bool (!a.isNone))
    | _ => False)
  | _, _ => False
def eqI (op : BinOp) (x y : Value) (k : Value → Prop) : Prop :=
  match x, y with
  | .nilIface, .nilIface => (match op with
    | .eql => k (.bool true)
    | .neq => k (.bool false)
    | _ => False)
  | .iface _ _, .nilIface => (match op with
    | .eql => k (.bool false)
    | .neq => k (.bool true)
    | _ => False)
  | _, _ => False
def notb (x : Value) (k : Value → Prop) : Prop := match x with | .bool b => k (.bool (!b)) | _ => False
def neg (x : Value) (k : Value → Prop) : Prop := match x with | .int a n => k (.int a (a.wrap (0 - n))) | _ => False
def cvI (a : IntKind) (x : Value) (k : Value → Prop) : Prop := match x with | .int _ n => k (.int a (a.wrap n)) | _ => False
def lenS (x : Value) (k : Value → Prop) : Prop := match x with | .string s => k (.int .i64 s.size) | _ => False
def lenL (x : Value) (k : Value → Prop) : Prop := match x with | .slice _ n _ => k (.int .i64 n) | _ => False
def max2 (x y : Value) (k : Value → Prop) : Prop := match x, y with | .int a m, .int b n => a = b ∧ k (.int a (if n > m then n else m)) | _, _ => False
def min2 (x y : Value) (k : Value → Prop) : Prop := match x, y with | .int a m, .int b n => a = b ∧ k (.int a (if n < m then n else m)) | _, _ => False
/-- 'x[lo:hi]' of a slice, elements of so many cells. -/
def slcL (sz : Nat) (x : Value) (lo hi : Option Value) (k : Value → Prop) : Prop :=
  match x with
  | .slice a n c => ∃ l h : Nat, (match hi with | none => h = n | some v => ∃ ki, v = .int ki (h : Int) ∧ h ≤ c) ∧ (match lo with | none => l = 0 | some v => ∃ ki, v = .int ki (l : Int)) ∧ l ≤ h ∧
      k (.slice (if c = l then a else a.map (·.add (l * sz))) (h - l) (c - l))
  | _ => False
def slcS (x : Value) (lo hi : Option Value) (k : Value → Prop) : Prop :=
  match x with
  | .string s => ∃ l h : Nat, (match hi with | none => h = s.size | some v => ∃ ki, v = .int ki (h : Int) ∧ h ≤ s.size) ∧ (match lo with | none => l = 0 | some v => ∃ ki, v = .int ki (l : Int)) ∧ l ≤ h ∧ k (.string (s.extract l h))
  | _ => False
def SrcV (w : World) (x : Value) (m : Nat) (us : List Value) : Prop := match x with | .slice a j _ => j = m ∧ (match a with | some a => Cells w a us | none => us = [] ∧ m = 0) | _ => False
/-- append: onto nil or a row of the call's own. -/
def app (e : TypeId) (sz bytes : Nat) (s x : Value) (w : World) (k : Value → World → Prop) : Prop :=
  ∃ n xs m ys, w.ownsRow 0 e sz s n xs ∧ SrcV w x m ys ∧ ys.length = m * sz ∧ (∀ u ∈ ys, u.oneCell' = true) ∧ (n + m) * bytes ≤ 140737488355328 ∧
    ∀ v w', w'.ownsRow 0 e sz v (n + m) (xs ++ ys) → Ext (fun b => s.ownBlock = some b) w w' → (v.ownBlock = s.ownBlock ∨ ∃ b, v.ownBlock = some b ∧ w.heap.size ≤ b) → k v w'
def mkS (e : TypeId) (bytes : Nat) (z : List Value) (l c : Value) (w : World) (k : Value → World → Prop) : Prop :=
  ∃ (m : Nat) (ki kj : IntKind) (n : Nat), l = .int ki (n : Int) ∧ c = .int kj (m : Int) ∧ n ≤ m ∧ m * bytes ≤ 140737488355328 ∧ m ≤ 140737488355328 ∧
    k (.slice (some ⟨w.heap.size, 0, none⟩) n m) (w.alloc (.cells (madeCells z.toArray (m * z.length)) e))

/-! ### maps -/
/-- keys of a type, of which it is known how they are looked for -/
structure MapKey (P : Program) (kt : TypeId) (K : Value → Prop) : Prop where
  check : ∀ (w : World) (em : Bool) (v : Value), K v → (Instr.checkKey em 10000 kt v).run P w = .ok () w
  find : ∀ (w : World) (x : Value), K x → ∀ es : List MapEntry, (∀ e ∈ es, K e.key) →
    ((Instr.findKey kt x es).run P w = .ok none w ∧ ∀ e ∈ es, e.key ≠ x) ∨ ∃ j e, (Instr.findKey kt x es).run P w = .ok (some (j, e.val)) w ∧ es[j]? = some e ∧ e.key = x
  stays : ∀ (w : World) (v : Value), K v → (Instr.keyThatStays v v).run P w = .ok v w
def mkM (w : World) (k : Value → World → Prop) : Prop := k (.map (some w.heap.size)) (w.alloc (.map #[] 0))
def resOk (ok : Bool) (v : Value) (b : Bool) : Value := bif ok then .tuple #[v, .bool b] else v
def lkM (P : Program) (kt : TypeId) (ok : Bool) (z x i : Value) (w : World) (k : Value → Prop) : Prop :=
  match x with
  | .map (some b) => ∃ K es clock, w.heap[b]? = some (.map es clock) ∧ MapKey P kt K ∧ K i ∧ (∀ e ∈ es.toList, K e.key) ∧
      ((∀ e ∈ es.toList, e.key ≠ i) → k (resOk ok z false)) ∧ ∀ e ∈ es.toList, e.key = i → k (resOk ok e.val true)
  | _ => False
def upM (P : Program) (kt : TypeId) (x i v : Value) (w : World) (k : World → Prop) : Prop :=
  match x with
  | .map (some b) => ∃ K es clock, w.heap[b]? = some (.map es clock) ∧ MapKey P kt K ∧ K i ∧ (∀ e ∈ es.toList, K e.key) ∧
      ((∀ e ∈ es.toList, e.key ≠ i) → k { w with heap := w.heap.setIfInBounds b (.map (es.push { key := i, val := v, born := clock }) (clock + 1)) }) ∧
      ∀ j e, es.toList[j]? = some e → e.key = i → k { w with heap := w.heap.setIfInBounds b (.map (es.modify j fun e => { e with key := i, val := v }) clock) }
  | _ => False
/-! ### what an interface value holds -/
def tas (t : TypeId) (z x : Value) (ok : Bool) (k : Value → Prop) : Prop :=
  match x with
  | .iface s v => bif Nat.beq s t then k (resOk ok v true) else (bif ok then k (.tuple #[z, .bool false]) else False)
  | .nilIface => bif ok then k (.tuple #[z, .bool false]) else False
  | _ => False

/-! ### calls -/
structure Enters (P : Program) (g : FuncId) : Prop where
  has : ∃ fn, P.funcs[g]? = some fn ∧ fn.body.isSome = true ∧ fn.name ≠ "runtime.NumGoroutine"
def Spec (P : Program) (g : FuncId) (args : Array Value) (w : World) (R : Ending → World → Prop) : Prop :=
  (Enters P g ∧ Calls P g args w R) ∨ ∃ v w', (callFunc g args).run P w = .ok (.value v) w' ∧ R (.returned v) w'
def callW (P : Program) (g : FuncId) (args : Array Value) (w : World) (kp : List PanicEntry → World → Prop) (k : Value → World → Prop) : Prop :=
  Spec P g args w fun | .returned v, w' => k v w' | .panicked c, w' => kp c w' | .outgrown, _ => False
def callF (P : Program) (f : Value) (args : Array Value) (w : World) (kp : List PanicEntry → World → Prop) (k : Value → World → Prop) : Prop :=
  match f with
  | .func (.func g) first cap => callW P g ((first.toList ++ args.toList) ++ cap.toList).toArray w kp k
  | _ => False

/-! ### one operation -/
def sizeT (P : Program) (t : TypeId) : Nat := match P.info? t with | some i => i.size | none => 0
def bytesT (P : Program) (t : TypeId) : Nat := match P.info? t with | some i => i.bytes | none => 0
/-- a type that is there, with its zero value's cells -/
def zT (P : Program) (t : TypeId) (F : List Value → Prop) : Prop := match P.info? t with | some i => (match i.zero with | some z => F z.cells.toList | none => False) | none => False
def zV (P : Program) (t : TypeId) (F : Value → Prop) : Prop := match P.info? t with | some i => (match i.zero with | some z => F z | none => False) | none => False
def hasT (P : Program) : List TypeId → Bool
  | [] => true
  | t :: r => match P.info? t with | some _ => hasT P r | none => false
def ftys : List Field → List TypeId
  | [] => []
  | f :: r => f.type :: ftys r
def placeT (P : Program) (t : TypeId) (f : Nat) : Nat × Nat :=
  match P.underlying t with
  | some (.struct fs) => (match fs.toList[f]? with | some d => (d.offset, sizeT P d.type) | none => (0, 0))
  | some (.array _ e) => (f * sizeT P e, sizeT P e)
  | some (.slice e) => (f * sizeT P e, sizeT P e)
  | _ => (0, 0)
/-- may a part be laid there? -/
def fits1 (P : Program) (t : TypeId) (i : Nat) : Bool :=
  match P.underlying t with
  | some (.struct fs) => hasT P (ftys fs.toList) && (fs.toList[i]?).isSome
  | some (.array _ e) => hasT P [e]
  | some (.slice e) => hasT P [e]
  | _ => false
def fitsT (P : Program) (t : TypeId) (n : Nat) : List (Nat × Operand) → Bool
  | [] => true
  | (i, _) :: r => bif fits1 P t i && Nat.ble ((placeT P t i).1 + (placeT P t i).2) n then fitsT P t n r else false
def partsT (P : Program) (t : TypeId) (ρ : Operand → Value) : List (Nat × Operand) → List (Nat × Nat × Value)
  | [] => []
  | (i, x) :: r => ((placeT P t i).1, (placeT P t i).2, ρ x) :: partsT P t ρ r
def reps : Nat → List Value → List Value
  | 0, _ => []
  | n + 1, z => z ++ reps n z
def len (l : List Value) : Nat := match l with | [] => 0 | _ :: r => len r + 1
def isAgg (d : TypeDesc) : Bool := match d with | .struct _ | .array _ _ => true | _ => false

def clr (z : List Value) (sz : Nat) (x : Value) (w : World) (k : World → Prop) : Prop :=
  match x with
  | .slice none _ _ => k w
  | .slice (some a) n _ => bif Nat.beq n 0 then k w else st (n * sz) (.pointer (some a)) (.agg (reps n z).toArray) w k
  | _ => False
def opK (P : Program) (_ty : TypeId) (op : Op) (ρ : Operand → Value) (w : World) (k : Value → World → Prop) (kp : List PanicEntry → World → Prop) : Prop :=
  match op with
  | .move x => k (ρ x) w
  | .assign x => k (ρ x) w
  | .pick c a b => pick (ρ c) (ρ a) (ρ b) fun v => k v w
  | .alloc t => zT P t fun z => bx t z w k
  | .box t x => bxv t (ρ x) w k
  | .build t ps => (match P.underlying t with
    | some (.struct fs) => zT P t fun z => bif hasT P (ftys fs.toList) && fitsT P t (len z) ps.toList then bld z (partsT P t ρ ps.toList) fun v => k v w else False
    | some (.array _ e) => zT P t fun z => bif hasT P [e] && fitsT P t (len z) ps.toList then bld z (partsT P t ρ ps.toList) fun v => k v w else False
    | _ => False)
  | .buildSlice t n ps => (match P.underlying t with
    | some (.slice e) => zT P e fun z => bif Nat.beq (len z) (sizeT P e) && Nat.ble 1 (sizeT P e) && Nat.ble (n * sizeT P e) 16777216 && fitsT P t (n * sizeT P e) ps.toList then bldS e n (reps n z) (partsT P t ρ ps.toList) w k else False
    | _ => False)
  | .load t a => (match P.underlying t with
    | some d => bif isAgg d then ldN (sizeT P t) (ρ a) w fun v => k v w else ld1 (ρ a) w fun v => k v w
    | none => False)
  | .store t a x => bif hasT P [t] then st (sizeT P t) (ρ a) (ρ x) w fun w' => k undef w' else False
  | .nilCheck x => nilc (ρ x) fun v => k v w
  | .binOp op t x y _ => (match P.underlying t with
    | some (.int _) => ar op (ρ x) (ρ y) fun v => k v w
    | some (.float _) => arF op (ρ x) (ρ y) fun v => k v w
    | some (.pointer _) => eqP op (ρ x) (ρ y) fun v => k v w
    | some .string => ar op (ρ x) (ρ y) fun v => k v w
    | some .bool => arB op (ρ x) (ρ y) fun v => k v w
    | some (.slice _) => eqS op (ρ x) (ρ y) fun v => k v w
    | some (.interface _) => (match y with | .const c => eqI op (ρ x) (ρ (.const c)) fun v => k v w | _ => False)
    | _ => False)
  | .unOp op _ x => (match op with | .not => notb (ρ x) fun v => k v w | .neg => neg (ρ x) fun v => k v w | _ => False)
  | .convert s d x => (match P.underlying s, P.underlying d with | some _, some (.int a) => cvI a (ρ x) fun v => k v w | _, _ => False)
  | .makeFunc fn first cap => k (.func fn (first.toList.map ρ).toArray (cap.toList.map ρ).toArray) w
  | .fieldAddr s x f => (match P.underlying s with
    | some (.struct fs) => (match fs.toList[f]? with
      | some d => bif hasT P [d.type] && Nat.ble 1 (sizeT P d.type) then fld d.offset (ρ x) fun v => k v w else False
      | none => False)
    | _ => False)
  | .field t x f => (match P.underlying t with
    | some (.struct fs) => (match fs.toList[f]? with
      | some d => (match P.underlying d.type with
        | some u => bif isAgg u then fieldN d.offset (sizeT P d.type) (ρ x) fun v => k v w else field1 d.offset (ρ x) fun v => k v w
        | none => False)
      | none => False)
    | _ => False)
  | .indexAddr t x i => (match P.underlying t with
    | some (.slice e) => bif hasT P [e] then idxS (sizeT P e) (ρ x) (ρ i) fun v => k v w else False
    | some (.array n e) => bif hasT P [e] then idxP n (sizeT P e) (ρ x) (ρ i) fun v => k v w else False
    | _ => False)
  | .index t x i => (match P.underlying t with
    | some .string => idxStr (ρ x) (ρ i) fun v => k v w
    | _ => False)
  | .extract x j => ext j (ρ x) fun v => k v w
  | .slice t x lo hi none => (match P.underlying t with
    | some (.slice e) => bif hasT P [e] then slcL (sizeT P e) (ρ x) (lo.map ρ) (hi.map ρ) fun v => k v w else False
    | some .string => slcS (ρ x) (lo.map ρ) (hi.map ρ) fun v => k v w
    | _ => False)
  | .makeSlice t l c => (match P.underlying t with
    | some (.slice e) => zT P e fun z => bif Nat.beq (len z) (sizeT P e) then mkS e (bytesT P e) z (ρ l) (ρ c) w k else False
    | _ => False)
  | .makeInterface t x => (match P.underlying t with | some (.interface _) => False | none => False | some _ => k (.iface t (ρ x)) w)
  | .makeMap _ none => mkM w k
  | .lookup t x i ok => (match P.underlying t with
    | some (.map kt e) => zV P e fun z => lkM P kt ok z (ρ x) (ρ i) w fun v => k v w
    | _ => False)
  | .mapUpdate t m i x => (match P.underlying t with
    | some (.map kt _) => upM P kt (ρ m) (ρ i) (ρ x) w fun w' => k undef w'
    | _ => False)
  | .insert t m i x => (match P.underlying t with
    | some (.map kt _) => upM P kt (ρ m) (ρ i) (ρ x) w fun w' => k undef w'
    | _ => False)
  | .typeAssert x _ t ok => (match P.underlying t with
    | some (.interface _) => False
    | some _ => zV P t fun z => tas t z (ρ x) ok fun v => k v w
    | none => False)
  | .panic x => (match ρ x with | .iface t v => kp [{ v := .iface t v, recovered := false }] w | _ => False)
  | .call c => (match c.callee with
    | .value f => callF P (ρ f) (c.args.toList.map ρ).toArray w kp k
    | .builtin b => (match b, c.args.toList, c.argTypes.toList with
      | .len, [x], [t] => (match P.underlying t with
        | some .string => lenS (ρ x) fun v => k v w
        | some (.slice _) => lenL (ρ x) fun v => k v w
        | _ => False)
      | .max, [x, y], _ => max2 (ρ x) (ρ y) fun v => k v w
      | .min, [x, y], _ => min2 (ρ x) (ρ y) fun v => k v w
      | .append, [s, x], [t, u] => (match P.underlying t, P.underlying u with
        | some (.slice e), some (.slice _) => zT P e fun z => bif Nat.beq t u && Nat.beq (len z) (sizeT P e) && Nat.ble 1 (sizeT P e) && Nat.ble 1 (bytesT P e) then app e (sizeT P e) (bytesT P e) (ρ s) (ρ x) w k else False
        | _, _ => False)
      | .clear, [x], [t] => (match P.underlying t with
        | some (.slice e) => zT P e fun z => bif Nat.beq (len z) (sizeT P e) then clr z (sizeT P e) (ρ x) w fun w' => k (.tuple #[]) w' else False
        | _ => False)
      | _, _, _ => False)
    | _ => False)
  | _ => False

/-! ### code -/
def dstsO : List Oper → List Nat
  | [] => []
  | o :: r => (match o.dst with | some d => d :: dstsO r | none => dstsO r)
def dsts : Code → List Nat
  | .region _ ops _ => dstsO ops.toList
  | .seq a b => dsts a ++ dsts b
  | .cond _ a b => dsts a ++ dsts b
  | .block _ c => dsts c
  | .loop c => dsts c
  | .scope c => dsts c
  | _ => []
/-- the first region's number -/
def key : Code → Nat
  | .region i _ _ => i
  | .seq a _ => key a
  | .block _ c => key c
  | .loop c => key c
  | .scope c => key c
  | .cond _ a _ => key a
  | _ => 0
def noDefO : List Oper → Bool
  | [] => true
  | o :: r => match o.op with | .defer _ => false | _ => noDefO r
def subL : List Nat → List Nat → Bool
  | [], _ => true
  | a :: l, m => bif mem a m then subL l m else false
def noDef : Code → Bool
  | .region _ ops _ => noDefO ops.toList
  | .seq a b => noDef a && noDef b
  | .cond _ a b => noDef a && noDef b
  | .block _ c => noDef c
  | .loop c => noDef c
  | _ => true
/-- the slot that a guard asks, and what it must be -/
def gdst (ops : Array Oper) (o : Oper) : Option (Option Nat × Bool) :=
  match o.guard with
  | none => none
  | some (j, want) => match ops.toList[j]? with
    | some p => some (p.dst, want)
    | none => some (none, want)
def add (d : Option Tmp) (sk : List Nat) : List Nat :=
  match d with
  | some d => d :: sk
  | none => sk
def inG (ops : Array Oper) (d : Nat) (want : Bool) (D : List Nat) (o : Oper) : Bool :=
  match gdst ops o with
  | some (some x, b) => bif Nat.beq x d then (bif want then b else !b) else mem x D
  | _ => false
/-- the guarded run that begins a list (its guard asks slot d), and what stands behind it -/
def takeG (ops : Array Oper) (d : Nat) (want : Bool) : List Nat → List Oper → List Oper × List Oper
  | _, [] => ([], [])
  | D, o :: r => bif inG ops d want D o then (o :: (takeG ops d want (add o.dst D) r).1, (takeG ops d want (add o.dst D) r).2) else ([], o :: r)
/-- is there a joint at the pick behind the run that begins here? -/
def joint (ops : Array Oper) (an : Nat → Option (List Nat)) (nj : List Nat) (o : Oper) (r : List Oper) : Option (List Oper × Oper × Nat × List Oper) :=
  match gdst ops o with
  | some (some d, want) => match takeG ops d want [] (o :: r) with
    | (G, q :: rest) => match q.dst with
      | some pd => match an (3000000 + pd) with
        | some _ => bif mem pd nj then none else some (G, q, pd, rest)
        | none => none
      | none => none
    | _ => none
  | _ => none
def rem (d : Option Tmp) (sk : List Nat) : List Nat :=
  match d with
  | some d => sk.filter fun x => bif Nat.beq x d then false else true
  | none => sk
def anOf : List (Nat × List Nat) → Nat → Option (List Nat)
  | [], _ => none
  | (a, L) :: r, k => bif Nat.beq k a then some L else anOf r k
def bodyOf (f : Func) : Code := match f.body with | some c => c | none => .skip
def Fits (l c : Nat) : Prop := l ≤ c ∧ c ≤ 9223372036854775807
end Go.V
