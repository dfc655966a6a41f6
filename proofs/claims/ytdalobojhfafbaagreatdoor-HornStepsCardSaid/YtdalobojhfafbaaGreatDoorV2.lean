/- The words of a small reckoning of what must hold ahead of a piece of code (its soundness stands in V1): definitions alone. -/
import Derived.WalkKit
import Derived.Recover
import Derived.Orders
import Derived.Laws.MakeOwn
import Derived.Laws.AppendOwn
import Derived.Laws.Tables
import GoSem.Instr.MakeMap
import GoSem.Instr.MapUpdate
import GoSem.Instr.TypeAssert
import Derived.Laws.Cells
import Derived.Laws.BytesString
import Derived.Laws.Entries
import Derived.Laws.CopyRow
import Derived.ChangeKeysEq
import Derived.MapKept
import Derived.Carry
import Derived.Maps.AppendAt
namespace Go.V

structure Env where
  get : Nat → Value
  dfr : List Deferred
def mem (i : Nat) : List Nat → Bool
  | [] => false
  | d :: D => bif Nat.beq i d then true else mem i D
def pos (i : Nat) : List Nat → Nat → Option Nat
  | [], _ => none
  | d :: D, j => bif Nat.beq i d then some j else pos i D (j + 1)
def Env.put (e : Env) (d : Option Tmp) (v : Value) : Env :=
  match d with
  | some d => ⟨fun i => bif Nat.beq i d then v else e.get i, e.dfr⟩
  | none => e
def Env.mix (e : Env) (D : List Nat) (u : Nat → Value) : Env := ⟨fun i => bif mem i D then u i else e.get i, e.dfr⟩
def ix (vs : List Value) (j : Nat) : Value := vs.getD j undef
def Env.putL (e : Env) (L : List Nat) (vs : List Value) : Env :=
  ⟨fun i => match pos i L 0 with | some j => ix vs j | none => e.get i, e.dfr⟩
def Env.ev (e : Env) : Operand → Value
  | .tmp t => e.get t
  | .const v => v
  | .global g => .pointer (some ⟨g, 0, none⟩)
  | .func f => .func (.func f) #[] #[]

def Cells (w : World) (a : Addr) (l : List Value) : Prop := ∀ i (h : i < l.length), w.cell? (a.add i) = some l[i]
structure Ext (S : Nat → Prop) (w w' : World) : Prop where
  os : w'.os = w.os
  tape : w'.tape = w.tape
  output : w'.output = w.output
  size : w.heap.size ≤ w'.heap.size
  block : ∀ k, k < w.heap.size → ¬ S k → w'.heap[k]? = w.heap[k]?
  drawn : w.drawn ≤ w'.drawn

def pick (c a b : Value) (k : Value → Prop) : Prop :=
  match c with | .bool t => k (bif t then a else b) | _ => False
def bx (t : TypeId) (v : List Value) (w : World) (k : Value → World → Prop) : Prop :=
  k (.pointer (some ⟨w.heap.size, 0, none⟩)) (w.alloc (.cells v.toArray t))
def bxv (t : TypeId) (v : Value) (w : World) (k : Value → World → Prop) : Prop :=
  match v with | .agg cs => bx t cs.toList w k | .tuple _ => False | v => bx t [v] w k
def ld1 (p : Value) (w : World) (k : Value → Prop) : Prop :=
  match p with | .pointer (some a) => ∃ v, w.cell? a = some v ∧ k v | _ => False
def ldN (n : Nat) (p : Value) (w : World) (k : Value → Prop) : Prop :=
  match p with | .pointer (some a) => ∃ l, l.length = n ∧ Cells w a l ∧ k (.agg l.toArray) | _ => False
def st (n : Nat) (p v : Value) (w : World) (k : World → Prop) : Prop :=
  match p with
  | .pointer (some ⟨b, off, none⟩) => v.cells.size = n ∧ (∀ u ∈ v.cells.toList, u.oneCell' = true) ∧
      ∃ c t, w.heap[b]? = some (.cells c t (0, 0)) ∧ off + n ≤ c.size ∧ k (w.setRow b (c.toList.take off ++ v.cells.toList ++ c.toList.drop (off + n)).toArray)
  | _ => False
def nilc (p : Value) (k : Value → Prop) : Prop := match p with | .pointer (some a) => k (.pointer (some a)) | _ => False
def fld (off : Nat) (p : Value) (k : Value → Prop) : Prop :=
  match p with | .pointer (some ⟨b, o, none⟩) => k (.pointer (some ⟨b, o + off, none⟩)) | _ => False
def idxS (sz : Nat) (x i : Value) (k : Value → Prop) : Prop :=
  match x, i with
  | .slice (some ⟨b, o, none⟩) n _, .int _ j => 0 ≤ j ∧ j < n ∧ k (.pointer (some ⟨b, o + j.toNat * sz, none⟩))
  | _, _ => False
def idxP (n sz : Nat) (x i : Value) (k : Value → Prop) : Prop :=
  match x, i with
  | .pointer (some ⟨b, o, none⟩), .int _ j => 0 ≤ j ∧ j < n ∧ k (.pointer (some ⟨b, o + j.toNat * sz, none⟩))
  | _, _ => False
def idxStr (x i : Value) (k : Value → Prop) : Prop :=
  match x, i with
  | .string s, .int _ j => 0 ≤ j ∧ ∃ c, s[j.toNat]? = some c ∧ k (.int .u8 c.toNat)
  | _, _ => False
def fillL (z : List Value) : List (Nat × List Value) → List Value
  | [] => z
  | (o, l) :: r => fillL (z.take o ++ l ++ z.drop (o + l.length)) r
def sizes : List (Nat × Nat × Value) → Prop
  | [] => True
  | (_, n, v) :: r => v.cells.size = n ∧ sizes r
def parts (l : List (Nat × Nat × Value)) : List (Nat × List Value) := l.map fun p => (p.1, p.2.2.cells.toList)
def bld (z : List Value) (ps : List (Nat × Nat × Value)) (k : Value → Prop) : Prop :=
  sizes ps ∧ k (.agg (fillL z (parts ps)).toArray)
def bldS (e : TypeId) (n : Nat) (z : List Value) (ps : List (Nat × Nat × Value)) (w : World) (k : Value → World → Prop) : Prop :=
  sizes ps ∧ k (.slice (some ⟨w.heap.size, 0, none⟩) n n) (w.alloc (.cells (fillL z (parts ps)).toArray e))
def field1 (off : Nat) (x : Value) (k : Value → Prop) : Prop :=
  match x with | .agg cs => ∃ v, cs[off]? = some v ∧ k v | _ => False
def fieldN (off n : Nat) (x : Value) (k : Value → Prop) : Prop :=
  match x with | .agg cs => k (.agg ((cs.toList.drop off).take n).toArray) | _ => False
def ext (j : Nat) (x : Value) (k : Value → Prop) : Prop :=
  match x with | .tuple vs => ∃ v, vs.toList[j]? = some v ∧ k v | _ => False
def bitsI (op : BinOp) (a : IntKind) (m n : Int) : Int :=
  match op with
  | .and => a.wrap (BitVec.ofInt a.bits m &&& BitVec.ofInt a.bits n).toNat
  | .or => a.wrap (BitVec.ofInt a.bits m ||| BitVec.ofInt a.bits n).toNat
  | .xor => a.wrap (BitVec.ofInt a.bits m ^^^ BitVec.ofInt a.bits n).toNat
  | _ => a.wrap (BitVec.ofInt a.bits m &&& ~~~(BitVec.ofInt a.bits n)).toNat
def ar (op : BinOp) (x y : Value) (k : Value → Prop) : Prop :=
  match x, y with
  | .int a m, .int b n => (match op with
    | .add => a = b ∧ k (.int a (a.wrap (m + n)))
    | .sub => a = b ∧ k (.int a (a.wrap (m - n)))
    | .mul => a = b ∧ k (.int a (a.wrap (m * n)))
    | .quo => a = b ∧ n ≠ 0 ∧ k (.int a (a.wrap (m.tdiv n)))
    | .rem => a = b ∧ n ≠ 0 ∧ k (.int a (m.tmod n))
    | .eql => a = b ∧ k (.bool (m == n))
    | .neq => a = b ∧ k (.bool (m != n))
    | .lss => a = b ∧ k (.bool (decide (m < n)))
    | .leq => a = b ∧ k (.bool (decide (m ≤ n)))
    | .gtr => a = b ∧ k (.bool (decide (m > n)))
    | .geq => a = b ∧ k (.bool (decide (m ≥ n)))
    | .shl => 0 ≤ n ∧ k (.int a (a.wrap (m * 2 ^ (min n.toNat a.bits))))
    | .shr => 0 ≤ n ∧ k (.int a (m.fdiv (2 ^ (min n.toNat a.bits))))
    | .and => a = b ∧ k (.int a (bitsI .and a m n))
    | .or => a = b ∧ k (.int a (bitsI .or a m n))
    | .xor => a = b ∧ k (.int a (bitsI .xor a m n))
    | .andNot => a = b ∧ k (.int a (bitsI .andNot a m n)))
  | .string a, .string b => (match op with
    | .add => a.size + b.size ≤ 9223372036854775807 ∧ k (.string (a ++ b))
    | .eql => k (.bool (a.toList == b.toList))
    | .neq => k (.bool !(a.toList == b.toList))
    | .lss => k (.bool (Op.bytesLess a.toList b.toList))
    | .leq => k (.bool (Op.bytesLess a.toList b.toList || a.toList == b.toList))
    | .gtr => k (.bool !(Op.bytesLess a.toList b.toList || a.toList == b.toList))
    | .geq => k (.bool !(Op.bytesLess a.toList b.toList))
    | _ => False)
  | _, _ => False
def arF (op : BinOp) (x y : Value) (k : Value → Prop) : Prop :=
  match x, y with
  | .float a m, .float b n => a = b ∧ (match op with
    | .add => ∃ r, a.format.add m n = some r ∧ k (.float a r)
    | .sub => ∃ r, a.format.sub m n = some r ∧ k (.float a r)
    | .mul => ∃ r, a.format.mul m n = some r ∧ k (.float a r)
    | .quo => ∃ r, a.format.div m n = some r ∧ k (.float a r)
    | .eql => k (.bool (a.format.order m n == some .eq))
    | .neq => k (.bool (a.format.order m n != some .eq))
    | .lss => k (.bool (a.format.order m n == some .lt))
    | .leq => k (.bool (a.format.order m n == some .lt || a.format.order m n == some .eq))
    | .gtr => k (.bool (a.format.order m n == some .gt))
    | .geq => k (.bool (a.format.order m n == some .gt || a.format.order m n == some .eq))
    | _ => False)
  | _, _ => False
def eqP (op : BinOp) (x y : Value) (k : Value → Prop) : Prop :=
  match x, y with
  | .pointer a, .pointer none => (match op with
    | .eql => k (.bool a.isNone)
    | .neq => k (.bool (!a.isNone))
    | _ => False)
  | _, _ => False
def arB (op : BinOp) (x y : Value) (k : Value → Prop) : Prop :=
  match x, y with
  | .bool a, .bool b => (match op with
    | .eql => k (.bool (a == b))
    | .neq => k (.bool (!(a == b)))
    | _ => False)
  | _, _ => False
def eqS (op : BinOp) (x y : Value) (k : Value → Prop) : Prop :=
  match x, y with
  | .slice a _ _, .slice none _ _ => (match op with
    | .eql => k (.bool a.isNone)
    | .neq => k (.bool (!a.isNone))
    | _ => False)
  | _, _ => False
def eqI (op : BinOp) (x y : Value) (k : Value → Prop) : Prop :=
  match x, y with
  | .nilIface, .nilIface => (match op with
    | .eql => k (.bool true)
    | .neq => k (.bool false)
    | _ => False)
  | .iface _ _, .nilIface => (match op with
    | .eql => k (.bool false)
    | .neq => k (.bool true)
    | _ => False)
  | _, _ => False
def notb (x : Value) (k : Value → Prop) : Prop := match x with | .bool b => k (.bool (!b)) | _ => False
def neg (x : Value) (k : Value → Prop) : Prop := match x with | .int a n => k (.int a (a.wrap (0 - n))) | _ => False
def cvI (a : IntKind) (x : Value) (k : Value → Prop) : Prop := match x with | .int _ n => k (.int a (a.wrap n)) | _ => False
def strI (ns : List Int) : ByteArray := ns.foldl (fun r n => r.push (UInt8.ofNat n.toNat)) ByteArray.empty
def cvB (x : Value) (w : World) (k : Value → Prop) : Prop :=
  match x with
  | .slice none _ _ => k (.string ByteArray.empty)
  | .slice (some a) n _ => ∃ ns : List Int, ns.length = n ∧ Cells w a (ns.map (Value.int .u8)) ∧ k (.string (strI ns))
  | _ => False
def isU8 (d : Option TypeDesc) : Bool := match d with | some (.int .u8) => true | _ => false
def lenS (x : Value) (k : Value → Prop) : Prop := match x with | .string s => k (.int .i64 s.size) | _ => False
def lenL (x : Value) (k : Value → Prop) : Prop := match x with | .slice _ n _ => k (.int .i64 n) | _ => False
def max2 (x y : Value) (k : Value → Prop) : Prop := match x, y with | .int a m, .int b n => a = b ∧ k (.int a (if n > m then n else m)) | _, _ => False
def max3 (x y z : Value) (k : Value → Prop) : Prop := match x, y, z with | .int a m, .int b n, .int c o => a = b ∧ a = c ∧ k (.int a (if o > (if n > m then n else m) then o else (if n > m then n else m))) | _, _, _ => False
def min2 (x y : Value) (k : Value → Prop) : Prop := match x, y with | .int a m, .int b n => a = b ∧ k (.int a (if n < m then n else m)) | _, _ => False
def slcL (sz : Nat) (x : Value) (lo hi : Option Value) (k : Value → Prop) : Prop :=
  match x with
  | .slice a n c => ∃ l h : Nat, (match hi with | none => h = n | some v => ∃ ki, v = .int ki (h : Int) ∧ h ≤ c) ∧ (match lo with | none => l = 0 | some v => ∃ ki, v = .int ki (l : Int)) ∧ l ≤ h ∧
      k (.slice (if c = l then a else a.map (·.add (l * sz))) (h - l) (c - l))
  | _ => False
def slcM (sz : Nat) (x : Value) (lo hi mx : Option Value) (k : Value → Prop) : Prop :=
  match x, mx with
  | .slice a _ c, some (.int _ q) => ∃ l h m : Nat, q = (m : Int) ∧ m ≤ c ∧ (match hi with | none => False | some v => ∃ ki, v = .int ki (h : Int) ∧ h ≤ m) ∧ (match lo with | none => l = 0 | some v => ∃ ki, v = .int ki (l : Int)) ∧ l ≤ h ∧
      k (.slice (if m = l then a else a.map (·.add (l * sz))) (h - l) (m - l))
  | _, _ => False
def slcS (x : Value) (lo hi : Option Value) (k : Value → Prop) : Prop :=
  match x with
  | .string s => ∃ l h : Nat, (match hi with | none => h = s.size | some v => ∃ ki, v = .int ki (h : Int) ∧ h ≤ s.size) ∧ (match lo with | none => l = 0 | some v => ∃ ki, v = .int ki (l : Int)) ∧ l ≤ h ∧ k (.string (s.extract l h))
  | _ => False
def SrcV (w : World) (x : Value) (m : Nat) (us : List Value) : Prop := match x with | .slice a j _ => j = m ∧ (match a with | some a => Cells w a us | none => us = [] ∧ m = 0) | _ => False
def app (e : TypeId) (sz bytes : Nat) (s x : Value) (w : World) (k : Value → World → Prop) : Prop :=
  (∃ n xs m ys, w.ownsRow 0 e sz s n xs ∧ SrcV w x m ys ∧ ys.length = m * sz ∧ (∀ u ∈ ys, u.oneCell' = true) ∧ (n + m) * bytes ≤ 140737488355328 ∧
    ∀ v w', w'.ownsRow 0 e sz v (n + m) (xs ++ ys) → Ext (fun b => s.ownBlock = some b) w w' → (v.ownBlock = s.ownBlock ∨ ∃ b, v.ownBlock = some b ∧ w.heap.size ≤ b) → (m = 0 → s = .slice none 0 0 → v = s) → k v w') ∨
  ∃ b n c m ys cs t, s = .slice (some ⟨b, 0, none⟩) n c ∧ SrcV w x m ys ∧ ys.length = m * sz ∧ (∀ u ∈ ys, u.oneCell' = true) ∧ n + m ≤ c ∧ w.heap[b]? = some (.cells cs t (0, 0)) ∧ n * sz + ys.length ≤ cs.size ∧
    k (.slice (some ⟨b, 0, none⟩) (n + m) c) (w.setRow b (cs.toList.take (n * sz) ++ ys ++ cs.toList.drop (n * sz + ys.length)).toArray)
def mkS (e : TypeId) (bytes : Nat) (z : List Value) (l c : Value) (w : World) (k : Value → World → Prop) : Prop :=
  ∃ (m : Nat) (ki kj : IntKind) (n : Nat), l = .int ki (n : Int) ∧ c = .int kj (m : Int) ∧ n ≤ m ∧ m * bytes ≤ 140737488355328 ∧ m ≤ 140737488355328 ∧
    k (.slice (some ⟨w.heap.size, 0, none⟩) n m) (w.alloc (.cells (madeCells z.toArray (m * z.length)) e))

structure MapKey (P : Program) (kt : TypeId) (K : Value → Prop) : Prop where
  check : ∀ (w : World) (em : Bool) (v : Value), K v → (Instr.checkKey em 10000 kt v).run P w = .ok () w
  find : ∀ (w : World) (x : Value), K x → ∀ es : List MapEntry, (∀ e ∈ es, K e.key) →
    ((Instr.findKey kt x es).run P w = .ok none w ∧ ∀ e ∈ es, e.key ≠ x) ∨ ∃ j e, (Instr.findKey kt x es).run P w = .ok (some (j, e.val)) w ∧ es[j]? = some e ∧ e.key = x
  stays : ∀ (w : World) (v : Value), K v → (Instr.keyThatStays v v).run P w = .ok v w
def mkM (w : World) (k : Value → World → Prop) : Prop := k (.map (some w.heap.size)) (w.alloc (.map #[] 0))
def resOk (ok : Bool) (v : Value) (b : Bool) : Value := bif ok then .tuple #[v, .bool b] else v
def lkM (P : Program) (kt : TypeId) (ok : Bool) (z x i : Value) (w : World) (k : Value → Prop) : Prop :=
  match x with
  | .map (some b) => ∃ K es clock, w.heap[b]? = some (.map es clock) ∧ MapKey P kt K ∧ K i ∧ (∀ e ∈ es.toList, K e.key) ∧
      ((∀ e ∈ es.toList, e.key ≠ i) → k (resOk ok z false)) ∧ ∀ e ∈ es.toList, e.key = i → k (resOk ok e.val true)
  | .map none => ∃ K, MapKey P kt K ∧ K i ∧ k (resOk ok z false)
  | _ => False
def upM (P : Program) (kt : TypeId) (x i v : Value) (w : World) (k : World → Prop) : Prop :=
  match x with
  | .map (some b) => ∃ K es clock, w.heap[b]? = some (.map es clock) ∧ MapKey P kt K ∧ K i ∧ (∀ e ∈ es.toList, K e.key) ∧
      ((∀ e ∈ es.toList, e.key ≠ i) → k { w with heap := w.heap.setIfInBounds b (.map (es.push { key := i, val := v, born := clock }) (clock + 1)) }) ∧
      ∀ j e, es.toList[j]? = some e → e.key = i → k { w with heap := w.heap.setIfInBounds b (.map (es.modify j fun e => { e with key := i, val := v }) clock) }
  | _ => False
def tas (t : TypeId) (z x : Value) (ok : Bool) (k : Value → Prop) : Prop :=
  match x with
  | .iface s v => bif Nat.beq s t then k (resOk ok v true) else (bif ok then k (.tuple #[z, .bool false]) else False)
  | .nilIface => bif ok then k (.tuple #[z, .bool false]) else False
  | _ => False

structure Enters (P : Program) (g : FuncId) : Prop where
  has : ∃ fn, P.funcs[g]? = some fn ∧ fn.body.isSome = true ∧ fn.name ≠ "runtime.NumGoroutine"
def Spec (P : Program) (g : FuncId) (args : Array Value) (w : World) (R : Ending → World → Prop) : Prop :=
  (Enters P g ∧ Calls P g args w R) ∨ ∃ v w', (callFunc g args).run P w = .ok (.value v) w' ∧ R (.returned v) w'
def callW (P : Program) (g : FuncId) (args : Array Value) (w : World) (kp : List PanicEntry → World → Prop) (k : Value → World → Prop) : Prop :=
  Spec P g args w fun | .returned v, w' => k v w' | .panicked c, w' => kp c w' | .outgrown, _ => False
def callF (P : Program) (f : Value) (args : Array Value) (w : World) (kp : List PanicEntry → World → Prop) (k : Value → World → Prop) : Prop :=
  match f with
  | .func (.func g) first cap => callW P g ((first.toList ++ args.toList) ++ cap.toList).toArray w kp k
  | _ => False

def sizeT (P : Program) (t : TypeId) : Nat := match P.info? t with | some i => i.size | none => 0
def bytesT (P : Program) (t : TypeId) : Nat := match P.info? t with | some i => i.bytes | none => 0
def zT (P : Program) (t : TypeId) (F : List Value → Prop) : Prop := match P.info? t with | some i => (match i.zero with | some z => F z.cells.toList | none => False) | none => False
def zV (P : Program) (t : TypeId) (F : Value → Prop) : Prop := match P.info? t with | some i => (match i.zero with | some z => F z | none => False) | none => False
def hasT (P : Program) : List TypeId → Bool
  | [] => true
  | t :: r => match P.info? t with | some _ => hasT P r | none => false
def ftys : List Field → List TypeId
  | [] => []
  | f :: r => f.type :: ftys r
def placeT (P : Program) (t : TypeId) (f : Nat) : Nat × Nat :=
  match P.underlying t with
  | some (.struct fs) => (match fs.toList[f]? with | some d => (d.offset, sizeT P d.type) | none => (0, 0))
  | some (.array _ e) => (f * sizeT P e, sizeT P e)
  | some (.slice e) => (f * sizeT P e, sizeT P e)
  | _ => (0, 0)
def fits1 (P : Program) (t : TypeId) (i : Nat) : Bool :=
  match P.underlying t with
  | some (.struct fs) => hasT P (ftys fs.toList) && (fs.toList[i]?).isSome
  | some (.array _ e) => hasT P [e]
  | some (.slice e) => hasT P [e]
  | _ => false
def fitsT (P : Program) (t : TypeId) (n : Nat) : List (Nat × Operand) → Bool
  | [] => true
  | (i, _) :: r => bif fits1 P t i && Nat.ble ((placeT P t i).1 + (placeT P t i).2) n then fitsT P t n r else false
def partsT (P : Program) (t : TypeId) (ρ : Operand → Value) : List (Nat × Operand) → List (Nat × Nat × Value)
  | [] => []
  | (i, x) :: r => ((placeT P t i).1, (placeT P t i).2, ρ x) :: partsT P t ρ r
def reps : Nat → List Value → List Value
  | 0, _ => []
  | n + 1, z => z ++ reps n z
def len (l : List Value) : Nat := match l with | [] => 0 | _ :: r => len r + 1
def isAgg (d : TypeDesc) : Bool := match d with | .struct _ | .array _ _ => true | _ => false

def clr (z : List Value) (sz : Nat) (x : Value) (w : World) (k : World → Prop) : Prop :=
  match x with
  | .slice none _ _ => k w
  | .slice (some a) n _ => bif Nat.beq n 0 then k w else st (n * sz) (.pointer (some a)) (.agg (reps n z).toArray) w k
  | _ => False
def cpy (sz : Nat) (d x : Value) (w : World) (k : Value → World → Prop) : Prop :=
  match d with
  | .slice (some a) n _ => ∃ m us, SrcV w x m us ∧ us.length = m * sz ∧
      (bif Nat.beq (min m n) 0 then k (.int .i64 0) w else st (min m n * sz) (.pointer (some a)) (.agg (us.take (min m n * sz)).toArray) w (k (.int .i64 ((min m n : Nat) : Int))))
  | _ => False
def opK (P : Program) (_ty : TypeId) (op : Op) (ρ : Operand → Value) (w : World) (k : Value → World → Prop) (kp : List PanicEntry → World → Prop) : Prop :=
  match op with
  | .move x => k (ρ x) w
  | .assign x => k (ρ x) w
  | .pick c a b => pick (ρ c) (ρ a) (ρ b) fun v => k v w
  | .alloc t => zT P t fun z => bx t z w k
  | .box t x => bxv t (ρ x) w k
  | .build t ps => (match P.underlying t with
    | some (.struct fs) => zT P t fun z => bif hasT P (ftys fs.toList) && fitsT P t (len z) ps.toList then bld z (partsT P t ρ ps.toList) fun v => k v w else False
    | some (.array _ e) => zT P t fun z => bif hasT P [e] && fitsT P t (len z) ps.toList then bld z (partsT P t ρ ps.toList) fun v => k v w else False
    | _ => False)
  | .buildSlice t n ps => (match P.underlying t with
    | some (.slice e) => zT P e fun z => bif Nat.beq (len z) (sizeT P e) && Nat.ble 1 (sizeT P e) && Nat.ble (n * sizeT P e) 16777216 && fitsT P t (n * sizeT P e) ps.toList then bldS e n (reps n z) (partsT P t ρ ps.toList) w k else False
    | _ => False)
  | .load t a => (match P.underlying t with
    | some d => bif isAgg d then ldN (sizeT P t) (ρ a) w fun v => k v w else ld1 (ρ a) w fun v => k v w
    | none => False)
  | .store t a x => bif hasT P [t] then st (sizeT P t) (ρ a) (ρ x) w fun w' => k undef w' else False
  | .nilCheck x => nilc (ρ x) fun v => k v w
  | .binOp op t x y _ => (match P.underlying t with
    | some (.int _) => ar op (ρ x) (ρ y) fun v => k v w
    | some (.float _) => arF op (ρ x) (ρ y) fun v => k v w
    | some (.pointer _) => eqP op (ρ x) (ρ y) fun v => k v w
    | some .string => ar op (ρ x) (ρ y) fun v => k v w
    | some .bool => arB op (ρ x) (ρ y) fun v => k v w
    | some (.slice _) => eqS op (ρ x) (ρ y) fun v => k v w
    | some (.interface _) => (match y with | .const c => eqI op (ρ x) (ρ (.const c)) fun v => k v w | _ => False)
    | _ => False)
  | .unOp op _ x => (match op with | .not => notb (ρ x) fun v => k v w | .neg => neg (ρ x) fun v => k v w | _ => False)
  | .convert s d x => (match P.underlying s, P.underlying d with
    | some _, some (.int a) => cvI a (ρ x) fun v => k v w
    | some (.slice e), some .string => bif isU8 (P.underlying e) then cvB (ρ x) w fun v => k v w else False
    | _, _ => False)
  | .makeFunc fn first cap => k (.func fn (first.toList.map ρ).toArray (cap.toList.map ρ).toArray) w
  | .fieldAddr s x f => (match P.underlying s with
    | some (.struct fs) => (match fs.toList[f]? with
      | some d => bif hasT P [d.type] && Nat.ble 1 (sizeT P d.type) then fld d.offset (ρ x) fun v => k v w else False
      | none => False)
    | _ => False)
  | .field t x f => (match P.underlying t with
    | some (.struct fs) => (match fs.toList[f]? with
      | some d => (match P.underlying d.type with
        | some u => bif isAgg u then fieldN d.offset (sizeT P d.type) (ρ x) fun v => k v w else field1 d.offset (ρ x) fun v => k v w
        | none => False)
      | none => False)
    | _ => False)
  | .indexAddr t x i => (match P.underlying t with
    | some (.slice e) => bif hasT P [e] then idxS (sizeT P e) (ρ x) (ρ i) fun v => k v w else False
    | some (.array n e) => bif hasT P [e] then idxP n (sizeT P e) (ρ x) (ρ i) fun v => k v w else False
    | _ => False)
  | .index t x i => (match P.underlying t with
    | some .string => idxStr (ρ x) (ρ i) fun v => k v w
    | _ => False)
  | .extract x j => ext j (ρ x) fun v => k v w
  | .slice t x lo hi none => (match P.underlying t with
    | some (.slice e) => bif hasT P [e] then slcL (sizeT P e) (ρ x) (lo.map ρ) (hi.map ρ) fun v => k v w else False
    | some .string => slcS (ρ x) (lo.map ρ) (hi.map ρ) fun v => k v w
    | _ => False)
  | .slice t x lo hi (some mx) => (match P.underlying t with
    | some (.slice e) => bif hasT P [e] then slcM (sizeT P e) (ρ x) (lo.map ρ) (hi.map ρ) (some (ρ mx)) fun v => k v w else False
    | _ => False)
  | .makeSlice t l c => (match P.underlying t with
    | some (.slice e) => zT P e fun z => bif Nat.beq (len z) (sizeT P e) then mkS e (bytesT P e) z (ρ l) (ρ c) w k else False
    | _ => False)
  | .makeInterface t x => (match P.underlying t with | some (.interface _) => False | none => False | some _ => k (.iface t (ρ x)) w)
  | .makeMap _ none => mkM w k
  | .lookup t x i ok => (match P.underlying t with
    | some (.map kt e) => zV P e fun z => lkM P kt ok z (ρ x) (ρ i) w fun v => k v w
    | _ => False)
  | .mapUpdate t m i x => (match P.underlying t with
    | some (.map kt _) => upM P kt (ρ m) (ρ i) (ρ x) w fun w' => k undef w'
    | _ => False)
  | .insert t m i x => (match P.underlying t with
    | some (.map kt _) => upM P kt (ρ m) (ρ i) (ρ x) w fun w' => k undef w'
    | _ => False)
  | .typeAssert x _ t ok => (match P.underlying t with
    | some (.interface _) => False
    | some _ => zV P t fun z => tas t z (ρ x) ok fun v => k v w
    | none => False)
  | .panic x => (match ρ x with | .iface t v => kp [{ v := .iface t v, recovered := false }] w | _ => False)
  | .call c => (match c.callee with
    | .value f => callF P (ρ f) (c.args.toList.map ρ).toArray w kp k
    | .builtin b => (match b, c.args.toList, c.argTypes.toList with
      | .len, [x], [t] => (match P.underlying t with
        | some .string => lenS (ρ x) fun v => k v w
        | some (.slice _) => lenL (ρ x) fun v => k v w
        | _ => False)
      | .max, [x, y], _ => max2 (ρ x) (ρ y) fun v => k v w
      | .max, [x, y, z], _ => max3 (ρ x) (ρ y) (ρ z) fun v => k v w
      | .min, [x, y], _ => min2 (ρ x) (ρ y) fun v => k v w
      | .append, [s, x], [t, u] => (match P.underlying t, P.underlying u with
        | some (.slice e), some (.slice _) => zT P e fun z => bif Nat.beq t u && Nat.beq (len z) (sizeT P e) && Nat.ble 1 (sizeT P e) && Nat.ble 1 (bytesT P e) then app e (sizeT P e) (bytesT P e) (ρ s) (ρ x) w k else False
        | _, _ => False)
      | .clear, [x], [t] => (match P.underlying t with
        | some (.slice e) => zT P e fun z => bif Nat.beq (len z) (sizeT P e) then clr z (sizeT P e) (ρ x) w fun w' => k (.tuple #[]) w' else False
        | _ => False)
      | .copy, [d, x], [t, u] => (match P.underlying t, P.underlying u with
        | some (.slice e), some (.slice _) => zT P e fun _ => cpy (sizeT P e) (ρ d) (ρ x) w k
        | _, _ => False)
      | _, _, _ => False)
    | _ => False)
  | _ => False

def dstsO : List Oper → List Nat
  | [] => []
  | o :: r => (match o.dst with | some d => d :: dstsO r | none => dstsO r)
def dsts : Code → List Nat
  | .region _ ops _ => dstsO ops.toList
  | .seq a b => dsts a ++ dsts b
  | .cond _ a b => dsts a ++ dsts b
  | .block _ c => dsts c
  | .loop c => dsts c
  | .scope c => dsts c
  | _ => []
def key : Code → Nat
  | .region i _ _ => i
  | .seq a _ => key a
  | .block _ c => key c
  | .loop c => key c
  | .scope c => key c
  | .cond _ a _ => key a
  | _ => 0
def noDefO : List Oper → Bool
  | [] => true
  | o :: r => match o.op with | .defer _ => false | _ => noDefO r
def subL : List Nat → List Nat → Bool
  | [], _ => true
  | a :: l, m => bif mem a m then subL l m else false
def noDef : Code → Bool
  | .region _ ops _ => noDefO ops.toList
  | .seq a b => noDef a && noDef b
  | .cond _ a b => noDef a && noDef b
  | .block _ c => noDef c
  | .loop c => noDef c
  | _ => true
def gdst (ops : Array Oper) (o : Oper) : Option (Option Nat × Bool) :=
  match o.guard with
  | none => none
  | some (j, want) => match ops.toList[j]? with
    | some p => some (p.dst, want)
    | none => some (none, want)
def add (d : Option Tmp) (sk : List Nat) : List Nat :=
  match d with
  | some d => d :: sk
  | none => sk
def inG (ops : Array Oper) (d : Nat) (want : Bool) (D : List Nat) (o : Oper) : Bool :=
  match gdst ops o with
  | some (some x, b) => bif Nat.beq x d then (bif want then b else !b) else mem x D
  | _ => false
def takeG (ops : Array Oper) (d : Nat) (want : Bool) : List Nat → List Oper → List Oper × List Oper
  | _, [] => ([], [])
  | D, o :: r => bif inG ops d want D o then (o :: (takeG ops d want (add o.dst D) r).1, (takeG ops d want (add o.dst D) r).2) else ([], o :: r)
def joint (ops : Array Oper) (an : Nat → Option (List Nat)) (nj : List Nat) (o : Oper) (r : List Oper) : Option (List Oper × Oper × Nat × List Oper) :=
  match gdst ops o with
  | some (some d, want) => match takeG ops d want [] (o :: r) with
    | (G, q :: rest) => match q.dst with
      | some pd => match an (3000000 + pd) with
        | some _ => bif mem pd nj then none else some (G, q, pd, rest)
        | none => none
      | none => none
    | _ => none
  | _ => none
def rem (d : Option Tmp) (sk : List Nat) : List Nat :=
  match d with
  | some d => sk.filter fun x => bif Nat.beq x d then false else true
  | none => sk
def anOf : List (Nat × List Nat) → Nat → Option (List Nat)
  | [], _ => none
  | (a, L) :: r, k => bif Nat.beq k a then some L else anOf r k
def bodyOf (f : Func) : Code := match f.body with | some c => c | none => .skip
def Fits (l c : Nat) : Prop := l ≤ c ∧ c ≤ 9223372036854775807
end Go.V
namespace Go.V
open Go

theorem viewStore_drawn {P : Program} {w w' : World} {a k : Addr} {u : TypeId} {v : Value} {at' : Bool} {l : List Addr} (h : w.viewStore P a u k v at' = .ok (w', l)) : w'.drawn = w.drawn := by
  unfold World.viewStore at h
  simp only [bind, Except.bind, pure, Except.pure] at h
  repeat' (split at h)
  all_goals first
    | (cases h; done)
    | (injection h with h; injection h with h1 h2; rw [← h1])
    | skip
theorem farStore_drawn {P : Program} {w w' : World} {a : Addr} {v : Value} {at' : Bool} {l : List Addr} (h : w.farStore P a v at' = .ok (w', l)) : w'.drawn = w.drawn := by
  unfold World.farStore at h
  split at h
  · split at h
    · next h1 => injection h with h; subst h; exact viewStore_drawn h1
    · cases h
  · cases h
theorem ask_drawn {α : Type} (p : Ask α) : ∀ (w : World), w.drawn ≤ (w.ask p).2.drawn := by
  induction p with
  | done a => intro w; exact Nat.le_refl _
  | ask what range k ih =>
    intro w
    simp only [World.ask]
    split
    · exact ih _ w
    · exact Nat.le_trans (Nat.le_succ _) (ih _ { w with drawn := w.drawn + 1 })
theorem sys_drawn (w : World) (c : Sys) : w.drawn ≤ (w.sys c).2.drawn := by
  unfold World.sys
  have := ask_drawn (Kernel.perform c w.os) w
  split
  · exact Nat.le_refl _
  · next h => rw [h] at this; exact this
theorem run_drawn {α : Type} {P : Program} (p : Sem α) : ∀ (w : World) (v : α) (w' : World), p.run P w = .ok v w' → w.drawn ≤ w'.drawn := by
  induction p with
  | pure a => intro w v w' h; simp only [Sem.run] at h; injection h with h1 h2; rw [h2]; exact Nat.le_refl _
  | load m a k ih =>
    intro w v w' h
    simp only [Sem.run] at h
    split at h
    · exact ih _ _ _ _ h
    · split at h
      · exact ih _ _ _ _ h
      · cases h
  | store m a x k ih =>
    intro w v w' h
    have key : (match w.cell? a with
        | some _ => if w.frozen? a then Result.halt (.unsupported (.unsafePointer "a write to bytes that a string shares")) w else k.run P (w.setCell a x)
        | none => match w.farStore P a x (m == Mode.atomic) with
          | .ok (w, _) => k.run P w
          | .error h => .halt h w) = .ok v w' → w.drawn ≤ w'.drawn := by
      intro h
      split at h
      · split at h
        · cases h
        · exact ih (w.setCell a x) _ _ h
      · split at h
        · next h1 => have := ih _ _ _ h; rw [farStore_drawn h1] at this; exact this
        · cases h
    cases x
    case agg => cases h
    case tuple => cases h
    all_goals (rw [Sem.run] at h; first | exact key h | skip)
    all_goals (intro _ hh; cases hh)
  | new o k ih => intro w v w' h; simp only [Sem.run] at h; exact ih _ { w with heap := w.heap.push o } _ _ h
  | shape r k ih => intro w v w' h; simp only [Sem.run] at h; exact ih _ _ _ _ h
  | freeze a n k ih =>
    intro w v w' h
    simp only [Sem.run] at h
    have := ih _ _ _ h
    unfold World.freeze at this
    split at this <;> exact this
  | frozen a k ih => intro w v w' h; simp only [Sem.run] at h; exact ih _ _ _ _ h
  | getObj r k ih =>
    intro w v w' h
    simp only [Sem.run] at h
    split at h
    · cases h
    · exact ih _ _ _ _ h
    · cases h
  | setObj r o k ih =>
    intro w v w' h
    simp only [Sem.run] at h
    split at h
    · cases h
    · exact ih { w with heap := w.heap.setIfInBounds r o } _ _ h
    · cases h
  | choose q k ih =>
    intro w v w' h
    simp only [Sem.run] at h
    split at h
    · exact ih _ _ _ _ h
    · exact Nat.le_trans (Nat.le_succ _) (ih _ { w with drawn := w.drawn + 1 } _ _ h)
  | sys c k ih => intro w v w' h; simp only [Sem.run] at h; exact Nat.le_trans (sys_drawn w c) (ih _ _ _ _ h)
  | program k ih => intro w v w' h; simp only [Sem.run] at h; exact ih _ _ _ _ h
  | mark m k ih => intro w v w' h; simp only [Sem.run] at h; exact ih _ _ _ h
  | halt h => intro w v w' h'; cases h'
theorem foldl_set (off : Nat) : ∀ (l : List Value) (s : Nat) (cs : Array Value), off + s + l.length ≤ cs.size →
    ((l.zipIdx s).foldl (fun (cs : Array Value) (x : Value × Nat) => cs.setIfInBounds (off + x.2) x.1) cs).toList = cs.toList.take (off + s) ++ l ++ cs.toList.drop (off + s + l.length)
  | [], s, cs, _ => by simp
  | v :: l, s, cs, h => by
    simp only [List.zipIdx_cons, List.foldl_cons]
    rw [foldl_set off l (s + 1) (cs.setIfInBounds (off + s) v) (by simp at h ⊢; omega)]
    simp only [List.length_cons] at h
    have h1 : off + s < cs.toList.length := by simp; omega
    rw [Array.toList_setIfInBounds]
    have e1 : (cs.toList.set (off + s) v).take (off + (s + 1)) = cs.toList.take (off + s) ++ [v] := by
      rw [show off + (s + 1) = off + s + 1 by omega, List.take_add_one]
      have h2 : off + s < cs.size := by simpa using h1
      simp [List.take_set, h2]
      rw [List.set_eq_of_length_le (by simp; omega)]
    have e2 : (cs.toList.set (off + s) v).drop (off + (s + 1) + l.length) = cs.toList.drop (off + s + (l.length + 1)) := by
      rw [List.drop_set_of_lt (by omega)]
      congr 1
      omega
    rw [e1, e2]
    simp
theorem fill_ok {P : Program} {t : TypeId} {place : Nat → Option (Nat × Nat)} : ∀ (ps : List (Nat × Operand)) (ρ : Operand → Value) (cs : Array Value),
    (∀ p ∈ ps, place p.1 = some (placeT P t p.1) ∧ (placeT P t p.1).1 + (placeT P t p.1).2 ≤ cs.size) → sizes (partsT P t ρ ps) →
    Instr.fill place cs (ps.map fun p => (p.1, ρ p.2)) = some (fillL cs.toList (parts (partsT P t ρ ps))).toArray
  | [], ρ, cs, _, _ => by simp [Instr.fill, partsT, parts, fillL]
  | (i, x) :: ps, ρ, cs, hp, hs => by
    obtain ⟨h1, h2⟩ := hp (i, x) (by simp)
    simp only at h1 h2
    simp only [partsT, sizes] at hs
    simp only [List.map_cons, Instr.fill, h1, partsT, parts, fillL]
    rw [if_neg (by simp [hs.1]; omega)]
    have hf := foldl_set (placeT P t i).1 (ρ x).cells.toList 0 cs (by simp [hs.1]; omega)
    have hz : ((ρ x).cells.zipIdx.foldl (fun (cs : Array Value) (x : Value × Nat) => cs.setIfInBounds ((placeT P t i).1 + x.2) x.1) cs) = ((ρ x).cells.toList.zipIdx.foldl (fun (cs : Array Value) (x : Value × Nat) => cs.setIfInBounds ((placeT P t i).1 + x.2) x.1) cs) := by
      rw [← Array.foldl_toList, Array.toList_zipIdx]
    have hg : ((ρ x).cells.zipIdx.foldl (fun (cs : Array Value) (x : Value × Nat) => match x with | (c, j) => cs.setIfInBounds ((placeT P t i).1 + j) c) cs) = (cs.toList.take (placeT P t i).1 ++ (ρ x).cells.toList ++ cs.toList.drop ((placeT P t i).1 + (ρ x).cells.toList.length)).toArray := by
      have : (fun (cs : Array Value) (x : Value × Nat) => match x with | (c, j) => cs.setIfInBounds ((placeT P t i).1 + j) c) = (fun (cs : Array Value) (x : Value × Nat) => cs.setIfInBounds ((placeT P t i).1 + x.2) x.1) := by
        funext a b
        cases b
        rfl
      rw [this, hz]
      apply Array.toList_inj.1
      rw [hf]
      simp
    rw [hg]
    have hsz : (cs.toList.take (placeT P t i).1 ++ (ρ x).cells.toList ++ cs.toList.drop ((placeT P t i).1 + (ρ x).cells.toList.length)).toArray.size = cs.size := by simp [hs.1]; omega
    rw [fill_ok ps ρ _ (fun p hpp => by rw [hsz]; exact hp p (List.mem_cons_of_mem _ hpp)) hs.2]
    rfl
theorem fitsT_spec {P : Program} {t : TypeId} {n : Nat} : ∀ (ps : List (Nat × Operand)), fitsT P t n ps = true → ∀ p ∈ ps, (placeT P t p.1).1 + (placeT P t p.1).2 ≤ n ∧ fits1 P t p.1 = true
  | [], _, p, hp => by cases hp
  | (i, x) :: ps, h, p, hp => by
    simp only [fitsT, Bool.cond_eq_ite] at h
    split at h
    · rename_i hc
      rcases List.mem_cons.1 hp with rfl | hp
      · simp only [Bool.and_eq_true, Nat.ble_eq] at hc
        exact ⟨hc.2, hc.1⟩
      · exact fitsT_spec ps h p hp
    · cases h
theorem hasT_mem {P : Program} : ∀ (l : List TypeId), hasT P l = true → ∀ t ∈ l, ∃ i, P.info? t = some i
  | [], _, t, ht => by cases ht
  | a :: l, h, t, ht => by
    simp only [hasT] at h
    cases hi : P.info? a with
    | none => rw [hi] at h; cases h
    | some i =>
      rw [hi] at h
      rcases List.mem_cons.1 ht with rfl | ht
      · exact ⟨i, hi⟩
      · exact hasT_mem l h t ht
theorem len_eq : ∀ l : List Value, len l = l.length
  | [] => rfl
  | _ :: l => by simp [len, len_eq l]
theorem reps_length (z : List Value) : ∀ n, (reps n z).length = n * z.length
  | 0 => by simp [reps]
  | n + 1 => by simp [reps, reps_length z n, Nat.add_mul, Nat.add_comm]
theorem reps_get (z : List Value) : ∀ n j, j < n * z.length → (reps n z)[j]? = z[j % z.length]?
  | 0, j, h => by simp at h
  | n + 1, j, h => by
    simp only [reps, List.getElem?_append]
    by_cases hj : j < z.length
    · rw [if_pos hj, Nat.mod_eq_of_lt hj]
    · rw [if_neg hj, reps_get z n (j - z.length) (by rw [Nat.add_mul] at h; omega)]
      congr 1
      rw [← Nat.mod_eq_sub_mod (by omega)]
theorem madeCells_reps (z : List Value) (n : Nat) : madeCells z.toArray (n * z.length) = (reps n z).toArray := by
  apply Array.ext_getElem?
  intro j
  by_cases h : j < n * z.length
  · have hz : 0 < z.length := by
      rcases Nat.eq_zero_or_pos z.length with h0 | h0
      · rw [h0] at h; omega
      · exact h0
    have hm : j % z.length < z.length := Nat.mod_lt _ hz
    simp only [madeCells, List.getElem?_toArray, reps_get z n j h, Array.getElem?_map, Array.getElem?_range, h, if_true, Option.map_some, List.size_toArray]
    rw [List.getElem?_eq_getElem hm]
    congr 1
    simp [getElem!_pos, hm]
  · rw [Array.getElem?_eq_none (by rw [size_madeCells]; omega), Array.getElem?_eq_none (by simp [reps_length]; omega)]

inductive Out (P : Program) (w : World) (k : Value → World → Prop) (kp : List PanicEntry → World → Prop) : Result Next → Prop
  | value (v : Value) (w' : World) (h : k v w') : Out P w k kp (.ok (.value v) w')
  | skip (w' : World) (h : k undef w') : Out P w k kp (.ok .skip w')
  | enter (g : FuncId) (args : Array Value) (h : Calls P g args w fun | .returned v, w' => k v w' | .panicked c, w' => kp c w' | .outgrown, _ => False) : Out P w k kp (.ok (.enter g args) w)
  | panic (v : Value) (w' : World) (h : kp [{ v, recovered := false }] w') : Out P w k kp (.halt (.panic v) w')

section
variable {P : Program} {w : World} {k : Value → World → Prop} {kp : List PanicEntry → World → Prop} {ρ : Operand → Value} {o : Oper}

theorem info_of_underlying {t : TypeId} {d : TypeDesc} (h : P.underlying t = some d) : ∃ i, P.info? t = some i := by
  unfold Program.underlying at h
  cases hi : P.info? t with
  | none => rw [hi] at h; cases h
  | some i => exact ⟨i, rfl⟩
theorem cellsOf_size {t : TypeId} : P.cellsOf t = sizeT P t := by
  unfold Program.cellsOf sizeT
  cases P.info? t <;> simp
theorem run_sizeOf' {t : TypeId} {i : TypeInfo} (h : P.info? t = some i) (w : World) : (sizeOf t).run P w = .ok (sizeT P t) w := by
  rw [run_sizeOf w h, cellsOf_size]
theorem run_isAgg {t : TypeId} {d : TypeDesc} (h : P.underlying t = some d) (w : World) : (Go.isAgg t).run P w = .ok (isAgg d) w := by
  unfold Go.isAgg isAgg
  simp only [Sem.run_bind, run_underlying h, Result.andThen_ok]
  cases d <;> rfl

theorem add_plain (b o j : Nat) : (⟨b, o, none⟩ : Addr).add j = ⟨b, o + j, none⟩ := by
  unfold Addr.add
  split <;> simp_all

theorem out_value {v : Value} {w' : World} (h : (execOp ρ o).run P w = .ok (.value v) w') (hk : k v w') : Out P w k kp ((execOp ρ o).run P w) := by
  rw [h]; exact .value v w' hk

theorem s_load {t : TypeId} {a : Operand} (ho : o.op = .load t a) (h : opK P o.type (.load t a) ρ w k kp) : Out P w k kp ((execOp ρ o).run P w) := by
  simp only [opK] at h
  cases hu : P.underlying t with
  | none => simp only [hu] at h
  | some d =>
    simp only [hu] at h
    obtain ⟨i, hi⟩ := info_of_underlying hu
    cases hg : isAgg d with
    | true =>
      simp only [hg, cond_true] at h
      unfold ldN at h
      split at h
      · rename_i ad hp
        obtain ⟨l, hl, hc, hk⟩ := h
        refine out_value (v := .agg l.toArray) (w' := w) ?_ hk
        have hrun : (loadCells ad l.length).run P w = .ok l.toArray w := run_loadCells_list (w := w) ad l (fun j v hv => by
          obtain ⟨hj, rfl⟩ := List.getElem?_eq_some_iff.1 hv
          exact hc j hj)
        unfold execOp
        simp only [ho, Instr.loadAt, Instr.sureAddr, hp, Sem.run_bind, Sem.run_pure, Result.andThen_ok, loadVar, run_isAgg hu, hg, if_true, run_sizeOf' hi, ← hl, hrun]
      · exact h.elim
    | false =>
      simp only [hg, cond_false] at h
      unfold ld1 at h
      split at h
      · rename_i ad hp
        obtain ⟨v, hc, hk⟩ := h
        refine out_value (v := v) (w' := w) ?_ hk
        unfold execOp
        simp [ho, Instr.loadAt, Instr.sureAddr, hp, loadVar, run_isAgg hu, hg, hc]
      · exact h.elim
theorem toList_cells_one (v : Value) (h : v.oneCell' = true) : v.cells = #[v] := by cases v <;> simp_all [Value.cells, Value.oneCell']
theorem s_move {x : Operand} (ho : o.op = .move x) (h : k (ρ x) w) : Out P w k kp ((execOp ρ o).run P w) := by
  refine out_value (v := ρ x) (w' := w) ?_ h
  unfold execOp; simp [ho]
theorem s_assign {x : Operand} (ho : o.op = .assign x) (h : k (ρ x) w) : Out P w k kp ((execOp ρ o).run P w) := by
  refine out_value (v := ρ x) (w' := w) ?_ h
  unfold execOp; simp [ho]
theorem s_pick {c a b : Operand} (ho : o.op = .pick c a b) (h : opK P o.type (.pick c a b) ρ w k kp) : Out P w k kp ((execOp ρ o).run P w) := by
  simp only [opK, pick] at h
  split at h
  · rename_i t ht
    refine out_value ?_ h
    unfold execOp
    cases t <;> simp [ho, ht, asBool]
  · exact h.elim
theorem run_zero {t : TypeId} {i : TypeInfo} {z : Value} (hi : P.info? t = some i) (hz : i.zero = some z) (w : World) : (zeroValue t).run P w = .ok z w := by
  unfold zeroValue typeInfo
  simp [hi, hz]
theorem zT_spec {t : TypeId} {F : List Value → Prop} (h : zT P t F) : ∃ i z, P.info? t = some i ∧ i.zero = some z ∧ F z.cells.toList := by
  unfold zT at h
  cases hi : P.info? t with
  | none => simp only [hi] at h
  | some i =>
    simp only [hi] at h
    cases hz : i.zero with
    | none => simp only [hz] at h
    | some z => simp only [hz] at h; exact ⟨i, z, rfl, hz, h⟩
theorem s_alloc {t : TypeId} (ho : o.op = .alloc t) (h : opK P o.type (.alloc t) ρ w k kp) : Out P w k kp ((execOp ρ o).run P w) := by
  simp only [opK] at h
  obtain ⟨i, z, hi, hz, hk⟩ := zT_spec h
  unfold bx at hk
  refine out_value ?_ hk
  unfold execOp
  simp [ho, Instr.alloc, run_zero hi hz, newVar, newRow, newObj]
  rfl
theorem s_box {t : TypeId} {x : Operand} (ho : o.op = .box t x) (h : opK P o.type (.box t x) ρ w k kp) : Out P w k kp ((execOp ρ o).run P w) := by
  simp only [opK, bxv] at h
  have key : ∀ l : List Value, bx t l w k → (ρ x).cells.toList = l → Out P w k kp ((execOp ρ o).run P w) := fun l hl he => by
    unfold bx at hl
    refine out_value ?_ hl
    unfold execOp
    simp [ho, Instr.box, newVar, newRow, newObj, ← he]
    rfl
  split at h
  · rename_i cs hx; exact key _ h (by rw [hx]; rfl)
  · exact h.elim
  · rename_i v hv ht
    refine key _ h ?_
    cases hx : ρ x <;> simp_all [Value.cells]
theorem s_build {t : TypeId} {ps : Array (Nat × Operand)} (ho : o.op = .build t ps) (h : opK P o.type (.build t ps) ρ w k kp) : Out P w k kp ((execOp ρ o).run P w) := by
  simp only [opK] at h
  cases hu : P.underlying t with
  | none => simp only [hu] at h
  | some d =>
    cases d <;> simp only [hu] at h <;> try exact h.elim
    case array n e =>
      obtain ⟨i, z, hi, hz, hk⟩ := zT_spec h
      rw [Bool.cond_eq_ite] at hk
      split at hk
      case isFalse => exact hk.elim
      rename_i hc
      simp only [Bool.and_eq_true] at hc
      unfold bld at hk
      have hp := fitsT_spec ps.toList hc.2
      obtain ⟨ie, hie⟩ := hasT_mem [e] hc.1 e (by simp)
      refine out_value ?_ hk.2
      have hf := fill_ok (P := P) (t := t) (place := fun i => some (i * sizeT P e, sizeT P e)) ps.toList ρ z.cells (fun p hpp => ⟨by simp [placeT, hu], by have := (hp p hpp).1; rw [len_eq] at this; simpa using this⟩) hk.1
      unfold execOp
      simp [ho, Instr.build, run_zero hi hz, run_underlying hu, run_sizeOf' hie, hf]
    case struct fs =>
      obtain ⟨i, z, hi, hz, hk⟩ := zT_spec h
      rw [Bool.cond_eq_ite] at hk
      split at hk
      case isFalse => exact hk.elim
      rename_i hc
      simp only [Bool.and_eq_true] at hc
      unfold bld at hk
      have hp := fitsT_spec ps.toList hc.2
      refine out_value ?_ hk.2
      have hm : ∀ (l : List Field), hasT P (ftys l) = true → (l.mapM fun f => Prod.mk f.offset <$> sizeOf f.type).run P w = .ok (l.map fun f => (f.offset, sizeT P f.type)) w := by
        intro l
        induction l with
        | nil => intro _; simp
        | cons f l ih =>
          intro hl
          simp only [ftys, hasT] at hl
          cases hif : P.info? f.type with
          | none => rw [hif] at hl; cases hl
          | some j =>
            rw [hif] at hl
            simp [List.mapM_cons, run_sizeOf' hif, ih hl]
      have hm' : (fs.mapM fun f => Prod.mk f.offset <$> sizeOf f.type).run P w = .ok (fs.map fun f => (f.offset, sizeT P f.type)) w := by
        have := hm fs.toList hc.1
        obtain ⟨l⟩ := fs
        simp at this ⊢
        simp [this]
      have hf := fill_ok (P := P) (t := t) (place := fun i => (fs.map fun f => (f.offset, sizeT P f.type))[i]?) ps.toList ρ z.cells (fun p hpp => by
        have h1 := hp p hpp
        refine ⟨?_, by have := h1.1; rw [len_eq] at this; simpa using this⟩
        have h2 := h1.2
        simp only [fits1, hu, Bool.and_eq_true] at h2
        obtain ⟨d, hd⟩ := Option.isSome_iff_exists.1 h2.2
        have hd' : fs[p.1]? = some d := by rw [← Array.getElem?_toList]; exact hd
        simp [placeT, hu, hd']) hk.1
      unfold execOp
      simp [ho, Instr.build, run_zero hi hz, run_underlying hu, hm']
      simp only [Array.getElem?_map] at hf
      simp [hf]
theorem s_buildSlice {t : TypeId} {n : Nat} {ps : Array (Nat × Operand)} (ho : o.op = .buildSlice t n ps) (h : opK P o.type (.buildSlice t n ps) ρ w k kp) : Out P w k kp ((execOp ρ o).run P w) := by
  simp only [opK] at h
  cases hu : P.underlying t with
  | none => simp only [hu] at h
  | some d =>
    cases d <;> simp only [hu] at h <;> try exact h.elim
    rename_i e
    obtain ⟨i, z, hi, hz, hk⟩ := zT_spec h
    rw [Bool.cond_eq_ite] at hk
    split at hk
    case isFalse => exact hk.elim
    rename_i hc
    simp only [Bool.and_eq_true, Nat.ble_eq, Nat.beq_eq, len_eq] at hc
    obtain ⟨⟨⟨h1, h2⟩, h3⟩, h4⟩ := hc
    unfold bldS at hk
    have hp := fitsT_spec ps.toList h4
    have hzl : z.cells.toList.length = sizeT P e := by simpa using h1
    refine out_value ?_ hk.2
    have hmc : (Array.range (n * sizeT P e)).map (fun j => z.cells[j % z.cells.size]!) = (reps n z.cells.toList).toArray := by
      rw [← madeCells_reps, hzl]
      simp [madeCells]
    have hf := fill_ok (P := P) (t := t) (place := fun i => some (i * sizeT P e, sizeT P e)) ps.toList ρ (reps n z.cells.toList).toArray (fun p hpp => ⟨by simp [placeT, hu], by have := (hp p hpp).1; simp [reps_length, hzl]; simpa using this⟩) hk.1
    have hn : ¬ 2 ^ 24 < n * sizeT P e := by omega
    unfold execOp
    by_cases h0 : n * sizeT P e = 0
    · have h00 : n = 0 := by
        rcases Nat.mul_eq_zero.1 h0 with h0 | h0 <;> omega
      subst h00
      simp only [reps] at hf
      have hr0 : (Array.range 0).map (fun _ : Nat => (default : Value)) = #[] := by simp
      simp [ho, Instr.buildSlice, run_underlying hu, run_sizeOf' hi, newRow, newObj, reps, hr0, hf]
      rfl
    · simp [ho, Instr.buildSlice, run_zero hi hz, run_underlying hu, run_sizeOf' hi, hn, h0, newRow, newObj, hmc, hf]
      rfl
theorem s_store {t : TypeId} {a x : Operand} (ho : o.op = .store t a x) (h : opK P o.type (.store t a x) ρ w k kp) : Out P w k kp ((execOp ρ o).run P w) := by
  simp only [opK, Bool.cond_eq_ite] at h
  split at h
  case isFalse => exact h.elim
  rename_i hT
  obtain ⟨i, hi⟩ := hasT_mem [t] hT t (by simp)
  unfold st at h
  split at h
  case h_2 => exact h.elim
  rename_i b off hp
  obtain ⟨h1, h2, c, tt, hg, hl, hk⟩ := h
  have hst := run_storeCells_at (P := P) b off tt (ρ x).cells.toList 0 c w hg (by simpa [h1] using hl) h2
  have he : (execOp ρ o).run P w = .ok .skip (w.setRow b (c.toList.take off ++ (ρ x).cells.toList ++ c.toList.drop (off + sizeT P t)).toArray) := by
    unfold execOp
    simp only [ho, Instr.storeAt, Instr.sureAddr, hp, storeVar, Sem.run_bind, Sem.run_pure, Result.andThen_ok, run_sizeOf' hi, h1, ne_eq, not_true_eq_false, if_false, hst]
    simp [h1]
  rw [he]
  exact .skip _ hk
theorem s_nilCheck {x : Operand} (ho : o.op = .nilCheck x) (h : opK P o.type (.nilCheck x) ρ w k kp) : Out P w k kp ((execOp ρ o).run P w) := by
  simp only [opK, nilc] at h
  split at h
  · rename_i a ha
    refine out_value ?_ h
    unfold execOp
    simp [ho, ha]
  · exact h.elim
theorem s_unOp {q : UnOp} {t : TypeId} {x : Operand} (ho : o.op = .unOp q t x) (h : opK P o.type (.unOp q t x) ρ w k kp) : Out P w k kp ((execOp ρ o).run P w) := by
  simp only [opK] at h
  cases q <;> simp only at h <;> try exact h.elim
  · unfold neg at h
    split at h
    · rename_i a n hx
      refine out_value ?_ h
      unfold execOp
      simp [ho, hx, Op.unary, Op.intArith]
    · exact h.elim
  · unfold notb at h
    split at h
    · rename_i b hx
      refine out_value ?_ h
      unfold execOp
      simp [ho, hx, Op.unary]
    · exact h.elim
theorem s_convert {s d : TypeId} {x : Operand} (ho : o.op = .convert s d x) (h : opK P o.type (.convert s d x) ρ w k kp) : Out P w k kp ((execOp ρ o).run P w) := by
  simp only [opK] at h
  split at h
  · rename_i u a hs hd
    unfold cvI at h
    split at h
    · rename_i b n hx
      refine out_value ?_ h
      unfold execOp
      simp [ho, hx, convert, run_underlying hs, run_underlying hd, Conv.intToInt]
    · exact h.elim
  · rename_i e hs hd
    rw [Bool.cond_eq_ite] at h
    split at h
    · rename_i he
      have he' : P.underlying e = some (.int .u8) := by
        revert he
        cases P.underlying e with
        | none => intro h; cases h
        | some d => cases d <;> intro h <;> first | cases h | (rename_i q; cases q <;> first | rfl | cases h)
      unfold cvB at h
      split at h
      · rename_i n c hx
        refine out_value ?_ h
        unfold execOp
        simp only [ho, hx]
        simp [run_convert_bytes_string w _ _ e _ _ _ hs he' hd, Conv.bytesToString]
      · rename_i q n c hx
        obtain ⟨ns, hn, hc, h⟩ := h
        refine out_value ?_ h
        unfold execOp
        simp only [ho, hx]
        have hl := run_loadCells_list (P := P) w q (ns.map (Value.int .u8)) (fun j v hj => by
          have hjl : j < (ns.map (Value.int .u8)).length := by
            rcases Nat.lt_or_ge j (ns.map (Value.int .u8)).length with h | h
            · exact h
            · rw [List.getElem?_eq_none h] at hj; cases hj
          have := hc j hjl
          rw [List.getElem?_eq_getElem hjl] at hj
          cases hj
          exact this)
        rw [List.length_map, hn] at hl
        simp [run_convert_bytes_string w _ _ e _ _ _ hs he' hd, run_bytesToString w _ n c ns hl, strI]
      · exact h.elim
    · exact h.elim
  · exact h.elim
theorem s_makeFunc {fn : Fn} {f c : Array Operand} (ho : o.op = .makeFunc fn f c) (h : opK P o.type (.makeFunc fn f c) ρ w k kp) : Out P w k kp ((execOp ρ o).run P w) := by
  simp only [opK] at h
  refine out_value ?_ h
  unfold execOp
  obtain ⟨f⟩ := f
  obtain ⟨c⟩ := c
  simp [ho, Instr.makeFunc]
theorem s_fieldAddr {s : TypeId} {x : Operand} {f : Nat} (ho : o.op = .fieldAddr s x f) (h : opK P o.type (.fieldAddr s x f) ρ w k kp) : Out P w k kp ((execOp ρ o).run P w) := by
  simp only [opK] at h
  cases hu : P.underlying s with
  | none => simp only [hu] at h
  | some d =>
    cases d <;> simp only [hu] at h <;> try exact h.elim
    rename_i fs
    cases hf : fs.toList[f]? with
    | none => simp only [hf] at h
    | some d =>
      simp only [hf, Bool.cond_eq_ite] at h
      split at h
      case isFalse => exact h.elim
      rename_i hc
      simp only [Bool.and_eq_true, Nat.ble_eq] at hc
      obtain ⟨j, hj⟩ := hasT_mem [d.type] hc.1 d.type (by simp)
      unfold fld at h
      split at h
      case h_2 => exact h.elim
      rename_i b q hx
      refine out_value ?_ h
      have hne : ¬ sizeT P d.type = 0 := by omega
      have hf' : fs[f]? = some d := by rw [← Array.getElem?_toList]; exact hf
      unfold execOp
      simp [ho, Instr.fieldAt, run_underlying hu, hf', hx, Instr.sureAddr, fieldPlace, run_sizeOf' hj, hne, add_plain]
theorem s_extract {x : Operand} {j : Nat} (ho : o.op = .extract x j) (h : opK P o.type (.extract x j) ρ w k kp) : Out P w k kp ((execOp ρ o).run P w) := by
  simp only [opK, ext] at h
  split at h
  case h_2 => exact h.elim
  rename_i vs hx
  obtain ⟨v, hv, hk⟩ := h
  have hv' : vs[j]? = some v := by rw [← Array.getElem?_toList]; exact hv
  refine out_value ?_ hk
  unfold execOp
  simp [ho, hx, Instr.extract, hv']
theorem s_indexAddr {t : TypeId} {x i : Operand} (ho : o.op = .indexAddr t x i) (h : opK P o.type (.indexAddr t x i) ρ w k kp) : Out P w k kp ((execOp ρ o).run P w) := by
  simp only [opK] at h
  cases hu : P.underlying t with
  | none => simp only [hu] at h
  | some d =>
    cases d <;> simp only [hu] at h <;> try exact h.elim
    case slice e =>
      rw [Bool.cond_eq_ite] at h
      split at h
      case isFalse => exact h.elim
      rename_i hT
      obtain ⟨ie, hie⟩ := hasT_mem [e] hT e (by simp)
      unfold idxS at h
      split at h
      case h_2 => exact h.elim
      rename_i b q n c kd j hx hi
      obtain ⟨h0, h1, hk⟩ := h
      refine out_value ?_ hk
      unfold execOp
      simp [ho, hx, hi, Instr.indexAt, asIntOf, run_underlying hu, run_sizeOf' hie, h0, h1, add_plain]
    case array n e =>
      rw [Bool.cond_eq_ite] at h
      split at h
      case isFalse => exact h.elim
      rename_i hT
      obtain ⟨ie, hie⟩ := hasT_mem [e] hT e (by simp)
      unfold idxP at h
      split at h
      case h_2 => exact h.elim
      rename_i b q kd j hx hi
      obtain ⟨h0, h1, hk⟩ := h
      refine out_value ?_ hk
      unfold execOp
      simp [ho, hx, hi, Instr.indexAt, asIntOf, Instr.sureAddr, run_underlying hu, run_sizeOf' hie, h0, h1, add_plain]
theorem s_index {t : TypeId} {x i : Operand} (ho : o.op = .index t x i) (h : opK P o.type (.index t x i) ρ w k kp) : Out P w k kp ((execOp ρ o).run P w) := by
  simp only [opK] at h
  split at h
  case h_2 => exact h.elim
  rename_i hu
  unfold idxStr at h
  split at h
  case h_2 => exact h.elim
  rename_i s kd j hx hi
  obtain ⟨h0, c, hc, hk⟩ := h
  refine out_value ?_ hk
  unfold execOp
  simp [ho, hx, hi, Instr.index, asIntOf, run_underlying hu, h0, hc]
theorem s_ar {q : BinOp} {t u : TypeId} {x y : Operand} (ho : o.op = .binOp q t x y u) (h : ar q (ρ x) (ρ y) fun v => k v w) : Out P w k kp ((execOp ρ o).run P w) := by
  unfold ar at h
  split at h
  · rename_i a m b n hx hy
    cases q <;> simp only at h
    case quo =>
      obtain ⟨rfl, h⟩ := h
      refine out_value ?_ h.2
      unfold execOp
      simp [ho, hx, hy, eqGuard, binOp, Op.intDiv, h.1]
    case rem =>
      obtain ⟨rfl, h⟩ := h
      refine out_value ?_ h.2
      unfold execOp
      simp [ho, hx, hy, eqGuard, binOp, Op.intDiv, h.1]
    case shl =>
      refine out_value ?_ h.2
      have h0 : ¬ n < 0 := by omega
      unfold execOp
      simp [ho, hx, hy, eqGuard, binOp, Op.shift, h0]
    case shr =>
      refine out_value ?_ h.2
      have h0 : ¬ n < 0 := by omega
      unfold execOp
      simp [ho, hx, hy, eqGuard, binOp, Op.shift, h0]
    all_goals
      obtain ⟨rfl, h⟩ := h
      refine out_value ?_ h
      unfold execOp
      simp [ho, hx, hy, eqGuard, binOp, Op.intArith, Op.intCmp, Op.intBits, bitsI]
  · rename_i a b hx hy
    cases q <;> simp only at h <;> try exact h.elim
    case add =>
      refine out_value ?_ h.2
      have hm := h.1
      unfold execOp
      simp [ho, hx, hy, eqGuard, binOp, Op.stringOp]
      omega
    all_goals
      refine out_value ?_ h
      unfold execOp
      simp [ho, hx, hy, eqGuard, binOp, Op.stringOp]
  · exact h.elim
theorem run_equalIn_bool {t : TypeId} (hu : P.underlying t = some .bool) (a b : Bool) (w : World) (d : Nat) : (Op.equalIn (d + 1) t (.bool a) (.bool b)).run P w = .ok (a == b) w := by
  simp only [Op.equalIn, Sem.run_bind, run_underlying hu, Result.andThen_ok, Sem.run_pure]
theorem run_equalIn_slice {t e : TypeId} (hu : P.underlying t = some (.slice e)) (a : Option Addr) (n c n' c' : Nat) (w : World) (d : Nat) : (Op.equalIn (d + 1) t (.slice a n c) (.slice none n' c')).run P w = .ok a.isNone w := by
  cases a <;> simp only [Op.equalIn, Sem.run_bind, run_underlying hu, Result.andThen_ok, Sem.run_pure] <;> rfl
theorem run_equalIn_nil {t : TypeId} {ms : Array (String × TypeId)} (hu : P.underlying t = some (.interface ms)) (w : World) (d : Nat) : (Op.equalIn (d + 1) t .nilIface .nilIface).run P w = .ok true w := by
  simp only [Op.equalIn, Sem.run_bind, run_underlying hu, Result.andThen_ok, Sem.run_pure]
theorem run_equalIn_held {t : TypeId} {ms : Array (String × TypeId)} (hu : P.underlying t = some (.interface ms)) (s : TypeId) (v : Value) (w : World) (d : Nat) : (Op.equalIn (d + 1) t (.iface s v) .nilIface).run P w = .ok false w := by
  simp only [Op.equalIn, Sem.run_bind, run_underlying hu, Result.andThen_ok, Sem.run_pure]
theorem run_equal_bool {t : TypeId} (hu : P.underlying t = some .bool) (a b : Bool) (w : World) : (Op.equal t (.bool a) (.bool b)).run P w = .ok (a == b) w := run_equalIn_bool hu a b w 9999
theorem run_equal_slice {t e : TypeId} (hu : P.underlying t = some (.slice e)) (a : Option Addr) (n c n' c' : Nat) (w : World) : (Op.equal t (.slice a n c) (.slice none n' c')).run P w = .ok a.isNone w := run_equalIn_slice hu a n c n' c' w 9999
theorem run_equal_nil {t : TypeId} {ms : Array (String × TypeId)} (hu : P.underlying t = some (.interface ms)) (w : World) : (Op.equal t .nilIface .nilIface).run P w = .ok true w := run_equalIn_nil hu w 9999
theorem run_equal_held {t : TypeId} {ms : Array (String × TypeId)} (hu : P.underlying t = some (.interface ms)) (s : TypeId) (v : Value) (w : World) : (Op.equal t (.iface s v) .nilIface).run P w = .ok false w := run_equalIn_held hu s v w 9999
theorem out_cmp {q : BinOp} {t u : TypeId} {x y : Operand} (ho : o.op = .binOp q t x y u) (hg : (eqGuard q t x y (ρ x) (ρ y)).run P w = .ok () w) {b : Bool} (hr : (Op.equal t (ρ x) (ρ y)).run P w = .ok b w)
    (he : binOp q t (ρ x) (ρ y) = match q with | .eql => (do pure (.bool (← Op.equal t (ρ x) (ρ y)))) | _ => (do pure (.bool (!(← Op.equal t (ρ x) (ρ y))))))
    (h : match q with | .eql => k (.bool b) w | .neq => k (.bool (!b)) w | _ => False) : Out P w k kp ((execOp ρ o).run P w) := by
  cases q <;> simp only at h <;> try exact h.elim
  all_goals
    refine out_value ?_ h
    unfold execOp
    simp only [ho, Sem.run_bind, hg, Result.andThen_ok, he, hr, Sem.run_pure]
theorem run_equalIn_ptr {t e : TypeId} (hu : P.underlying t = some (.pointer e)) (a : Option Addr) (w : World) (d : Nat) : (Op.equalIn (d + 1) t (.pointer a) (.pointer none)).run P w = .ok a.isNone w := by
  cases a <;> simp only [Op.equalIn, Sem.run_bind, run_underlying hu, Result.andThen_ok, Sem.run_pure] <;> rfl
theorem run_equal_ptr {t e : TypeId} (hu : P.underlying t = some (.pointer e)) (a : Option Addr) (w : World) : (Op.equal t (.pointer a) (.pointer none)).run P w = .ok a.isNone w := run_equalIn_ptr hu a w 9999
theorem s_arF {q : BinOp} {t u : TypeId} {x y : Operand} (ho : o.op = .binOp q t x y u) (h : arF q (ρ x) (ρ y) fun v => k v w) : Out P w k kp ((execOp ρ o).run P w) := by
  unfold arF at h
  split at h
  case h_2 => exact h.elim
  rename_i a m b n hx hy
  obtain ⟨rfl, h⟩ := h
  cases q <;> simp only at h <;> try exact h.elim
  case add => obtain ⟨r, hr, h⟩ := h; refine out_value ?_ h; unfold execOp; simp [ho, hx, hy, eqGuard, binOp, Op.floatArith, hr]
  case sub => obtain ⟨r, hr, h⟩ := h; refine out_value ?_ h; unfold execOp; simp [ho, hx, hy, eqGuard, binOp, Op.floatArith, hr]
  case mul => obtain ⟨r, hr, h⟩ := h; refine out_value ?_ h; unfold execOp; simp [ho, hx, hy, eqGuard, binOp, Op.floatArith, hr]
  case quo => obtain ⟨r, hr, h⟩ := h; refine out_value ?_ h; unfold execOp; simp [ho, hx, hy, eqGuard, binOp, Op.floatArith, hr]
  all_goals
    refine out_value ?_ h
    unfold execOp
    simp [ho, hx, hy, eqGuard, binOp, Op.floatCmp]
theorem s_binOp {q : BinOp} {t u : TypeId} {x y : Operand} (ho : o.op = .binOp q t x y u) (h : opK P o.type (.binOp q t x y u) ρ w k kp) : Out P w k kp ((execOp ρ o).run P w) := by
  simp only [opK] at h
  split at h
  · exact s_ar ho h
  · exact s_arF ho h
  · rename_i e hu
    unfold eqP at h
    split at h
    case h_2 => exact h.elim
    rename_i a hx hy
    cases q <;> simp only at h <;> try exact h.elim
    all_goals exact out_cmp ho (by simp [hx, hy, eqGuard]) (b := a.isNone) (by rw [hx, hy]; exact run_equal_ptr hu a w) (by simp only [hx, hy]; rfl) h
  · exact s_ar ho h
  · rename_i hu
    unfold arB at h
    split at h
    case h_2 => exact h.elim
    rename_i a b hx hy
    cases q <;> simp only at h <;> try exact h.elim
    all_goals exact out_cmp ho (by simp [hx, hy, eqGuard]) (b := a == b) (by rw [hx, hy]; exact run_equal_bool hu a b w) (by simp only [hx, hy]; rfl) h
  · rename_i e hu
    unfold eqS at h
    split at h
    case h_2 => exact h.elim
    rename_i a n c n' c' hx hy
    cases q <;> simp only at h <;> try exact h.elim
    all_goals exact out_cmp ho (by simp [hx, hy, eqGuard]) (b := a.isNone) (by rw [hx, hy]; exact run_equal_slice hu a n c n' c' w) (by simp only [hx, hy]; rfl) h
  · rename_i ms hu
    split at h
    case h_2 => exact h.elim
    rename_i c
    unfold eqI at h
    split at h
    · rename_i hx hy
      cases q <;> simp only at h <;> try exact h.elim
      all_goals exact out_cmp ho (by simp [hx, hy, eqGuard]) (b := true) (by rw [hx, hy]; exact run_equal_nil hu w) (by simp only [hx, hy]; rfl) h
    · rename_i hx hy
      cases q <;> simp only at h <;> try exact h.elim
      all_goals exact out_cmp ho (by simp [hx, hy, eqGuard]) (b := false) (by rw [hx, hy]; exact run_equal_held hu _ _ w) (by simp only [hx, hy]; rfl) h
    · exact h.elim
  · exact h.elim
theorem s_field {t : TypeId} {x : Operand} {f : Nat} (ho : o.op = .field t x f) (h : opK P o.type (.field t x f) ρ w k kp) : Out P w k kp ((execOp ρ o).run P w) := by
  simp only [opK] at h
  cases hu : P.underlying t with
  | none => simp only [hu] at h
  | some d =>
    cases d <;> simp only [hu] at h <;> try exact h.elim
    rename_i fs
    cases hf : fs.toList[f]? with
    | none => simp only [hf] at h
    | some d =>
      simp only [hf] at h
      have hf' : fs[f]? = some d := by rw [← Array.getElem?_toList]; exact hf
      cases hv : P.underlying d.type with
      | none => simp only [hv] at h
      | some u =>
        simp only [hv] at h
        obtain ⟨j, hj⟩ := info_of_underlying hv
        cases hg : isAgg u with
        | true =>
          simp only [hg, cond_true, fieldN] at h
          split at h
          case h_2 => exact h.elim
          rename_i cs hx
          refine out_value ?_ h
          unfold execOp
          have he : cs.extract d.offset (d.offset + sizeT P d.type) = ((cs.toList.drop d.offset).take (sizeT P d.type)).toArray := by
            apply Array.toList_inj.1
            simp [List.take_drop]
          simp [ho, hx, Instr.field, run_underlying hu, hf', part, asAgg, run_isAgg hv, hg, run_sizeOf' hj, he]
        | false =>
          simp only [hg, cond_false, field1] at h
          split at h
          case h_2 => exact h.elim
          rename_i cs hx
          obtain ⟨v, hv', hk⟩ := h
          refine out_value ?_ hk
          unfold execOp
          simp [ho, hx, Instr.field, run_underlying hu, hf', part, asAgg, run_isAgg hv, hg, hv']
theorem s_makeInterface {t : TypeId} {x : Operand} (ho : o.op = .makeInterface t x) (h : opK P o.type (.makeInterface t x) ρ w k kp) : Out P w k kp ((execOp ρ o).run P w) := by
  simp only [opK] at h
  cases hu : P.underlying t with
  | none => simp only [hu] at h
  | some d =>
    cases d <;> simp only [hu] at h <;> (try exact h.elim) <;>
    · refine out_value ?_ h
      unfold execOp
      simp [ho, Instr.makeInterface, run_underlying hu]
theorem s_panic {x : Operand} (ho : o.op = .panic x) (h : opK P o.type (.panic x) ρ w k kp) : Out P w k kp ((execOp ρ o).run P w) := by
  simp only [opK] at h
  split at h
  case h_2 => exact h.elim
  rename_i t v hx
  have he : (execOp ρ o).run P w = .halt (.panic (.iface t v)) w := by
    unfold execOp
    simp [ho, hx, Instr.panic, goPanic]
  rw [he]
  exact .panic _ _ h
theorem s_slice {t : TypeId} {x : Operand} {lo hi : Option Operand} (ho : o.op = .slice t x lo hi none) (h : opK P o.type (.slice t x lo hi none) ρ w k kp) : Out P w k kp ((execOp ρ o).run P w) := by
  simp only [opK] at h
  split at h
  · rename_i e hu
    rw [Bool.cond_eq_ite] at h
    split at h
    case isFalse => exact h.elim
    rename_i hT
    obtain ⟨ie, hie⟩ := hasT_mem [e] hT e (by simp)
    unfold slcL at h
    split at h
    case h_2 => exact h.elim
    rename_i a n c hx
    obtain ⟨l, q, hq, hl, hlq, hk⟩ := h
    refine out_value ?_ hk
    have hb : (Instr.sliceBounds true n c (lo.map ρ) (hi.map ρ) none).run P w = .ok (l, q, c) w := by
      cases hi with
      | none =>
        simp only [Option.map_none] at hq
        subst hq
        cases lo with
        | none =>
          simp only [Option.map_none] at hl
          subst hl
          simp [Instr.sliceBounds]
        | some lo =>
          simp only [Option.map_some] at hl
          obtain ⟨ki, hl⟩ := hl
          simp [Instr.sliceBounds, hl, Instr.sliceBound, asIntOf, hlq]
      | some hi =>
        simp only [Option.map_some] at hq
        obtain ⟨kq, hq, hqc⟩ := hq
        cases lo with
        | none =>
          simp only [Option.map_none] at hl
          subst hl
          simp [Instr.sliceBounds, hq, Instr.sliceBound, asIntOf, hqc]
        | some lo =>
          simp only [Option.map_some] at hl
          obtain ⟨ki, hl⟩ := hl
          simp [Instr.sliceBounds, hl, hq, Instr.sliceBound, asIntOf, hlq, hqc]
    unfold execOp
    simp [ho, hx, Instr.sliceAt, Instr.slice, run_underlying hu, hb, run_sizeOf' hie]
  · rename_i hu
    unfold slcS at h
    split at h
    case h_2 => exact h.elim
    rename_i s hx
    obtain ⟨l, q, hq, hl, hlq, hk⟩ := h
    refine out_value ?_ hk
    have hb : (Instr.sliceBounds false s.size s.size (lo.map ρ) (hi.map ρ) none).run P w = .ok (l, q, s.size) w := by
      cases hi with
      | none =>
        simp only [Option.map_none] at hq
        subst hq
        cases lo with
        | none =>
          simp only [Option.map_none] at hl
          subst hl
          simp [Instr.sliceBounds]
        | some lo =>
          simp only [Option.map_some] at hl
          obtain ⟨ki, hl⟩ := hl
          simp [Instr.sliceBounds, hl, Instr.sliceBound, asIntOf, hlq]
      | some hi =>
        simp only [Option.map_some] at hq
        obtain ⟨kq, hq, hqc⟩ := hq
        cases lo with
        | none =>
          simp only [Option.map_none] at hl
          subst hl
          simp [Instr.sliceBounds, hq, Instr.sliceBound, asIntOf, hqc]
        | some lo =>
          simp only [Option.map_some] at hl
          obtain ⟨ki, hl⟩ := hl
          simp [Instr.sliceBounds, hl, hq, Instr.sliceBound, asIntOf, hlq, hqc]
    unfold execOp
    simp [ho, hx, Instr.sliceAt, Instr.slice, run_underlying hu, hb]
  · exact h.elim
theorem s_sliceM {t : TypeId} {x mx : Operand} {lo hi : Option Operand} (ho : o.op = .slice t x lo hi (some mx)) (h : opK P o.type (.slice t x lo hi (some mx)) ρ w k kp) : Out P w k kp ((execOp ρ o).run P w) := by
  simp only [opK] at h
  split at h
  case h_2 => exact h.elim
  rename_i e hu
  rw [Bool.cond_eq_ite] at h
  split at h
  case isFalse => exact h.elim
  rename_i hT
  obtain ⟨ie, hie⟩ := hasT_mem [e] hT e (by simp)
  unfold slcM at h
  split at h
  case h_2 => exact h.elim
  rename_i a n c km qm hx hm
  injection hm with hm
  obtain ⟨l, q, m, rfl, hmc, hq, hl, hlq, hk⟩ := h
  refine out_value ?_ hk
  have hb : (Instr.sliceBounds true n c (lo.map ρ) (hi.map ρ) (some (ρ mx))).run P w = .ok (l, q, m) w := by
    cases hi with
    | none => exact hq.elim
    | some hi =>
      simp only [Option.map_some] at hq
      obtain ⟨kq, hq, hqc⟩ := hq
      cases lo with
      | none =>
        simp only [Option.map_none] at hl
        subst hl
        simp [Instr.sliceBounds, hq, hm, Instr.sliceBound, asIntOf, hqc, hmc]
      | some lo =>
        simp only [Option.map_some] at hl
        obtain ⟨ki, hl⟩ := hl
        simp [Instr.sliceBounds, hl, hq, hm, Instr.sliceBound, asIntOf, hlq, hqc, hmc]
  unfold execOp
  simp [ho, hx, Instr.sliceAt, Instr.slice, run_underlying hu, hb, run_sizeOf' hie]
theorem s_makeSlice {t : TypeId} {l c : Operand} (ho : o.op = .makeSlice t l c) (h : opK P o.type (.makeSlice t l c) ρ w k kp) : Out P w k kp ((execOp ρ o).run P w) := by
  simp only [opK] at h
  split at h
  case h_2 => exact h.elim
  rename_i e hu
  obtain ⟨i, z, hi, hz, hk⟩ := zT_spec h
  rw [Bool.cond_eq_ite] at hk
  split at hk
  case isFalse => exact hk.elim
  rename_i hc
  rw [Nat.beq_eq, len_eq] at hc
  unfold mkS at hk
  obtain ⟨m, ki, kj, n, hl, hcc, hnm, hb, hm, hk⟩ := hk
  have hsz : i.size = sizeT P e := by simp [sizeT, hi]
  have hby : i.bytes = bytesT P e := by simp [bytesT, hi]
  have hbb : (i.bytes : Int) * (m : Int) ≤ 281474976710656 := by
    have h1 : ((bytesT P e * m : Nat) : Int) ≤ 281474976710656 := by rw [Nat.mul_comm]; omega
    rw [hby]
    rwa [Int.natCast_mul] at h1
  have hr := run_make (P := P) w t e i z hu hi hz ki kj n m (by omega) (by omega) hbb (by omega)
  refine out_value ?_ hk
  unfold execOp
  simp only [Int.toNat_natCast] at hr
  simp [ho, hl, hcc, hr, hsz, ← hc]
theorem run_enter {g : FuncId} (h : Enters P g) (args : Array Value) (w : World) : (callFunc g args).run P w = .ok (.enter g args) w := by
  obtain ⟨fn, hf, hb, hn⟩ := h.has
  obtain ⟨c, hc⟩ := Option.isSome_iff_exists.1 hb
  simp [callFunc, hf, hn, hc]
theorem Spec.calls {g : FuncId} {args : Array Value} {w : World} {R : Ending → World → Prop} (hen : Enters P g) (h : Spec P g args w R) : Calls P g args w R := by
  rcases h with h | ⟨v, w', hrun, _⟩
  · exact h.2
  · rw [run_enter hen] at hrun; cases hrun
theorem s_callF {c : Call} {f : Operand} (ho : o.op = .call c) (hc : c.callee = .value f) (h : callF P (ρ f) (c.args.toList.map ρ).toArray w kp k) : Out P w k kp ((execOp ρ o).run P w) := by
  unfold callF at h
  split at h
  case h_2 => exact h.elim
  rename_i g first cap hf
  unfold callW at h
  have ha : ((first.toList ++ (c.args.toList.map ρ).toArray.toList) ++ cap.toList).toArray = first ++ c.args.map ρ ++ cap := by
    apply Array.toList_inj.1
    simp
  rcases h with ⟨hen, hcalls⟩ | ⟨v, w', hrun, hk⟩
  rotate_left
  · refine out_value (w' := w') ?_ hk
    rw [ha] at hrun
    unfold execOp
    simp only [ho, resolve, hc, Deferred.ofValue, hf, invoke, Sem.run_bind, Sem.run_pure, Result.andThen_ok, hrun]
  have he : (execOp ρ o).run P w = .ok (.enter g ((first.toList ++ (c.args.toList.map ρ).toArray.toList) ++ cap.toList).toArray) w := by
    unfold execOp
    simp only [ho, resolve, hc, Deferred.ofValue, hf, invoke, Sem.run_bind, Sem.run_pure, Result.andThen_ok, run_enter hen, ha]
  rw [he]
  exact .enter _ _ hcalls
theorem s_builtin {c : Call} {b : Builtin} (ho : o.op = .call c) (hc : c.callee = .builtin b) (h : opK P o.type (.call c) ρ w k kp) : Out P w k kp ((execOp ρ o).run P w) := by
  obtain ⟨cal, args, tys⟩ := c
  simp only at hc
  subst hc
  obtain ⟨args⟩ := args
  obtain ⟨tys⟩ := tys
  simp only [opK] at h
  split at h
  · split at h
    · rename_i x t hu
      unfold lenS at h
      split at h
      case h_2 => exact h.elim
      rename_i s hx
      refine out_value ?_ h
      unfold execOp
      simp [ho, resolve, invoke, builtin, Builtin.len_, hx, run_underlying hu, goInt]
    · rename_i x t e hu
      unfold lenL at h
      split at h
      case h_2 => exact h.elim
      rename_i a n c hx
      refine out_value ?_ h
      unfold execOp
      simp [ho, resolve, invoke, builtin, Builtin.len_, hx, run_underlying hu, goInt]
    · exact h.elim
  · unfold V.max2 at h
    split at h
    case h_2 => exact h.elim
    rename_i a m b n hx hy
    obtain ⟨rfl, h⟩ := h
    refine out_value ?_ h
    unfold execOp
    simp [ho, resolve, invoke, builtin, Builtin.max_, Builtin.max2, hx, hy]
  · unfold V.max3 at h
    split at h
    case h_2 => exact h.elim
    rename_i a m b n c o' hx hy hz
    obtain ⟨rfl, rfl, h⟩ := h
    refine out_value ?_ h
    unfold execOp
    simp [ho, resolve, invoke, builtin, Builtin.max_, Builtin.max2, hx, hy, hz]
  · unfold V.min2 at h
    split at h
    case h_2 => exact h.elim
    rename_i a m b n hx hy
    obtain ⟨rfl, h⟩ := h
    refine out_value ?_ h
    unfold execOp
    simp [ho, resolve, invoke, builtin, Builtin.min_, Builtin.min2, hx, hy]
  · rename_i s x t u
    split at h
    case h_2 => exact h.elim
    rename_i e e' hu hv
    obtain ⟨i, z, hi, hz, hk⟩ := zT_spec h
    rw [Bool.cond_eq_ite] at hk
    split at hk
    case isFalse => exact hk.elim
    rename_i hcc
    simp only [Bool.and_eq_true, Nat.beq_eq, Nat.ble_eq, len_eq] at hcc
    obtain ⟨⟨⟨rfl, h2⟩, h3⟩, h4⟩ := hcc
    unfold app at hk
    rcases hk with hk | hk
    case inr =>
      obtain ⟨b, n, c, m, ys, cs, tt, hs, hx, hyl, h1, hnc, hg, hle, hk⟩ := hk
      have hsz : i.size = sizeT P e := by simp [sizeT, hi]
      unfold SrcV at hx
      split at hx
      case h_2 => exact hx.elim
      rename_i a j c' hxx
      obtain ⟨rfl, hx⟩ := hx
      have hst := run_storeCells_at (P := P) b (n * sizeT P e) tt ys 0 cs w hg (by simpa using hle) h1
      simp only [Nat.add_zero] at hst
      have hfc : (Builtin.firstCells (sizeT P e) j (.slice a j c')).run P w = .ok ys.toArray w := by
        cases a with
        | some a => exact run_firstCells_some (P := P) w _ j a j c' ys hyl (fun q u hq => by
            obtain ⟨hq', rfl⟩ := List.getElem?_eq_some_iff.1 hq
            exact hx q hq')
        | none =>
          simp only at hx
          obtain ⟨rfl, rfl⟩ := hx
          simp [Builtin.firstCells]
      refine out_value ?_ hk
      unfold execOp
      simp [ho, resolve, invoke, builtin, Builtin.append_, hs, hxx, run_underlying hu, sizeOf, typeInfo, hi, Builtin.lenOf, hnc, hsz, hfc, Addr.add_lit, hst]
    obtain ⟨n, xs, m, ys, hown, hx, hyl, h1, hb, hk⟩ := hk
    have hsz : i.size = sizeT P e := by simp [sizeT, hi]
    have hby : i.bytes = bytesT P e := by simp [bytesT, hi]
    have hzs : z.cells.size = sizeT P e := by simpa using h2
    have hnm : n + m ≤ 140737488355328 := Nat.le_trans (Nat.le_mul_of_pos_right _ h4) hb
    unfold SrcV at hx
    split at hx
    case h_2 => exact hx.elim
    rename_i a j c hxx
    obtain ⟨rfl, hx⟩ := hx
    cases a with
    | some a =>
      simp only at hx
      obtain ⟨v', w', hr, ho', hg, _, hat⟩ := run_append_own_at (P := P) w 0 t o.type e i z (sizeT P e) (bytesT P e) hu hi hz hsz hby hzs h3 (ρ s) n xs hown a j c ys hyl (fun q u hq => by
        obtain ⟨hq', rfl⟩ := List.getElem?_eq_some_iff.1 hq
        exact hx q hq') h1 (by simp only [maxLen]; omega) hb (Nat.zero_le _)
      refine out_value (v := v') (w' := w') ?_ (hk v' w' ho' ⟨hg.os, hg.tape, hg.output, hg.size, fun q hq hne => hg.block q hq (fun hh => hne hh.symm), run_drawn _ _ _ _ hr⟩ ?_ ?_)
      · unfold execOp
        simp [ho, resolve, invoke, builtin, hxx, hr]
      · rcases hat with hat | hat
        · exact .inl hat
        · exact .inr ⟨_, hat, Nat.le_refl _⟩
      · intro hm hs
        subst hm
        rw [hs] at hr ⊢
        simp [Builtin.append_, run_underlying hu, sizeOf, typeInfo, hi, Builtin.lenOf, Builtin.firstCells, loadCells, loadCellsFrom] at hr
        exact hr.1.symm
    | none =>
      simp only at hx
      obtain ⟨rfl, rfl⟩ := hx
      refine out_value (v := ρ s) (w' := w) ?_ (hk (ρ s) w (by simpa using hown) ⟨rfl, rfl, rfl, Nat.le_refl _, fun _ _ _ => rfl, Nat.le_refl _⟩ (.inl rfl) fun _ _ => rfl)
      unfold execOp
      rcases hown.2 with ⟨hs, hn⟩ | ⟨g, cap, cur, hs, _, _, hnc, _⟩
      · simp [ho, resolve, invoke, builtin, Builtin.append_, hs, hxx, run_underlying hu, sizeOf, typeInfo, hi, Builtin.lenOf, Builtin.firstCells]
      · simp [ho, resolve, invoke, builtin, Builtin.append_, hs, hxx, run_underlying hu, sizeOf, typeInfo, hi, Builtin.lenOf, Builtin.firstCells, hnc, storeCells]
  · rename_i x t
    split at h
    case h_2 => exact h.elim
    rename_i e hu
    obtain ⟨i, z, hi, hz, hk⟩ := zT_spec h
    rw [Bool.cond_eq_ite] at hk
    split at hk
    case isFalse => exact hk.elim
    rename_i hcc
    simp only [Nat.beq_eq, len_eq] at hcc
    unfold clr at hk
    split at hk
    case h_3 => exact hk.elim
    · rename_i n c hx
      refine out_value ?_ hk
      unfold execOp
      simp [ho, resolve, invoke, builtin, Builtin.clear_, hx, run_underlying hu]
    · rename_i a n c hx
      rw [Bool.cond_eq_ite] at hk
      split at hk
      · rename_i hn
        simp only [Nat.beq_eq] at hn
        subst hn
        refine out_value ?_ hk
        unfold execOp
        simp [ho, resolve, invoke, builtin, Builtin.clear_, hx, run_underlying hu]
      · rename_i hn
        simp only [Nat.beq_eq] at hn
        unfold st at hk
        split at hk
        case h_2 => exact hk.elim
        rename_i b off hp
        injection hp with hp
        injection hp with hp
        subst hp
        obtain ⟨h1, h2, c', tt, hg, hl, hk⟩ := hk
        have hre : (Value.agg (reps n z.cells.toList).toArray).cells = (reps n z.cells.toList).toArray := rfl
        rw [hre] at h1 h2 hk
        simp only [List.size_toArray] at h1
        have hst := run_storeCells_at (P := P) b off tt (reps n z.cells.toList) 0 c' w hg (by simpa [h1] using hl) h2
        have hzc : Builtin.zeroCells z.cells n = (reps n z.cells.toList).toArray := by
          have := madeCells_reps z.cells.toList n
          simp at this
          exact this
        refine out_value (w' := w.setRow b (c'.toList.take off ++ reps n z.cells.toList ++ c'.toList.drop (off + n * sizeT P e)).toArray) ?_ hk
        unfold execOp
        have hn' : ¬ n = 0 := hn
        simp only [Nat.add_zero] at hst
        simp [ho, resolve, invoke, builtin, Builtin.clear_, hx, run_underlying hu, run_zero hi hz, hzc]
        rw [hst, h1]
        simp
  · rename_i d x t u
    split at h
    case h_2 => exact h.elim
    rename_i e e' hu hv
    obtain ⟨i, z, hi, hz, hk⟩ := zT_spec h
    unfold cpy at hk
    split at hk
    case h_2 => exact hk.elim
    rename_i a n c hd
    obtain ⟨m, us, hx, hul, hk⟩ := hk
    have hsz : i.size = sizeT P e := by simp [sizeT, hi]
    unfold SrcV at hx
    split at hx
    case h_2 => exact hx.elim
    rename_i q j c' hxx
    obtain ⟨rfl, hx⟩ := hx
    have hle : min j n * sizeT P e ≤ us.length := by rw [hul]; exact Nat.mul_le_mul_right _ (Nat.min_le_left _ _)
    have hmin : Nat.min j n = min j n := rfl
    have hfc : (Builtin.firstCells (sizeT P e) (min j n) (.slice q j c')).run P w = .ok (us.take (min j n * sizeT P e)).toArray w := by
      cases q with
      | none =>
        simp only at hx
        obtain ⟨rfl, rfl⟩ := hx
        simp [Builtin.firstCells]
      | some q =>
        simp only at hx
        have hl : (us.take (min j n * sizeT P e)).length = min j n * sizeT P e := by rw [List.length_take]; omega
        have := run_loadCells_list (P := P) w q (us.take (min j n * sizeT P e)) (fun y v hy => by
          obtain ⟨hy', rfl⟩ := List.getElem?_eq_some_iff.1 hy
          rw [List.getElem_take]
          exact hx y (by rw [List.length_take] at hy'; omega))
        rw [hl] at this
        exact this
    rw [Bool.cond_eq_ite] at hk
    split at hk
    · rename_i h0
      rw [Nat.beq_eq] at h0
      refine out_value ?_ hk
      unfold execOp
      rw [h0] at hfc hmin
      simp at hfc
      simp [ho, resolve, invoke, builtin, Builtin.copy_, hd, hxx, run_underlying hu, Builtin.lenOf, sizeOf, typeInfo, hi, hsz, hmin, hfc, storeCells, goInt]
    · rename_i h0
      rw [Nat.beq_eq] at h0
      unfold st at hk
      split at hk
      case h_2 => exact hk.elim
      rename_i b off hp
      injection hp with hp
      injection hp with hp
      subst hp
      obtain ⟨h1, h2, cc, tt, hg, hl, hk⟩ := hk
      have hre : (Value.agg (us.take (min j n * sizeT P e)).toArray).cells = (us.take (min j n * sizeT P e)).toArray := rfl
      rw [hre] at h1 h2 hk
      simp only [List.size_toArray] at h1
      have hst := run_storeCells_at (P := P) b off tt (us.take (min j n * sizeT P e)) 0 cc w hg (by simpa [h1] using hl) h2
      refine out_value (w' := w.setRow b (cc.toList.take off ++ us.take (min j n * sizeT P e) ++ cc.toList.drop (off + min j n * sizeT P e)).toArray) ?_ hk
      unfold execOp
      simp only [Nat.add_zero] at hst
      simp [ho, resolve, invoke, builtin, Builtin.copy_, hd, hxx, run_underlying hu, Builtin.lenOf, sizeOf, typeInfo, hi, hsz, hmin, hfc, goInt]
      rw [hst, h1]
      simp
  · exact h.elim
theorem zV_spec {t : TypeId} {F : Value → Prop} (h : zV P t F) : ∃ i z, P.info? t = some i ∧ i.zero = some z ∧ F z := by
  unfold zV at h
  split at h
  · rename_i i hi
    split at h
    · rename_i z hz
      exact ⟨i, z, hi, hz, h⟩
    · exact h.elim
  · exact h.elim
theorem s_makeMap {t : TypeId} (ho : o.op = .makeMap t none) (h : mkM w k) : Out P w k kp ((execOp ρ o).run P w) := by
  refine out_value ?_ h
  unfold execOp
  simp [ho, Instr.makeMap, newObj]
  rfl
theorem s_lookup {t : TypeId} {x i : Operand} {ok : Bool} (ho : o.op = .lookup t x i ok) (h : opK P o.type (.lookup t x i ok) ρ w k kp) : Out P w k kp ((execOp ρ o).run P w) := by
  simp only [opK] at h
  split at h
  case h_2 => exact h.elim
  rename_i kt e hu
  obtain ⟨inf, z, hi, hz, h⟩ := zV_spec h
  unfold lkM at h
  split at h
  case h_3 => exact h.elim
  case h_2 =>
    rename_i hx
    obtain ⟨K, mk, hk, h⟩ := h
    rcases mk.find w _ hk [] (fun e he => by cases he) with ⟨f1, _⟩ | ⟨j, e0, _, f2, _⟩
    · refine out_value ?_ h
      unfold execOp
      cases ok <;> simp [ho, hx, Instr.lookup, run_underlying hu, mk.check w _ _ hk, f1, run_zero hi hz, Result.andThen, resOk]
    · simp at f2
  rename_i b hx
  obtain ⟨K, es, clock, hb, mk, hk, hes, h1, h2⟩ := h
  rcases mk.find w _ hk es.toList hes with ⟨f1, f2⟩ | ⟨j, e0, f1, f2, f3⟩
  · refine out_value ?_ (h1 f2)
    unfold execOp
    cases ok <;> simp [ho, hx, Instr.lookup, run_underlying hu, MapKept.run_getObj_map hb, mk.check w _ _ hk, f1, run_zero hi hz, Result.andThen, resOk]
  · refine out_value ?_ (h2 e0 (List.mem_of_getElem? f2) f3)
    unfold execOp
    cases ok <;> simp [ho, hx, Instr.lookup, run_underlying hu, MapKept.run_getObj_map hb, mk.check w _ _ hk, f1, Result.andThen, resOk]
theorem run_update {t kt e : TypeId} {x i v : Value} (hu : P.underlying t = some (.map kt e)) (h : upM P kt x i v w fun w' => k undef w') : ∃ w', (Instr.mapUpdate t x i v).run P w = .ok () w' ∧ k undef w' := by
  unfold upM at h
  split at h
  case h_2 => exact h.elim
  rename_i b
  obtain ⟨K, es, clock, hb, mk, hk, hes, h1, h2⟩ := h
  rcases mk.find w _ hk es.toList hes with ⟨f1, f2⟩ | ⟨j, e0, f1, f2, f3⟩
  · refine ⟨_, ?_, h1 f2⟩
    simp [Instr.mapUpdate, run_underlying hu, MapKept.run_getObj_map hb, mk.check w _ _ hk, f1, MapKept.run_setObj_map _ hb, Result.andThen]
  · refine ⟨_, ?_, h2 j e0 f2 f3⟩
    have hj : es[j]? = some e0 := by simpa using f2
    simp [Instr.mapUpdate, run_underlying hu, MapKept.run_getObj_map hb, mk.check w _ _ hk, f1, hj, f3, mk.stays w _ hk, MapKept.run_setObj_map _ hb, Result.andThen]
theorem s_mapUpdate {t : TypeId} {m i x : Operand} (ho : o.op = .mapUpdate t m i x) (h : opK P o.type (.mapUpdate t m i x) ρ w k kp) : Out P w k kp ((execOp ρ o).run P w) := by
  simp only [opK] at h
  split at h
  case h_2 => exact h.elim
  rename_i kt e hu
  obtain ⟨w', h1, h2⟩ := run_update hu h
  have : (execOp ρ o).run P w = .ok .skip w' := by
    unfold execOp
    simp [ho, h1]
  rw [this]; exact .skip w' h2
theorem s_insert {t : TypeId} {m i x : Operand} (ho : o.op = .insert t m i x) (h : opK P o.type (.insert t m i x) ρ w k kp) : Out P w k kp ((execOp ρ o).run P w) := by
  simp only [opK] at h
  split at h
  case h_2 => exact h.elim
  rename_i kt e hu
  obtain ⟨w', h1, h2⟩ := run_update hu h
  have : (execOp ρ o).run P w = .ok .skip w' := by
    unfold execOp
    simp [ho, h1]
  rw [this]; exact .skip w' h2
theorem s_typeAssert {x : Operand} {xt t : TypeId} {ok : Bool} (ho : o.op = .typeAssert x xt t ok) (h : opK P o.type (.typeAssert x xt t ok) ρ w k kp) : Out P w k kp ((execOp ρ o).run P w) := by
  simp only [opK] at h
  cases hu : P.underlying t with
  | none => simp only [hu] at h
  | some d =>
    have hni : (∀ ms, d ≠ .interface ms) ∧ zV P t fun z => tas t z (ρ x) ok fun v => k v w := by
      cases d <;> simp only [hu] at h <;> first | exact h.elim | exact ⟨fun _ hh => (by cases hh), h⟩
    obtain ⟨hni, h⟩ := hni
    obtain ⟨inf, z, hi, hz, g⟩ := zV_spec h
    clear h
    unfold tas at g
    split at g
    · rename_i s v hx
      rw [Bool.cond_eq_ite] at g
      split at g
      · rename_i he
        rw [Nat.beq_eq] at he
        subst he
        refine out_value ?_ g
        unfold execOp
        cases ok <;> cases d <;> first | exact absurd rfl (hni _) | simp [ho, hx, Instr.typeAssert, run_underlying hu, Result.andThen, resOk]
      · rename_i he
        rw [Nat.beq_eq] at he
        cases ok with
        | false => exact g.elim
        | true =>
          refine out_value ?_ g
          unfold execOp
          cases d <;> first | exact absurd rfl (hni _) | simp [ho, hx, Instr.typeAssert, run_underlying hu, Result.andThen, he, run_zero hi hz]
    · rename_i hx
      cases ok with
      | false => exact g.elim
      | true =>
        refine out_value ?_ g
        unfold execOp
        cases d <;> first | exact absurd rfl (hni _) | simp [ho, hx, Instr.typeAssert, run_underlying hu, Result.andThen, run_zero hi hz]
    · exact g.elim
theorem opK_sound (h : opK P o.type o.op ρ w k kp) : Out P w k kp ((execOp ρ o).run P w) := by
  cases ho : o.op <;> rw [ho] at h
  case move => exact s_move ho h
  case assign => exact s_assign ho h
  case pick => exact s_pick ho h
  case alloc => exact s_alloc ho h
  case box => exact s_box ho h
  case build => exact s_build ho h
  case buildSlice => exact s_buildSlice ho h
  case load => exact s_load ho h
  case store => exact s_store ho h
  case nilCheck => exact s_nilCheck ho h
  case binOp => exact s_binOp ho h
  case unOp => exact s_unOp ho h
  case convert => exact s_convert ho h
  case makeFunc => exact s_makeFunc ho h
  case fieldAddr => exact s_fieldAddr ho h
  case field => exact s_field ho h
  case indexAddr => exact s_indexAddr ho h
  case index => exact s_index ho h
  case extract => exact s_extract ho h
  case slice t x lo hi mx =>
    cases mx with
    | none => exact s_slice ho h
    | some m => exact s_sliceM ho h
  case makeSlice => exact s_makeSlice ho h
  case makeInterface => exact s_makeInterface ho h
  case panic => exact s_panic ho h
  case makeMap t r =>
    cases r with
    | none => exact s_makeMap ho h
    | some m => exact h.elim
  case lookup => exact s_lookup ho h
  case mapUpdate => exact s_mapUpdate ho h
  case insert => exact s_insert ho h
  case typeAssert => exact s_typeAssert ho h
  case call c =>
    cases hc : c.callee with
    | value f => simp only [opK, hc] at h; exact s_callF ho hc h
    | builtin b => exact s_builtin ho hc h
    | invoke r m => simp only [opK, hc] at h
  all_goals exact h.elim
end
end Go.V
namespace Go.V
open Go

structure Agree (n : Nat) (e : Env) (a : Act) : Prop where
  size : a.tmps.size = n
  tmp : ∀ i, a.tmps.getD i undef = e.get i
  dfr : a.defers = e.dfr
def Same (D : List Nat) (e e' : Env) : Prop := ∀ i, i ∉ D → e'.get i = e.get i
def lt (n : Nat) (D : List Nat) : Prop := ∀ d ∈ D, d < n

theorem mem_iff : ∀ (D : List Nat) (i : Nat), mem i D = true ↔ i ∈ D
  | [], i => by simp [mem]
  | d :: D, i => by
    simp only [mem, Bool.cond_eq_ite, List.mem_cons]
    split
    · rename_i h; simp [Nat.beq_eq] at h; simp [h]
    · rename_i h; simp [Nat.beq_eq] at h; simp [h, mem_iff D i]
theorem Agree.ev {n : Nat} {e : Env} {a : Act} (h : Agree n e a) : a.eval = e.ev := by
  funext x
  cases x <;> simp [Act.eval, Env.ev, h.tmp]
theorem Env.get_put (e : Env) (d : Nat) (v : Value) (i : Nat) : (e.put (some d) v).get i = if i = d then v else e.get i := by
  simp only [Env.put, Bool.cond_eq_ite]
  by_cases h : i = d
  · simp [h]
  · rw [if_neg h, if_neg (by simp [Nat.beq_eq, h])]
theorem Env.dfr_put (e : Env) (d : Option Tmp) (v : Value) : (e.put d v).dfr = e.dfr := by cases d <;> rfl
theorem Agree.put {n : Nat} {e : Env} {a : Act} (h : Agree n e a) {d : Option Tmp} (hd : ∀ x, d = some x → x < n) (v : Value) : Agree n (e.put d v) (a.put d v) := by
  cases d with
  | none => exact h
  | some d =>
    refine ⟨by simp [Act.put, h.size], fun i => ?_, h.dfr⟩
    rw [Env.get_put, ← h.tmp i]
    have hl : d < a.tmps.size := by rw [h.size]; exact hd d rfl
    simp only [Act.put, Array.getD_eq_getD_getElem?, Array.getElem?_setIfInBounds]
    by_cases hi : i = d
    · subst hi; simp [hl]
    · rw [if_neg (fun hh => hi hh.symm), if_neg hi]
theorem Agree.congr {n : Nat} {e e' : Env} {a : Act} (h : Agree n e a) (hg : ∀ i, e'.get i = e.get i) (hd : e'.dfr = e.dfr) : Agree n e' a :=
  ⟨h.size, fun i => by rw [hg]; exact h.tmp i, by rw [hd]; exact h.dfr⟩
theorem Same.refl (D : List Nat) (e : Env) : Same D e e := fun _ _ => rfl
theorem Same.trans {D : List Nat} {e e' e'' : Env} (h : Same D e e') (h' : Same D e' e'') : Same D e e'' := fun i hi => (h' i hi).trans (h i hi)
theorem Same.mono {D D' : List Nat} {e e' : Env} (h : Same D e e') (hs : ∀ i ∈ D, i ∈ D') : Same D' e e' := fun i hi => h i fun hh => hi (hs i hh)
theorem dstsO_mem {o : Oper} {r : List Oper} {x : Nat} (h : o.dst = some x) : x ∈ dstsO (o :: r) := by simp [dstsO, h]
theorem dstsO_tail {o : Oper} {r : List Oper} {x : Nat} (h : x ∈ dstsO r) : x ∈ dstsO (o :: r) := by
  simp only [dstsO]; cases o.dst <;> simp [h]
theorem dstsO_app (a b : List Oper) : ∀ x, x ∈ dstsO (a ++ b) ↔ x ∈ dstsO a ∨ x ∈ dstsO b := by
  intro x
  induction a with
  | nil => simp [dstsO]
  | cons o a ih =>
    simp only [List.cons_append, dstsO]
    cases o.dst with
    | none => simpa using ih
    | some d => simp only [List.mem_cons, ih, or_assoc]

theorem LetsOut.mono {Q Q' : Exit → Act → World → Prop} (h : ∀ e a w, Q e a w → Q' e a w) (hq : LetsOut Q) : LetsOut Q' :=
  let ⟨a, w, q⟩ := hq; ⟨a, w, h _ _ _ q⟩

section
variable {P : Program} {n : Nat} {e : Env} {w : World} {a : Act} {o : Oper}

theorem gdst_none {ops : Array Oper} (h : gdst ops o = none) : o.guard = none := by
  unfold gdst at h
  split at h
  · assumption
  · split at h <;> cases h
theorem wanted_of {ops : Array Oper} {d : Nat} {want : Bool} (h : gdst ops o = some (some d, want)) (ha : Agree n e a) :
    Region.wanted o (yielded ops a.tmps) = true ↔ e.get d = .bool want := by
  unfold gdst at h
  split at h
  · cases h
  · rename_i j b hg
    split at h
    · rename_i p hp
      simp only [Option.some.injEq, Prod.mk.injEq] at h
      obtain ⟨hd, rfl⟩ := h
      have hp' : ops[j]? = some p := by rw [← Array.getElem?_toList]; exact hp
      have ht := ha.tmp d
      simp only [Region.wanted, hg, yielded, hp', Option.bind_some, hd]
      rw [Array.getD_eq_getD_getElem?] at ht
      cases hv : a.tmps[d]? with
      | none =>
        rw [hv] at ht
        simp only [Option.getD_none] at ht
        rw [← ht]
        simp [undef]
      | some v =>
        rw [hv] at ht
        simp only [Option.getD_some] at ht
        rw [← ht]
        cases v <;> simp
    · cases h
theorem wpList_wanted {ops : Array Oper} {Q : Exit → Act → World → Prop} {r : List Oper} (hw : Region.wanted o (yielded ops a.tmps) = true) (h : o.wp P a w (wpList P ops Q r) Q) : wpList P ops Q (o :: r) a w := by
  unfold wpList
  rw [if_pos hw]
  exact .inl h
theorem wpList_unwanted {ops : Array Oper} {Q : Exit → Act → World → Prop} {r : List Oper} (hw : ¬ Region.wanted o (yielded ops a.tmps) = true) (h : wpList P ops Q r (a.put o.dst undef) w) : wpList P ops Q (o :: r) a w := by
  unfold wpList
  rw [if_neg hw]
  exact h
theorem mix_get (e : Env) (D : List Nat) (u : Nat → Value) (i : Nat) : (e.mix D u).get i = if i ∈ D then u i else e.get i := by
  simp only [Env.mix, Bool.cond_eq_ite, mem_iff]
theorem inG_spec {ops : Array Oper} {d : Nat} {want : Bool} {D : List Nat} (h : inG ops d want D o = true) : ∃ x b, gdst ops o = some (some x, b) ∧ (x = d ∧ b = want ∨ x ∈ D) := by
  unfold inG at h
  split at h
  · rename_i x b hg
    refine ⟨x, b, hg, ?_⟩
    rw [Bool.cond_eq_ite] at h
    split at h
    · rename_i hx
      refine .inl ⟨by simpa [Nat.beq_eq] using hx, ?_⟩
      cases want <;> cases b <;> simp_all
    · exact .inr ((mem_iff D x).1 h)
  · cases h
theorem takeG_app (ops : Array Oper) (d : Nat) (want : Bool) : ∀ (D : List Nat) (l : List Oper), (takeG ops d want D l).1 ++ (takeG ops d want D l).2 = l
  | _, [] => rfl
  | D, o :: r => by
    simp only [takeG, Bool.cond_eq_ite]
    split
    · simp [takeG_app ops d want _ r]
    · rfl
theorem skip_sound {ops : Array Oper} {d : Nat} {want : Bool} {Q : Exit → Act → World → Prop} : ∀ (l suf : List Oper) (D : List Nat) (e : Env) (a : Act), Agree n e a → lt n (dstsO (takeG ops d want D l).1) →
    e.get d ≠ .bool want → (∀ x ∈ D, e.get x = undef) →
    (∀ a', Agree n (e.mix (dstsO (takeG ops d want D l).1) fun _ => undef) a' → wpList P ops Q ((takeG ops d want D l).2 ++ suf) a' w) → wpList P ops Q (l ++ suf) a w
  | [], suf, D, e, a, ha, _, _, _, h => by
    refine h a (ha.congr (fun i => ?_) rfl)
    rw [mix_get]
    simp [takeG, dstsO]
  | o :: r, suf, D, e, a, ha, hl, hne, hD, h => by
    simp only [takeG, Bool.cond_eq_ite] at h hl
    by_cases hin : inG ops d want D o = true
    · rw [if_pos hin] at h hl
      obtain ⟨x, b, hg, hx⟩ := inG_spec hin
      have hw : ¬ Region.wanted o (yielded ops a.tmps) = true := by
        rw [wanted_of hg ha]
        rcases hx with ⟨rfl, rfl⟩ | hx
        · exact hne
        · rw [hD x hx]; simp [undef]
      have hd : ∀ x, o.dst = some x → x < n := fun x hx => hl x (dstsO_mem hx)
      refine wpList_unwanted hw (skip_sound r suf (add o.dst D) (e.put o.dst undef) (a.put o.dst undef) (ha.put hd undef) (fun x hx => hl x (dstsO_tail hx)) ?_ ?_ ?_)
      · cases ho : o.dst with
        | none => exact hne
        | some q =>
          rw [Env.get_put]
          split
          · simp [undef]
          · exact hne
      · intro x hx
        cases ho : o.dst with
        | none => rw [ho] at hx; exact hD x hx
        | some q =>
          rw [ho] at hx
          rw [Env.get_put]
          split
          · rfl
          · rename_i hne; exact hD x ((List.mem_cons.1 hx).resolve_left hne)
      · intro a' ha'
        refine h a' (ha'.congr (fun i => ?_) (by cases o.dst <;> rfl))
        rw [mix_get, mix_get]
        cases ho : o.dst with
        | none => simp [dstsO, ho, Env.put]
        | some q =>
          rw [Env.get_put]
          simp only [dstsO, ho, List.mem_cons]
          by_cases h1 : i = q
          · subst h1; simp
          · simp [h1]
    · rw [if_neg hin] at h hl
      refine h a (ha.congr (fun i => ?_) rfl)
      rw [mix_get]
      simp [dstsO]

theorem noDefO_cons {r : List Oper} (h : noDefO (o :: r) = true) : (∀ c, o.op ≠ .defer c) ∧ noDefO r = true := by
  unfold noDefO at h
  split at h
  · cases h
  · rename_i hn; exact ⟨hn, h⟩
theorem noDefO_app (x y : List Oper) : noDefO (x ++ y) = (noDefO x && noDefO y) := by
  induction x with
  | nil => simp [noDefO]
  | cons o x ih =>
    simp only [List.cons_append, noDefO]
    split <;> simp [ih]
theorem subL_spec : ∀ (L D : List Nat), subL L D = true → ∀ i ∈ L, i ∈ D
  | [], _, _, i, h => by cases h
  | a :: L, D, h, i, hi => by
    simp only [subL, Bool.cond_eq_ite] at h
    split at h
    · rename_i ha
      rcases List.mem_cons.1 hi with rfl | hi
      · exact (mem_iff D _).1 ha
      · exact subL_spec L D h i hi
    · cases h
theorem anOf_nil (k : Nat) : anOf [] k = none := rfl

def resF (tmps : Array Value) : ResultVar → Sem Value
  | .tmp t => pure (tmps.getD t undef)
  | .cell a t => do loadVar t (← asAddr (tmps.getD a undef))
theorem results_eq (fn : Func) (tmps : Array Value) : results fn tmps = (do let vs ← fn.results.mapM (resF tmps); pure (if h : vs.size = 1 then vs[0] else .tuple vs)) := by
  unfold results
  congr 1
def ltB (n : Nat) : List Nat → Bool
  | [] => true
  | d :: D => bif Nat.ble (d + 1) n then ltB n D else false
theorem ltB_spec : ∀ (D : List Nat), ltB n D = true → lt n D
  | [], _ => fun _ h => by cases h
  | d :: D, h => by
    simp only [ltB, Bool.cond_eq_ite] at h
    split at h
    · rename_i hd
      intro x hx
      rcases List.mem_cons.1 hx with rfl | hx
      · rw [Nat.ble_eq] at hd; omega
      · exact ltB_spec D h x hx
    · cases h
def nulB : List (Nat × List Nat) → Bool
  | [] => true
  | _ => false
end
end Go.V
