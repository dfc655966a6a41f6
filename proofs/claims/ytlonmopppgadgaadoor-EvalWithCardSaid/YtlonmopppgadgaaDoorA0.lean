/- Values told as data; a call's own blocks beside them; the words of a reckoning over both. Definitions alone. -/
import Derived.Test.YtlonmopppgadgaaDoorV0
namespace Go.V
open Go

/-! ### data -/
inductive D where
  | val (v : Value)
  | agg (l : List D)
  | tuple (l : List D)
  | row (sz : Nat) (l : List (List D))
  | pin (l : List D)
  | fn (f : Nat) (first cap : List D)
  | ifc (t : Nat) (d : D)
  | top
abbrev D.i (n : Int) : D := .val (.int .i64 n)
abbrev D.b (b : Bool) : D := .val (.bool b)
abbrev D.s (s : ByteArray) : D := .val (.string s)
abbrev D.p (b o : Nat) : D := .val (.pointer (some ⟨b, o, none⟩))
abbrev D.nil : D := .val (.slice none 0 0)
abbrev D.sl (b o n c : Nat) : D := .val (.slice (some ⟨b, o, none⟩) n c)
inductive Kd where
  | box
  | row (e sz cap : Nat)
  | map (es : List (Value × D))
/-- an own block: its number, what it holds, what it is -/
structure Bx where
  b : Nat
  l : List D
  k : Kd
def cl : D → List D
  | .agg l => l
  | d => [d]
def D.one : D → Bool
  | .val (.agg _) => false
  | .val (.tuple _) => false
  | .agg _ => false
  | .tuple _ => false
  | .top => false
  | _ => true
def hiN : IntKind → Nat
  | .i8 => 127
  | .i16 => 32767
  | .i32 => 2147483647
  | .i64 => 9223372036854775807
  | .u8 => 255
  | .u16 => 65535
  | .u32 => 4294967295
  | .u64 => 18446744073709551615
def loN : IntKind → Nat
  | .i8 => 128
  | .i16 => 32768
  | .i32 => 2147483648
  | .i64 => 9223372036854775808
  | _ => 0
def okI (k : IntKind) : Int → Bool
  | .ofNat m => Nat.ble m (hiN k)
  | .negSucc m => Nat.ble (m + 1) (loN k)
/-- a number is one of its kind; no string and no slice is longer than one may be -/
def Okv (v : Value) : Prop :=
  match v with
  | .int k n => -(loN k : Int) ≤ n ∧ n ≤ hiN k
  | .string s => s.size ≤ 9223372036854775807
  | .slice _ n c => n ≤ c ∧ c ≤ 9223372036854775807
  | _ => True
def okB (v : Value) : Bool :=
  match v with
  | .int k n => okI k n
  | .string s => Nat.ble s.size 9223372036854775807
  | .slice _ n c => Nat.ble n c && Nat.ble c 9223372036854775807
  | _ => true
mutual
/-- a value that is such, all that it leads to in blocks that F lets -/
def Rep (F : Nat → Prop) (w : World) : D → Value → Prop
  | .val v, u => u = v ∧ Okv v
  | .agg l, u => ∃ vs, u = .agg (List.toArray vs) ∧ Reps F w l vs
  | .tuple l, u => ∃ vs, u = .tuple (List.toArray vs) ∧ Reps F w l vs
  | .row sz l, u => ∃ p c, u = .slice p l.length c ∧ Fits l.length c ∧ (l = [] ∨ ∃ b o, p = some ⟨b, o, none⟩ ∧ F b ∧ b < w.heap.size ∧ Rws F w sz l b o)
  | .pin l, u => ∃ b o vs, u = .pointer (some ⟨b, o, none⟩) ∧ F b ∧ b < w.heap.size ∧ Reps F w l vs ∧ Cells w ⟨b, o, none⟩ vs
  | .fn f a c, u => ∃ as cs, u = .func (.func f) (List.toArray as) (List.toArray cs) ∧ Reps F w a as ∧ Reps F w c cs
  | .ifc t d, u => ∃ v, u = .iface t v ∧ Rep F w d v
  | .top, _ => True
def Reps (F : Nat → Prop) (w : World) : List D → List Value → Prop
  | [], vs => vs = []
  | d :: l, vs => ∃ v r, vs = v :: r ∧ Rep F w d v ∧ Reps F w l r
def Rws (F : Nat → Prop) (w : World) (sz : Nat) : List (List D) → Nat → Nat → Prop
  | [], _, _ => True
  | l :: r, b, o => (∃ vs, Reps F w l vs ∧ vs.length = sz ∧ Cells w ⟨b, o, none⟩ vs) ∧ Rws F w sz r b (o + sz)
end
def KdOk (t : TypeId) (c : Array Value) (n : Nat) : Kd → Prop
  | .box => True
  | .row e sz cap => t = e ∧ c.size = cap * sz ∧ cap ≤ 9223372036854775807 ∧ ∃ m, n = m * sz
  | .map _ => False
/-- a map's entries -/
def MReps (F : Nat → Prop) (w : World) : List (Value × D) → List MapEntry → Prop
  | [], es => es = []
  | (k, d) :: r, es => ∃ e s, es = e :: s ∧ e.key = k ∧ Rep F w d e.val ∧ MReps F w r s
/-- keys that are told apart -/
def KeysOk (es : List (Value × D)) : Prop := (es.map (·.1)).Nodup
def MapB (F : Nat → Prop) (w : World) (x : Bx) : Prop :=
  ∃ es ces clock, x.k = .map es ∧ x.l = [] ∧ w.heap[x.b]? = some (.map ces clock) ∧ MReps F w es ces.toList ∧ KeysOk es
structure BxOk (F : Nat → Prop) (w : World) (x : Bx) : Prop where
  has : MapB F w x ∨ ∃ c t vs, w.heap[x.b]? = some (.cells c t (0, 0)) ∧ Reps F w x.l vs ∧ vs = c.toList.take x.l.length ∧ KdOk t c x.l.length x.k
/-- the own blocks L, and those F that stay as they are -/
structure AW (F : Nat → Prop) (L : List Bx) (w : World) : Prop where
  own : ∀ x ∈ L, BxOk F w x
  nodup : (L.map Bx.b).Nodup
  sep : ∀ x ∈ L, ¬ F x.b
  lt : ∀ b, F b → b < w.heap.size
structure Ev (F : Nat → Prop) (L : List Bx) (w : World) (F' : Nat → Prop) (L' : List Bx) (w' : World) : Prop where
  os : w'.os = w.os
  tape : w'.tape = w.tape
  output : w'.output = w.output
  size : w.heap.size ≤ w'.heap.size
  block : ∀ k, k < w.heap.size → (∀ x ∈ L, x.b ≠ k) → w'.heap[k]? = w.heap[k]?
  grow : ∀ k, F k → F' k
  old : ∀ k, k < w.heap.size → F' k → F k ∨ ∃ x ∈ L, x.b = k
  own : ∀ x ∈ L', x.b < w.heap.size → ∃ y ∈ L, y.b = x.b
  drawn : w.drawn ≤ w'.drawn
/-- how a call ends -/
inductive AE where
  | ret (d : D)
  | pan (d : D)
def ERep (F : Nat → Prop) (w : World) : AE → Ending → Prop
  | .ret d, e => ∃ v, e = .returned v ∧ Rep F w d v
  | .pan d, e => ∃ v, e = .panicked [{ v := v, recovered := false }] ∧ Rep F w d v
mutual
/-- no row longer than one may be -/
def Small : D → Prop
  | .val v => Okv v
  | .agg l => Smalls l
  | .tuple l => Smalls l
  | .row _ l => l.length ≤ 9223372036854775807 ∧ Smallr l
  | .pin l => Smalls l
  | .fn _ a c => Smalls a ∧ Smalls c
  | .ifc _ d => Small d
  | .top => True
def Smalls : List D → Prop
  | [] => True
  | d :: l => Small d ∧ Smalls l
def Smallr : List (List D) → Prop
  | [] => True
  | d :: l => Smalls d ∧ Smallr l
end
/-- A CALL: what it asks of its own blocks and arguments, how it ends -/
def ASpec (P : Program) (g : FuncId) (args : List D) (L : List Bx) (R : AE → List Bx → Prop) : Prop :=
  ∀ F w vs, AW F L w → Reps F w args vs → Spec P g vs.toArray w fun e w' => ∃ a F' L', Ev F L w F' L' w' ∧ AW F' L' w' ∧ ERep F' w' a e ∧ R a L'
/-- one that changes nothing -/
def AFn (P : Program) (g : FuncId) (args : List D) (L : List Bx) (a : AE) : Prop := ASpec P g args L fun a' L' => a' = a ∧ L' = L

/-! ### operations -/
def u1 (X : Value → (Value → Prop) → Prop) (x : D) (k : D → Prop) : Prop := match x with | .val u => X u fun r => k (.val r) | _ => False
def u2 (X : Value → Value → (Value → Prop) → Prop) (x y : D) (k : D → Prop) : Prop := match x, y with | .val u, .val v => X u v fun r => k (.val r) | _, _ => False
def aar (op : BinOp) (x y : D) (k : D → Prop) : Prop := u2 (ar op) x y k
def aarF (op : BinOp) (x y : D) (k : D → Prop) : Prop := u2 (arF op) x y k
def aeqP (op : BinOp) (x y : D) (k : D → Prop) : Prop :=
  match x, y with
  | .pin _, .val (.pointer none) => (match op with | .eql => k (.b false) | .neq => k (.b true) | _ => False)
  | .val u, .val v => eqP op u v fun r => k (.val r)
  | _, _ => False
def aarB (op : BinOp) (x y : D) (k : D → Prop) : Prop := u2 (arB op) x y k
def anotb (x : D) (k : D → Prop) : Prop := u1 notb x k
def aneg (x : D) (k : D → Prop) : Prop := u1 neg x k
def acvI (a : IntKind) (x : D) (k : D → Prop) : Prop := u1 (cvI a) x k
def alenS (x : D) (k : D → Prop) : Prop := u1 lenS x k
def amax2 (x y : D) (k : D → Prop) : Prop := u2 max2 x y k
def amin2 (x y : D) (k : D → Prop) : Prop := u2 min2 x y k
def aidxStr (x y : D) (k : D → Prop) : Prop := u2 idxStr x y k
def apick (c a b : D) (k : D → Prop) : Prop := match c with | .val (.bool t) => k (bif t then a else b) | _ => False
def abx (l : List D) (L : List Bx) (k : D → List Bx → Prop) : Prop := ∀ b, k (.p b 0) (⟨b, l, .box⟩ :: L)
def abxv (d : D) (L : List Bx) (k : D → List Bx → Prop) : Prop :=
  match d with | .agg l => abx l L k | d => bif d.one then abx [d] L k else False
def ald1 (p : D) (L : List Bx) (k : D → Prop) : Prop :=
  match p with
  | .val (.pointer (some ⟨b, o, none⟩)) => ∃ (i : Nat) (l : List D) (kd : Kd) (d : D), L[i]? = some (Bx.mk b l kd) ∧ l[o]? = some d ∧ k d
  | .pin (d :: _) => k d
  | _ => False
def aldN (n : Nat) (p : D) (L : List Bx) (k : D → Prop) : Prop :=
  match p with
  | .val (.pointer (some ⟨b, o, none⟩)) => ∃ (i : Nat) (l : List D) (kd : Kd) (m : List D), L[i]? = some (Bx.mk b l kd) ∧ (l.drop o).take n = m ∧ m.length = n ∧ k (.agg m)
  | .pin l => ∃ m, l.take n = m ∧ m.length = n ∧ k (.agg m)
  | _ => False
def ast (n : Nat) (p v : D) (L : List Bx) (k : List Bx → Prop) : Prop :=
  match p with
  | .val (.pointer (some ⟨b, o, none⟩)) => ∃ (i : Nat) (l : List D) (kd : Kd) (m : List D), L[i]? = some (Bx.mk b l kd) ∧ (cl v).length = n ∧ (cl v).all D.one = true ∧ o + n ≤ l.length ∧ l.take o ++ cl v ++ l.drop (o + n) = m ∧ k (L.set i ⟨b, m, kd⟩)
  | _ => False
/-- a store of nothing -/
def ast0 (p v : D) (L : List Bx) (k : List Bx → Prop) : Prop :=
  match p, v with
  | .val (.pointer (some ⟨b, o, none⟩)), .agg [] => ∃ (i : Nat) (l : List D), L[i]? = some (Bx.mk b l .box) ∧ o ≤ l.length ∧ k L
  | _, _ => False
def anilc (p : D) (k : D → Prop) : Prop :=
  match p with
  | .val (.pointer (some a)) => k (.val (.pointer (some a)))
  | .pin l => k (.pin l)
  | _ => False
def afld (off : Nat) (p : D) (k : D → Prop) : Prop :=
  match p with
  | .val (.pointer (some ⟨b, o, none⟩)) => k (.p b (o + off))
  | .pin l => k (.pin (l.drop off))
  | _ => False
def aidxS (sz : Nat) (x i : D) (k : D → Prop) : Prop :=
  match x, i with
  | .row z l, .val (.int _ j) => z = sz ∧ 0 ≤ j ∧ ∃ e, l[j.toNat]? = some e ∧ k (.pin e)
  | .val u, .val v => idxS sz u v fun r => k (.val r)
  | _, _ => False
def aidxP (n sz : Nat) (x i : D) (k : D → Prop) : Prop :=
  match x, i with
  | .pin l, .val (.int _ j) => 0 ≤ j ∧ j < n ∧ k (.pin (l.drop (j.toNat * sz)))
  | .val u, .val v => idxP n sz u v fun r => k (.val r)
  | _, _ => False
def afill (z : List D) : List (Nat × List D) → List D
  | [] => z
  | (o, l) :: r => afill (z.take o ++ l ++ z.drop (o + l.length)) r
def asizes : List (Nat × Nat × D) → Bool
  | [] => true
  | (_, n, v) :: r => Nat.beq (cl v).length n && ((cl v).all D.one && asizes r)
def aparts : List (Nat × Nat × D) → List (Nat × List D)
  | [] => []
  | (o, _, v) :: r => (o, cl v) :: aparts r
/-- nil may be said to be a row of nothing -/
inductive NilW : List D → List D → Prop
  | refl (l : List D) : NilW l l
  | same {d : D} {l l' : List D} (h : NilW l l') : NilW (d :: l) (d :: l')
  | nil {sz : Nat} {l l' : List D} (h : NilW l l') : NilW (.nil :: l) (.row sz [] :: l')
def abld (z : List D) (ps : List (Nat × Nat × D)) (k : D → Prop) : Prop :=
  asizes ps = true ∧ ∃ l l', afill z (aparts ps) = l ∧ NilW l l' ∧ k (.agg l')
def chunk (sz : Nat) : Nat → List D → List (List D)
  | 0, _ => []
  | n + 1, l => l.take sz :: chunk sz n (l.drop sz)
/-- a literal row that stays as it is -/
def abldF (sz n : Nat) (z : List D) (ps : List (Nat × Nat × D)) (k : D → Prop) : Prop :=
  asizes ps = true ∧ ∃ l, chunk sz n (afill z (aparts ps)) = l ∧ k (.row sz l)
def abldS (e sz n : Nat) (z : List D) (ps : List (Nat × Nat × D)) (L : List Bx) (k : D → List Bx → Prop) : Prop :=
  abldF sz n z ps (fun d => k d L) ∨ (asizes ps = true ∧ ∃ l, afill z (aparts ps) = l ∧ ∀ b, k (.sl b 0 n n) (⟨b, l, .row e sz n⟩ :: L))
def afield1 (off : Nat) (x : D) (k : D → Prop) : Prop :=
  match x with | .agg l => ∃ d, l[off]? = some d ∧ k d | _ => False
def afieldN (off n : Nat) (x : D) (k : D → Prop) : Prop :=
  match x with | .agg l => ∃ m, (l.drop off).take n = m ∧ k (.agg m) | _ => False
def aext (j : Nat) (x : D) (k : D → Prop) : Prop :=
  match x with | .tuple l => ∃ d, l[j]? = some d ∧ k d | _ => False
/-- an empty row may be nil, or not -/
def aeqS (st : Bool) (op : BinOp) (x y : D) (k : D → Prop) : Prop :=
  match x, y with
  | .row _ (_ :: _), .val (.slice none _ _) => (match op with | .eql => k (.b false) | .neq => k (.b true) | _ => False)
  | .row _ [], .val (.slice none _ _) => bif st then False else (match op with | .eql => k (.b true) ∧ k (.b false) | .neq => k (.b true) ∧ k (.b false) | _ => False)
  | .val u, .val v => eqS op u v fun r => k (.val r)
  | _, _ => False
def aeqI (op : BinOp) (x y : D) (k : D → Prop) : Prop :=
  match x, y with
  | .ifc _ _, .val .nilIface => (match op with | .eql => k (.b false) | .neq => k (.b true) | _ => False)
  | .val u, .val v => eqI op u v fun r => k (.val r)
  | _, _ => False
def alenL (x : D) (k : D → Prop) : Prop :=
  match x with
  | .row _ l => k (.i l.length)
  | .val u => lenL u fun r => k (.val r)
  | _ => False
/-! ### maps -/
mutual
/-- a key is a value -/
def dkv : D → Option Value
  | .val v => some v
  | .agg l => (match dkvs l with | some vs => some (.agg (List.toArray vs)) | none => none)
  | _ => none
def dkvs : List D → Option (List Value)
  | [] => some []
  | d :: l => (match dkv d, dkvs l with | some v, some vs => some (v :: vs) | _, _ => none)
end
/-- a zero value, as data -/
def dz : Value → D
  | .agg cs => .agg (cs.toList.map .val)
  | v => .val v
def zvOk : Value → Bool
  | .agg cs => cs.toList.all okB
  | .tuple _ => false
  | v => okB v
def aresOk (ok : Bool) (v : D) (b : Bool) : D := bif ok then .tuple [v, .b b] else v
def amkM (L : List Bx) (k : D → List Bx → Prop) : Prop := ∀ b, k (.val (.map (some b))) (⟨b, [], .map []⟩ :: L)
/-- what a map has of a key -/
def alkM (P : Program) (kt : TypeId) (ok : Bool) (z x i : D) (L : List Bx) (k : D → Prop) : Prop :=
  match x with
  | .val (.map (some b)) => ∃ (j : Nat) (es : List (Value × D)) (K : Value → Prop) (key : Value), L[j]? = some (Bx.mk b [] (.map es)) ∧ MapKey P kt K ∧ (∀ e ∈ es, K e.1) ∧ dkv i = some key ∧ K key ∧
      ((∃ d, (key, d) ∈ es ∧ k (aresOk ok d true)) ∨ ((∀ e ∈ es, e.1 ≠ key) ∧ k (aresOk ok z false)))
  | _ => False
def aupM (P : Program) (kt : TypeId) (x i v : D) (L : List Bx) (k : List Bx → Prop) : Prop :=
  match x with
  | .val (.map (some b)) => ∃ (j : Nat) (es : List (Value × D)) (K : Value → Prop) (key : Value), L[j]? = some (Bx.mk b [] (.map es)) ∧ MapKey P kt K ∧ (∀ e ∈ es, K e.1) ∧ dkv i = some key ∧ K key ∧
      (((∀ e ∈ es, e.1 ≠ key) ∧ k (L.set j ⟨b, [], .map (es ++ [(key, v)])⟩)) ∨ ∃ (m : Nat) (d : D), es[m]? = some (key, d) ∧ k (L.set j ⟨b, [], .map (es.set m (key, v))⟩))
  | _ => False
def atas (t : TypeId) (z x : D) (ok : Bool) (k : D → Prop) : Prop :=
  match x with
  | .ifc s d => bif Nat.beq s t then k (aresOk ok d true) else (bif ok then k (.tuple [z, .b false]) else False)
  | .val .nilIface => bif ok then k (.tuple [z, .b false]) else False
  | _ => False
def aval : Option D → Option (Option Value)
  | none => some none
  | some (.val v) => some (some v)
  | _ => none
def aslcL (sz : Nat) (x : D) (lo hi : Option D) (k : D → Prop) : Prop :=
  match x with
  | .row z l => z = sz ∧ ∃ a b : Nat, (match hi with | none => b = l.length | some d => ∃ ki, d = .val (.int ki (b : Int))) ∧ (match lo with | none => a = 0 | some d => ∃ ki, d = .val (.int ki (a : Int))) ∧ a ≤ b ∧ b ≤ l.length ∧
      ∃ m, (l.take b).drop a = m ∧ k (.row z m)
  | .val u => (match aval lo, aval hi with | some lo, some hi => slcL sz u lo hi fun r => k (.val r) | _, _ => False)
  | _ => False
def aslcS (x : D) (lo hi : Option D) (k : D → Prop) : Prop :=
  match x with
  | .val u => (match aval lo, aval hi with | some lo, some hi => slcS u lo hi fun r => k (.val r) | _, _ => False)
  | _ => False
/-- what is appended: so many, these cells -/
def asrc (sz : Nat) (x : D) (L : List Bx) (m : Nat) (ys : List D) : Prop :=
  match x with
  | .row z l => z = sz ∧ m = l.length ∧ l.flatten = ys
  | .val (.slice none n _) => n = 0 ∧ m = 0 ∧ ys = []
  | .val (.slice (some ⟨b, o, none⟩) n _) => n = m ∧ ∃ (i : Nat) (l : List D) (kd : Kd), L[i]? = some (Bx.mk b l kd) ∧ (l.drop o).take (m * sz) = ys ∧ ys.length = m * sz
  | _ => False
def aapp (e sz bytes : Nat) (s x : D) (L : List Bx) (k : D → List Bx → Prop) : Prop :=
  ∃ m ys, asrc sz x L m ys ∧ ys.all D.one = true ∧
    (match s with
    | .val (.slice none 0 0) => m * bytes ≤ 140737488355328 ∧ (bif Nat.beq m 0 then k (.row sz []) L else ∀ b c, k (.sl b 0 m c) (⟨b, ys, .row e sz c⟩ :: L))
    | .val (.slice (some ⟨b, 0, none⟩) n c) => (n + m) * bytes ≤ 140737488355328 ∧ ∃ (i : Nat) (l : List D), L[i]? = some (Bx.mk b l (.row e sz c)) ∧ l.length = n * sz ∧ ∀ b' c', k (.sl b' 0 (n + m) c') (L.set i ⟨b', l ++ ys, .row e sz c'⟩)
    | _ => False)
def amkS (e sz bytes : Nat) (z : List D) (l c : D) (L : List Bx) (k : D → List Bx → Prop) : Prop :=
  ∃ (ki kj : IntKind) (n m : Nat), l = .val (.int ki (n : Int)) ∧ c = .val (.int kj (m : Int)) ∧ n ≤ m ∧ m * bytes ≤ 140737488355328 ∧ m ≤ 140737488355328 ∧
    ∀ b, k (.sl b 0 n m) (⟨b, (List.replicate n z).flatten, .row e sz m⟩ :: L)
def vals : List Value → List D
  | [] => []
  | v :: r => .val v :: vals r
def aclr (z : List Value) (sz : Nat) (x : D) (L : List Bx) (k : List Bx → Prop) : Prop :=
  match x with
  | .val (.slice none _ _) => k L
  | .val (.slice (some ⟨b, o, none⟩) n _) => bif Nat.beq n 0 then k L else ast (n * sz) (.p b o) (.agg (vals (reps n z))) L k
  | _ => False
def acallW (P : Program) (g : FuncId) (args : List D) (L : List Bx) (kp k : D → List Bx → Prop) : Prop :=
  ASpec P g args L fun | .ret d, L' => k d L' | .pan d, L' => kp d L'
def acallS (P : Program) (g : FuncId) (args : List D) (L : List Bx) (kp k : D → List Bx → Prop) : Prop :=
  ∃ a, AFn P g args L a ∧ match a with | .ret d => k d L | .pan d => kp d L
def acallF (P : Program) (st : Bool) (f : D) (args : List D) (L : List Bx) (kp k : D → List Bx → Prop) : Prop :=
  match f with
  | .fn g first cap => bif st then acallS P g (first ++ args ++ cap) L kp k else acallW P g (first ++ args ++ cap) L kp k
  | _ => False
def zok : List Value → Bool
  | [] => true
  | v :: z => okB v && zok z
def apartsT (P : Program) (t : TypeId) (ρ : Operand → D) : List (Nat × Operand) → List (Nat × Nat × D)
  | [] => []
  | (i, x) :: r => ((placeT P t i).1, (placeT P t i).2, ρ x) :: apartsT P t ρ r
def mapO (ρ : Operand → D) : List Operand → List D
  | [] => []
  | x :: r => ρ x :: mapO ρ r
/-- st: one that may be done at any time, for it changes no own block -/
def aopK (P : Program) (st : Bool) (_ty : TypeId) (op : Op) (ρ : Operand → D) (L : List Bx) (k : D → List Bx → Prop) (kp : D → List Bx → Prop) : Prop :=
  match op with
  | .move x => k (ρ x) L
  | .assign x => k (ρ x) L
  | .pick c a b => apick (ρ c) (ρ a) (ρ b) fun v => k v L
  | .alloc t => bif st then False else zT P t fun z => bif zok z then abx (vals z) L k else False
  | .box _ x => bif st then False else abxv (ρ x) L k
  | .build t ps => (match P.underlying t with
    | some (.struct fs) => zT P t fun z => bif zok z && (hasT P (ftys fs.toList) && fitsT P t (len z) ps.toList) then abld (vals z) (apartsT P t ρ ps.toList) fun v => k v L else False
    | some (.array _ e) => zT P t fun z => bif zok z && (hasT P [e] && fitsT P t (len z) ps.toList) then abld (vals z) (apartsT P t ρ ps.toList) fun v => k v L else False
    | _ => False)
  | .buildSlice t n ps => (match P.underlying t with
    | some (.slice e) => zT P e fun z => bif zok z && (Nat.beq (len z) (sizeT P e) && Nat.ble 1 (sizeT P e) && Nat.ble (n * sizeT P e) 16777216 && fitsT P t (n * sizeT P e) ps.toList) then
        bif st then abldF (sizeT P e) n (vals (reps n z)) (apartsT P t ρ ps.toList) fun v => k v L else abldS e (sizeT P e) n (vals (reps n z)) (apartsT P t ρ ps.toList) L k else False
    | _ => False)
  | .load t a => (match P.underlying t with
    | some d => bif isAgg d then aldN (sizeT P t) (ρ a) L fun v => k v L else ald1 (ρ a) L fun v => k v L
    | none => False)
  | .store t a x => bif st then False else bif hasT P [t] then (bif Nat.ble 1 (sizeT P t) then ast (sizeT P t) (ρ a) (ρ x) L fun L' => k (.val undef) L' else (bif Nat.beq (sizeT P t) 0 then ast0 (ρ a) (ρ x) L fun L' => k (.val undef) L' else False)) else False
  | .nilCheck x => anilc (ρ x) fun v => k v L
  | .binOp op t x y _ => (match P.underlying t with
    | some (.int _) => aar op (ρ x) (ρ y) fun v => k v L
    | some (.float _) => aarF op (ρ x) (ρ y) fun v => k v L
    | some (.pointer _) => aeqP op (ρ x) (ρ y) fun v => k v L
    | some .string => aar op (ρ x) (ρ y) fun v => k v L
    | some .bool => aarB op (ρ x) (ρ y) fun v => k v L
    | some (.slice _) => aeqS st op (ρ x) (ρ y) fun v => k v L
    | some (.interface _) => (match y with | .const c => aeqI op (ρ x) (ρ (.const c)) fun v => k v L | _ => False)
    | _ => False)
  | .unOp op _ x => (match op with | .not => anotb (ρ x) fun v => k v L | .neg => aneg (ρ x) fun v => k v L | _ => False)
  | .convert s d x => (match P.underlying s, P.underlying d with | some _, some (.int a) => acvI a (ρ x) fun v => k v L | _, _ => False)
  | .makeFunc fn first cap => (match fn with | .func g => k (.fn g (mapO ρ first.toList) (mapO ρ cap.toList)) L | _ => False)
  | .fieldAddr s x f => (match P.underlying s with
    | some (.struct fs) => (match fs.toList[f]? with
      | some d => bif hasT P [d.type] && Nat.ble 1 (sizeT P d.type) then afld d.offset (ρ x) fun v => k v L else False
      | none => False)
    | _ => False)
  | .field t x f => (match P.underlying t with
    | some (.struct fs) => (match fs.toList[f]? with
      | some d => (match P.underlying d.type with
        | some u => bif isAgg u then afieldN d.offset (sizeT P d.type) (ρ x) fun v => k v L else afield1 d.offset (ρ x) fun v => k v L
        | none => False)
      | none => False)
    | _ => False)
  | .indexAddr t x i => (match P.underlying t with
    | some (.slice e) => bif hasT P [e] then aidxS (sizeT P e) (ρ x) (ρ i) fun v => k v L else False
    | some (.array n e) => bif hasT P [e] then aidxP n (sizeT P e) (ρ x) (ρ i) fun v => k v L else False
    | _ => False)
  | .index t x i => (match P.underlying t with
    | some .string => aidxStr (ρ x) (ρ i) fun v => k v L
    | _ => False)
  | .extract x j => aext j (ρ x) fun v => k v L
  | .slice t x lo hi none => (match P.underlying t with
    | some (.slice e) => bif hasT P [e] then aslcL (sizeT P e) (ρ x) (lo.map ρ) (hi.map ρ) fun v => k v L else False
    | some .string => aslcS (ρ x) (lo.map ρ) (hi.map ρ) fun v => k v L
    | _ => False)
  | .makeSlice t l c => bif st then False else (match P.underlying t with
    | some (.slice e) => zT P e fun z => bif zok z && Nat.beq (len z) (sizeT P e) then amkS e (sizeT P e) (bytesT P e) (vals z) (ρ l) (ρ c) L k else False
    | _ => False)
  | .makeInterface t x => (match P.underlying t with | some (.interface _) => False | none => False | some _ => k (.ifc t (ρ x)) L)
  | .makeMap _ none => bif st then False else amkM L k
  | .lookup t x i ok => (match P.underlying t with
    | some (.map kt e) => zV P e fun z => bif zvOk z then alkM P kt ok (dz z) (ρ x) (ρ i) L fun v => k v L else False
    | _ => False)
  | .mapUpdate t m i x => bif st then False else (match P.underlying t with
    | some (.map kt _) => aupM P kt (ρ m) (ρ i) (ρ x) L fun L' => k (.val undef) L'
    | _ => False)
  | .insert t m i x => bif st then False else (match P.underlying t with
    | some (.map kt _) => aupM P kt (ρ m) (ρ i) (ρ x) L fun L' => k (.val undef) L'
    | _ => False)
  | .typeAssert x _ t ok => (match P.underlying t with
    | some (.interface _) => False
    | some _ => zV P t fun z => bif zvOk z then atas t (dz z) (ρ x) ok fun v => k v L else False
    | none => False)
  | .panic x => (match ρ x with | .ifc t d => kp (.ifc t d) L | _ => False)
  | .call c => (match c.callee with
    | .value f => acallF P st (ρ f) (mapO ρ c.args.toList) L kp k
    | .builtin b => (match b, c.args.toList, c.argTypes.toList with
      | .len, [x], [t] => (match P.underlying t with
        | some .string => alenS (ρ x) fun v => k v L
        | some (.slice _) => alenL (ρ x) fun v => k v L
        | _ => False)
      | .max, [x, y], _ => amax2 (ρ x) (ρ y) fun v => k v L
      | .min, [x, y], _ => amin2 (ρ x) (ρ y) fun v => k v L
      | .append, [s, x], [t, u] => bif st then False else (match P.underlying t, P.underlying u with
        | some (.slice e), some (.slice _) => zT P e fun z => bif Nat.beq t u && Nat.beq (len z) (sizeT P e) && Nat.ble 1 (sizeT P e) && Nat.ble 1 (bytesT P e) then aapp e (sizeT P e) (bytesT P e) (ρ s) (ρ x) L k else False
        | _, _ => False)
      | .clear, [x], [t] => bif st then False else (match P.underlying t with
        | some (.slice e) => zT P e fun z => bif zok z && Nat.beq (len z) (sizeT P e) && Nat.ble 1 (sizeT P e) then aclr z (sizeT P e) (ρ x) L fun L' => k (.tuple []) L' else False
        | _ => False)
      | _, _, _ => False)
    | _ => False)
  | _ => False

/-- the same, for the kernel: a choice that it looks into first -/
abbrev pcond (b : Bool) (x y : Prop) : Prop := match b with | true => x | false => y
theorem pcond_eq (b : Bool) (x y : Prop) : pcond b x y = bif b then x else y := by cases b <;> rfl
def aopQ (P : Program) (st : Bool) (_ty : TypeId) (op : Op) (ρ : Operand → D) (L : List Bx) (k : D → List Bx → Prop) (kp : D → List Bx → Prop) : Prop :=
  match op with
  | .move x => k (ρ x) L
  | .assign x => k (ρ x) L
  | .pick c a b => apick (ρ c) (ρ a) (ρ b) fun v => k v L
  | .alloc t => pcond (st) (False) (zT P t fun z => pcond (zok z) (abx (vals z) L k) (False))
  | .box _ x => pcond (st) (False) (abxv (ρ x) L k)
  | .build t ps => (match P.underlying t with
    | some (.struct fs) => zT P t fun z => pcond (zok z && (hasT P (ftys fs.toList) && fitsT P t (len z) ps.toList)) (abld (vals z) (apartsT P t ρ ps.toList) fun v => k v L) (False)
    | some (.array _ e) => zT P t fun z => pcond (zok z && (hasT P [e] && fitsT P t (len z) ps.toList)) (abld (vals z) (apartsT P t ρ ps.toList) fun v => k v L) (False)
    | _ => False)
  | .buildSlice t n ps => (match P.underlying t with
    | some (.slice e) => zT P e fun z => pcond (zok z && (Nat.beq (len z) (sizeT P e) && Nat.ble 1 (sizeT P e) && Nat.ble (n * sizeT P e) 16777216 && fitsT P t (n * sizeT P e) ps.toList)) (pcond (st) (abldF (sizeT P e) n (vals (reps n z)) (apartsT P t ρ ps.toList) fun v => k v L) (abldS e (sizeT P e) n (vals (reps n z)) (apartsT P t ρ ps.toList) L k)) (False)
    | _ => False)
  | .load t a => (match P.underlying t with
    | some d => pcond (isAgg d) (aldN (sizeT P t) (ρ a) L fun v => k v L) (ald1 (ρ a) L fun v => k v L)
    | none => False)
  | .store t a x => pcond (st) (False) (pcond (hasT P [t]) (pcond (Nat.ble 1 (sizeT P t)) (ast (sizeT P t) (ρ a) (ρ x) L fun L' => k (.val undef) L') (pcond (Nat.beq (sizeT P t) 0) (ast0 (ρ a) (ρ x) L fun L' => k (.val undef) L') (False))) (False))
  | .nilCheck x => anilc (ρ x) fun v => k v L
  | .binOp op t x y _ => (match P.underlying t with
    | some (.int _) => aar op (ρ x) (ρ y) fun v => k v L
    | some (.float _) => aarF op (ρ x) (ρ y) fun v => k v L
    | some (.pointer _) => aeqP op (ρ x) (ρ y) fun v => k v L
    | some .string => aar op (ρ x) (ρ y) fun v => k v L
    | some .bool => aarB op (ρ x) (ρ y) fun v => k v L
    | some (.slice _) => aeqS st op (ρ x) (ρ y) fun v => k v L
    | some (.interface _) => (match y with | .const c => aeqI op (ρ x) (ρ (.const c)) fun v => k v L | _ => False)
    | _ => False)
  | .unOp op _ x => (match op with | .not => anotb (ρ x) fun v => k v L | .neg => aneg (ρ x) fun v => k v L | _ => False)
  | .convert s d x => (match P.underlying s, P.underlying d with | some _, some (.int a) => acvI a (ρ x) fun v => k v L | _, _ => False)
  | .makeFunc fn first cap => (match fn with | .func g => k (.fn g (mapO ρ first.toList) (mapO ρ cap.toList)) L | _ => False)
  | .fieldAddr s x f => (match P.underlying s with
    | some (.struct fs) => (match fs.toList[f]? with
      | some d => pcond (hasT P [d.type] && Nat.ble 1 (sizeT P d.type)) (afld d.offset (ρ x) fun v => k v L) (False)
      | none => False)
    | _ => False)
  | .field t x f => (match P.underlying t with
    | some (.struct fs) => (match fs.toList[f]? with
      | some d => (match P.underlying d.type with
        | some u => pcond (isAgg u) (afieldN d.offset (sizeT P d.type) (ρ x) fun v => k v L) (afield1 d.offset (ρ x) fun v => k v L)
        | none => False)
      | none => False)
    | _ => False)
  | .indexAddr t x i => (match P.underlying t with
    | some (.slice e) => pcond (hasT P [e]) (aidxS (sizeT P e) (ρ x) (ρ i) fun v => k v L) (False)
    | some (.array n e) => pcond (hasT P [e]) (aidxP n (sizeT P e) (ρ x) (ρ i) fun v => k v L) (False)
    | _ => False)
  | .index t x i => (match P.underlying t with
    | some .string => aidxStr (ρ x) (ρ i) fun v => k v L
    | _ => False)
  | .extract x j => aext j (ρ x) fun v => k v L
  | .slice t x lo hi none => (match P.underlying t with
    | some (.slice e) => pcond (hasT P [e]) (aslcL (sizeT P e) (ρ x) (lo.map ρ) (hi.map ρ) fun v => k v L) (False)
    | some .string => aslcS (ρ x) (lo.map ρ) (hi.map ρ) fun v => k v L
    | _ => False)
  | .makeSlice t l c => pcond (st) (False) ((match P.underlying t with
    | some (.slice e) => zT P e fun z => pcond (zok z && Nat.beq (len z) (sizeT P e)) (amkS e (sizeT P e) (bytesT P e) (vals z) (ρ l) (ρ c) L k) (False)
    | _ => False))
  | .makeInterface t x => (match P.underlying t with | some (.interface _) => False | none => False | some _ => k (.ifc t (ρ x)) L)
  | .makeMap _ none => pcond (st) (False) (amkM L k)
  | .lookup t x i ok => (match P.underlying t with
    | some (.map kt e) => zV P e fun z => pcond (zvOk z) (alkM P kt ok (dz z) (ρ x) (ρ i) L fun v => k v L) (False)
    | _ => False)
  | .mapUpdate t m i x => pcond (st) (False) ((match P.underlying t with
    | some (.map kt _) => aupM P kt (ρ m) (ρ i) (ρ x) L fun L' => k (.val undef) L'
    | _ => False))
  | .insert t m i x => pcond (st) (False) ((match P.underlying t with
    | some (.map kt _) => aupM P kt (ρ m) (ρ i) (ρ x) L fun L' => k (.val undef) L'
    | _ => False))
  | .typeAssert x _ t ok => (match P.underlying t with
    | some (.interface _) => False
    | some _ => zV P t fun z => pcond (zvOk z) (atas t (dz z) (ρ x) ok fun v => k v L) (False)
    | none => False)
  | .panic x => (match ρ x with | .ifc t d => kp (.ifc t d) L | _ => False)
  | .call c => (match c.callee with
    | .value f => acallF P st (ρ f) (mapO ρ c.args.toList) L kp k
    | .builtin b => (match b, c.args.toList, c.argTypes.toList with
      | .len, [x], [t] => (match P.underlying t with
        | some .string => alenS (ρ x) fun v => k v L
        | some (.slice _) => alenL (ρ x) fun v => k v L
        | _ => False)
      | .max, [x, y], _ => amax2 (ρ x) (ρ y) fun v => k v L
      | .min, [x, y], _ => amin2 (ρ x) (ρ y) fun v => k v L
      | .append, [s, x], [t, u] => pcond (st) (False) ((match P.underlying t, P.underlying u with
        | some (.slice e), some (.slice _) => zT P e fun z => pcond (Nat.beq t u && Nat.beq (len z) (sizeT P e) && Nat.ble 1 (sizeT P e) && Nat.ble 1 (bytesT P e)) (aapp e (sizeT P e) (bytesT P e) (ρ s) (ρ x) L k) (False)
        | _, _ => False))
      | .clear, [x], [t] => pcond (st) (False) ((match P.underlying t with
        | some (.slice e) => zT P e fun z => pcond (zok z && Nat.beq (len z) (sizeT P e) && Nat.ble 1 (sizeT P e)) (aclr z (sizeT P e) (ρ x) L fun L' => k (.tuple []) L') (False)
        | _ => False))
      | _, _, _ => False)
    | _ => False)
  | _ => False

theorem aopQ_eq (P : Program) (st : Bool) (ty : TypeId) (op : Op) (ρ : Operand → D) (L : List Bx) (k kp : D → List Bx → Prop) : aopQ P st ty op ρ L k kp = aopK P st ty op ρ L k kp := by
  unfold aopQ aopK
  simp only [pcond_eq]

/-! ### code -/
inductive AX where
  | normal
  | exit (i : Nat)
  | ret
  | panic (d : D)
structure AEnv where
  get : Nat → D
  dfr : List (Nat × List D × List D)
def AEnv.put (e : AEnv) (d : Option Tmp) (v : D) : AEnv :=
  match d with
  | some d => ⟨fun i => bif Nat.beq i d then v else e.get i, e.dfr⟩
  | none => e
def aix (vs : List D) (j : Nat) : D := vs.getD j .top
def AEnv.mix (e : AEnv) (L : List Nat) : AEnv := ⟨fun i => bif mem i L then .top else e.get i, e.dfr⟩
def AEnv.putL (e : AEnv) (L : List Nat) (vs : List D) : AEnv :=
  ⟨fun i => match pos i L 0 with | some j => aix vs j | none => e.get i, e.dfr⟩
def AEnv.ev (e : AEnv) : Operand → D
  | .tmp t => e.get t
  | .const v => bif okB v then .val v else .top
  | .global g => .p g 0
  | .func f => .fn f [] []
def amapG (e : AEnv) : List Nat → List D
  | [] => []
  | d :: L => e.get d :: amapG e L
def acnd (c : D) (a b : Prop) : Prop := match c with | .val (.bool t) => (bif t then a else b) | _ => False
/-- nothing happens, but what is said of the same values and blocks -/
def Gl (ds : List D) (L : List Bx) (ds' : List D) (L' : List Bx) : Prop :=
  ∀ F w vs, AW F L w → Reps F w ds vs → ∃ F', Ev F L w F' L' w ∧ AW F' L' w ∧ Reps F' w ds' vs
def ajn (F : List D → List Bx → Prop) (G : (List D → List Bx → Prop) → Prop) : Prop :=
  ∃ J : List D → List Bx → Prop, (∀ vs L, J vs L → F vs L) ∧ G fun vs L => ∃ vs' L', Gl vs L vs' L' ∧ J vs' L'
def alp (init : List D) (L : List Bx) (F : List D → List Bx → (List D → List Bx → Prop) → Prop) : Prop :=
  ∃ (I : List D → List Bx → Prop) (μ : List D → List Bx → Nat), (∃ v0 L0, Gl init L v0 L0 ∧ I v0 L0) ∧ ∀ vs L1, I vs L1 → F vs L1 fun vs' L' => ∃ v2 L2, Gl vs' L' v2 L2 ∧ I v2 L2 ∧ μ v2 L2 < μ vs L1
def aopV (P : Program) (o : Oper) (e : AEnv) (L : List Bx) (k : AEnv → List Bx → Prop) (kp : D → List Bx → Prop) : Prop :=
  match o.op with
  | .defer c => (match c.callee with
    | .value f => (match e.ev f with
      | .fn g first cap => k { e.put o.dst (.val undef) with dfr := (g, cap, first ++ mapO e.ev c.args.toList) :: e.dfr } L
      | _ => False)
    | _ => False)
  | op => aopQ P false o.type op e.ev L (fun v L' => k (e.put o.dst v) L') kp
def aopsV (P : Program) (an : Nat → Option (List Nat)) (ops : Array Oper) : Nat → List Nat → List Oper → AEnv → List Bx → (AX → AEnv → List Bx → Prop) → Prop
  | 0, _, _, _, _, _ => False
  | _ + 1, _, [], e, L, Q => Q .normal e L
  | n + 1, nj, o :: r, e, L, Q => match joint ops an nj o r with
    | some (G, q, pd, rest) =>
      ajn (fun vs L' => aopsV P an ops n nj rest ((e.mix (dstsO (G ++ [q]))).putL [pd] vs) L' Q)
        fun J => aopsV P an ops n (pd :: nj) (G ++ [q]) e L fun x e' L' => match x with | .normal => J [e'.get pd] L' | x => Q x e' L'
    | none => match gdst ops o with
      | none => aopV P o e L (fun e' L' => aopsV P an ops n nj r e' L' Q) fun c L' => Q (.panic c) e L'
      | some (some d, true) => acnd (e.get d) (aopV P o (e.put (some d) (.b true)) L (fun e' L' => aopsV P an ops n nj r e' L' Q) fun c L' => Q (.panic c) (e.put (some d) (.b true)) L')
          (aopsV P an ops n nj (takeG ops d true [] (o :: r)).2 ((e.put (some d) (.b false)).mix (dstsO (takeG ops d true [] (o :: r)).1)) L Q)
      | some (some d, false) => acnd (e.get d) (aopsV P an ops n nj (takeG ops d false [] (o :: r)).2 ((e.put (some d) (.b true)).mix (dstsO (takeG ops d false [] (o :: r)).1)) L Q)
          (aopV P o (e.put (some d) (.b false)) L (fun e' L' => aopsV P an ops n nj r e' L' Q) fun c L' => Q (.panic c) (e.put (some d) (.b false)) L')
      | _ => False
abbrev aguard (ops : Array Oper) (sk : List Nat) (o : Oper) (e : AEnv) (yes no : AEnv → Prop) : Prop :=
  match gdst ops o with
  | none => yes e
  | some (some d, want) => pcond (mem d sk) (no e) (acnd (e.get d) (pcond want (yes (e.put (some d) (.b true))) (no (e.put (some d) (.b true)))) (pcond want (no (e.put (some d) (.b false))) (yes (e.put (some d) (.b false)))))
  | some (none, _) => False
/-- in which order: an operation's number; 0: it may be done at any time, 1: so, but it may panic, 2: it changes own blocks, 3: it makes one, 4: it makes some, and no more (that is asked for) -/
abbrev Plan := List (Nat × Nat)
/-- kind 4: boxes stay as they are -/
abbrev aonly (kd : Nat) (L L' : List Bx) (X : Prop) : Prop := match kd with
  | 4 => (∀ x ∈ L, x.k = .box → x ∈ L') ∧ X
  | _ => X
/-- a plan may say which way a guard goes: 10 and more: it is done; 20 and more: it is not -/
abbrev asel (dec x : Nat) (f : AEnv → Prop) (e : AEnv) : Prop := pcond (Nat.beq dec x) False (f e)
def adraw (P : Program) (ops : Array Oper) : Plan → List Nat → AEnv → List Bx → (AX → AEnv → List Bx → Prop) → Prop
  | [], _, e, L, Q => Q .normal e L
  | (i, kd) :: p, sk, e, L, Q => match ops.toList[i]? with
    | some o => aguard ops sk o e
        (asel (kd / 10) 2 fun e => match kd % 10 with
          | 5 => ∃ x, x ∈ L ∧ x.k = .box ∧ aopQ P true o.type o.op e.ev [x] (fun v _ => adraw P ops p (rem o.dst sk) (e.put o.dst v) L Q) (fun _ _ => False)
          | 6 => aopQ P true o.type o.op e.ev L (fun v L' => adraw P ops p (rem o.dst sk) (e.put o.dst v) L' Q) (fun c L' => Q (.panic c) e L')
          | kd => aopQ P (Nat.blt kd 2) o.type o.op e.ev L (fun v L' => aonly kd L L' (adraw P ops p (rem o.dst sk) (e.put o.dst v) L' Q)) (match kd with | 0 => fun _ _ => False | _ => fun c L' => Q (.panic c) e L'))
        (asel (kd / 10) 1 fun e => adraw P ops p (add o.dst sk) (e.put o.dst (.val undef)) L Q)
    | none => False
structure An where
  j : List (Nat × List Nat)
  p : List (Nat × Plan)
def plOf : List (Nat × Plan) → Nat → Option Plan
  | [], _ => none
  | (a, L) :: r, k => bif Nat.beq k a then some L else plOf r k
def aex (P : Program) (A : An) : Code → AEnv → List Bx → (AX → AEnv → List Bx → Prop) → Prop
  | .skip, e, L, Q => Q .normal e L
  | .label _, e, L, Q => Q .normal e L
  | .region i ops draw, e, L, Q => pcond draw (match plOf A.p i with | some p => adraw P ops p [] e L Q | none => False) (aopsV P (anOf A.j) ops 1000 [] ops.toList e L Q)
  | .seq a b, e, L, Q => (match anOf A.j (2 * key b) with
    | some V => bif subL V (dsts a) then ajn (fun vs L' => aex P A b ((e.mix (dsts a)).putL V vs) L' Q) (fun J => aex P A a e L fun x e' L' => match x with | .normal => J (amapG e' V) L' | x => Q x e' L') else False
    | none => aex P A a e L fun x e' L' => match x with | .normal => aex P A b e' L' Q | x => Q x e' L')
  | .cond c a b, e, L, Q => acnd (e.ev c) (aex P A a e L Q) (aex P A b e L Q)
  | .block id c, e, L, Q => aex P A c e L fun x e' L' => match x with | .exit i => (bif Nat.beq i id then Q .normal e' L' else Q (.exit i) e' L') | x => Q x e' L'
  | .loop c, e, L, Q => (match anOf A.j (2 * key c + 1) with
    | some V => bif subL V (dsts c) then alp (amapG e V) L (fun vs L1 again => aex P A c ((e.mix (dsts c)).putL V vs) L1 fun x e' L' => match x with | .normal => again (amapG e' V) L' | x => Q x e' L') else False
    | none => False)
  | .exit id, e, L, Q => Q (.exit id) e L
  | .ret, e, L, Q => Q .ret e L
  | _, _, _, _ => False
def aretG (P : Program) : List ResultVar → AEnv → List Bx → (List D → Prop) → Prop
  | [], _, _, k => k []
  | .tmp t :: r, e, L, k => aretG P r e L fun l => k (e.get t :: l)
  | .cell a t :: r, e, L, k => (match P.underlying t with
    | some d => bif isAgg d then aldN (sizeT P t) (e.get a) L fun v => aretG P r e L fun l => k (v :: l) else ald1 (e.get a) L fun v => aretG P r e L fun l => k (v :: l)
    | none => False)
def atup : List D → D
  | [v] => v
  | l => .tuple l
def apost (P : Program) (rs : List ResultVar) (R : AE → List Bx → Prop) : AX → AEnv → List Bx → Prop
  | .normal, e, L => (match e.dfr with | [] => aretG P rs e L fun l => R (.ret (atup l)) L | _ => False)
  | .ret, e, L => (match e.dfr with | [] => aretG P rs e L fun l => R (.ret (atup l)) L | _ => False)
  | .panic c, e, L => (match e.dfr with | [] => R (.pan c) L | _ => False)
  | _, _, _ => False
def aenv0 (args : List D) : AEnv := ⟨fun i => args.getD i .top, []⟩
/-! ### is an order right? -/
def bindsB (e : Edge) : Bool := match e.ground with | .textOnly _ | .gcOnly _ => false | _ => true
def ons : List Edge → List Nat
  | [] => []
  | e :: r => bif bindsB e then e.on :: ons r else ons r
/-- what stands ahead of each, by any road -/
def uni : List Nat → List Nat → List Nat
  | [], m => m
  | a :: l, m => bif mem a m then uni l m else uni l (a :: m)
def aheadL (T : List (List Nat)) : List Nat → List Nat
  | [] => []
  | a :: l => uni (a :: T.getD a []) (aheadL T l)
def aheads : List Oper → List (List Nat) → List (List Nat)
  | [], T => T
  | o :: r, T => aheads r (T ++ [aheadL T (ons o.after.toList)])
def rdy : List Oper → Nat → List Nat → List Nat
  | [], _, _ => []
  | o :: r, i, E => bif mem i E then rdy r (i + 1) E else bif subL (ons o.after.toList) E then i :: rdy r (i + 1) E else rdy r (i + 1) E
/-- does i stand ahead of all of those? -/
def aheadB (T : List (List Nat)) (i : Nat) : Plan → Bool
  | [] => true
  | (j, _) :: p => mem i (T.getD j []) && aheadB T i p
/-- one that looks at no own block -/
def pureOp : Op → Bool
  | .move _ | .assign _ | .pick .. | .build .. | .buildSlice .. | .nilCheck _ | .binOp .. | .unOp .. | .convert .. | .fieldAddr .. | .field .. | .indexAddr .. | .index .. | .extract .. | .slice .. | .makeFunc .. | .makeInterface .. | .typeAssert .. => true
  | .call c => match c.callee with | .builtin .len | .builtin .max | .builtin .min => true | _ => false
  | _ => false
def pureAt (ops : List Oper) (i : Nat) : Bool := match ops[i]? with | some o => pureOp o.op | none => false
def allocAt (ops : List Oper) (i : Nat) : Bool := match ops[i]? with | some o => (match o.op with | .alloc _ => true | _ => false) | none => false
def pureL (ops : List Oper) (Ti : List Nat) : List Nat → Bool
  | [] => true
  | j :: E => (mem j Ti || pureAt ops j) && pureL ops Ti E
/-- those with the code 5 -/
def fives : Plan → List Nat
  | [] => []
  | (i, kd) :: p => bif Nat.beq (kd % 10) 5 then i :: fives p else fives p
def pureL5 (ops : List Oper) (Ti F : List Nat) : List Nat → Bool
  | [] => true
  | j :: E => (mem j Ti || (pureAt ops j || mem j F)) && pureL5 ops Ti F E
/-- a block that is made, whatever stands ahead -/
def zbT (P : Program) (t : TypeId) : Bool := match P.info? t with | some i => (match i.zero with | some z => zok z.cells.toList | none => false) | none => false
def newAt (P : Program) (ops : List Oper) (i : Nat) : Bool :=
  match ops[i]? with
  | some o => (match o.guard, o.op with | none, .alloc t => zbT P t | _, _ => false)
  | none => false
def ahead6 (P : Program) (ops : List Oper) (T : List (List Nat)) (i : Nat) : Plan → Bool
  | [] => true
  | (j, _) :: p => (mem i (T.getD j []) || newAt P ops j) && ahead6 P ops T i p
def planB (P : Program) (ops : List Oper) (T : List (List Nat)) (F : List Nat) : List Nat → Plan → Bool
  | E, [] => (match rdy ops 0 E with | [] => true | _ => false)
  | E, (i, kd) :: p => mem i (rdy ops 0 E) && ((match kd % 10 with | 0 => true | 1 => aheadB T i p | 2 => aheadB T i p && pureL ops (T.getD i []) E | 4 => aheadB T i p && pureL5 ops (T.getD i []) F E | 5 => !pureAt ops i | 6 => ahead6 P ops T i p | _ => aheadB T i p && allocAt ops i) && ((!mem i F || Nat.beq (kd % 10) 5) && planB P ops T F (i :: E) p))
def apartB (ops : Array Oper) (T : List (List Nat)) (x : Oper) (i : Nat) : List Oper → Nat → Bool
  | [], _ => true
  | y :: r, j => (Nat.beq i j || (x.apart ops y || (mem i (T.getD j []) || mem j (T.getD i [])))) && apartB ops T x i r (j + 1)
def apartsB (ops : Array Oper) (T : List (List Nat)) : List Oper → Nat → Bool
  | [], _ => true
  | x :: r, i => apartB ops T x i ops.toList 0 && apartsB ops T r (i + 1)
def noSel : List Oper → Bool
  | [] => true
  | o :: r => match o.op with | .select _ _ => false | _ => noSel r
def drawB (P : Program) (ops : Array Oper) (p : Plan) : Bool :=
  planB P ops.toList (aheads ops.toList []) (fives p) [] p && (apartsB ops (aheads ops.toList []) ops.toList 0 && (noSel ops.toList && noDefO ops.toList))
def drawsB (P : Program) (A : An) : Code → Bool
  | .region i ops true => (match plOf A.p i with | some p => drawB P ops p | none => true)
  | .seq x y => drawsB P A x && drawsB P A y
  | .cond _ x y => drawsB P A x && drawsB P A y
  | .block _ c => drawsB P A c
  | .loop c => drawsB P A c
  | _ => true
end Go.V
