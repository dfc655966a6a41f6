/- Values told as data; a call's own blocks beside them; the words of a reckoning over both. Definitions alone. -/
import Derived.Test.YtdalobojhfafbaaGreatDoorV2
namespace Go.V
open Go

inductive D where
  | val (v : Value)
  | agg (l : List D)
  | tuple (l : List D)
  | row (sz : Nat) (l : List (List D))
  | pin (l : List D)
  | fn (f : Nat) (first cap : List D)
  | ifc (t : Nat) (d : D)
  | top
abbrev D.i (n : Int) : D := .val (.int .i64 n)
abbrev D.b (b : Bool) : D := .val (.bool b)
abbrev D.s (s : ByteArray) : D := .val (.string s)
abbrev D.p (b o : Nat) : D := .val (.pointer (some ⟨b, o, none⟩))
abbrev D.nil : D := .val (.slice none 0 0)
abbrev D.sl (b o n c : Nat) : D := .val (.slice (some ⟨b, o, none⟩) n c)
inductive Kd where
  | box
  | cel
  | row (e sz cap : Nat)
  | map (es : List (Value × D))
structure Bx where
  b : Nat
  l : List D
  k : Kd
def cl : D → List D
  | .agg l => l
  | d => [d]
def D.one : D → Bool
  | .val (.agg _) => false
  | .val (.tuple _) => false
  | .agg _ => false
  | .tuple _ => false
  | .top => false
  | _ => true
def hiN : IntKind → Nat
  | .i8 => 127
  | .i16 => 32767
  | .i32 => 2147483647
  | .i64 => 9223372036854775807
  | .u8 => 255
  | .u16 => 65535
  | .u32 => 4294967295
  | .u64 => 18446744073709551615
def loN : IntKind → Nat
  | .i8 => 128
  | .i16 => 32768
  | .i32 => 2147483648
  | .i64 => 9223372036854775808
  | _ => 0
def okI (k : IntKind) : Int → Bool
  | .ofNat m => Nat.ble m (hiN k)
  | .negSucc m => Nat.ble (m + 1) (loN k)
def Okv (v : Value) : Prop :=
  match v with
  | .int k n => -(loN k : Int) ≤ n ∧ n ≤ hiN k
  | .string s => s.size ≤ 9223372036854775807
  | .slice _ n c => n ≤ c ∧ c ≤ 9223372036854775807
  | _ => True
def okB (v : Value) : Bool :=
  match v with
  | .int k n => okI k n
  | .string s => Nat.ble s.size 9223372036854775807
  | .slice _ n c => Nat.ble n c && Nat.ble c 9223372036854775807
  | _ => true
mutual
def Rep (F : Nat → Prop) (w : World) : D → Value → Prop
  | .val v, u => u = v ∧ Okv v
  | .agg l, u => ∃ vs, u = .agg (List.toArray vs) ∧ Reps F w l vs
  | .tuple l, u => ∃ vs, u = .tuple (List.toArray vs) ∧ Reps F w l vs
  | .row sz l, u => ∃ p c, u = .slice p l.length c ∧ Fits l.length c ∧ (l = [] ∨ ∃ b o, p = some ⟨b, o, none⟩ ∧ F b ∧ b < w.heap.size ∧ Rws F w sz l b o)
  | .pin l, u => ∃ b o vs, u = .pointer (some ⟨b, o, none⟩) ∧ F b ∧ b < w.heap.size ∧ Reps F w l vs ∧ Cells w ⟨b, o, none⟩ vs
  | .fn f a c, u => ∃ as cs, u = .func (.func f) (List.toArray as) (List.toArray cs) ∧ Reps F w a as ∧ Reps F w c cs
  | .ifc t d, u => ∃ v, u = .iface t v ∧ Rep F w d v
  | .top, _ => True
def Reps (F : Nat → Prop) (w : World) : List D → List Value → Prop
  | [], vs => vs = []
  | d :: l, vs => ∃ v r, vs = v :: r ∧ Rep F w d v ∧ Reps F w l r
def Rws (F : Nat → Prop) (w : World) (sz : Nat) : List (List D) → Nat → Nat → Prop
  | [], _, _ => True
  | l :: r, b, o => (∃ vs, Reps F w l vs ∧ vs.length = sz ∧ Cells w ⟨b, o, none⟩ vs) ∧ Rws F w sz r b (o + sz)
end
def KdOk (t : TypeId) (c : Array Value) (n : Nat) : Kd → Prop
  | .box => True
  | .cel => True
  | .row e sz cap => t = e ∧ c.size = cap * sz ∧ cap ≤ 9223372036854775807 ∧ ∃ m, n = m * sz
  | .map _ => False
def MReps (F : Nat → Prop) (w : World) : List (Value × D) → List MapEntry → Prop
  | [], es => es = []
  | (k, d) :: r, es => ∃ e s, es = e :: s ∧ e.key = k ∧ Rep F w d e.val ∧ MReps F w r s
def KeysOk (es : List (Value × D)) : Prop := (es.map (·.1)).Nodup
def MapB (F : Nat → Prop) (w : World) (x : Bx) : Prop :=
  ∃ es ces clock, x.k = .map es ∧ x.l = [] ∧ w.heap[x.b]? = some (.map ces clock) ∧ MReps F w es ces.toList ∧ KeysOk es
structure BxOk (F : Nat → Prop) (w : World) (x : Bx) : Prop where
  has : MapB F w x ∨ ∃ c t vs, w.heap[x.b]? = some (.cells c t (0, 0)) ∧ Reps F w x.l vs ∧ vs = c.toList.take x.l.length ∧ KdOk t c x.l.length x.k
structure AW (F : Nat → Prop) (L : List Bx) (w : World) : Prop where
  own : ∀ x ∈ L, BxOk F w x
  nodup : (L.map Bx.b).Nodup
  sep : ∀ x ∈ L, ¬ F x.b
  lt : ∀ b, F b → b < w.heap.size
structure Ev (F : Nat → Prop) (L : List Bx) (w : World) (F' : Nat → Prop) (L' : List Bx) (w' : World) : Prop where
  os : w'.os = w.os
  tape : w'.tape = w.tape
  output : w'.output = w.output
  size : w.heap.size ≤ w'.heap.size
  block : ∀ k, k < w.heap.size → (∀ x ∈ L, x.b ≠ k) → w'.heap[k]? = w.heap[k]?
  grow : ∀ k, F k → F' k
  old : ∀ k, k < w.heap.size → F' k → F k ∨ ∃ x ∈ L, x.b = k
  own : ∀ x ∈ L', x.b < w.heap.size → ∃ y ∈ L, y.b = x.b
  drawn : w.drawn ≤ w'.drawn
inductive AE where
  | ret (d : D)
  | pan (d : D)
def ERep (F : Nat → Prop) (w : World) : AE → Ending → Prop
  | .ret d, e => ∃ v, e = .returned v ∧ Rep F w d v
  | .pan d, e => ∃ v, e = .panicked [{ v := v, recovered := false }] ∧ Rep F w d v
mutual
def Small : D → Prop
  | .val v => Okv v
  | .agg l => Smalls l
  | .tuple l => Smalls l
  | .row _ l => l.length ≤ 9223372036854775807 ∧ Smallr l
  | .pin l => Smalls l
  | .fn _ a c => Smalls a ∧ Smalls c
  | .ifc _ d => Small d
  | .top => True
def Smalls : List D → Prop
  | [] => True
  | d :: l => Small d ∧ Smalls l
def Smallr : List (List D) → Prop
  | [] => True
  | d :: l => Smalls d ∧ Smallr l
end
def ASpec (P : Program) (g : FuncId) (args : List D) (L : List Bx) (R : AE → List Bx → Prop) : Prop :=
  ∀ F w vs, AW F L w → Reps F w args vs → Spec P g vs.toArray w fun e w' => ∃ a F' L', Ev F L w F' L' w' ∧ AW F' L' w' ∧ ERep F' w' a e ∧ R a L'
def AFn (P : Program) (g : FuncId) (args : List D) (L : List Bx) (a : AE) : Prop := ASpec P g args L fun a' L' => a' = a ∧ L' = L

def u1 (X : Value → (Value → Prop) → Prop) (x : D) (k : D → Prop) : Prop := match x with | .val u => X u fun r => k (.val r) | _ => False
def u2 (X : Value → Value → (Value → Prop) → Prop) (x y : D) (k : D → Prop) : Prop := match x, y with | .val u, .val v => X u v fun r => k (.val r) | _, _ => False
def aar (op : BinOp) (x y : D) (k : D → Prop) : Prop := u2 (ar op) x y k
def aarF (op : BinOp) (x y : D) (k : D → Prop) : Prop := u2 (arF op) x y k
def aeqP (op : BinOp) (x y : D) (k : D → Prop) : Prop :=
  match x, y with
  | .pin _, .val (.pointer none) => (match op with | .eql => k (.b false) | .neq => k (.b true) | _ => False)
  | .val u, .val v => eqP op u v fun r => k (.val r)
  | _, _ => False
def aarB (op : BinOp) (x y : D) (k : D → Prop) : Prop := u2 (arB op) x y k
def anotb (x : D) (k : D → Prop) : Prop := u1 notb x k
def aneg (x : D) (k : D → Prop) : Prop := u1 neg x k
def acvI (a : IntKind) (x : D) (k : D → Prop) : Prop := u1 (cvI a) x k
def acvB (x : D) (k : D → Prop) : Prop :=
  match x with
  | .row z l => ∃ ns : List Int, z = 1 ∧ l = ns.map (fun n => [D.val (.int .u8 n)]) ∧ k (.s (strI ns))
  | _ => False
def alenS (x : D) (k : D → Prop) : Prop := u1 lenS x k
def amax2 (x y : D) (k : D → Prop) : Prop := u2 max2 x y k
def amax3 (x y z : D) (k : D → Prop) : Prop := match x, y, z with | .val a, .val b, .val c => max3 a b c (fun r => k (.val r)) | _, _, _ => False
def amin2 (x y : D) (k : D → Prop) : Prop := u2 min2 x y k
def aidxStr (x y : D) (k : D → Prop) : Prop := u2 idxStr x y k
abbrev apick (c a b : D) (k : D → Prop) : Prop := match c with | .val (.bool t) => k (bif t then a else b) | _ => False
def abx (l : List D) (L : List Bx) (k : D → List Bx → Prop) : Prop := ∀ b, k (.p b 0) (⟨b, l, .box⟩ :: L)
def abxv (d : D) (L : List Bx) (k : D → List Bx → Prop) : Prop :=
  match d with | .agg l => abx l L k | d => bif d.one then abx [d] L k else False
def ald1 (p : D) (L : List Bx) (k : D → Prop) : Prop :=
  match p with
  | .val (.pointer (some ⟨b, o, none⟩)) => ∃ (i : Nat) (l : List D) (kd : Kd) (d : D), L[i]? = some (Bx.mk b l kd) ∧ l[o]? = some d ∧ k d
  | .pin (d :: _) => k d
  | _ => False
def aldN (n : Nat) (p : D) (L : List Bx) (k : D → Prop) : Prop :=
  match p with
  | .val (.pointer (some ⟨b, o, none⟩)) => ∃ (i : Nat) (l : List D) (kd : Kd) (m : List D), L[i]? = some (Bx.mk b l kd) ∧ (l.drop o).take n = m ∧ m.length = n ∧ k (.agg m)
  | .pin l => ∃ m, l.take n = m ∧ m.length = n ∧ k (.agg m)
  | _ => False
def ast (n : Nat) (p v : D) (L : List Bx) (k : List Bx → Prop) : Prop :=
  match p with
  | .val (.pointer (some ⟨b, o, none⟩)) => ∃ (i : Nat) (l : List D) (kd : Kd) (m : List D), L[i]? = some (Bx.mk b l kd) ∧ (cl v).length = n ∧ (cl v).all D.one = true ∧ o + n ≤ l.length ∧ l.take o ++ cl v ++ l.drop (o + n) = m ∧ k (L.set i ⟨b, m, kd⟩)
  | _ => False
def ast0 (p v : D) (L : List Bx) (k : List Bx → Prop) : Prop :=
  match p, v with
  | .val (.pointer (some ⟨b, o, none⟩)), .agg [] => ∃ (i : Nat) (l : List D), L[i]? = some (Bx.mk b l .box) ∧ o ≤ l.length ∧ k L
  | _, _ => False
def anilc (p : D) (k : D → Prop) : Prop :=
  match p with
  | .val (.pointer (some a)) => k (.val (.pointer (some a)))
  | .pin l => k (.pin l)
  | _ => False
def afld (off : Nat) (p : D) (k : D → Prop) : Prop :=
  match p with
  | .val (.pointer (some ⟨b, o, none⟩)) => k (.p b (o + off))
  | .pin l => k (.pin (l.drop off))
  | _ => False
def aidxS (sz : Nat) (x i : D) (k : D → Prop) : Prop :=
  match x, i with
  | .row z l, .val (.int _ j) => z = sz ∧ 0 ≤ j ∧ ∃ e, l[j.toNat]? = some e ∧ k (.pin e)
  | .val u, .val v => idxS sz u v fun r => k (.val r)
  | _, _ => False
def aidxP (n sz : Nat) (x i : D) (k : D → Prop) : Prop :=
  match x, i with
  | .pin l, .val (.int _ j) => 0 ≤ j ∧ j < n ∧ k (.pin (l.drop (j.toNat * sz)))
  | .val u, .val v => idxP n sz u v fun r => k (.val r)
  | _, _ => False
def afill (z : List D) : List (Nat × List D) → List D
  | [] => z
  | (o, l) :: r => afill (z.take o ++ l ++ z.drop (o + l.length)) r
def asizes : List (Nat × Nat × D) → Bool
  | [] => true
  | (_, n, v) :: r => Nat.beq (cl v).length n && ((cl v).all D.one && asizes r)
def aparts : List (Nat × Nat × D) → List (Nat × List D)
  | [] => []
  | (o, _, v) :: r => (o, cl v) :: aparts r
inductive NilW : List D → List D → Prop
  | refl (l : List D) : NilW l l
  | same {d : D} {l l' : List D} (h : NilW l l') : NilW (d :: l) (d :: l')
  | nil {sz : Nat} {l l' : List D} (h : NilW l l') : NilW (.nil :: l) (.row sz [] :: l')
def abld (z : List D) (ps : List (Nat × Nat × D)) (k : D → Prop) : Prop :=
  asizes ps = true ∧ ∃ l l', afill z (aparts ps) = l ∧ NilW l l' ∧ k (.agg l')
def chunk (sz : Nat) : Nat → List D → List (List D)
  | 0, _ => []
  | n + 1, l => l.take sz :: chunk sz n (l.drop sz)
def abldF (sz n : Nat) (z : List D) (ps : List (Nat × Nat × D)) (k : D → Prop) : Prop :=
  asizes ps = true ∧ ∃ l, chunk sz n (afill z (aparts ps)) = l ∧ k (.row sz l)
def abldS (e sz n : Nat) (z : List D) (ps : List (Nat × Nat × D)) (L : List Bx) (k : D → List Bx → Prop) : Prop :=
  abldF sz n z ps (fun d => k d L) ∨ (asizes ps = true ∧ ∃ l, afill z (aparts ps) = l ∧ ∀ b, k (.sl b 0 n n) (⟨b, l, .row e sz n⟩ :: L))
def afield1 (off : Nat) (x : D) (k : D → Prop) : Prop :=
  match x with | .agg l => ∃ d, l[off]? = some d ∧ k d | _ => False
def afieldN (off n : Nat) (x : D) (k : D → Prop) : Prop :=
  match x with | .agg l => ∃ m, (l.drop off).take n = m ∧ k (.agg m) | _ => False
def aext (j : Nat) (x : D) (k : D → Prop) : Prop :=
  match x with | .tuple l => ∃ d, l[j]? = some d ∧ k d | _ => False
def aeqS (st : Bool) (op : BinOp) (x y : D) (k : D → Prop) : Prop :=
  match x, y with
  | .row _ (_ :: _), .val (.slice none _ _) => (match op with | .eql => k (.b false) | .neq => k (.b true) | _ => False)
  | .row _ [], .val (.slice none _ _) => bif st then False else (match op with | .eql => k (.b true) ∧ k (.b false) | .neq => k (.b true) ∧ k (.b false) | _ => False)
  | .val u, .val v => eqS op u v fun r => k (.val r)
  | _, _ => False
def aeqI (op : BinOp) (x y : D) (k : D → Prop) : Prop :=
  match x, y with
  | .ifc _ _, .val .nilIface => (match op with | .eql => k (.b false) | .neq => k (.b true) | _ => False)
  | .val u, .val v => eqI op u v fun r => k (.val r)
  | _, _ => False
def alenL (x : D) (k : D → Prop) : Prop :=
  match x with
  | .row _ l => k (.i l.length)
  | .val u => lenL u fun r => k (.val r)
  | _ => False
mutual
def dkv : D → Option Value
  | .val v => some v
  | .agg l => (match dkvs l with | some vs => some (.agg (List.toArray vs)) | none => none)
  | _ => none
def dkvs : List D → Option (List Value)
  | [] => some []
  | d :: l => (match dkv d, dkvs l with | some v, some vs => some (v :: vs) | _, _ => none)
end
def dz : Value → D
  | .agg cs => .agg (cs.toList.map .val)
  | v => .val v
def zvOk : Value → Bool
  | .agg cs => cs.toList.all okB
  | .tuple _ => false
  | v => okB v
def aresOk (ok : Bool) (v : D) (b : Bool) : D := bif ok then .tuple [v, .b b] else v
def amkM (L : List Bx) (k : D → List Bx → Prop) : Prop := ∀ b, k (.val (.map (some b))) (⟨b, [], .map []⟩ :: L)
def alkM (P : Program) (kt : TypeId) (ok : Bool) (z x i : D) (L : List Bx) (k : D → Prop) : Prop :=
  match x with
  | .val (.map (some b)) => ∃ (j : Nat) (es : List (Value × D)) (K : Value → Prop) (key : Value), L[j]? = some (Bx.mk b [] (.map es)) ∧ MapKey P kt K ∧ (∀ e ∈ es, K e.1) ∧ dkv i = some key ∧ K key ∧
      ((∃ d, (key, d) ∈ es ∧ k (aresOk ok d true)) ∨ ((∀ e ∈ es, e.1 ≠ key) ∧ k (aresOk ok z false)))
  | .val (.map none) => ∃ (K : Value → Prop) (key : Value), MapKey P kt K ∧ dkv i = some key ∧ K key ∧ k (aresOk ok z false)
  | _ => False
def aupM (P : Program) (kt : TypeId) (x i v : D) (L : List Bx) (k : List Bx → Prop) : Prop :=
  match x with
  | .val (.map (some b)) => ∃ (j : Nat) (es : List (Value × D)) (K : Value → Prop) (key : Value), L[j]? = some (Bx.mk b [] (.map es)) ∧ MapKey P kt K ∧ (∀ e ∈ es, K e.1) ∧ dkv i = some key ∧ K key ∧
      (((∀ e ∈ es, e.1 ≠ key) ∧ k (L.set j ⟨b, [], .map (es ++ [(key, v)])⟩)) ∨ ∃ (m : Nat) (d : D), es[m]? = some (key, d) ∧ k (L.set j ⟨b, [], .map (es.set m (key, v))⟩))
  | _ => False
def atas (t : TypeId) (z x : D) (ok : Bool) (k : D → Prop) : Prop :=
  match x with
  | .ifc s d => bif Nat.beq s t then k (aresOk ok d true) else (bif ok then k (.tuple [z, .b false]) else False)
  | .val .nilIface => bif ok then k (.tuple [z, .b false]) else False
  | _ => False
def aval : Option D → Option (Option Value)
  | none => some none
  | some (.val v) => some (some v)
  | _ => none
def aslcL (sz : Nat) (x : D) (lo hi : Option D) (k : D → Prop) : Prop :=
  match x with
  | .row z l => z = sz ∧ ∃ a b : Nat, (match hi with | none => b = l.length | some d => ∃ ki, d = .val (.int ki (b : Int))) ∧ (match lo with | none => a = 0 | some d => ∃ ki, d = .val (.int ki (a : Int))) ∧ a ≤ b ∧ b ≤ l.length ∧
      ∃ m, (l.take b).drop a = m ∧ k (.row z m)
  | .val u => (match aval lo, aval hi with | some lo, some hi => slcL sz u lo hi fun r => k (.val r) | _, _ => False)
  | _ => False
def aslcM (sz : Nat) (x : D) (lo hi mx : Option D) (k : D → Prop) : Prop :=
  match x with
  | .val u => (match aval lo, aval hi, aval mx with | some lo, some hi, some mx => slcM sz u lo hi mx fun r => k (.val r) | _, _, _ => False)
  | _ => False
def aslcS (x : D) (lo hi : Option D) (k : D → Prop) : Prop :=
  match x with
  | .val u => (match aval lo, aval hi with | some lo, some hi => slcS u lo hi fun r => k (.val r) | _, _ => False)
  | _ => False
def asrc (sz : Nat) (x : D) (L : List Bx) (m : Nat) (ys : List D) : Prop :=
  match x with
  | .row z l => z = sz ∧ m = l.length ∧ l.flatten = ys
  | .val (.slice none n _) => n = 0 ∧ m = 0 ∧ ys = []
  | .val (.slice (some ⟨b, o, none⟩) n _) => n = m ∧ ∃ (i : Nat) (l : List D) (kd : Kd), L[i]? = some (Bx.mk b l kd) ∧ (l.drop o).take (m * sz) = ys ∧ ys.length = m * sz
  | _ => False
def aapp (e sz bytes : Nat) (s x : D) (L : List Bx) (k : D → List Bx → Prop) : Prop :=
  ∃ m ys, asrc sz x L m ys ∧ ys.all D.one = true ∧
    (match s with
    | .val (.slice none 0 0) => m * bytes ≤ 140737488355328 ∧ (bif Nat.beq m 0 then k (.val (.slice none 0 0)) L else ∀ b c, k (.sl b 0 m c) (⟨b, ys, .row e sz c⟩ :: L))
    | .val (.slice (some ⟨b, 0, none⟩) n c) => ((n + m) * bytes ≤ 140737488355328 ∧ ∃ (i : Nat) (l : List D), L[i]? = some (Bx.mk b l (.row e sz c)) ∧ l.length = n * sz ∧ ∀ b' c', k (.sl b' 0 (n + m) c') (L.set i ⟨b', l ++ ys, .row e sz c'⟩)) ∨
        ∃ (i : Nat) (l : List D), L[i]? = some (Bx.mk b l (.row e sz c)) ∧ n + m ≤ c ∧ n * sz + ys.length ≤ l.length ∧ k (.sl b 0 (n + m) c) (L.set i ⟨b, l.take (n * sz) ++ ys ++ l.drop (n * sz + ys.length), .row e sz c⟩)
    | _ => False)
def amkS (e sz bytes : Nat) (z : List D) (l c : D) (L : List Bx) (k : D → List Bx → Prop) : Prop :=
  ∃ (ki kj : IntKind) (n m : Nat), l = .val (.int ki (n : Int)) ∧ c = .val (.int kj (m : Int)) ∧ n ≤ m ∧ m * bytes ≤ 140737488355328 ∧ m ≤ 140737488355328 ∧
    ((∀ b, k (.sl b 0 n m) (⟨b, (List.replicate n z).flatten, .row e sz m⟩ :: L)) ∨ k (.row sz (List.replicate n z)) L)
def vals : List Value → List D
  | [] => []
  | v :: r => .val v :: vals r
def aclr (z : List Value) (sz : Nat) (x : D) (L : List Bx) (k : List Bx → Prop) : Prop :=
  match x with
  | .val (.slice none _ _) => k L
  | .val (.slice (some ⟨b, o, none⟩) n _) => bif Nat.beq n 0 then k L else ast (n * sz) (.p b o) (.agg (vals (reps n z))) L k
  | _ => False
def acpy (sz : Nat) (d x : D) (L : List Bx) (k : D → List Bx → Prop) : Prop :=
  match d with
  | .val (.slice (some ⟨b, o, none⟩) n _) => ∃ m ys, asrc sz x L m ys ∧ (bif Nat.beq (min m n) 0 then k (.i 0) L else ast (min m n * sz) (.p b o) (.agg (ys.take (min m n * sz))) L (k (.i ((min m n : Nat) : Int))))
  | _ => False
def acallW (P : Program) (g : FuncId) (args : List D) (L : List Bx) (kp k : D → List Bx → Prop) : Prop :=
  ASpec P g args L fun | .ret d, L' => k d L' | .pan d, L' => kp d L'
def acallS (P : Program) (g : FuncId) (args : List D) (L : List Bx) (kp k : D → List Bx → Prop) : Prop :=
  ∃ a, AFn P g args L a ∧ match a with | .ret d => k d L | .pan d => kp d L
def acallF (P : Program) (st : Bool) (f : D) (args : List D) (L : List Bx) (kp k : D → List Bx → Prop) : Prop :=
  match f with
  | .fn g first cap => bif st then acallS P g (first ++ args ++ cap) L kp k else acallW P g (first ++ args ++ cap) L kp k
  | _ => False
def zok : List Value → Bool
  | [] => true
  | v :: z => okB v && zok z
def apartsT (P : Program) (t : TypeId) (ρ : Operand → D) : List (Nat × Operand) → List (Nat × Nat × D)
  | [] => []
  | (i, x) :: r => ((placeT P t i).1, (placeT P t i).2, ρ x) :: apartsT P t ρ r
def mapO (ρ : Operand → D) : List Operand → List D
  | [] => []
  | x :: r => ρ x :: mapO ρ r
def aopK (P : Program) (st : Bool) (_ty : TypeId) (op : Op) (ρ : Operand → D) (L : List Bx) (k : D → List Bx → Prop) (kp : D → List Bx → Prop) : Prop :=
  match op with
  | .move x => k (ρ x) L
  | .assign x => k (ρ x) L
  | .pick c a b => apick (ρ c) (ρ a) (ρ b) fun v => k v L
  | .alloc t => bif st then False else zT P t fun z => bif zok z then abx (vals z) L k else False
  | .box _ x => bif st then False else abxv (ρ x) L k
  | .build t ps => (match P.underlying t with
    | some (.struct fs) => zT P t fun z => bif zok z && (hasT P (ftys fs.toList) && fitsT P t (len z) ps.toList) then abld (vals z) (apartsT P t ρ ps.toList) fun v => k v L else False
    | some (.array _ e) => zT P t fun z => bif zok z && (hasT P [e] && fitsT P t (len z) ps.toList) then abld (vals z) (apartsT P t ρ ps.toList) fun v => k v L else False
    | _ => False)
  | .buildSlice t n ps => (match P.underlying t with
    | some (.slice e) => zT P e fun z => bif zok z && (Nat.beq (len z) (sizeT P e) && Nat.ble 1 (sizeT P e) && Nat.ble (n * sizeT P e) 16777216 && fitsT P t (n * sizeT P e) ps.toList) then
        bif st then abldF (sizeT P e) n (vals (reps n z)) (apartsT P t ρ ps.toList) fun v => k v L else abldS e (sizeT P e) n (vals (reps n z)) (apartsT P t ρ ps.toList) L k else False
    | _ => False)
  | .load t a => (match P.underlying t with
    | some d => bif isAgg d then aldN (sizeT P t) (ρ a) L fun v => k v L else ald1 (ρ a) L fun v => k v L
    | none => False)
  | .store t a x => bif st then False else bif hasT P [t] then (bif Nat.ble 1 (sizeT P t) then ast (sizeT P t) (ρ a) (ρ x) L fun L' => k (.val undef) L' else (bif Nat.beq (sizeT P t) 0 then ast0 (ρ a) (ρ x) L fun L' => k (.val undef) L' else False)) else False
  | .nilCheck x => anilc (ρ x) fun v => k v L
  | .binOp op t x y _ => (match P.underlying t with
    | some (.int _) => aar op (ρ x) (ρ y) fun v => k v L
    | some (.float _) => aarF op (ρ x) (ρ y) fun v => k v L
    | some (.pointer _) => aeqP op (ρ x) (ρ y) fun v => k v L
    | some .string => aar op (ρ x) (ρ y) fun v => k v L
    | some .bool => aarB op (ρ x) (ρ y) fun v => k v L
    | some (.slice _) => aeqS st op (ρ x) (ρ y) fun v => k v L
    | some (.interface _) => (match y with | .const c => aeqI op (ρ x) (ρ (.const c)) fun v => k v L | _ => False)
    | _ => False)
  | .unOp op _ x => (match op with | .not => anotb (ρ x) fun v => k v L | .neg => aneg (ρ x) fun v => k v L | _ => False)
  | .convert s d x => (match P.underlying s, P.underlying d with
    | some _, some (.int a) => acvI a (ρ x) fun v => k v L
    | some (.slice e), some .string => bif isU8 (P.underlying e) then acvB (ρ x) (fun v => k v L) else False
    | _, _ => False)
  | .makeFunc fn first cap => (match fn with | .func g => k (.fn g (mapO ρ first.toList) (mapO ρ cap.toList)) L | _ => False)
  | .fieldAddr s x f => (match P.underlying s with
    | some (.struct fs) => (match fs.toList[f]? with
      | some d => bif hasT P [d.type] && Nat.ble 1 (sizeT P d.type) then afld d.offset (ρ x) fun v => k v L else False
      | none => False)
    | _ => False)
  | .field t x f => (match P.underlying t with
    | some (.struct fs) => (match fs.toList[f]? with
      | some d => (match P.underlying d.type with
        | some u => bif isAgg u then afieldN d.offset (sizeT P d.type) (ρ x) fun v => k v L else afield1 d.offset (ρ x) fun v => k v L
        | none => False)
      | none => False)
    | _ => False)
  | .indexAddr t x i => (match P.underlying t with
    | some (.slice e) => bif hasT P [e] then aidxS (sizeT P e) (ρ x) (ρ i) fun v => k v L else False
    | some (.array n e) => bif hasT P [e] then aidxP n (sizeT P e) (ρ x) (ρ i) fun v => k v L else False
    | _ => False)
  | .index t x i => (match P.underlying t with
    | some .string => aidxStr (ρ x) (ρ i) fun v => k v L
    | _ => False)
  | .extract x j => aext j (ρ x) fun v => k v L
  | .slice t x lo hi none => (match P.underlying t with
    | some (.slice e) => bif hasT P [e] then aslcL (sizeT P e) (ρ x) (lo.map ρ) (hi.map ρ) fun v => k v L else False
    | some .string => aslcS (ρ x) (lo.map ρ) (hi.map ρ) fun v => k v L
    | _ => False)
  | .slice t x lo hi (some mx) => (match P.underlying t with
    | some (.slice e) => bif hasT P [e] then aslcM (sizeT P e) (ρ x) (lo.map ρ) (hi.map ρ) (some (ρ mx)) fun v => k v L else False
    | _ => False)
  | .makeSlice t l c => bif st then False else (match P.underlying t with
    | some (.slice e) => zT P e fun z => bif zok z && Nat.beq (len z) (sizeT P e) then amkS e (sizeT P e) (bytesT P e) (vals z) (ρ l) (ρ c) L k else False
    | _ => False)
  | .makeInterface t x => (match P.underlying t with | some (.interface _) => False | none => False | some _ => k (.ifc t (ρ x)) L)
  | .makeMap _ none => bif st then False else amkM L k
  | .lookup t x i ok => (match P.underlying t with
    | some (.map kt e) => zV P e fun z => bif zvOk z then alkM P kt ok (dz z) (ρ x) (ρ i) L fun v => k v L else False
    | _ => False)
  | .mapUpdate t m i x => bif st then False else (match P.underlying t with
    | some (.map kt _) => aupM P kt (ρ m) (ρ i) (ρ x) L fun L' => k (.val undef) L'
    | _ => False)
  | .insert t m i x => bif st then False else (match P.underlying t with
    | some (.map kt _) => aupM P kt (ρ m) (ρ i) (ρ x) L fun L' => k (.val undef) L'
    | _ => False)
  | .typeAssert x _ t ok => (match P.underlying t with
    | some (.interface _) => False
    | some _ => zV P t fun z => bif zvOk z then atas t (dz z) (ρ x) ok fun v => k v L else False
    | none => False)
  | .panic x => (match ρ x with | .ifc t d => kp (.ifc t d) L | _ => False)
  | .call c => (match c.callee with
    | .value f => acallF P st (ρ f) (mapO ρ c.args.toList) L kp k
    | .builtin b => (match b, c.args.toList, c.argTypes.toList with
      | .len, [x], [t] => (match P.underlying t with
        | some .string => alenS (ρ x) fun v => k v L
        | some (.slice _) => alenL (ρ x) fun v => k v L
        | _ => False)
      | .max, [x, y], _ => amax2 (ρ x) (ρ y) fun v => k v L
      | .max, [x, y, z], _ => amax3 (ρ x) (ρ y) (ρ z) fun v => k v L
      | .min, [x, y], _ => amin2 (ρ x) (ρ y) fun v => k v L
      | .append, [s, x], [t, u] => bif st then False else (match P.underlying t, P.underlying u with
        | some (.slice e), some (.slice _) => zT P e fun z => bif Nat.beq t u && Nat.beq (len z) (sizeT P e) && Nat.ble 1 (sizeT P e) && Nat.ble 1 (bytesT P e) then aapp e (sizeT P e) (bytesT P e) (ρ s) (ρ x) L k else False
        | _, _ => False)
      | .clear, [x], [t] => bif st then False else (match P.underlying t with
        | some (.slice e) => zT P e fun z => bif zok z && Nat.beq (len z) (sizeT P e) && Nat.ble 1 (sizeT P e) then aclr z (sizeT P e) (ρ x) L fun L' => k (.tuple []) L' else False
        | _ => False)
      | .copy, [d, x], [t, u] => bif st then False else (match P.underlying t, P.underlying u with
        | some (.slice e), some (.slice _) => zT P e fun _ => bif Nat.ble 1 (sizeT P e) then acpy (sizeT P e) (ρ d) (ρ x) L k else False
        | _, _ => False)
      | _, _, _ => False)
    | _ => False)
  | _ => False

abbrev pcond (b : Bool) (x y : Prop) : Prop := match b with | true => x | false => y
theorem pcond_eq (b : Bool) (x y : Prop) : pcond b x y = bif b then x else y := by cases b <;> rfl
def aopQ (P : Program) (st : Bool) (_ty : TypeId) (op : Op) (ρ : Operand → D) (L : List Bx) (k : D → List Bx → Prop) (kp : D → List Bx → Prop) : Prop :=
  match op with
  | .move x => k (ρ x) L
  | .assign x => k (ρ x) L
  | .pick c a b => apick (ρ c) (ρ a) (ρ b) fun v => k v L
  | .alloc t => pcond (st) (False) (zT P t fun z => pcond (zok z) (abx (vals z) L k) (False))
  | .box _ x => pcond (st) (False) (abxv (ρ x) L k)
  | .build t ps => (match P.underlying t with
    | some (.struct fs) => zT P t fun z => pcond (zok z && (hasT P (ftys fs.toList) && fitsT P t (len z) ps.toList)) (abld (vals z) (apartsT P t ρ ps.toList) fun v => k v L) (False)
    | some (.array _ e) => zT P t fun z => pcond (zok z && (hasT P [e] && fitsT P t (len z) ps.toList)) (abld (vals z) (apartsT P t ρ ps.toList) fun v => k v L) (False)
    | _ => False)
  | .buildSlice t n ps => (match P.underlying t with
    | some (.slice e) => zT P e fun z => pcond (zok z && (Nat.beq (len z) (sizeT P e) && Nat.ble 1 (sizeT P e) && Nat.ble (n * sizeT P e) 16777216 && fitsT P t (n * sizeT P e) ps.toList)) (pcond (st) (abldF (sizeT P e) n (vals (reps n z)) (apartsT P t ρ ps.toList) fun v => k v L) (abldS e (sizeT P e) n (vals (reps n z)) (apartsT P t ρ ps.toList) L k)) (False)
    | _ => False)
  | .load t a => (match P.underlying t with
    | some d => pcond (isAgg d) (aldN (sizeT P t) (ρ a) L fun v => k v L) (ald1 (ρ a) L fun v => k v L)
    | none => False)
  | .store t a x => pcond (st) (False) (pcond (hasT P [t]) (pcond (Nat.ble 1 (sizeT P t)) (ast (sizeT P t) (ρ a) (ρ x) L fun L' => k (.val undef) L') (pcond (Nat.beq (sizeT P t) 0) (ast0 (ρ a) (ρ x) L fun L' => k (.val undef) L') (False))) (False))
  | .nilCheck x => anilc (ρ x) fun v => k v L
  | .binOp op t x y _ => (match P.underlying t with
    | some (.int _) => aar op (ρ x) (ρ y) fun v => k v L
    | some (.float _) => aarF op (ρ x) (ρ y) fun v => k v L
    | some (.pointer _) => aeqP op (ρ x) (ρ y) fun v => k v L
    | some .string => aar op (ρ x) (ρ y) fun v => k v L
    | some .bool => aarB op (ρ x) (ρ y) fun v => k v L
    | some (.slice _) => aeqS st op (ρ x) (ρ y) fun v => k v L
    | some (.interface _) => (match y with | .const c => aeqI op (ρ x) (ρ (.const c)) fun v => k v L | _ => False)
    | _ => False)
  | .unOp op _ x => (match op with | .not => anotb (ρ x) fun v => k v L | .neg => aneg (ρ x) fun v => k v L | _ => False)
  | .convert s d x => (match P.underlying s, P.underlying d with
    | some _, some (.int a) => acvI a (ρ x) fun v => k v L
    | some (.slice e), some .string => pcond (isU8 (P.underlying e)) (acvB (ρ x) fun v => k v L) False
    | _, _ => False)
  | .makeFunc fn first cap => (match fn with | .func g => k (.fn g (mapO ρ first.toList) (mapO ρ cap.toList)) L | _ => False)
  | .fieldAddr s x f => (match P.underlying s with
    | some (.struct fs) => (match fs.toList[f]? with
      | some d => pcond (hasT P [d.type] && Nat.ble 1 (sizeT P d.type)) (afld d.offset (ρ x) fun v => k v L) (False)
      | none => False)
    | _ => False)
  | .field t x f => (match P.underlying t with
    | some (.struct fs) => (match fs.toList[f]? with
      | some d => (match P.underlying d.type with
        | some u => pcond (isAgg u) (afieldN d.offset (sizeT P d.type) (ρ x) fun v => k v L) (afield1 d.offset (ρ x) fun v => k v L)
        | none => False)
      | none => False)
    | _ => False)
  | .indexAddr t x i => (match P.underlying t with
    | some (.slice e) => pcond (hasT P [e]) (aidxS (sizeT P e) (ρ x) (ρ i) fun v => k v L) (False)
    | some (.array n e) => pcond (hasT P [e]) (aidxP n (sizeT P e) (ρ x) (ρ i) fun v => k v L) (False)
    | _ => False)
  | .index t x i => (match P.underlying t with
    | some .string => aidxStr (ρ x) (ρ i) fun v => k v L
    | _ => False)
  | .extract x j => aext j (ρ x) fun v => k v L
  | .slice t x lo hi none => (match P.underlying t with
    | some (.slice e) => pcond (hasT P [e]) (aslcL (sizeT P e) (ρ x) (lo.map ρ) (hi.map ρ) fun v => k v L) (False)
    | some .string => aslcS (ρ x) (lo.map ρ) (hi.map ρ) fun v => k v L
    | _ => False)
  | .slice t x lo hi (some mx) => (match P.underlying t with
    | some (.slice e) => pcond (hasT P [e]) (aslcM (sizeT P e) (ρ x) (lo.map ρ) (hi.map ρ) (some (ρ mx)) fun v => k v L) (False)
    | _ => False)
  | .makeSlice t l c => pcond (st) (False) ((match P.underlying t with
    | some (.slice e) => zT P e fun z => pcond (zok z && Nat.beq (len z) (sizeT P e)) (amkS e (sizeT P e) (bytesT P e) (vals z) (ρ l) (ρ c) L k) (False)
    | _ => False))
  | .makeInterface t x => (match P.underlying t with | some (.interface _) => False | none => False | some _ => k (.ifc t (ρ x)) L)
  | .makeMap _ none => pcond (st) (False) (amkM L k)
  | .lookup t x i ok => (match P.underlying t with
    | some (.map kt e) => zV P e fun z => pcond (zvOk z) (alkM P kt ok (dz z) (ρ x) (ρ i) L fun v => k v L) (False)
    | _ => False)
  | .mapUpdate t m i x => pcond (st) (False) ((match P.underlying t with
    | some (.map kt _) => aupM P kt (ρ m) (ρ i) (ρ x) L fun L' => k (.val undef) L'
    | _ => False))
  | .insert t m i x => pcond (st) (False) ((match P.underlying t with
    | some (.map kt _) => aupM P kt (ρ m) (ρ i) (ρ x) L fun L' => k (.val undef) L'
    | _ => False))
  | .typeAssert x _ t ok => (match P.underlying t with
    | some (.interface _) => False
    | some _ => zV P t fun z => pcond (zvOk z) (atas t (dz z) (ρ x) ok fun v => k v L) (False)
    | none => False)
  | .panic x => (match ρ x with | .ifc t d => kp (.ifc t d) L | _ => False)
  | .call c => (match c.callee with
    | .value f => acallF P st (ρ f) (mapO ρ c.args.toList) L kp k
    | .builtin b => (match b, c.args.toList, c.argTypes.toList with
      | .len, [x], [t] => (match P.underlying t with
        | some .string => alenS (ρ x) fun v => k v L
        | some (.slice _) => alenL (ρ x) fun v => k v L
        | _ => False)
      | .max, [x, y], _ => amax2 (ρ x) (ρ y) fun v => k v L
      | .max, [x, y, z], _ => amax3 (ρ x) (ρ y) (ρ z) fun v => k v L
      | .min, [x, y], _ => amin2 (ρ x) (ρ y) fun v => k v L
      | .append, [s, x], [t, u] => pcond (st) (False) ((match P.underlying t, P.underlying u with
        | some (.slice e), some (.slice _) => zT P e fun z => pcond (Nat.beq t u && Nat.beq (len z) (sizeT P e) && Nat.ble 1 (sizeT P e) && Nat.ble 1 (bytesT P e)) (aapp e (sizeT P e) (bytesT P e) (ρ s) (ρ x) L k) (False)
        | _, _ => False))
      | .clear, [x], [t] => pcond (st) (False) ((match P.underlying t with
        | some (.slice e) => zT P e fun z => pcond (zok z && Nat.beq (len z) (sizeT P e) && Nat.ble 1 (sizeT P e)) (aclr z (sizeT P e) (ρ x) L fun L' => k (.tuple []) L') (False)
        | _ => False))
      | .copy, [d, x], [t, u] => pcond (st) (False) ((match P.underlying t, P.underlying u with
        | some (.slice e), some (.slice _) => zT P e fun _ => pcond (Nat.ble 1 (sizeT P e)) (acpy (sizeT P e) (ρ d) (ρ x) L k) (False)
        | _, _ => False))
      | _, _, _ => False)
    | _ => False)
  | _ => False

theorem aopQ_eq (P : Program) (st : Bool) (ty : TypeId) (op : Op) (ρ : Operand → D) (L : List Bx) (k kp : D → List Bx → Prop) : aopQ P st ty op ρ L k kp = aopK P st ty op ρ L k kp := by
  unfold aopQ aopK
  simp only [pcond_eq]

inductive AX where
  | normal
  | exit (i : Nat)
  | ret
  | panic (d : D)
inductive Df where
  | fn (g : Nat) (cap args : List D)
  | mark
structure AEnv where
  get : Nat → D
  dfr : List Df
def AEnv.put (e : AEnv) (d : Option Tmp) (v : D) : AEnv :=
  match d with
  | some d => ⟨fun i => bif Nat.beq i d then v else e.get i, e.dfr⟩
  | none => e
def aix (vs : List D) (j : Nat) : D := vs.getD j .top
def AEnv.mix (e : AEnv) (L : List Nat) : AEnv := ⟨fun i => bif mem i L then .top else e.get i, e.dfr⟩
def AEnv.putL (e : AEnv) (L : List Nat) (vs : List D) : AEnv :=
  ⟨fun i => match pos i L 0 with | some j => aix vs j | none => e.get i, e.dfr⟩
abbrev cvD (v : Value) : D := match v with
  | .agg cs => (match cs.toList.all okB with | true => .agg (cs.toList.map .val) | false => .top)
  | v => (match okB v with | true => .val v | false => .top)
def AEnv.ev (e : AEnv) : Operand → D
  | .tmp t => e.get t
  | .const v => cvD v
  | .global g => .p g 0
  | .func f => .fn f [] []
def amapG (e : AEnv) : List Nat → List D
  | [] => []
  | d :: L => e.get d :: amapG e L
abbrev acnd (c : D) (a b : Prop) : Prop := match c with | .val (.bool t) => pcond t a b | _ => False
def Gl (ds : List D) (L : List Bx) (ds' : List D) (L' : List Bx) : Prop :=
  ∀ F w vs, AW F L w → Reps F w ds vs → ∃ F', Ev F L w F' L' w ∧ AW F' L' w ∧ Reps F' w ds' vs
def ajn (F : List D → List Bx → Prop) (G : (List D → List Bx → Prop) → Prop) : Prop :=
  ∃ J : List D → List Bx → Prop, (∀ vs L, J vs L → F vs L) ∧ G fun vs L => ∃ vs' L', Gl vs L vs' L' ∧ J vs' L'
def alp (init : List D) (L : List Bx) (F : List D → List Bx → (List D → List Bx → Prop) → Prop) : Prop :=
  ∃ (I : List D → List Bx → Prop) (μ : List D → List Bx → Nat), (∃ v0 L0, Gl init L v0 L0 ∧ I v0 L0) ∧ ∀ vs L1, I vs L1 → F vs L1 fun vs' L' => ∃ v2 L2, Gl vs' L' v2 L2 ∧ I v2 L2 ∧ μ v2 L2 < μ vs L1
def aopV (P : Program) (o : Oper) (e : AEnv) (L : List Bx) (k : AEnv → List Bx → Prop) (kp : D → List Bx → Prop) : Prop :=
  match o.op with
  | .defer c => (match c.callee with
    | .value f => (match e.ev f with
      | .fn g first cap => k { e.put o.dst (.val undef) with dfr := .fn g cap (first ++ mapO e.ev c.args.toList) :: e.dfr } L
      | _ => False)
    | _ => False)
  | op => aopQ P false o.type op e.ev L (fun v L' => k (e.put o.dst v) L') kp
def aopsV (P : Program) (an : Nat → Option (List Nat)) (ops : Array Oper) : Nat → List Nat → List Oper → AEnv → List Bx → (AX → AEnv → List Bx → Prop) → Prop
  | 0, _, _, _, _, _ => False
  | _ + 1, _, [], e, L, Q => Q .normal e L
  | n + 1, nj, o :: r, e, L, Q => match joint ops an nj o r with
    | some (G, q, pd, rest) =>
      ajn (fun vs L' => aopsV P an ops n nj rest ((e.mix (dstsO (G ++ [q]))).putL [pd] vs) L' Q)
        fun J => aopsV P an ops n (pd :: nj) (G ++ [q]) e L fun x e' L' => match x with | .normal => J [e'.get pd] L' | x => Q x e' L'
    | none => match gdst ops o with
      | none => aopV P o e L (fun e' L' => aopsV P an ops n nj r e' L' Q) fun c L' => Q (.panic c) e L'
      | some (some d, true) => acnd (e.get d) (aopV P o (e.put (some d) (.b true)) L (fun e' L' => aopsV P an ops n nj r e' L' Q) fun c L' => Q (.panic c) (e.put (some d) (.b true)) L')
          (aopsV P an ops n nj (takeG ops d true [] (o :: r)).2 ((e.put (some d) (.b false)).mix (dstsO (takeG ops d true [] (o :: r)).1)) L Q)
      | some (some d, false) => acnd (e.get d) (aopsV P an ops n nj (takeG ops d false [] (o :: r)).2 ((e.put (some d) (.b true)).mix (dstsO (takeG ops d false [] (o :: r)).1)) L Q)
          (aopV P o (e.put (some d) (.b false)) L (fun e' L' => aopsV P an ops n nj r e' L' Q) fun c L' => Q (.panic c) (e.put (some d) (.b false)) L')
      | _ => False
abbrev aguard (ops : Array Oper) (sk : List Nat) (o : Oper) (e : AEnv) (yes no : AEnv → Prop) : Prop :=
  match gdst ops o with
  | none => yes e
  | some (some d, want) => pcond (mem d sk) (no e) (acnd (e.get d) (pcond want (yes (e.put (some d) (.b true))) (no (e.put (some d) (.b true)))) (pcond want (no (e.put (some d) (.b false))) (yes (e.put (some d) (.b false)))))
  | some (none, _) => False
abbrev Plan := List (Nat × Nat)
abbrev aonly (kd : Nat) (L L' : List Bx) (X : Prop) : Prop := pcond (Nat.beq kd 4) ((∀ x ∈ L, x.k = .box → x ∈ L') ∧ X) X
abbrev asel (dec x : Nat) (f : AEnv → Prop) (e : AEnv) : Prop := pcond (Nat.beq dec x) False (f e)
abbrev aapart (L : List Bx) (l : List Nat) (b : Nat) (X : Prop) : Prop := match l with
  | [] => X
  | c :: l => ((L.map Bx.b).Nodup → b ∉ c :: l) ∧ X
abbrev akd (kd : Nat) (a b c d : Prop) : Prop := pcond (Nat.beq kd 5) a (pcond (Nat.beq kd 6) b (pcond (Nat.beq kd 7) c d))
def adraw (P : Program) (ops : Array Oper) : Plan → List Nat → List Nat → List Nat → AEnv → List Bx → (AX → AEnv → List Bx → Prop) → Prop
  | [], _, _, _, e, L, Q => Q .normal e L
  | (i, kd) :: p, rd, wr, sk, e, L, Q => match ops.toList[i]? with
    | some o => aguard ops sk o e
        (asel (kd / 10) 2 fun e => akd (kd % 10)
          (∃ x, x ∈ L ∧ x.k = .box ∧ aapart L wr x.b (aopQ P true o.type o.op e.ev [x] (fun v _ => adraw P ops p (x.b :: rd) wr (rem o.dst sk) (e.put o.dst v) L Q) (fun _ _ => False)))
          (aopQ P true o.type o.op e.ev L (fun v L' => adraw P ops p rd wr (rem o.dst sk) (e.put o.dst v) L' Q) (fun c L' => Q (.panic c) e L'))
          (∃ m x y d, L[m]? = some x ∧ y.b = x.b ∧ aapart L (rd ++ wr) x.b (aopQ P false o.type o.op e.ev [x] (fun v L' => v = d ∧ L' = [y]) (fun _ _ => False) ∧ adraw P ops p rd (x.b :: wr) (rem o.dst sk) (e.put o.dst d) (L.set m y) Q))
          (aopQ P (Nat.blt (kd % 10) 2) o.type o.op e.ev L (fun v L' => aonly (kd % 10) L L' (adraw P ops p rd wr (rem o.dst sk) (e.put o.dst v) L' Q)) (fun c L' => pcond (Nat.beq (kd % 10) 0) False (Q (.panic c) e L'))))
        (asel (kd / 10) 1 fun e => adraw P ops p rd wr (add o.dst sk) (e.put o.dst (.val undef)) L Q)
    | none => False
structure An where
  j : List (Nat × List Nat)
  p : List (Nat × Plan)
def plOf : List (Nat × Plan) → Nat → Option Plan
  | [], _ => none
  | (a, L) :: r, k => bif Nat.beq k a then some L else plOf r k
def aex (P : Program) (A : An) : Code → AEnv → List Bx → (AX → AEnv → List Bx → Prop) → Prop
  | .skip, e, L, Q => Q .normal e L
  | .label _, e, L, Q => Q .normal e L
  | .region i ops draw, e, L, Q => pcond draw (match plOf A.p i with | some p => adraw P ops p [] [] [] e L Q | none => False) (aopsV P (anOf A.j) ops 1000 [] ops.toList e L Q)
  | .seq a b, e, L, Q => (match anOf A.j (2 * key b) with
    | some V => pcond (subL V (dsts a)) (ajn (fun vs L' => aex P A b ((e.mix (dsts a)).putL V vs) L' Q) (fun J => aex P A a e L fun x e' L' => match x with | .normal => J (amapG e' V) L' | x => Q x e' L')) False
    | none => aex P A a e L fun x e' L' => match x with | .normal => aex P A b e' L' Q | x => Q x e' L')
  | .cond c a b, e, L, Q => acnd (e.ev c) (aex P A a e L Q) (aex P A b e L Q)
  | .block id c, e, L, Q => aex P A c e L fun x e' L' => match x with | .exit i => pcond (Nat.beq i id) (Q .normal e' L') (Q (.exit i) e' L') | x => Q x e' L'
  | .loop c, e, L, Q => (match anOf A.j (2 * key c + 1) with
    | some V => pcond (subL V (dsts c)) (alp (amapG e V) L (fun vs L1 again => aex P A c ((e.mix (dsts c)).putL V vs) L1 fun x e' L' => match x with | .normal => again (amapG e' V) L' | x => Q x e' L')) False
    | none => False)
  | .exit id, e, L, Q => Q (.exit id) e L
  | .ret, e, L, Q => Q .ret e L
  | _, _, _, _ => False
def aretG (P : Program) : List ResultVar → AEnv → List Bx → (List D → Prop) → Prop
  | [], _, _, k => k []
  | .tmp t :: r, e, L, k => aretG P r e L fun l => k (e.get t :: l)
  | .cell a t :: r, e, L, k => (match P.underlying t with
    | some d => pcond (isAgg d) (aldN (sizeT P t) (e.get a) L fun v => aretG P r e L fun l => k (v :: l)) (ald1 (e.get a) L fun v => aretG P r e L fun l => k (v :: l))
    | none => False)
def atup : List D → D
  | [v] => v
  | l => .tuple l
def apost (P : Program) (rs : List ResultVar) (R : AE → List Bx → Prop) : AX → AEnv → List Bx → Prop
  | .normal, e, L => (match e.dfr with | [] => aretG P rs e L fun l => R (.ret (atup l)) L | _ => False)
  | .ret, e, L => (match e.dfr with | [] => aretG P rs e L fun l => R (.ret (atup l)) L | _ => False)
  | .panic c, e, L => (match e.dfr with | [] => R (.pan c) L | _ => False)
  | _, _, _ => False
def aenv0 (args : List D) : AEnv := ⟨fun i => args.getD i .top, []⟩
def bindsB (e : Edge) : Bool := match e.ground with | .textOnly _ | .gcOnly _ => false | _ => true
def ons : List Edge → List Nat
  | [] => []
  | e :: r => bif bindsB e then e.on :: ons r else ons r
def uni : List Nat → List Nat → List Nat
  | [], m => m
  | a :: l, m => bif mem a m then uni l m else uni l (a :: m)
def aheadL (T : List (List Nat)) : List Nat → List Nat
  | [] => []
  | a :: l => uni (a :: T.getD a []) (aheadL T l)
def aheads : List Oper → List (List Nat) → List (List Nat)
  | [], T => T
  | o :: r, T => aheads r (T ++ [aheadL T (ons o.after.toList)])
def rdy : List Oper → Nat → List Nat → List Nat
  | [], _, _ => []
  | o :: r, i, E => bif mem i E then rdy r (i + 1) E else bif subL (ons o.after.toList) E then i :: rdy r (i + 1) E else rdy r (i + 1) E
def aheadB (T : List (List Nat)) (i : Nat) : Plan → Bool
  | [] => true
  | (j, _) :: p => mem i (T.getD j []) && aheadB T i p
def pureOp : Op → Bool
  | .move _ | .assign _ | .pick .. | .build .. | .buildSlice .. | .nilCheck _ | .binOp .. | .unOp .. | .convert .. | .fieldAddr .. | .field .. | .indexAddr .. | .index .. | .extract .. | .slice .. | .makeFunc .. | .makeInterface .. | .typeAssert .. => true
  | .call c => match c.callee with | .builtin .len | .builtin .max | .builtin .min => true | _ => false
  | _ => false
def pureAt (ops : List Oper) (i : Nat) : Bool := match ops[i]? with | some o => pureOp o.op | none => false
def allocAt (ops : List Oper) (i : Nat) : Bool := match ops[i]? with | some o => (match o.op with | .alloc _ => true | _ => false) | none => false
def pureL (ops : List Oper) (Ti : List Nat) : List Nat → Bool
  | [] => true
  | j :: E => (mem j Ti || pureAt ops j) && pureL ops Ti E
def fives : Plan → List Nat
  | [] => []
  | (i, kd) :: p => bif Nat.beq (kd % 10) 5 then i :: fives p else fives p
def sevens : Plan → List Nat
  | [] => []
  | (i, kd) :: p => bif Nat.beq (kd % 10) 7 then i :: sevens p else sevens p
def storeAt (ops : List Oper) (i : Nat) : Bool := match ops[i]? with | some o => (match o.op with | .store .. => true | _ => false) | none => false
def pureL7 (ops : List Oper) (Ti F V : List Nat) : List Nat → Bool
  | [] => true
  | j :: E => (mem j Ti || (pureAt ops j || (mem j F || mem j V))) && pureL7 ops Ti F V E
def ahead7 (ops : List Oper) (T : List (List Nat)) (i : Nat) : Plan → Bool
  | [] => true
  | (j, kd) :: p => (mem i (T.getD j []) || (!allocAt ops j && ((Nat.beq (kd % 10) 0 && pureAt ops j) || (Nat.beq (kd % 10) 5 || Nat.beq (kd % 10) 7)))) && ahead7 ops T i p
def pureL5 (ops : List Oper) (Ti F : List Nat) : List Nat → Bool
  | [] => true
  | j :: E => (mem j Ti || (pureAt ops j || mem j F)) && pureL5 ops Ti F E
def zbT (P : Program) (t : TypeId) : Bool := match P.info? t with | some i => (match i.zero with | some z => zok z.cells.toList | none => false) | none => false
def newAt (P : Program) (ops : List Oper) (i : Nat) : Bool :=
  match ops[i]? with
  | some o => (match o.guard, o.op with | none, .alloc t => zbT P t | _, _ => false)
  | none => false
def ahead6 (P : Program) (ops : List Oper) (T : List (List Nat)) (i : Nat) : Plan → Bool
  | [] => true
  | (j, _) :: p => (mem i (T.getD j []) || newAt P ops j) && ahead6 P ops T i p
def planB (P : Program) (ops : List Oper) (T : List (List Nat)) (F V : List Nat) : List Nat → Plan → Bool
  | E, [] => (match rdy ops 0 E with | [] => true | _ => false)
  | E, (i, kd) :: p => mem i (rdy ops 0 E) && ((match kd % 10 with | 0 => true | 1 => aheadB T i p | 2 => aheadB T i p && pureL ops (T.getD i []) E | 4 => aheadB T i p && pureL5 ops (T.getD i []) F E | 5 => !pureAt ops i | 6 => ahead6 P ops T i p | 7 => storeAt ops i && (ahead7 ops T i p && pureL7 ops (T.getD i []) F V E) | _ => aheadB T i p && allocAt ops i) && ((!mem i F || Nat.beq (kd % 10) 5) && ((!mem i V || Nat.beq (kd % 10) 7) && planB P ops T F V (i :: E) p)))
def apartB (ops : Array Oper) (T : List (List Nat)) (x : Oper) (i : Nat) : List Oper → Nat → Bool
  | [], _ => true
  | y :: r, j => (Nat.beq i j || (x.apart ops y || (mem i (T.getD j []) || mem j (T.getD i [])))) && apartB ops T x i r (j + 1)
def apartsB (ops : Array Oper) (T : List (List Nat)) : List Oper → Nat → Bool
  | [], _ => true
  | x :: r, i => apartB ops T x i ops.toList 0 && apartsB ops T r (i + 1)
def noSel : List Oper → Bool
  | [] => true
  | o :: r => match o.op with | .select _ _ => false | _ => noSel r
def drawB (P : Program) (ops : Array Oper) (p : Plan) : Bool :=
  planB P ops.toList (aheads ops.toList []) (fives p) (sevens p) [] p && (apartsB ops (aheads ops.toList []) ops.toList 0 && (noSel ops.toList && noDefO ops.toList))
def drawsB (P : Program) (A : An) : Code → Bool
  | .region i ops true => (match plOf A.p i with | some p => drawB P ops p | none => true)
  | .seq x y => drawsB P A x && drawsB P A y
  | .cond _ x y => drawsB P A x && drawsB P A y
  | .block _ c => drawsB P A c
  | .loop c => drawsB P A c
  | _ => true
end Go.V
set_option linter.unusedVariables false
namespace Go.V
open Go

section
variable {F F' : Nat → Prop} {w w' : World}
theorem Reps.length : ∀ {l : List D} {vs : List Value}, Reps F w l vs → vs.length = l.length
  | [], _, h => by rw [Reps] at h; rw [h]; rfl
  | _ :: _, _, h => by rw [Reps] at h; obtain ⟨v, r, rfl, _, h⟩ := h; simp [Reps.length h]
theorem reps_nil : Reps F w [] [] := by rw [Reps]
theorem reps_cons {d : D} {l : List D} {v : Value} {vs : List Value} (h : Rep F w d v) (h' : Reps F w l vs) : Reps F w (d :: l) (v :: vs) := by rw [Reps]; exact ⟨v, vs, rfl, h, h'⟩
theorem Reps.get : ∀ {l : List D} {vs : List Value}, Reps F w l vs → ∀ {i : Nat} {d : D}, l[i]? = some d → ∃ v, vs[i]? = some v ∧ Rep F w d v
  | [], _, _, i, d, hd => by simp at hd
  | _ :: _, _, h, 0, d, hd => by
    rw [Reps] at h; obtain ⟨v, r, rfl, h1, _⟩ := h
    simp at hd; subst hd; exact ⟨v, rfl, h1⟩
  | _ :: _, _, h, i + 1, d, hd => by
    rw [Reps] at h; obtain ⟨v, r, rfl, _, h⟩ := h
    simpa using Reps.get h (by simpa using hd)
theorem Reps.append : ∀ {l m : List D} {vs us : List Value}, Reps F w l vs → Reps F w m us → Reps F w (l ++ m) (vs ++ us)
  | [], _, _, _, h, h' => by rw [Reps] at h; rw [h]; exact h'
  | _ :: _, _, _, _, h, h' => by
    rw [Reps] at h; obtain ⟨v, r, rfl, h1, h⟩ := h
    exact reps_cons h1 (Reps.append h h')
theorem Reps.take : ∀ (n : Nat) {l : List D} {vs : List Value}, Reps F w l vs → Reps F w (l.take n) (vs.take n)
  | 0, _, _, _ => by simpa using reps_nil
  | _ + 1, [], _, h => by rw [Reps] at h; rw [h]; simpa using reps_nil
  | n + 1, _ :: _, _, h => by
    rw [Reps] at h; obtain ⟨v, r, rfl, h1, h⟩ := h
    exact reps_cons h1 (Reps.take n h)
theorem Reps.drop : ∀ (n : Nat) {l : List D} {vs : List Value}, Reps F w l vs → Reps F w (l.drop n) (vs.drop n)
  | 0, _, _, h => h
  | _ + 1, [], _, h => by rw [Reps] at h; rw [h]; simpa using reps_nil
  | n + 1, _ :: _, _, h => by
    rw [Reps] at h; obtain ⟨v, r, rfl, h1, h⟩ := h
    exact Reps.drop n h
theorem Reps.one {d : D} {vs : List Value} (h : Reps F w [d] vs) : ∃ v, vs = [v] ∧ Rep F w d v := by
  rw [Reps] at h; obtain ⟨v, r, rfl, h1, h⟩ := h
  rw [Reps] at h; subst h; exact ⟨v, rfl, h1⟩
theorem reps_vals : ∀ {z : List Value}, (∀ v ∈ z, Okv v) → Reps F w (vals z) z
  | [], _ => reps_nil
  | v :: z, h => by
    rw [vals]; exact reps_cons (by rw [Rep]; exact ⟨rfl, h v (by simp)⟩) (reps_vals fun u hu => h u (by simp [hu]))
theorem vals_eq (z : List Value) : vals z = z.map .val := by
  induction z with
  | nil => rfl
  | cons v z ih => rw [vals, ih]; rfl
theorem rep_one {d : D} {v : Value} (hd : d.one = true) (h : Rep F w d v) : v.oneCell' = true := by
  cases d with
  | val u => rw [Rep] at h; rw [h.1]; cases u <;> first | rfl | cases hd
  | agg l => cases hd
  | tuple l => cases hd
  | row sz l => rw [Rep] at h; obtain ⟨p, c, rfl, _⟩ := h; rfl
  | pin l => rw [Rep] at h; obtain ⟨b, o, vs, rfl, _⟩ := h; rfl
  | fn f a c => rw [Rep] at h; obtain ⟨a, c, rfl, _⟩ := h; rfl
  | ifc t d => rw [Rep] at h; obtain ⟨v, rfl, _⟩ := h; rfl
  | top => cases hd
theorem reps_one : ∀ {l : List D} {vs : List Value}, l.all D.one = true → Reps F w l vs → ∀ u ∈ vs, u.oneCell' = true
  | [], _, _, h, u, hu => by rw [Reps] at h; rw [h] at hu; cases hu
  | d :: l, _, ha, h, u, hu => by
    rw [Reps] at h; obtain ⟨v, r, rfl, h1, h⟩ := h
    rw [List.all_cons, Bool.and_eq_true] at ha
    rcases List.mem_cons.1 hu with rfl | hu
    · exact rep_one ha.1 h1
    · exact reps_one ha.2 h u hu
theorem rep_cl {d : D} {v : Value} (hd : (cl d).all D.one = true) (h : Rep F w d v) : Reps F w (cl d) v.cells.toList ∧ ∀ u ∈ v.cells.toList, u.oneCell' = true := by
  have key : Reps F w (cl d) v.cells.toList := by
    unfold cl at hd ⊢
    split
    · rename_i l
      rw [Rep] at h; obtain ⟨vs, rfl, h⟩ := h
      simpa [Value.cells] using h
    · rename_i hne
      split at hd
      · rename_i l; exact absurd rfl (hne l)
      · have h1 := rep_one (by simpa using hd) h
        rw [toList_cells_one v h1]
        exact reps_cons h reps_nil
  exact ⟨key, reps_one hd key⟩

theorem Rws.get {sz b : Nat} : ∀ {l : List (List D)} {o : Nat}, Rws F w sz l b o → ∀ {i : Nat} {e : List D}, l[i]? = some e → ∃ vs, Reps F w e vs ∧ vs.length = sz ∧ Cells w ⟨b, o + i * sz, none⟩ vs
  | [], _, _, i, e, he => by simp at he
  | _ :: _, o, h, 0, e, he => by
    rw [Rws] at h; simp at he; subst he; simpa using h.1
  | _ :: _, o, h, i + 1, e, he => by
    rw [Rws] at h
    obtain ⟨vs, h1, h2, h3⟩ := Rws.get h.2 (i := i) (by simpa using he)
    refine ⟨vs, h1, h2, ?_⟩
    have e1 : o + sz + i * sz = o + (i + 1) * sz := by rw [Nat.add_mul]; omega
    rw [← e1]; exact h3
theorem Rws.drop {sz b : Nat} : ∀ (n : Nat) {l : List (List D)} {o : Nat}, Rws F w sz l b o → Rws F w sz (l.drop n) b (o + n * sz)
  | 0, _, _, h => by simpa using h
  | _ + 1, [], _, h => by rw [List.drop_nil, Rws]; trivial
  | n + 1, _ :: _, o, h => by
    rw [Rws] at h
    have := Rws.drop n h.2
    have e1 : o + sz + n * sz = o + (n + 1) * sz := by rw [Nat.add_mul]; omega
    rw [← e1]; exact this
theorem Rws.take {sz b : Nat} : ∀ (n : Nat) {l : List (List D)} {o : Nat}, Rws F w sz l b o → Rws F w sz (l.take n) b o
  | 0, _, _, h => by rw [List.take_zero, Rws]; trivial
  | _ + 1, [], _, h => by rw [List.take_nil, Rws]; trivial
  | n + 1, _ :: _, o, h => by
    rw [Rws] at h; rw [List.take_succ_cons, Rws]
    exact ⟨h.1, Rws.take n h.2⟩
theorem cells_append {a : Nat} {o : Nat} {vs us : List Value} (h : Cells w ⟨a, o, none⟩ vs) (h' : Cells w ⟨a, o + vs.length, none⟩ us) : Cells w ⟨a, o, none⟩ (vs ++ us) := by
  intro i hi
  rw [add_plain]
  by_cases hlt : i < vs.length
  · have := h i hlt
    rw [add_plain] at this
    rw [this, List.getElem_append_left hlt]
  · have := h' (i - vs.length) (by simp at hi; omega)
    rw [add_plain] at this
    rw [List.getElem_append_right (by omega), ← this]
    congr 2
    omega
theorem Cells.take {a : Addr} {vs : List Value} (n : Nat) (h : Cells w a vs) : Cells w a (vs.take n) := by
  intro i hi
  simp only [List.length_take] at hi
  rw [h i (by omega)]; simp
theorem Cells.drop {b o : Nat} {vs : List Value} (n : Nat) (h : Cells w ⟨b, o, none⟩ vs) : Cells w ⟨b, o + n, none⟩ (vs.drop n) := by
  intro i hi
  simp only [List.length_drop] at hi
  have := h (n + i) (by omega)
  rw [add_plain] at this ⊢
  rw [Nat.add_assoc, this]; simp
theorem Rws.flat {sz b : Nat} : ∀ {l : List (List D)} {o : Nat}, Rws F w sz l b o → ∃ vs, Reps F w l.flatten vs ∧ vs.length = l.length * sz ∧ Cells w ⟨b, o, none⟩ vs
  | [], _, _ => ⟨[], reps_nil, by simp, fun i hi => by simp at hi⟩
  | _ :: _, o, h => by
    rw [Rws] at h
    obtain ⟨⟨vs, h1, h2, h3⟩, h⟩ := h
    obtain ⟨us, h4, h5, h6⟩ := Rws.flat h
    refine ⟨vs ++ us, by rw [List.flatten_cons]; exact h1.append h4, by simp [h2, h5, Nat.add_mul]; omega, cells_append h3 (by rw [h2]; exact h6)⟩
theorem rws_chunk {sz b : Nat} : ∀ (n : Nat) {l : List D} {vs : List Value} {o : Nat}, Reps F w l vs → Cells w ⟨b, o, none⟩ vs → n * sz ≤ vs.length → Rws F w sz (chunk sz n l) b o
  | 0, _, _, _, _, _, _ => by rw [chunk, Rws]; trivial
  | n + 1, l, vs, o, h, hc, hn => by
    rw [Nat.add_mul] at hn
    rw [chunk, Rws]
    refine ⟨⟨vs.take sz, h.take sz, by simp; omega, hc.take sz⟩, rws_chunk n (h.drop sz) (hc.drop sz) (by simp; omega)⟩
theorem chunk_length (sz : Nat) : ∀ (n : Nat) (l : List D), (chunk sz n l).length = n
  | 0, _ => rfl
  | n + 1, l => by rw [chunk, List.length_cons, chunk_length]

variable {L L' L'' : List Bx} {w'' : World} {F'' : Nat → Prop}
theorem Ev.refl (F : Nat → Prop) (L : List Bx) (w : World) : Ev F L w F L w := ⟨rfl, rfl, rfl, Nat.le_refl _, fun _ _ _ => rfl, fun _ h => h, fun _ _ h => .inl h, fun x hx _ => ⟨x, hx, rfl⟩, Nat.le_refl _⟩
theorem Ev.trans (h : Ev F L w F' L' w') (h' : Ev F' L' w' F'' L'' w'') : Ev F L w F'' L'' w'' := by
  refine ⟨h'.os.trans h.os, h'.tape.trans h.tape, h'.output.trans h.output, Nat.le_trans h.size h'.size, fun k hk hn => ?_, fun k hk => h'.grow k (h.grow k hk), fun k hk hf => ?_, fun x hx hl => ?_, Nat.le_trans h.drawn h'.drawn⟩
  · rw [h'.block k (Nat.lt_of_lt_of_le hk h.size) ?_, h.block k hk hn]
    intro x hx he
    obtain ⟨y, hy, hye⟩ := h.own x hx (by rw [he]; exact hk)
    exact hn y hy (hye.trans he)
  · rcases h'.old k (Nat.lt_of_lt_of_le hk h.size) hf with hf | ⟨x, hx, he⟩
    · exact h.old k hk hf
    · obtain ⟨y, hy, hye⟩ := h.own x hx (by rw [he]; exact hk)
      exact .inr ⟨y, hy, hye.trans he⟩
  · obtain ⟨y, hy, hye⟩ := h'.own x hx (Nat.lt_of_lt_of_le hl h.size)
    obtain ⟨z, hz, hze⟩ := h.own y hy (by rw [hye]; exact hl)
    exact ⟨z, hz, hze.trans hye⟩
theorem Ev.cells (h : Ev F L w F' L' w') {b o : Nat} {vs : List Value} (hb : b < w.heap.size) (hn : ∀ x ∈ L, x.b ≠ b) (hc : Cells w ⟨b, o, none⟩ vs) : Cells w' ⟨b, o, none⟩ vs := by
  intro i hi
  have := hc i hi
  rw [add_plain] at this ⊢
  unfold World.cell? at this ⊢
  simp only at this ⊢
  rw [h.block b hb hn]; exact this
structure Keeps (F : Nat → Prop) (w : World) (F' : Nat → Prop) (w' : World) : Prop where
  size : w.heap.size ≤ w'.heap.size
  grow : ∀ k, k < w.heap.size → F k → F' k
  block : ∀ k, k < w.heap.size → F k → w'.heap[k]? = w.heap[k]?
theorem Keeps.cells (h : Keeps F w F' w') {b o : Nat} {vs : List Value} (hb : b < w.heap.size) (hf : F b) (hc : Cells w ⟨b, o, none⟩ vs) : Cells w' ⟨b, o, none⟩ vs := by
  intro i hi
  have := hc i hi
  rw [add_plain] at this ⊢
  unfold World.cell? at this ⊢
  simp only at this ⊢
  rw [h.block b hb hf]; exact this
mutual
theorem Rep.keep (x : Keeps F w F' w') : ∀ (d : D) (v : Value), Rep F w d v → Rep F' w' d v
  | .val v, u, h => by rw [Rep] at h ⊢; exact h
  | .agg l, u, h => by
    rw [Rep] at h ⊢
    obtain ⟨vs, rfl, h⟩ := h
    exact ⟨vs, rfl, Reps.keep x l vs h⟩
  | .tuple l, u, h => by
    rw [Rep] at h ⊢
    obtain ⟨vs, rfl, h⟩ := h
    exact ⟨vs, rfl, Reps.keep x l vs h⟩
  | .row sz l, u, h => by
    rw [Rep] at h ⊢
    obtain ⟨p, c, rfl, hc, h | ⟨b, o, rfl, hf, hb, h⟩⟩ := h
    · exact ⟨p, c, rfl, hc, .inl h⟩
    · exact ⟨_, c, rfl, hc, .inr ⟨b, o, rfl, x.grow b hb hf, Nat.lt_of_lt_of_le hb x.size, Rws.keep x sz l b o hf hb h⟩⟩
  | .pin l, u, h => by
    rw [Rep] at h ⊢
    obtain ⟨b, o, vs, rfl, hf, hb, h, hc⟩ := h
    exact ⟨b, o, vs, rfl, x.grow b hb hf, Nat.lt_of_lt_of_le hb x.size, Reps.keep x l vs h, x.cells hb hf hc⟩
  | .fn f a c, u, h => by
    rw [Rep] at h ⊢
    obtain ⟨as, cs, rfl, h1, h2⟩ := h
    exact ⟨as, cs, rfl, Reps.keep x a as h1, Reps.keep x c cs h2⟩
  | .ifc t d, u, h => by
    rw [Rep] at h ⊢
    obtain ⟨v, rfl, h⟩ := h
    exact ⟨v, rfl, Rep.keep x d v h⟩
  | .top, u, h => by rw [Rep]; trivial
theorem Reps.keep (x : Keeps F w F' w') : ∀ (l : List D) (vs : List Value), Reps F w l vs → Reps F' w' l vs
  | [], vs, h => by rw [Reps] at h ⊢; exact h
  | d :: l, vs, h => by
    rw [Reps] at h ⊢
    obtain ⟨v, r, rfl, h1, h2⟩ := h
    exact ⟨v, r, rfl, Rep.keep x d v h1, Reps.keep x l r h2⟩
theorem Rws.keep (x : Keeps F w F' w') (sz : Nat) : ∀ (l : List (List D)) (b o : Nat), F b → b < w.heap.size → Rws F w sz l b o → Rws F' w' sz l b o
  | [], _, _, _, _, _ => by rw [Rws]; trivial
  | d :: l, b, o, hf, hb, h => by
    rw [Rws] at h ⊢
    obtain ⟨⟨vs, h1, h2, h3⟩, h4⟩ := h
    exact ⟨⟨vs, Reps.keep x d vs h1, h2, x.cells hb hf h3⟩, Rws.keep x sz l b (o + sz) hf hb h4⟩
end
mutual
theorem Rep.small : ∀ (d : D) (v : Value), Rep F w d v → Small d
  | .val v, u, h => by rw [Rep] at h; rw [Small]; exact h.2
  | .agg l, u, h => by rw [Rep] at h; obtain ⟨vs, rfl, h⟩ := h; rw [Small]; exact Reps.small l vs h
  | .tuple l, u, h => by rw [Rep] at h; obtain ⟨vs, rfl, h⟩ := h; rw [Small]; exact Reps.small l vs h
  | .row sz l, u, h => by
    rw [Rep] at h; rw [Small]
    obtain ⟨p, c, rfl, hc, h⟩ := h
    refine ⟨Nat.le_trans hc.1 hc.2, ?_⟩
    rcases h with rfl | ⟨b, o, rfl, hf, hb, h⟩
    · rw [Smallr]; trivial
    · exact Rws.small sz l b o h
  | .pin l, u, h => by rw [Rep] at h; obtain ⟨b, o, vs, rfl, hf, hb, h, hc⟩ := h; rw [Small]; exact Reps.small l vs h
  | .fn f a c, u, h => by rw [Rep] at h; obtain ⟨as, cs, rfl, h1, h2⟩ := h; rw [Small]; exact ⟨Reps.small a as h1, Reps.small c cs h2⟩
  | .ifc t d, u, h => by rw [Rep] at h; obtain ⟨v, rfl, h⟩ := h; rw [Small]; exact Rep.small d v h
  | .top, u, h => by rw [Small]; trivial
theorem Reps.small : ∀ (l : List D) (vs : List Value), Reps F w l vs → Smalls l
  | [], vs, h => by rw [Smalls]; trivial
  | d :: l, vs, h => by
    rw [Reps] at h; obtain ⟨v, r, rfl, h1, h2⟩ := h; rw [Smalls]
    exact ⟨Rep.small d v h1, Reps.small l r h2⟩
theorem Rws.small (sz : Nat) : ∀ (l : List (List D)) (b o : Nat), Rws F w sz l b o → Smallr l
  | [], _, _, _ => by rw [Smallr]; trivial
  | d :: l, b, o, h => by
    rw [Rws] at h; obtain ⟨⟨vs, h1, h2, h3⟩, h4⟩ := h; rw [Smallr]
    exact ⟨Reps.small d vs h1, Rws.small sz l b (o + sz) h4⟩
end
theorem AW.ne (a : AW F L w) {b : Nat} (hf : F b) : ∀ x ∈ L, x.b ≠ b := fun x hx he => a.sep x hx (he ▸ hf)
theorem Ev.keeps (h : Ev F L w F' L' w') (a : AW F L w) : Keeps F w F' w' := ⟨h.size, fun k _ hk => h.grow k hk, fun k hk hf => h.block k hk (a.ne hf)⟩
theorem Rep.ev {d : D} {v : Value} (r : Rep F w d v) (h : Ev F L w F' L' w') (a : AW F L w) : Rep F' w' d v := Rep.keep (h.keeps a) d v r
theorem Reps.ev {l : List D} {v : List Value} (r : Reps F w l v) (h : Ev F L w F' L' w') (a : AW F L w) : Reps F' w' l v := Reps.keep (h.keeps a) l v r

theorem BxOk.lt {x : Bx} (h : BxOk F w x) : x.b < w.heap.size := by
  rcases h with ⟨⟨es, ces, clock, _, _, h, _⟩ | ⟨c, t, vs, h, _⟩⟩
  · exact (Array.getElem?_eq_some_iff.1 h).1
  · exact (Array.getElem?_eq_some_iff.1 h).1
theorem MReps.map (k : ∀ d v, Rep F w d v → Rep F' w' d v) : ∀ {es : List (Value × D)} {l : List MapEntry}, MReps F w es l → MReps F' w' es l
  | [], _, h => h
  | (_, d) :: _, _, ⟨e, s, h1, h2, h3, h4⟩ => ⟨e, s, h1, h2, k _ _ h3, MReps.map k h4⟩
theorem MReps.keep (k : Keeps F w F' w') {es : List (Value × D)} {l : List MapEntry} (h : MReps F w es l) : MReps F' w' es l := h.map fun d v => Rep.keep k d v
theorem BxOk.keep {x : Bx} (h : BxOk F w x) (k : Keeps F w F' w') (e : w'.heap[x.b]? = w.heap[x.b]?) : BxOk F' w' x := by
  rcases h with ⟨⟨es, ces, clock, h0, h1, h2, h3, h4⟩ | ⟨c, t, vs, h1, h2, h3⟩⟩
  · exact ⟨.inl ⟨es, ces, clock, h0, h1, by rw [e]; exact h2, h3.keep k, h4⟩⟩
  · exact ⟨.inr ⟨c, t, vs, by rw [e]; exact h1, Reps.keep k _ _ h2, h3⟩⟩
theorem BxOk.row {x : Bx} (h : BxOk F w x) (hk : ∀ es, x.k ≠ .map es) : ∃ c t vs, w.heap[x.b]? = some (.cells c t (0, 0)) ∧ Reps F w x.l vs ∧ vs = c.toList.take x.l.length ∧ KdOk t c x.l.length x.k := by
  rcases h.has with ⟨es, _, _, h0, _⟩ | h
  · exact absurd h0 (hk es)
  · exact h
theorem BxOk.full {x : Bx} (h : BxOk F w x) (hl : 0 < x.l.length) : ∃ c t vs, w.heap[x.b]? = some (.cells c t (0, 0)) ∧ Reps F w x.l vs ∧ vs = c.toList.take x.l.length ∧ KdOk t c x.l.length x.k := by
  rcases h.has with ⟨es, _, _, _, h0, _⟩ | h
  · rw [h0] at hl; exact absurd hl (Nat.lt_irrefl 0)
  · exact h
theorem AW.at (a : AW F L w) {i : Nat} {x : Bx} (h : L[i]? = some x) : BxOk F w x := a.own x (List.mem_of_getElem? h)
theorem cells_of {b : Nat} {c : Array Value} {t : TypeId} (h : w.heap[b]? = some (.cells c t (0, 0))) (o n : Nat) : Cells w ⟨b, o, none⟩ ((c.toList.drop o).take n) := by
  intro i hi
  simp only [List.length_take, List.length_drop] at hi
  have h1 : o + i < c.toList.length := by omega
  rw [add_plain]
  simp only [World.cell?, h, List.getElem_take, List.getElem_drop]
  simp
theorem BxOk.cells {x : Bx} (h : BxOk F w x) (o n : Nat) (hn : o + n ≤ x.l.length) : ∃ vs, Reps F w ((x.l.drop o).take n) vs ∧ vs.length = n ∧ Cells w ⟨x.b, o, none⟩ vs := by
  rcases Nat.eq_zero_or_pos x.l.length with hz | hz
  · have : n = 0 := by omega
    subst this
    exact ⟨[], by rw [List.take_zero]; exact reps_nil, rfl, fun i hi => by simp at hi⟩
  obtain ⟨c, t, vs, h1, h2, h3, _⟩ := h.full hz
  refine ⟨(vs.drop o).take n, (h2.drop o).take n, by have := h2.length; simp; omega, ?_⟩
  have e : (vs.drop o).take n = (c.toList.drop o).take n := by
    rw [h3, List.drop_take, List.take_take]
    congr 1
    omega
  rw [e]
  exact cells_of h1 o n
theorem BxOk.cell {x : Bx} (h : BxOk F w x) {o : Nat} {d : D} (hd : x.l[o]? = some d) : ∃ v, w.cell? ⟨x.b, o, none⟩ = some v ∧ Rep F w d v := by
  obtain ⟨c, t, vs, h1, h2, h3, _⟩ := h.full (by have := (List.getElem?_eq_some_iff.1 hd).1; omega)
  obtain ⟨v, hv, hr⟩ := h2.get hd
  refine ⟨v, ?_, hr⟩
  rw [h3, List.getElem?_take] at hv
  split at hv
  · simp only [World.cell?, h1]
    simpa using hv
  · cases hv
theorem AW.push (a : AW F L w) {l : List D} {vs : List Value} {t : TypeId} {kd : Kd} (h : Reps F w l vs) (us : List Value) (hk : KdOk t (vs ++ us).toArray l.length kd) :
    AW F (⟨w.heap.size, l, kd⟩ :: L) (w.alloc (.cells (vs ++ us).toArray t)) ∧ Ev F L w F (⟨w.heap.size, l, kd⟩ :: L) (w.alloc (.cells (vs ++ us).toArray t)) := by
  have old : ∀ k, k < w.heap.size → (w.alloc (.cells (vs ++ us).toArray t)).heap[k]? = w.heap[k]? := fun k hk => by
    show (w.heap.push _)[k]? = _
    rw [Array.getElem?_push, if_neg (Nat.ne_of_lt hk)]
  have ks : Keeps F w F (w.alloc (.cells (vs ++ us).toArray t)) := ⟨by simp, fun _ _ h => h, fun k hk _ => old k hk⟩
  refine ⟨⟨?_, ?_, ?_, ?_⟩, ⟨rfl, rfl, rfl, by simp, fun k hk _ => old k hk, fun _ h => h, fun _ _ h => .inl h, ?_, Nat.le_refl _⟩⟩
  · intro x hx
    rcases List.mem_cons.1 hx with rfl | hx
    · refine ⟨.inr ⟨_, t, vs, ?_, Reps.keep ks _ _ h, ?_, hk⟩⟩
      · show (w.heap.push _)[w.heap.size]? = _
        rw [Array.getElem?_push, if_pos rfl]
      · have := h.length; simp [← this]
    · exact (a.own x hx).keep ks (old _ (a.own x hx).lt)
  · simp only [List.map_cons, List.nodup_cons]
    refine ⟨fun hh => ?_, a.nodup⟩
    obtain ⟨x, hx, he⟩ := List.mem_map.1 hh
    have := (a.own x hx).lt
    omega
  · intro x hx hf
    rcases List.mem_cons.1 hx with rfl | hx
    · exact absurd (a.lt _ hf) (by simp)
    · exact a.sep x hx hf
  · intro b hb
    exact Nat.lt_of_lt_of_le (a.lt b hb) (by simp)
  · intro x hx hl
    rcases List.mem_cons.1 hx with rfl | hx
    · exact absurd hl (by simp)
    · exact ⟨x, hx, rfl⟩
theorem AW.lay (a : AW F L w) (o : Obj) :
    AW (fun b => F b ∨ b = w.heap.size) L (w.alloc o) ∧ Ev F L w (fun b => F b ∨ b = w.heap.size) L (w.alloc o) := by
  have old : ∀ k, k < w.heap.size → (w.alloc o).heap[k]? = w.heap[k]? := fun k hk => by
    show (w.heap.push _)[k]? = _
    rw [Array.getElem?_push, if_neg (Nat.ne_of_lt hk)]
  have ks : Keeps F w (fun b => F b ∨ b = w.heap.size) (w.alloc o) := ⟨by simp, fun _ _ h => .inl h, fun k hk _ => old k hk⟩
  refine ⟨⟨?_, a.nodup, ?_, ?_⟩, ⟨rfl, rfl, rfl, by simp, fun k hk _ => old k hk, fun _ h => .inl h, fun k hk h => h.elim .inl fun h => absurd hk (by omega), fun x hx _ => ⟨x, hx, rfl⟩, Nat.le_refl _⟩⟩
  · intro x hx
    exact (a.own x hx).keep ks (old _ (a.own x hx).lt)
  · rintro x hx (hf | hf)
    · exact a.sep x hx hf
    · have := (a.own x hx).lt; omega
  · rintro b (hb | hb)
    · exact Nat.lt_of_lt_of_le (a.lt b hb) (by simp)
    · simp [hb]
theorem AW.swap (a : AW F L w) {i : Nat} {x y : Bx} (hi : L[i]? = some x) (hs : w.heap.size ≤ w'.heap.size) (ho : w'.os = w.os ∧ w'.tape = w.tape ∧ w'.output = w.output ∧ w.drawn ≤ w'.drawn) (hb : ∀ k, k < w.heap.size → k ≠ x.b → w'.heap[k]? = w.heap[k]?)
    (hy : y.b = x.b ∨ w.heap.size ≤ y.b) (oy : BxOk F w' y) : AW F (L.set i y) w' ∧ Ev F L w F (L.set i y) w' := by
  have ks : Keeps F w F w' := ⟨hs, fun _ _ h => h, fun k hk hf => hb k hk fun e => a.sep x (List.mem_of_getElem? hi) (e ▸ hf)⟩
  have hil : i < L.length := (List.getElem?_eq_some_iff.1 hi).1
  have hiv : L[i] = x := (List.getElem?_eq_some_iff.1 hi).2
  have hxm : x ∈ L := List.mem_of_getElem? hi
  have hxl := (a.own x hxm).lt
  have nd := a.nodup
  have apart : ∀ j (hj : j < L.length), j ≠ i → L[j].b ≠ x.b := by
    intro j hj hji e
    have e1 : (L.map Bx.b)[j]'(by simpa using hj) = (L.map Bx.b)[i]'(by simpa using hil) := by simp [hiv, e]
    exact hji ((List.getElem_inj nd).1 e1)
  refine ⟨⟨?_, ?_, ?_, fun b h => Nat.lt_of_lt_of_le (a.lt b h) hs⟩, ⟨ho.1, ho.2.1, ho.2.2.1, hs, fun k hk hn => hb k hk fun e => hn x hxm e.symm, fun _ h => h, fun _ _ h => .inl h, ?_, ho.2.2.2⟩⟩
  · intro z hz
    obtain ⟨j, hj, rfl⟩ := List.mem_iff_getElem.1 hz
    have hj' : j < L.length := by simpa using hj
    rw [List.getElem_set]
    split
    · exact oy
    · next h =>
      exact (a.own _ (List.getElem_mem hj')).keep ks (hb _ (a.own _ (List.getElem_mem hj')).lt (apart j hj' fun e => h e.symm))
  · rw [List.map_set]
    have key : ∀ j (hj : j < L.length), j ≠ i → L[j].b ≠ y.b := by
      intro j hj hji e
      rcases hy with hy | hy
      · exact apart j hj hji (e.trans hy)
      · have := (a.own _ (List.getElem_mem hj)).lt; omega
    unfold List.Nodup at nd ⊢
    rw [List.pairwise_iff_getElem] at nd ⊢
    intro p q hp hq hpq
    simp only [List.length_set, List.length_map] at hp hq
    rw [List.getElem_set, List.getElem_set]
    have := nd p q (by simpa using hp) (by simpa using hq) hpq
    simp only [List.getElem_map] at this ⊢
    by_cases hp' : i = p
    · subst hp'
      rw [if_pos rfl, if_neg (by omega)]
      exact fun e => key q hq (by omega) e.symm
    · rw [if_neg hp']
      by_cases hq' : i = q
      · subst hq'
        rw [if_pos rfl]
        exact fun e => key p hp (by omega) e
      · rw [if_neg hq']; exact this
  · intro z hz hf
    obtain ⟨j, hj, rfl⟩ := List.mem_iff_getElem.1 hz
    rw [List.getElem_set] at hf
    split at hf
    · rcases hy with hy | hy
      · rw [hy] at hf; exact a.sep x hxm hf
      · have := a.lt _ hf; omega
    · exact a.sep _ (List.getElem_mem _) hf
  · intro z hz hl
    obtain ⟨j, hj, rfl⟩ := List.mem_iff_getElem.1 hz
    rw [List.getElem_set] at hl ⊢
    split
    · next h =>
      rw [if_pos h] at hl
      rcases hy with hy | hy
      · exact ⟨x, hxm, hy.symm⟩
      · omega
    · exact ⟨_, List.getElem_mem _, rfl⟩
end
end Go.V
set_option linter.unusedVariables false
namespace Go.V
open Go

def M1 (X : Value → (Value → Prop) → Prop) : Prop := ∀ v k k', Okv v → (∀ r, Okv r → k r → k' r) → X v k → X v k'
def M2 (X : Value → Value → (Value → Prop) → Prop) : Prop := ∀ v u k k', Okv v → Okv u → (∀ r, Okv r → k r → k' r) → X v u k → X v u k'
theorem wrap_rng (a : IntKind) (n : Int) : -(loN a : Int) ≤ a.wrap n ∧ a.wrap n ≤ hiN a := by
  unfold IntKind.wrap
  cases a <;> simp [IntKind.bits, IntKind.signed, loN, hiN] <;> first
    | omega
    | (split <;> omega)
theorem okv_wrap (a : IntKind) (n : Int) : Okv (.int a (a.wrap n)) := wrap_rng a n
theorem okv_tmod {a : IntKind} {m : Int} (n : Int) (h : Okv (.int a m)) : Okv (.int a (m.tmod n)) := by
  have h : -(loN a : Int) ≤ m ∧ m ≤ hiN a := h
  show -(loN a : Int) ≤ m.tmod n ∧ m.tmod n ≤ hiN a
  have h1 : (m.tmod n).natAbs ≤ m.natAbs := by rw [Int.natAbs_tmod]; exact Nat.mod_le _ _
  rcases Int.le_total 0 m with h0 | h0
  · have := Int.tmod_nonneg n h0
    omega
  · have h2 : 0 ≤ (-m).tmod n := Int.tmod_nonneg n (by omega)
    rw [Int.neg_tmod] at h2
    omega
theorem okv_shr {a : IntKind} {m : Int} (s : Nat) (h : Okv (.int a m)) : Okv (.int a (m.fdiv (2 ^ s))) := by
  have h : -(loN a : Int) ≤ m ∧ m ≤ hiN a := h
  show -(loN a : Int) ≤ m.fdiv (2 ^ s) ∧ m.fdiv (2 ^ s) ≤ hiN a
  have hp : (0 : Int) < 2 ^ s := Int.pow_pos (by decide)
  rw [Int.fdiv_eq_ediv_of_nonneg _ (by omega)]
  have hl : (loN a : Int) ≥ 0 := by omega
  rcases Int.le_total 0 m with h0 | h0
  · have h1 := Int.ediv_nonneg h0 (Int.le_of_lt hp)
    have h2 := Int.ediv_le_self (2 ^ s) h0
    omega
  · have h1 : m ≤ m / 2 ^ s := (Int.le_ediv_iff_mul_le hp).2 (by
      have := Int.mul_le_mul_of_nonneg_left (a := 1) (b := 2 ^ s) (c := -m) (by omega) (by omega)
      rw [Int.mul_one, Int.neg_mul] at this
      omega)
    have h2 : m / 2 ^ s ≤ 0 := Int.ediv_nonpos_of_nonpos_of_neg h0 hp
    omega
theorem okv_bits (q : BinOp) (a : IntKind) (m n : Int) : Okv (.int a (bitsI q a m n)) := by
  unfold bitsI
  split <;> exact okv_wrap a _
theorem m_notb : M1 notb := fun v k k' _ hk h => by
  unfold notb at h ⊢
  split at h
  · exact hk _ trivial h
  · exact h.elim
theorem m_neg : M1 neg := fun v k k' _ hk h => by
  unfold neg at h ⊢
  split at h
  · exact hk _ (okv_wrap _ _) h
  · exact h.elim
theorem m_cvI (a : IntKind) : M1 (cvI a) := fun v k k' _ hk h => by
  unfold cvI at h ⊢
  split at h
  · exact hk _ (okv_wrap _ _) h
  · exact h.elim
theorem m_lenS : M1 lenS := fun v k k' hv hk h => by
  unfold lenS at h ⊢
  split at h
  · refine hk _ ?_ h
    simp only [Okv, loN, hiN] at hv ⊢
    omega
  · exact h.elim
theorem m_lenL : M1 lenL := fun v k k' hv hk h => by
  unfold lenL at h ⊢
  split at h
  · refine hk _ ?_ h
    simp only [Okv, loN, hiN] at hv ⊢
    omega
  · exact h.elim
theorem m_max2 : M2 max2 := fun v u k k' hv hu hk h => by
  unfold max2 at h ⊢
  split at h
  · obtain ⟨rfl, h⟩ := h
    refine ⟨rfl, hk _ ?_ h⟩
    split
    · exact hu
    · exact hv
  · exact h.elim
theorem amax3_ok {F : Nat → Prop} {w : World} {x y z : D} {v u t : Value} {k : D → Prop} {kc : Value → Prop} (h : amax3 x y z k) (hx : Rep F w x v) (hy : Rep F w y u) (hz : Rep F w z t) (hk : ∀ d r, k d → Rep F w d r → kc r) : max3 v u t kc := by
  unfold amax3 at h
  split at h
  · rw [Rep] at hx hy hz
    obtain ⟨rfl, ho⟩ := hx
    obtain ⟨rfl, ho'⟩ := hy
    obtain ⟨rfl, ho''⟩ := hz
    unfold max3 at h ⊢
    split at h
    · rename_i a m b n c o
      obtain ⟨rfl, rfl, h⟩ := h
      have h1 : Okv (Value.int a (if n > m then n else m)) := by
        split
        · exact ho'
        · exact ho
      generalize (if n > m then n else m) = y at h h1 ⊢
      refine ⟨rfl, rfl, hk _ _ h ?_⟩
      rw [Rep]
      refine ⟨rfl, ?_⟩
      split
      · exact ho''
      · exact h1
    · exact h.elim
  · exact h.elim
theorem m_min2 : M2 min2 := fun v u k k' hv hu hk h => by
  unfold min2 at h ⊢
  split at h
  · obtain ⟨rfl, h⟩ := h
    refine ⟨rfl, hk _ ?_ h⟩
    split
    · exact hu
    · exact hv
  · exact h.elim
theorem m_ar (op : BinOp) : M2 (ar op) := fun v u k k' hv hu hk h => by
  unfold ar at h ⊢
  split at h
  · cases op <;> simp only at h ⊢ <;> first
      | exact ⟨h.1, hk _ trivial h.2⟩
      | exact ⟨h.1, hk _ (okv_wrap _ _) h.2⟩
      | exact ⟨h.1, hk _ (okv_bits _ _ _ _) h.2⟩
      | exact ⟨h.1, h.2.1, hk _ (okv_wrap _ _) h.2.2⟩
      | exact ⟨h.1, h.2.1, hk _ (okv_tmod _ hv) h.2.2⟩
      | exact ⟨h.1, hk _ (okv_shr _ hv) h.2⟩
  · cases op <;> simp only at h ⊢ <;> first | exact h.elim | exact hk _ trivial h | skip
    refine ⟨h.1, hk _ ?_ h.2⟩
    simp only [Okv, ByteArray.size_append]
    exact h.1
  · exact h.elim
theorem m_arF (op : BinOp) : M2 (arF op) := fun v u k k' hv hu hk h => by
  unfold arF at h ⊢
  split at h
  · obtain ⟨h1, h2⟩ := h
    refine ⟨h1, ?_⟩
    cases op <;> simp only at h2 ⊢ <;> first | exact h2.elim | exact hk _ trivial h2 | (obtain ⟨r, h3, h4⟩ := h2; exact ⟨r, h3, hk _ trivial h4⟩)
  · exact h.elim
theorem m_eqP (op : BinOp) : M2 (eqP op) := fun v u k k' hv hu hk h => by
  unfold eqP at h ⊢
  split at h
  · cases op <;> simp only at h ⊢ <;> first | exact h.elim | exact hk _ trivial h
  · exact h.elim
theorem m_arB (op : BinOp) : M2 (arB op) := fun v u k k' hv hu hk h => by
  unfold arB at h ⊢
  split at h
  · cases op <;> simp only at h ⊢ <;> first | exact h.elim | exact hk _ trivial h
  · exact h.elim
theorem m_eqS (op : BinOp) : M2 (eqS op) := fun v u k k' hv hu hk h => by
  unfold eqS at h ⊢
  split at h
  · cases op <;> simp only at h ⊢ <;> first | exact h.elim | exact hk _ trivial h
  · exact h.elim
theorem m_eqI (op : BinOp) : M2 (eqI op) := fun v u k k' hv hu hk h => by
  unfold eqI at h ⊢
  split at h
  · cases op <;> simp only at h ⊢ <;> first | exact h.elim | exact hk _ trivial h
  · cases op <;> simp only at h ⊢ <;> first | exact h.elim | exact hk _ trivial h
  · exact h.elim
theorem m_idxStr : M2 idxStr := fun v u k k' hv hu hk h => by
  unfold idxStr at h ⊢
  split at h
  · obtain ⟨h1, c, h2, h3⟩ := h
    refine ⟨h1, c, h2, hk _ ?_ h3⟩
    have := UInt8.toNat_lt c
    simp only [Okv, loN, hiN]
    omega
  · exact h.elim
theorem m_idxS (sz : Nat) : M2 (idxS sz) := fun v u k k' hv hu hk h => by
  unfold idxS at h ⊢
  split at h
  · exact ⟨h.1, h.2.1, hk _ trivial h.2.2⟩
  · exact h.elim
theorem m_idxP (n sz : Nat) : M2 (idxP n sz) := fun v u k k' hv hu hk h => by
  unfold idxP at h ⊢
  split at h
  · exact ⟨h.1, h.2.1, hk _ trivial h.2.2⟩
  · exact h.elim
theorem m_slcS (lo hi : Option Value) : M1 (slcS · lo hi) := fun v k k' hv hk h => by
  unfold slcS at h ⊢
  simp only at h ⊢
  split at h
  · rename_i s
    obtain ⟨l, q, h1, h2, h3, h4⟩ := h
    refine ⟨l, q, h1, h2, h3, hk _ ?_ h4⟩
    simp only [Okv, ByteArray.size_extract] at hv ⊢
    omega
  · exact h.elim
theorem m_slcM (sz : Nat) (lo hi mx : Option Value) : M1 (slcM sz · lo hi mx) := fun v k k' hv hk h => by
  unfold slcM at h ⊢
  simp only at h ⊢
  split at h
  · rename_i a n c km qm
    obtain ⟨l, q, m, h1, h2, h3, h4, h5, h6⟩ := h
    refine ⟨l, q, m, h1, h2, h3, h4, h5, hk _ ?_ h6⟩
    simp only [Okv] at hv ⊢
    have : q ≤ m := by
      split at h3
      · exact h3.elim
      · obtain ⟨_, _, h⟩ := h3; exact h
    omega
  · exact h.elim
theorem m_slcL (sz : Nat) (lo hi : Option Value) : M1 (slcL sz · lo hi) := fun v k k' hv hk h => by
  unfold slcL at h ⊢
  simp only at h ⊢
  split at h
  · rename_i a n c
    obtain ⟨l, q, h1, h2, h3, h4⟩ := h
    refine ⟨l, q, h1, h2, h3, hk _ ?_ h4⟩
    simp only [Okv] at hv ⊢
    have : q ≤ c := by
      split at h1
      · rw [h1]; exact hv.1
      · obtain ⟨_, _, h⟩ := h1; exact h
    omega
  · exact h.elim

section
variable {F : Nat → Prop} {w : World} {L : List Bx}
theorem u1_ok {X : Value → (Value → Prop) → Prop} (m : M1 X) {x : D} {v : Value} {k : D → Prop} {kc : Value → Prop} (h : u1 X x k) (hx : Rep F w x v) (hk : ∀ d r, k d → Rep F w d r → kc r) : X v kc := by
  unfold u1 at h
  split at h
  · rw [Rep] at hx
    obtain ⟨rfl, ho⟩ := hx
    exact m _ _ _ ho (fun r hr hk' => hk _ r hk' (by rw [Rep]; exact ⟨rfl, hr⟩)) h
  · exact h.elim
theorem u2_ok {X : Value → Value → (Value → Prop) → Prop} (m : M2 X) {x y : D} {v u : Value} {k : D → Prop} {kc : Value → Prop} (h : u2 X x y k) (hx : Rep F w x v) (hy : Rep F w y u) (hk : ∀ d r, k d → Rep F w d r → kc r) : X v u kc := by
  unfold u2 at h
  split at h
  · rw [Rep] at hx hy
    obtain ⟨rfl, ho⟩ := hx
    obtain ⟨rfl, ho'⟩ := hy
    exact m _ _ _ _ ho ho' (fun r hr hk' => hk _ r hk' (by rw [Rep]; exact ⟨rfl, hr⟩)) h
  · exact h.elim
theorem rep_val {v : Value} (h : Okv v) : Rep F w (.val v) v := by rw [Rep]; exact ⟨rfl, h⟩
theorem rep_val_iff {v u : Value} : Rep F w (.val v) u ↔ u = v ∧ Okv v := by rw [Rep]

theorem apick_ok {c a b : D} {vc va vb : Value} {k : D → Prop} {kc : Value → Prop} (h : apick c a b k) (hc : Rep F w c vc) (ha : Rep F w a va) (hb : Rep F w b vb) (hk : ∀ d r, k d → Rep F w d r → kc r) : pick vc va vb kc := by
  unfold apick at h
  split at h
  · rename_i t
    obtain ⟨rfl, _⟩ := rep_val_iff.1 hc
    cases t
    · exact hk _ _ h hb
    · exact hk _ _ h ha
  · exact h.elim
theorem aldN_ok {n : Nat} {p : D} {v : Value} {k : D → Prop} {kc : Value → Prop} (h : aldN n p L k) (a : AW F L w) (hp : Rep F w p v) (hk : ∀ d r, k d → Rep F w d r → kc r) : ldN n v w kc := by
  unfold aldN at h
  split at h
  · rename_i b o
    obtain ⟨rfl, _⟩ := rep_val_iff.1 hp
    obtain ⟨i, l, kd, m, hi, hm, hn, hk'⟩ := h
    have hle : o + n ≤ l.length ∨ n = 0 := by
      have := congrArg List.length hm
      simp at this
      omega
    rcases hle with hle | rfl
    · obtain ⟨vs, h1, h2, h3⟩ := (a.at hi).cells o n hle
      simp only at h1 h3
      rw [hm] at h1
      exact ⟨vs, h2, h3, hk _ _ hk' (by rw [Rep]; exact ⟨vs, rfl, h1⟩)⟩
    · refine ⟨[], rfl, fun i hi => by simp at hi, hk _ _ hk' ?_⟩
      rw [Rep]
      refine ⟨[], rfl, ?_⟩
      rw [List.take_zero] at hm
      rw [← hm]; exact reps_nil
  · rename_i l
    obtain ⟨m, hm, hn, hk'⟩ := h
    rw [Rep] at hp
    obtain ⟨b, o, vs, rfl, hf, hb, hr, hc⟩ := hp
    have hr' := hr.take n
    rw [hm] at hr'
    exact ⟨vs.take n, by rw [hr'.length]; exact hn, hc.take n, hk _ _ hk' (by rw [Rep]; exact ⟨_, rfl, hr'⟩)⟩
  · exact h.elim
theorem ald1_ok {p : D} {v : Value} {k : D → Prop} {kc : Value → Prop} (h : ald1 p L k) (a : AW F L w) (hp : Rep F w p v) (hk : ∀ d r, k d → Rep F w d r → kc r) : ld1 v w kc := by
  unfold ald1 at h
  split at h
  · rename_i b o
    obtain ⟨rfl, _⟩ := rep_val_iff.1 hp
    obtain ⟨i, l, kd, d, hi, hd, hk'⟩ := h
    obtain ⟨v, h1, h2⟩ := (a.at hi).cell hd
    exact ⟨v, h1, hk _ _ hk' h2⟩
  · rename_i d l
    rw [Rep] at hp
    obtain ⟨b, o, vs, rfl, hf, hb, hr, hc⟩ := hp
    rw [Reps] at hr
    obtain ⟨v, r, rfl, h1, h2⟩ := hr
    refine ⟨v, ?_, hk _ _ h h1⟩
    have := hc 0 (by simp)
    rw [add_plain] at this
    simpa using this
  · exact h.elim
theorem anilc_ok {p : D} {v : Value} {k : D → Prop} {kc : Value → Prop} (h : anilc p k) (hp : Rep F w p v) (hk : ∀ d r, k d → Rep F w d r → kc r) : nilc v kc := by
  unfold anilc at h
  split at h
  · have hp' := hp
    obtain ⟨rfl, _⟩ := rep_val_iff.1 hp
    exact hk _ _ h hp'
  · have hp' := hp
    rw [Rep] at hp
    obtain ⟨b, o, vs, rfl, _⟩ := hp
    exact hk _ _ h hp'
  · exact h.elim
theorem rep_pin_drop {l : List D} {b o : Nat} {vs : List Value} (n : Nat) (hf : F b) (hb : b < w.heap.size) (hr : Reps F w l vs) (hc : Cells w ⟨b, o, none⟩ vs) : Rep F w (.pin (l.drop n)) (.pointer (some ⟨b, o + n, none⟩)) := by
  rw [Rep]
  exact ⟨b, o + n, vs.drop n, rfl, hf, hb, hr.drop n, hc.drop n⟩
theorem afld_ok {f : Nat} {p : D} {v : Value} {k : D → Prop} {kc : Value → Prop} (h : afld f p k) (hp : Rep F w p v) (hk : ∀ d r, k d → Rep F w d r → kc r) : fld f v kc := by
  unfold afld at h
  split at h
  · obtain ⟨rfl, _⟩ := rep_val_iff.1 hp
    exact hk _ _ h (rep_val trivial)
  · rw [Rep] at hp
    obtain ⟨b, o, vs, rfl, hf, hb, hr, hc⟩ := hp
    exact hk _ _ h (rep_pin_drop f hf hb hr hc)
  · exact h.elim
theorem aidxS_ok {sz : Nat} {x i : D} {v u : Value} {k : D → Prop} {kc : Value → Prop} (h : aidxS sz x i k) (hx : Rep F w x v) (hi : Rep F w i u) (hk : ∀ d r, k d → Rep F w d r → kc r) : idxS sz v u kc := by
  unfold aidxS at h
  split at h
  · rename_i z l ki j
    obtain ⟨rfl, _⟩ := rep_val_iff.1 hi
    obtain ⟨rfl, hj, e, he, hk'⟩ := h
    rw [Rep] at hx
    obtain ⟨p, c, rfl, hc, rfl | ⟨b, o, rfl, hf, hb, hr⟩⟩ := hx
    · simp at he
    · obtain ⟨vs, h1, h2, h3⟩ := hr.get he
      have hlt := (List.getElem?_eq_some_iff.1 he).1
      refine ⟨hj, by omega, hk _ _ hk' ?_⟩
      rw [Rep]
      exact ⟨b, _, vs, rfl, hf, hb, h1, h3⟩
  · obtain ⟨rfl, h1⟩ := rep_val_iff.1 hx
    obtain ⟨rfl, h2⟩ := rep_val_iff.1 hi
    exact m_idxS sz _ _ _ _ h1 h2 (fun r hr hk' => hk _ r hk' (rep_val hr)) h
  · exact h.elim
theorem aidxP_ok {n sz : Nat} {x i : D} {v u : Value} {k : D → Prop} {kc : Value → Prop} (h : aidxP n sz x i k) (hx : Rep F w x v) (hi : Rep F w i u) (hk : ∀ d r, k d → Rep F w d r → kc r) : idxP n sz v u kc := by
  unfold aidxP at h
  split at h
  · rename_i l ki j
    obtain ⟨rfl, _⟩ := rep_val_iff.1 hi
    obtain ⟨h0, h1, hk'⟩ := h
    rw [Rep] at hx
    obtain ⟨b, o, vs, rfl, hf, hb, hr, hc⟩ := hx
    exact ⟨h0, h1, hk _ _ hk' (rep_pin_drop _ hf hb hr hc)⟩
  · obtain ⟨rfl, h1⟩ := rep_val_iff.1 hx
    obtain ⟨rfl, h2⟩ := rep_val_iff.1 hi
    exact m_idxP n sz _ _ _ _ h1 h2 (fun r hr hk' => hk _ r hk' (rep_val hr)) h
  · exact h.elim
theorem afield1_ok {f : Nat} {x : D} {v : Value} {k : D → Prop} {kc : Value → Prop} (h : afield1 f x k) (hx : Rep F w x v) (hk : ∀ d r, k d → Rep F w d r → kc r) : field1 f v kc := by
  unfold afield1 at h
  split at h
  · obtain ⟨d, hd, hk'⟩ := h
    rw [Rep] at hx
    obtain ⟨vs, rfl, hr⟩ := hx
    obtain ⟨v, h1, h2⟩ := hr.get hd
    exact ⟨v, by simpa using h1, hk _ _ hk' h2⟩
  · exact h.elim
theorem afieldN_ok {f n : Nat} {x : D} {v : Value} {k : D → Prop} {kc : Value → Prop} (h : afieldN f n x k) (hx : Rep F w x v) (hk : ∀ d r, k d → Rep F w d r → kc r) : fieldN f n v kc := by
  unfold afieldN at h
  split at h
  · obtain ⟨m, hm, hk'⟩ := h
    rw [Rep] at hx
    obtain ⟨vs, rfl, hr⟩ := hx
    have := (hr.drop f).take n
    rw [hm] at this
    exact hk _ _ hk' (by rw [Rep]; exact ⟨_, rfl, this⟩)
  · exact h.elim
theorem aext_ok {j : Nat} {x : D} {v : Value} {k : D → Prop} {kc : Value → Prop} (h : aext j x k) (hx : Rep F w x v) (hk : ∀ d r, k d → Rep F w d r → kc r) : ext j v kc := by
  unfold aext at h
  split at h
  · obtain ⟨d, hd, hk'⟩ := h
    rw [Rep] at hx
    obtain ⟨vs, rfl, hr⟩ := hx
    obtain ⟨v, h1, h2⟩ := hr.get hd
    exact ⟨v, by simpa using h1, hk _ _ hk' h2⟩
  · exact h.elim
theorem aeqS_ok {st : Bool} {op : BinOp} {x y : D} {v u : Value} {k : D → Prop} {kc : Value → Prop} (h : aeqS st op x y k) (hx : Rep F w x v) (hy : Rep F w y u) (hk : ∀ d r, k d → Rep F w d r → kc r) : eqS op v u kc := by
  unfold aeqS at h
  split at h
  · obtain ⟨rfl, _⟩ := rep_val_iff.1 hy
    rw [Rep] at hx
    obtain ⟨p, c, rfl, hc, h1 | ⟨b, o, rfl, hf, hb, hr⟩⟩ := hx
    · cases h1
    · unfold eqS
      cases op <;> simp only at h ⊢ <;> first | exact h.elim | exact hk _ _ h (rep_val trivial)
  · obtain ⟨rfl, _⟩ := rep_val_iff.1 hy
    rw [Rep] at hx
    obtain ⟨p, c, rfl, hc, _⟩ := hx
    cases st
    · unfold eqS
      cases op <;> simp only [cond_false] at h ⊢ <;> first
        | exact h.elim
        | (cases p
           · exact hk _ _ h.1 (rep_val trivial)
           · exact hk _ _ h.2 (rep_val trivial))
        | (cases p
           · exact hk _ _ h.2 (rep_val trivial)
           · exact hk _ _ h.1 (rep_val trivial))
    · exact h.elim
  · obtain ⟨rfl, h1⟩ := rep_val_iff.1 hx
    obtain ⟨rfl, h2⟩ := rep_val_iff.1 hy
    exact m_eqS op _ _ _ _ h1 h2 (fun r hr hk' => hk _ r hk' (rep_val hr)) h
  · exact h.elim
theorem aeqP_ok {op : BinOp} {x y : D} {v u : Value} {k : D → Prop} {kc : Value → Prop} (h : aeqP op x y k) (hx : Rep F w x v) (hy : Rep F w y u) (hk : ∀ d r, k d → Rep F w d r → kc r) : eqP op v u kc := by
  unfold aeqP at h
  split at h
  · obtain ⟨rfl, _⟩ := rep_val_iff.1 hy
    rw [Rep] at hx
    obtain ⟨b, o, vs, rfl, _⟩ := hx
    unfold eqP
    cases op <;> simp only at h ⊢ <;> first | exact h.elim | exact hk _ _ h (rep_val trivial)
  · obtain ⟨rfl, h1⟩ := rep_val_iff.1 hx
    obtain ⟨rfl, h2⟩ := rep_val_iff.1 hy
    exact m_eqP op _ _ _ _ h1 h2 (fun r hr hk' => hk _ r hk' (rep_val hr)) h
  · exact h.elim
theorem aeqI_ok {op : BinOp} {x y : D} {v u : Value} {k : D → Prop} {kc : Value → Prop} (h : aeqI op x y k) (hx : Rep F w x v) (hy : Rep F w y u) (hk : ∀ d r, k d → Rep F w d r → kc r) : eqI op v u kc := by
  unfold aeqI at h
  split at h
  · obtain ⟨rfl, _⟩ := rep_val_iff.1 hy
    rw [Rep] at hx
    obtain ⟨v, rfl, hr⟩ := hx
    unfold eqI
    cases op <;> simp only at h ⊢ <;> first | exact h.elim | exact hk _ _ h (rep_val trivial)
  · obtain ⟨rfl, h1⟩ := rep_val_iff.1 hx
    obtain ⟨rfl, h2⟩ := rep_val_iff.1 hy
    exact m_eqI op _ _ _ _ h1 h2 (fun r hr hk' => hk _ r hk' (rep_val hr)) h
  · exact h.elim
theorem alenL_ok {x : D} {v : Value} {k : D → Prop} {kc : Value → Prop} (h : alenL x k) (hx : Rep F w x v) (hk : ∀ d r, k d → Rep F w d r → kc r) : lenL v kc := by
  unfold alenL at h
  split at h
  · rw [Rep] at hx
    obtain ⟨p, c, rfl, hc, _⟩ := hx
    refine hk _ _ h (rep_val ?_)
    unfold Fits at hc
    simp only [Okv, loN, hiN]
    omega
  · obtain ⟨rfl, h1⟩ := rep_val_iff.1 hx
    exact m_lenL _ _ _ h1 (fun r hr hk' => hk _ r hk' (rep_val hr)) h
  · exact h.elim
def ORep (F : Nat → Prop) (w : World) : Option D → Option Value → Prop
  | none, none => True
  | some d, some u => Rep F w d u
  | _, _ => False
theorem orep_val {v u : Value} (h : ORep F w (some (.val v)) (some u)) : u = v := (rep_val_iff (F := F) (w := w).1 h).1
theorem aval_ok {x : Option D} {v r : Option Value} (h : aval x = some v) (hx : ORep F w x r) : r = v := by
  cases x with
  | none =>
    cases r with
    | none => simpa [aval] using h
    | some u => exact hx.elim
  | some d =>
    cases r with
    | none => exact hx.elim
    | some u =>
      cases d <;> simp only [aval] at h <;> try cases h
      obtain rfl := orep_val hx
      rfl
theorem aslcS_ok {x : D} {lo hi : Option D} {v : Value} {cl ch : Option Value} {k : D → Prop} {kc : Value → Prop} (h : aslcS x lo hi k) (hx : Rep F w x v)
    (hl : ORep F w lo cl) (hh : ORep F w hi ch) (hk : ∀ d r, k d → Rep F w d r → kc r) : slcS v cl ch kc := by
  unfold aslcS at h
  split at h
  · obtain ⟨rfl, h1⟩ := rep_val_iff.1 hx
    cases h2 : aval lo with
    | none => simp only [h2] at h
    | some l2 =>
      cases h3 : aval hi with
      | none => simp only [h2, h3] at h
      | some l3 =>
        simp only [h2, h3] at h
        rw [aval_ok h2 hl, aval_ok h3 hh]
        exact m_slcS _ _ _ _ _ h1 (fun r hr hk' => hk _ r hk' (rep_val hr)) h
  · exact h.elim
theorem aslcM_ok {sz : Nat} {x : D} {lo hi mx : Option D} {v : Value} {cl ch cm : Option Value} {k : D → Prop} {kc : Value → Prop} (h : aslcM sz x lo hi mx k) (hx : Rep F w x v)
    (hl : ORep F w lo cl) (hh : ORep F w hi ch) (hm : ORep F w mx cm) (hk : ∀ d r, k d → Rep F w d r → kc r) : slcM sz v cl ch cm kc := by
  unfold aslcM at h
  split at h
  · obtain ⟨rfl, h1⟩ := rep_val_iff.1 hx
    cases h2 : aval lo with
    | none => simp only [h2] at h
    | some l2 =>
      cases h3 : aval hi with
      | none => simp only [h2, h3] at h
      | some l3 =>
        cases h4 : aval mx with
        | none => simp only [h2, h3, h4] at h
        | some l4 =>
          simp only [h2, h3, h4] at h
          rw [aval_ok h2 hl, aval_ok h3 hh, aval_ok h4 hm]
          exact m_slcM _ _ _ _ _ _ _ h1 (fun r hr hk' => hk _ r hk' (rep_val hr)) h
  · exact h.elim
theorem aslcL_ok {sz : Nat} {x : D} {lo hi : Option D} {v : Value} {cl ch : Option Value} {k : D → Prop} {kc : Value → Prop} (h : aslcL sz x lo hi k) (hx : Rep F w x v)
    (hl : ORep F w lo cl) (hh : ORep F w hi ch) (hk : ∀ d r, k d → Rep F w d r → kc r) : slcL sz v cl ch kc := by
  unfold aslcL at h
  split at h
  · rename_i z l
    obtain ⟨rfl, a, b, h1, h2, h3, h4, m, hm, hk'⟩ := h
    rw [Rep] at hx
    obtain ⟨p, c, rfl, hc, hr⟩ := hx
    refine ⟨a, b, ?_, ?_, h3, hk _ _ hk' ?_⟩
    · cases hi with
      | none =>
        cases ch with
        | none => exact h1
        | some u => exact hh.elim
      | some d =>
        cases ch with
        | none => exact hh.elim
        | some u =>
          obtain ⟨ki, rfl⟩ := h1
          obtain rfl := orep_val hh
          exact ⟨ki, rfl, Nat.le_trans h4 hc.1⟩
    · cases lo with
      | none =>
        cases cl with
        | none => exact h2
        | some u => exact hl.elim
      | some d =>
        cases cl with
        | none => exact hl.elim
        | some u =>
          obtain ⟨ki, rfl⟩ := h2
          obtain rfl := orep_val hl
          exact ⟨ki, rfl⟩
    · subst hm
      rw [Rep]
      refine ⟨_, c - a, by congr 1; simp; omega, ⟨by have := hc.1; simp; omega, by have := hc.2; omega⟩, ?_⟩
      rcases hr with rfl | ⟨b', o, rfl, hf, hb, hr⟩
      · left; simp
      · by_cases hca : c = a
        · left
          have : b = a := by have := hc.1; omega
          subst this
          simp
        · right
          refine ⟨b', o + a * z, by simp [hca, add_plain], hf, hb, (hr.take b).drop a⟩
  · obtain ⟨rfl, h1⟩ := rep_val_iff.1 hx
    cases h2 : aval lo with
    | none => simp only [h2] at h
    | some l2 =>
      cases h3 : aval hi with
      | none => simp only [h2, h3] at h
      | some l3 =>
        simp only [h2, h3] at h
        rw [aval_ok h2 hl, aval_ok h3 hh]
        exact m_slcL _ _ _ _ _ _ h1 (fun r hr hk' => hk _ r hk' (rep_val hr)) h
  · exact h.elim

inductive Pt2 (F : Nat → Prop) (w : World) : List (Nat × List D) → List (Nat × List Value) → Prop
  | nil : Pt2 F w [] []
  | cons {p : Nat × List D} {q : Nat × List Value} {r s} (h : Reps F w p.2 q.2) (t : Pt2 F w r s) : Pt2 F w (p :: r) (q :: s)
theorem afill_ok : ∀ {ps : List (Nat × List D)} {qs : List (Nat × List Value)} {z : List D} {vz : List Value}, Reps F w z vz → ps.map (·.1) = qs.map (·.1) → Pt2 F w ps qs → Reps F w (afill z ps) (fillL vz qs)
  | [], [], _, _, hz, _, _ => hz
  | (o, l) :: ps, (o', vs) :: qs, z, vz, hz, hm, hf => by
    cases hf with
    | cons h1 h2 =>
      simp only [List.map_cons, List.cons.injEq] at hm
      obtain ⟨rfl, hm⟩ := hm
      simp only at h1
      rw [afill, fillL]
      refine afill_ok ?_ hm h2
      rw [← h1.length]
      exact ((hz.take o).append h1).append (hz.drop _)
  | [], _ :: _, _, _, _, hm, _ => by cases hm
  | _ :: _, [], _, _, _, hm, _ => by cases hm
inductive Pts (F : Nat → Prop) (w : World) : List (Nat × Nat × D) → List (Nat × Nat × Value) → Prop
  | nil : Pts F w [] []
  | cons {o n : Nat} {d : D} {v : Value} {r s} (h : Rep F w d v) (t : Pts F w r s) : Pts F w ((o, n, d) :: r) ((o, n, v) :: s)
theorem Pts.ok {ps qs} (h : Pts F w ps qs) (hs : asizes ps = true) : sizes qs ∧ (aparts ps).map (·.1) = (parts qs).map (·.1) ∧ Pt2 F w (aparts ps) (parts qs) := by
  induction h with
  | nil => exact ⟨trivial, rfl, .nil⟩
  | cons h t ih =>
    simp only [asizes, Bool.and_eq_true, Nat.beq_eq] at hs
    obtain ⟨h1, h2, h3⟩ := hs
    obtain ⟨i1, i2, i3⟩ := ih h3
    obtain ⟨r1, r2⟩ := rep_cl h2 h
    refine ⟨⟨?_, i1⟩, ?_, ?_⟩
    · rw [← Array.length_toList, r1.length]; exact h1
    · simp only [aparts, parts, List.map_cons, List.cons.injEq, true_and]
      exact i2
    · exact .cons r1 i3
theorem pts_of {P : Program} {t : TypeId} {ρ : Operand → D} {ρc : Operand → Value} : ∀ {ps : List (Nat × Operand)}, (∀ p ∈ ps, Rep F w (ρ p.2) (ρc p.2)) → Pts F w (apartsT P t ρ ps) (partsT P t ρc ps)
  | [], _ => .nil
  | (i, x) :: ps, h => .cons (h (i, x) (by simp)) (pts_of fun p hp => h p (by simp [hp]))
theorem rep_nilw {v : Value} {sz : Nat} (h : Rep F w .nil v) : Rep F w (.row sz []) v := by
  obtain ⟨rfl, _⟩ := rep_val_iff.1 h
  rw [Rep]
  exact ⟨none, 0, rfl, ⟨Nat.le_refl _, by decide⟩, .inl rfl⟩
theorem NilW.ok : ∀ {l l' : List D} {vs : List Value}, NilW l l' → Reps F w l vs → Reps F w l' vs
  | _, _, _, .refl _, h => h
  | _, _, _, .same h', h => by
    rw [Reps] at h ⊢
    obtain ⟨v, r, rfl, h1, h2⟩ := h
    exact ⟨v, r, rfl, h1, NilW.ok h' h2⟩
  | _, _, _, .nil h', h => by
    rw [Reps] at h ⊢
    obtain ⟨v, r, rfl, h1, h2⟩ := h
    exact ⟨v, r, rfl, rep_nilw h1, NilW.ok h' h2⟩
theorem abld_ok {ps qs} {z : List Value} {k : D → Prop} {kc : Value → Prop} (h : abld (vals z) ps k) (hp : Pts F w ps qs) (hz : ∀ v ∈ z, Okv v) (hk : ∀ d r, k d → Rep F w d r → kc r) : bld z qs kc := by
  obtain ⟨hs, l, l', hl, hn, hk'⟩ := h
  obtain ⟨h1, h2, h3⟩ := hp.ok hs
  refine ⟨h1, hk _ _ hk' ?_⟩
  rw [Rep]
  exact ⟨_, rfl, hn.ok (by rw [← hl]; exact afill_ok (reps_vals hz) h2 h3)⟩
theorem mapO_ok {ρ : Operand → D} {ρc : Operand → Value} : ∀ {l : List Operand}, (∀ x ∈ l, Rep F w (ρ x) (ρc x)) → Reps F w (mapO ρ l) (l.map ρc)
  | [], _ => reps_nil
  | x :: l, h => reps_cons (h x (by simp)) (mapO_ok fun y hy => h y (by simp [hy]))
theorem okI_of {k : IntKind} {n : Int} (h : okI k n = true) : -(loN k : Int) ≤ n ∧ n ≤ hiN k := by
  unfold okI at h
  split at h
  · have := Nat.le_of_ble_eq_true h
    simp only [Int.ofNat_eq_natCast]
    omega
  · have := Nat.le_of_ble_eq_true h
    omega
theorem okv_of {v : Value} (h : okB v = true) : Okv v := by
  unfold okB at h; unfold Okv
  split at h
  · exact okI_of h
  all_goals simp_all
theorem zok_of : ∀ {z : List Value}, zok z = true → ∀ v ∈ z, Okv v
  | u :: z, h, v, hv => by
    rw [zok, Bool.and_eq_true] at h
    rcases List.mem_cons.1 hv with rfl | hv
    · exact okv_of h.1
    · exact zok_of h.2 v hv
theorem vals_ok : ∀ {z : List Value}, z.all okB = true → Reps F w (z.map .val) z
  | [], _ => reps_nil
  | v :: z, h => by
    rw [List.all_cons, Bool.and_eq_true] at h
    exact reps_cons (rep_val (okv_of h.1)) (vals_ok h.2)
theorem dz_ok {z : Value} (h : zvOk z = true) : Rep F w (dz z) z := by
  cases z with
  | agg cs =>
    show Rep F w (.agg (cs.toList.map .val)) _
    rw [Rep]
    exact ⟨cs.toList, by simp, vals_ok h⟩
  | tuple vs => cases h
  | _ => exact rep_val (okv_of h)
theorem resOk_ok {ok b : Bool} {d : D} {v : Value} (h : Rep F w d v) : Rep F w (aresOk ok d b) (resOk ok v b) := by
  cases ok
  · exact h
  · show Rep F w (.tuple [d, .b b]) (.tuple #[v, .bool b])
    rw [Rep]
    exact ⟨_, rfl, reps_cons h (reps_cons (rep_val trivial) reps_nil)⟩
theorem atas_ok {t : TypeId} {z : Value} {x : D} {v : Value} {ok : Bool} {k : D → Prop} {kc : Value → Prop} (h : atas t (dz z) x ok k) (hz : zvOk z = true) (hx : Rep F w x v) (hk : ∀ d r, k d → Rep F w d r → kc r) : tas t z v ok kc := by
  have hno : ∀ r, Rep F w r (.tuple #[z, .bool false]) → k r → kc (.tuple #[z, .bool false]) := fun r h1 h2 => hk _ _ h2 h1
  have hzz : Rep F w (.tuple [dz z, .b false]) (.tuple #[z, .bool false]) := by
    rw [Rep]
    exact ⟨_, rfl, reps_cons (dz_ok hz) (reps_cons (rep_val trivial) reps_nil)⟩
  unfold atas at h
  split at h
  · rw [Rep] at hx
    obtain ⟨v, rfl, hr⟩ := hx
    unfold tas
    show (bif Nat.beq _ t then kc (resOk ok v true) else (bif ok then kc (.tuple #[z, .bool false]) else False))
    rw [Bool.cond_eq_ite] at h ⊢
    split at h
    · rename_i he
      rw [if_pos he]
      exact hk _ _ h (resOk_ok hr)
    · rename_i he
      rw [if_neg he]
      cases ok
      · exact h.elim
      · exact hno _ hzz h
  · obtain ⟨rfl, _⟩ := rep_val_iff.1 hx
    unfold tas
    cases ok
    · exact h.elim
    · exact hno _ hzz h
  · exact h.elim
mutual
theorem dkv_ok : ∀ (d : D) {v u : Value}, dkv d = some u → Rep F w d v → v = u
  | .val x, v, u, h, hr => by
    rw [dkv] at h
    obtain ⟨rfl, _⟩ := rep_val_iff.1 hr
    exact Option.some.inj h
  | .agg l, v, u, h, hr => by
    rw [dkv] at h
    split at h
    · rename_i vs hv
      rw [Rep] at hr
      obtain ⟨us, rfl, hr⟩ := hr
      rw [dkvs_ok l hv hr]
      exact Option.some.inj h
    · cases h
  | .tuple _, _, _, h, _ => by rw [dkv] at h <;> (first | (cases h; done) | (intros; simp))
  | .row _ _, _, _, h, _ => by rw [dkv] at h <;> (first | (cases h; done) | (intros; simp))
  | .pin _, _, _, h, _ => by rw [dkv] at h <;> (first | (cases h; done) | (intros; simp))
  | .fn _ _ _, _, _, h, _ => by rw [dkv] at h <;> (first | (cases h; done) | (intros; simp))
  | .ifc _ _, _, _, h, _ => by rw [dkv] at h <;> (first | (cases h; done) | (intros; simp))
  | .top, _, _, h, _ => by rw [dkv] at h <;> (first | (cases h; done) | (intros; simp))
theorem dkvs_ok : ∀ (l : List D) {vs us : List Value}, dkvs l = some us → Reps F w l vs → vs = us
  | [], vs, us, h, hr => by
    rw [dkvs] at h
    rw [Reps] at hr
    rw [hr]; exact Option.some.inj h
  | d :: l, vs, us, h, hr => by
    rw [dkvs] at h
    rw [Reps] at hr
    obtain ⟨v, r, rfl, h1, h2⟩ := hr
    split at h
    · rename_i x xs hx hxs
      rw [dkv_ok d hx h1, dkvs_ok l hxs h2]
      exact Option.some.inj h
    · cases h
end
end
end Go.V
