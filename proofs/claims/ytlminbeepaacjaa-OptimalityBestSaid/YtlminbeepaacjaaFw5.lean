/- A plain interpreter, part 5: what operations, regions and code do to a state. -/
import Derived.Test.YtlminbeepaacjaaFw4
import Derived.OrdersHeld
namespace Go.Proofs.Ytlminbeepaacjaa
set_option linter.unusedVariables false
set_option linter.unusedSimpArgs false
set_option linter.unnecessarySimpa false
set_option linter.unusedSectionVars false
open Go.RowKit

/-- What the interpreter knows of a type. -/
structure Ty where
  ok : Bool := false
  agg : Bool := false
  size : Nat := 1
  small : Bool := false
  elem : Option Nat := none
  zero : List AV := []
  offs : List (Nat × Nat) := []
  kind : Option IntKind := none
  isBool : Bool := false
  isStr : Bool := false
  isStruct : Bool := false
def ofValue : Value → AV
  | .int k n => .int k n
  | .bool b => .bool b
  | .string s => .str s
  | .slice none 0 0 => .nil
  | _ => .undef
def aggD : TypeDesc → Bool
  | .struct _ => true
  | .array _ _ => true
  | _ => false
def elemD : TypeDesc → Option Nat
  | .slice e => some e
  | _ => none
def kindD : TypeDesc → Option IntKind
  | .int k => some k
  | _ => none
def boolD : TypeDesc → Bool
  | .bool => true
  | _ => false
def strD : TypeDesc → Bool
  | .string => true
  | _ => false
def structD : TypeDesc → Bool
  | .struct _ => true
  | _ => false
def offsD (P : Program) : TypeDesc → List (Nat × Nat)
  | .struct fs => fs.toList.map fun f => (f.offset, ((P.info? f.type).map (·.size)).getD 0)
  | _ => []
def zeroD : Option Value → List AV
  | some z => z.cells.toList.map ofValue
  | none => []
def tyOf (P : Program) (t : Nat) : Ty :=
  match P.info? t, P.underlying t with
  | some i, some d =>
    { ok := true, agg := aggD d, size := i.size, small := Nat.ble i.bytes 8192, elem := elemD d, zero := zeroD i.zero, offs := offsD P d, kind := kindD d, isBool := boolD d, isStr := strD d, isStruct := structD d }
  | _, _ => {}

structure branch (b : Bool) (A B : Prop) : Prop where
  out : (b = true → A) ∧ (b = false → B)
theorem branch_iff {b : Bool} {A B : Prop} : branch b A B ↔ ((b = true → A) ∧ (b = false → B)) := ⟨fun h => h.out, fun h => ⟨h⟩⟩
structure need (p A : Prop) : Prop where
  out : p ∧ A
theorem need_iff {p A : Prop} : need p A ↔ (p ∧ A) := ⟨fun h => h.out, fun h => ⟨h⟩⟩
structure arith (k : IntKind) (n : Int) (K : AV → Prop) : Prop where
  out : K (.int k (k.wrap n))
theorem arith_iff {k : IntKind} {n : Int} {K : AV → Prop} : arith k n K ↔ (K (.int k (k.wrap n))) := ⟨fun h => h.out, fun h => ⟨h⟩⟩
structure idx (es : List (List AV)) (n : Int) (K : List AV → Prop) : Prop where
  out : 0 ≤ n ∧ ∃ cs, es[n.toNat]? = some cs ∧ K cs
theorem idx_iff {es : List (List AV)} {n : Int} {K : List AV → Prop} : idx es n K ↔ (0 ≤ n ∧ ∃ cs, es[n.toNat]? = some cs ∧ K cs) := ⟨fun h => h.out, fun h => ⟨h⟩⟩
structure sub (es : List (List AV)) (lo hi : Int) (K : List (List AV) → Prop) : Prop where
  out : (0 ≤ lo ∧ lo ≤ hi ∧ hi ≤ es.length) ∧ K ((es.take hi.toNat).drop lo.toNat)
theorem sub_iff {es : List (List AV)} {lo hi : Int} {K : List (List AV) → Prop} : sub es lo hi K ↔ ((0 ≤ lo ∧ lo ≤ hi ∧ hi ≤ es.length) ∧ K ((es.take hi.toNat).drop lo.toNat)) := ⟨fun h => h.out, fun h => ⟨h⟩⟩
structure byteAt (s : ByteArray) (n : Int) (K : Int → Prop) : Prop where
  out : 0 ≤ n ∧ ∃ b, s[n.toNat]? = some b ∧ K b.toNat
theorem byteAt_iff {s : ByteArray} {n : Int} {K : Int → Prop} : byteAt s n K ↔ (0 ≤ n ∧ ∃ b, s[n.toNat]? = some b ∧ K b.toNat) := ⟨fun h => h.out, fun h => ⟨h⟩⟩

/-- Whether a slice is nil: known where it has elements. -/
structure nilTest (es : List (List AV)) (K : Bool → Prop) : Prop where
  out : ∀ b, (b = true → es = []) → K b
theorem nilTest_iff {es : List (List AV)} {K : Bool → Prop} : nilTest es K ↔ (∀ b, (b = true → es = []) → K b) := ⟨fun h => h.out, fun h => ⟨h⟩⟩

/-- Values are laid open before they go on. -/
def force0 (v : AV) (K : AV → Prop) : Prop :=
  match v with
  | .undef => K .undef
  | .nil => K .nil
  | .int k n => K (.int k n)
  | .bool b => K (.bool b)
  | .str s => K (.str s)
  | .lst z es => K (.lst z es)
  | .own t e z es => K (.own t e z es)
  | .agg cs => K (.agg cs)
  | .tup vs => K (.tup vs)
  | .ptr t off => K (.ptr t off)
  | .ept t i off cs => K (.ept t i off cs)
  | .ref cs => K (.ref cs)
  | .fn f cap => K (.fn f cap)
  | .tape => K .tape
  | .mp t kvs => K (.mp t kvs)
  | .win t lo z es => K (.win t lo z es)
theorem force0_eq {v : AV} {K : AV → Prop} : force0 v K = K v := by cases v <;> rfl
def forceL (vs : List AV) (K : List AV → Prop) : Prop :=
  match vs with
  | [] => K []
  | v :: vs => force0 v fun v => forceL vs fun vs => K (v :: vs)
theorem forceL_eq {vs : List AV} {K : List AV → Prop} : forceL vs K = K vs := by
  induction vs generalizing K with
  | nil => rfl
  | cons v vs ih => simp only [forceL, force0_eq, ih]
def forceN (n : Nat) (K : Nat → Prop) : Prop := match n with | 0 => K 0 | n + 1 => K (n + 1)
def force1 (v : AV) (K : AV → Prop) : Prop :=
  match v with
  | .agg cs => forceL cs fun cs => K (.agg cs)
  | .ref cs => forceL cs fun cs => K (.ref cs)
  | .ept t i off cs => forceL cs fun cs => K (.ept t i off cs)
  | .fn f cs => forceL cs fun cs => K (.fn f cs)
  | v => force0 v K
theorem force1_eq {v : AV} {K : AV → Prop} : force1 v K = K v := by cases v <;> simp only [force1, forceL_eq, force0_eq]
def forceM (vs : List AV) (K : List AV → Prop) : Prop :=
  match vs with
  | [] => K []
  | v :: vs => force1 v fun v => forceM vs fun vs => K (v :: vs)
theorem forceM_eq {vs : List AV} {K : List AV → Prop} : forceM vs K = K vs := by
  induction vs generalizing K with
  | nil => rfl
  | cons v vs ih => simp only [forceM, force1_eq, ih]
def force (v : AV) (K : AV → Prop) : Prop :=
  match v with
  | .tup cs => forceM cs fun cs => K (.tup cs)
  | v => force1 v K
theorem force_eq {v : AV} {K : AV → Prop} : force v K = K v := by cases v <;> simp only [force, forceM_eq, force1_eq]

def St.eval (s : St) : Operand → AV
  | .tmp t => s.slot t
  | .const v => ofValue v
  | .func f => .fn f []
  | .global _ => .undef
def evals (s : St) : List Operand → List AV
  | [] => []
  | x :: xs => s.eval x :: evals s xs
/-- The cells of a value. -/
def cellsK (v : AV) (K : List AV → Prop) : Prop :=
  match v with
  | .agg cs => K cs
  | .int k n => K [.int k n]
  | .bool b => K [.bool b]
  | .str s => K [.str s]
  | .nil => K [.nil]
  | .lst z es => K [.lst z es]
  | .own t e z es => K [.own t e z es]
  | _ => False
def loadAs (ty : Ty) (cs : List AV) (K : AV → Prop) : Prop :=
  match ty.ok with
  | true => match ty.agg with
    | true => match Nat.ble ty.size cs.length with
      | true => K (.agg (cs.take ty.size))
      | false => False
    | false => match cs with
      | c :: _ => K c
      | [] => False
  | false => False
def cmp (op : BinOp) (a b : Int) : Option Bool :=
  match op with
  | .eql => some (a == b)
  | .neq => some (a != b)
  | .lss => some (decide (a < b))
  | .leq => some (decide (a ≤ b))
  | .gtr => some (decide (b < a))
  | .geq => some (decide (b ≤ a))
  | _ => none
def sameKind : IntKind → IntKind → Bool
  | .i8, .i8 => true | .i16, .i16 => true | .i32, .i32 => true | .i64, .i64 => true
  | .u8, .u8 => true | .u16, .u16 => true | .u32, .u32 => true | .u64, .u64 => true
  | _, _ => false
/-- What a bitwise operation yields. -/
def bitF (op : BinOp) (k : IntKind) (a b : Int) : Option Int :=
  match op with
  | .and => some (k.wrap (BitVec.ofInt k.bits a &&& BitVec.ofInt k.bits b).toNat)
  | .or => some (k.wrap (BitVec.ofInt k.bits a ||| BitVec.ofInt k.bits b).toNat)
  | .xor => some (k.wrap (BitVec.ofInt k.bits a ^^^ BitVec.ofInt k.bits b).toNat)
  | _ => none
def abinInt (op : BinOp) (k : IntKind) (a b : Int) (K : AV → Prop) : Prop :=
  match op with
  | .add => arith k (a + b) K
  | .sub => arith k (a - b) K
  | .mul => arith k (a * b) K
  | .quo => need (b ≠ 0) (arith k (a.tdiv b) K)
  | .rem => need (b ≠ 0) (K (.int k (a.tmod b)))
  | .and => match bitF .and k a b with | some r => K (.int k r) | none => False
  | .or => match bitF .or k a b with | some r => K (.int k r) | none => False
  | .xor => match bitF .xor k a b with | some r => K (.int k r) | none => False
  | .eql => match cmp .eql a b with | some r => K (.bool r) | none => False
  | .neq => match cmp .neq a b with | some r => K (.bool r) | none => False
  | .lss => match cmp .lss a b with | some r => K (.bool r) | none => False
  | .leq => match cmp .leq a b with | some r => K (.bool r) | none => False
  | .gtr => match cmp .gtr a b with | some r => K (.bool r) | none => False
  | .geq => match cmp .geq a b with | some r => K (.bool r) | none => False
  | _ => False
def abinStr (op : BinOp) (x y : ByteArray) (K : AV → Prop) : Prop :=
  match op with
  | .eql => K (.bool (x.toList == y.toList))
  | .neq => K (.bool (!(x.toList == y.toList)))
  | .lss => K (.bool (Op.bytesLess x.toList y.toList))
  | .leq => K (.bool (Op.bytesLess x.toList y.toList || x.toList == y.toList))
  | .gtr => K (.bool (!(Op.bytesLess x.toList y.toList || x.toList == y.toList)))
  | .geq => K (.bool (!Op.bytesLess x.toList y.toList))
  | .add => need (x.size + y.size ≤ 1000000) (K (.str (x ++ y)))
  | _ => False
def abin (T : Nat → Ty) (op : BinOp) (t : Nat) (x y : AV) (K : AV → Prop) : Prop :=
  match x, y with
  | .int k a, .int k' b =>
    match op with
    | .shl => need (0 ≤ b) (arith k (a * 2 ^ (min b.toNat k.bits)) K)
    | .shr => need (0 ≤ b) (K (.int k (a.fdiv (2 ^ (min b.toNat k.bits)))))
    | op => match sameKind k k' with
      | true => abinInt op k a b K
      | false => False
  | .str a, .str b => abinStr op a b K
  | .bool a, .bool b => match (T t).ok && (T t).isBool with
    | true => match op with
      | .eql => K (.bool (a == b))
      | .neq => K (.bool (!(a == b)))
      | _ => False
    | false => False
  | .lst _ es, .nil => match (T t).ok && (T t).elem.isSome with
    | true => match op with
      | .eql => nilTest es fun b => K (.bool b)
      | .neq => nilTest es fun b => K (.bool (!b))
      | _ => False
    | false => False
  | .own _ _ _ es, .nil => match (T t).ok && (T t).elem.isSome with
    | true => match op with
      | .eql => nilTest es fun b => K (.bool b)
      | .neq => nilTest es fun b => K (.bool (!b))
      | _ => False
    | false => False
  | .nil, .nil => match (T t).ok && (T t).elem.isSome with
    | true => match op with
      | .eql => K (.bool true)
      | .neq => K (.bool false)
      | _ => False
    | false => False
  | _, _ => False
def fieldOff (ty : Ty) (f : Nat) (K : Nat → Prop) : Prop :=
  match ty.ok with
  | true => match ty.offs[f]? with
    | some (off, size) => match Nat.blt 0 size with
      | true => K off
      | false => False
    | none => False
  | false => False
def elemOf (T : Nat → Ty) (t : Nat) (z : Nat) (K : Nat → Prop) : Prop :=
  match (T t).ok with
  | true => match (T t).elem with
    | some e => match (T e).ok && Nat.beq (T e).size z with
      | true => K e
      | false => False
    | none => False
  | false => False
def allPos : List (Nat × Nat) → Bool
  | [] => true
  | p :: ps => Nat.blt 0 p.2 && allPos ps
/-- The fields of a struct literal. -/
def setRange (cells : List AV) (off : Nat) : List AV → List AV
  | [] => cells
  | v :: vs => setRange (cells.set off v) (off + 1) vs
def fillK (offs : List (Nat × Nat)) (s : St) : List (Nat × Operand) → List AV → (List AV → Prop) → Prop
  | [], cells, K => K cells
  | (i, x) :: rest, cells, K => match offs[i]? with
    | some (off, size) => cellsK (s.eval x) fun cs => match Nat.beq cs.length size && Nat.ble (off + cs.length) cells.length with
      | true => fillK offs s rest (setRange cells off cs) K
      | false => False
    | none => False
def isP : AV → Bool
  | .agg _ => false
  | .tup _ => false
  | .fn _ _ => false
  | _ => true
def allP : List AV → Bool
  | [] => true
  | v :: vs => isP v && allP vs
def optInt (s : St) (d : Int) : Option Operand → (Int → Prop) → Prop
  | none, K => K d
  | some x, K => match s.eval x with | .int _ n => K n | _ => False

/-- Operations that yield a value and do nothing else. -/
def aval (T : Nat → Ty) (s : St) (op : Op) (K : AV → Prop) : Prop :=
  match op with
  | .move x => K (s.eval x)
  | .assign x => K (s.eval x)
  | .pick c a b => match s.eval c with | .bool b' => branch b' (K (s.eval a)) (K (s.eval b)) | _ => False
  | .load t x => match s.eval x with
    | .ptr b off => match s.box b with | some cs => loadAs (T t) (cs.drop off) K | none => False
    | .ref cs => loadAs (T t) cs K
    | _ => False
  | .binOp op t x y _ => abin T op t (s.eval x) (s.eval y) K
  | .unOp op _ x => match op, s.eval x with
    | .not, .bool b => K (.bool (!b))
    | .neg, .int k n => arith k (0 - n) K
    | _, _ => False
  | .convert src dst x => match (T src).ok && (T dst).ok with
    | true => match (T dst).kind, s.eval x with
      | some k, .int _ n => arith k n K
      | _, _ => False
    | false => False
  | .fieldAddr t x f => match s.eval x with
    | .ptr b off => fieldOff (T t) f fun o => K (.ptr b (off + o))
    | .ref cs => fieldOff (T t) f fun o => K (.ref (cs.drop o))
    | .ept t' i off cs => fieldOff (T t) f fun o => K (.ept t' i (off + o) cs)
    | _ => False
  | .indexAddr t x i => match s.eval x, s.eval i with
    | .lst z es, .int _ n => elemOf T t z fun _ => idx es n fun cs => K (.ref cs)
    | .own t' _ z es, .int _ n => elemOf T t z fun _ => idx es n fun cs => K (.ept t' n.toNat 0 cs)
    | _, _ => False
  | .index t x i => match s.eval x, s.eval i with
    | .str b, .int _ n => match (T t).ok && (T t).isStr with
      | true => byteAt b n fun c => K (.int .u8 c)
      | false => False
    | _, _ => False
  | .extract x i => match s.eval x with | .tup vs => (match vs[i]? with | some v => K v | none => False) | _ => False
  | .nilCheck x => match s.eval x with
    | .ptr t off => K (.ptr t off)
    | .ept t i off cs => K (.ept t i off cs)
    | .ref cs => K (.ref cs)
    | .tape => K .tape
    | _ => False
  | .build t parts => match (T t).ok && (T t).isStruct with
    | true => match allPos (T t).offs, (T t).zero with
      | true, z :: zs => fillK (T t).offs s parts.toList (z :: zs) fun cs => K (.agg cs)
      | _, _ => False
    | false => False
  | .makeFunc f first cap => match f with
    | .func f => match first.toList with
      | [] => match allP (evals s cap.toList) with
        | true => K (.fn f (evals s cap.toList))
        | false => False
      | _ => False
    | _ => False
  | .slice t x lo hi mx => match mx with
    | none => match s.eval x with
      | .lst z es => elemOf T t z fun _ => optInt s 0 lo fun l => optInt s es.length hi fun h => sub es l h fun es' => K (.lst z es')
      | _ => False
    | some _ => False
  | .call c => match c.callee with
    | .builtin .len => match evals s c.args.toList, c.argTypes.toList with
      | [.lst _ es], [t] => match (T t).ok && (T t).elem.isSome with | true => K (.int .i64 es.length) | false => False
      | [.own _ _ _ es], [t] => match (T t).ok && (T t).elem.isSome with | true => K (.int .i64 es.length) | false => False
      | [.nil], [t] => match (T t).ok && (T t).elem.isSome with | true => K (.int .i64 0) | false => False
      | [.str b], [t] => match (T t).ok && (T t).isStr with | true => K (.int .i64 b.size) | false => False
      | _, _ => False
    | .builtin .min => match evals s c.args.toList with
      | [.int k a, .int _ b] => K (.int k (if b < a then b else a))
      | _ => False
    | .builtin .max => match evals s c.args.toList with
      | [.int k a, .int _ b] => K (.int k (if b > a then b else a))
      | _ => False
    | _ => False
  | _ => False
end Go.Proofs.Ytlminbeepaacjaa
