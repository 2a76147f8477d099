/- A plain interpreter, part 8: operations with an effect, contracts, regions, code. -/
import Derived.Test.YtdoemjphffnmaaaFw7
namespace Go.Proofs.Ytdoemjphffnmaaa
set_option linter.unusedVariables false
set_option linter.unusedSimpArgs false
set_option linter.unnecessarySimpa false
set_option linter.unusedSectionVars false
open Go.RowKit

def ownTags : List AV → List Nat
  | [] => []
  | .own t _ _ _ :: vs => t :: ownTags vs
  | _ :: vs => ownTags vs
/-- The same, laid open. -/
def tagsK : List AV → (List Nat → Prop) → Prop
  | [], K => K []
  | .own t _ _ _ :: vs, K => tagsK vs fun ts => K (t :: ts)
  | _ :: vs, K => tagsK vs K
theorem tagsK_eq {cs : List AV} {K : List Nat → Prop} : tagsK cs K = K (ownTags cs) := by
  induction cs generalizing K with
  | nil => rfl
  | cons v vs ih => cases v <;> simp only [tagsK, ownTags, ih]
def eraseAll : List Nat → St → St
  | [], s => s
  | t :: ts, s => eraseAll ts (s.map (eraseF t))
def eraseV : List Nat → AV → AV
  | [], v => v
  | t :: ts, v => eraseV ts (eraseF t v)
/-- How a cell lies in an element of a list: plain data; a nil slice may stand for an empty list of elements of any size. -/
def PresC : AV → AV → Prop
  | .int k n, c => c = .int k n
  | .bool b, c => c = .bool b
  | .str b, c => c = .str b
  | .lst z es, c => c = .lst z es
  | .own _ _ z es, c => c = .lst z es
  | .nil, c => ∃ z, c = .lst z []
  | _, _ => False
structure nils (cs : List AV) (K : List AV → Prop) : Prop where
  out : ∃ cs', All2 PresC cs cs' ∧ K cs'
theorem nils_iff {cs : List AV} {K : List AV → Prop} : nils cs K ↔ (∃ cs', All2 PresC cs cs' ∧ K cs') := ⟨fun h => h.out, fun h => ⟨h⟩⟩
def hasNil : List AV → Bool
  | [] => false
  | .nil :: _ => true
  | _ :: cs => hasNil cs
/-- The cells of an element of a list, where none is nil. -/
def presN : List AV → (List AV → Prop) → Prop
  | [], K => K []
  | .int k n :: cs, K => presN cs fun cs' => K (.int k n :: cs')
  | .bool b :: cs, K => presN cs fun cs' => K (.bool b :: cs')
  | .str b :: cs, K => presN cs fun cs' => K (.str b :: cs')
  | .lst z es :: cs, K => presN cs fun cs' => K (.lst z es :: cs')
  | .own t e z es :: cs, K => presN cs fun cs' => K (.lst z es :: cs')
  | _, _ => False
def presK (cs : List AV) (K : List AV → Prop) : Prop := match hasNil cs with
  | true => nils cs K
  | false => presN cs K
def chunk {α : Type} (z : Nat) : Nat → List α → List (List α)
  | 0, _ => []
  | n + 1, cs => cs.take z :: chunk z n (cs.drop z)
def chunkK (z : Nat) : Nat → List AV → (List (List AV) → Prop) → Prop
  | 0, _, K => K []
  | n + 1, cs, K => forceL (cs.take z) fun c => chunkK z n (cs.drop z) fun es => K (c :: es)
theorem chunkK_eq {z n : Nat} {cs : List AV} {K : List (List AV) → Prop} : chunkK z n cs K = K (chunk z n cs) := by
  induction n generalizing cs K with
  | zero => rfl
  | succ n ih => simp only [chunkK, forceL_eq, ih, chunk]
def rangeOffs (z : Nat) : Nat → Nat → List (Nat × Nat)
  | _, 0 => []
  | i, n + 1 => (i * z, z) :: rangeOffs z (i + 1) n
def repl : Nat → List AV → List AV
  | 0, _ => []
  | n + 1, cs => cs ++ repl n cs
/-- A slice type whose elements are known: element type, its size, its zero. -/
def elemZ (T : Nat → Ty) (t : Nat) (K : Nat → Nat → List AV → Prop) : Prop :=
  match (T t).ok with
  | true => match (T t).elem with
    | some e => match (T e).ok && (T e).small && Nat.blt 0 (T e).size && Nat.beq (T e).zero.length (T e).size with
      | true => K e (T e).size (T e).zero
      | false => False
    | none => False
  | false => False
def putK (s : St) (d : Option Nat) (v : AV) (K : St → Prop) : Prop :=
  match d with
  | some d => force v fun v => K (s.put d v)
  | none => K s
/-- A list that is read. -/
def srcK (z : Nat) (v : AV) (K : List (List AV) → Prop) : Prop :=
  match v with
  | .lst z' es => match Nat.beq z' z with | true => K es | false => False
  | .own _ _ z' es => match Nat.beq z' z with | true => K es | false => False
  | .nil => K []
  | _ => False
/-- Cells as a callee sees them. -/
def plainL : List AV → (List AV → Prop) → Prop
  | [], K => K []
  | .int k n :: cs, K => plainL cs fun cs' => K (.int k n :: cs')
  | .bool b :: cs, K => plainL cs fun cs' => K (.bool b :: cs')
  | .str b :: cs, K => plainL cs fun cs' => K (.str b :: cs')
  | .lst z es :: cs, K => plainL cs fun cs' => K (.lst z es :: cs')
  | .own t e z es :: cs, K => plainL cs fun cs' => K (.lst z es :: cs')
  | .nil :: cs, K => plainL cs fun cs' => K (.nil :: cs')
  | _, _ => False
def lowerP (s : St) (v : AV) (K : AV → Prop) : Prop :=
  match v with
  | .int k n => K (.int k n)
  | .bool b => K (.bool b)
  | .str b => K (.str b)
  | .nil => K .nil
  | .lst z es => K (.lst z es)
  | .own t e z es => K (.lst z es)
  | .ref cs => K (.ref cs)
  | .ept t i off cs => K (.ref (cs.drop off))
  | .ptr t off => match s.box t with | some cs => plainL (cs.drop off) fun cs' => K (.ref cs') | none => False
  | .tape => K .tape
  | _ => False
def lowerPs (s : St) : List AV → (List AV → Prop) → Prop
  | [], K => K []
  | v :: vs, K => lowerP s v fun v' => lowerPs s vs fun vs' => K (v' :: vs')
def hasTape : List AV → Bool
  | [] => false
  | .tape :: _ => true
  | _ :: vs => hasTape vs
def lowerV (s : St) (v : AV) (K : AV → Prop) : Prop :=
  match v with
  | .agg cs => plainL cs fun cs' => K (.agg cs')
  | .fn f cap => lowerPs s cap fun cap' => match hasTape cap' with | false => K (.fn f cap') | true => False
  | v => lowerP s v K
def lowerL (s : St) : List AV → (List AV → Prop) → Prop
  | [], K => K []
  | v :: vs, K => lowerV s v fun v' => lowerL s vs fun vs' => K (v' :: vs')
/-- The slices of its own that a call gets to see. -/
def tagsP (s : St) : AV → List Nat
  | .own t _ _ _ => [t]
  | .ept t _ _ _ => [t]
  | .ptr t off => match s.box t with | some cs => ownTags cs | none => []
  | _ => []
def tagsPs (s : St) : List AV → List Nat
  | [] => []
  | v :: vs => tagsP s v ++ tagsPs s vs
def tagsV (s : St) : AV → List Nat
  | .agg cs => ownTags cs
  | .fn _ cap => tagsPs s cap
  | v => tagsP s v
def tagsL (s : St) : List AV → List Nat
  | [] => []
  | v :: vs => tagsV s v ++ tagsL s vs

/-! contracts -/
def G0 (tp : Option Nat) (X : Nat → Prop) (h : Option Addr × Nat × Nat) : Gh := ⟨fun _ => none, fun _ => none, tp, X, h, fun _ => False, default⟩
/-- What a call leaves as its result. -/
def RetR (tt : Nat) (tp : Option Nat) (X : Nat → Prop) (w w' : World) : AV → Value → Prop
  | .own _ e z es, u => OwnRep w.heap.size (fun b => X b ∨ tp = some b ∨ u.ownBlock = some b) w' e z es u
  | .tape, u => ∃ p A n c, u = .pointer (some ⟨p, 0, none⟩) ∧ w.heap.size ≤ p ∧ TapeAt tt (fun b => X b ∨ w.heap.size ≤ b) A n c w' p ∧ tp = none
  | r, u => RA w.heap.size (G0 tp X (none, 0, 0)) w' r u
def Enters (P : Program) (f : Nat) : Prop := ∃ fn c, P.funcs[f]? = some fn ∧ (fn.name == "runtime.NumGoroutine") = false ∧ fn.body = some c
/-- A contract: called with these arguments, the function returns a result of which R holds, and changes nothing but the tape. -/
def Good (P : Program) (tt : Nat) (b : Bool) (f : Nat) (args : List AV) (R : AV → Prop) : Prop :=
  Enters P f ∧ ∀ (w : World) (X : Nat → Prop) (tp : Option Nat) (us : List Value) (h : Option Addr × Nat × Nat), (∀ b, X b → b < w.heap.size) → tp.isSome = b → All2 (RA w.heap.size (G0 tp X h) w) args us →
    (∀ p, tp = some p → TapeAt tt (fun b => tp = some b) h.1 h.2.1 h.2.2 w p) →
    Calls P f us.toArray w fun e w' => ∃ u r, e = .returned u ∧ R r ∧ RetR tt tp X w w' r u ∧ Chg (fun b => tp = some b) w w' ∧ ∀ p, tp = some p → TapeAt tt (fun b => tp = some b) h.1 h.2.1 h.2.2 w' p
/-- A nil slice may be handed over as an empty list. -/
def WkC (v v' : AV) : Prop := v' = v ∨ (v = .nil ∧ ∃ z, v' = .lst z [])
def Wk (v v' : AV) : Prop := WkC v v' ∨ ∃ cs cs', v = .agg cs ∧ v' = .agg cs' ∧ All2 WkC cs cs'
structure acall (P : Program) (tt : Nat) (b : Bool) (f : Nat) (args : List AV) (K : AV → Prop) : Prop where
  out : ∃ args' R, All2 Wk args args' ∧ Good P tt b f args' R ∧ ∀ r, R r → K r
theorem acall_iff {P : Program} {tt : Nat} {b : Bool} {f : Nat} {args : List AV} {K : AV → Prop} : acall P tt b f args K ↔ (∃ args' R, All2 Wk args args' ∧ Good P tt b f args' R ∧ ∀ r, R r → K r) := ⟨fun h => h.out, fun h => ⟨h⟩⟩
def scalar0 : AV → Bool
  | .int _ _ => true
  | .bool _ => true
  | .str _ => true
  | _ => false
def scalars : List AV → Bool
  | [] => true
  | v :: vs => scalar0 v && scalars vs
def dataL : List AV → Bool
  | [] => true
  | .ref _ :: _ => false
  | .fn _ _ :: _ => false
  | _ :: vs => dataL vs
/-- The result of a call comes into the state. -/
def admitV (s : St) (tags : List Nat) (d : Option Nat) (r : AV) (K : St → Prop) : Prop :=
  match r with
  | .own _ e z es => match d with
    | some d => K (((eraseAll tags s).map (killF d)).put d (.own d e z es))
    | none => False
  | .tape => match d, s.tp, tags with
    | some d, false, [] => K (St.put { s with tp := true } d .tape)
    | _, _, _ => False
  | .int k n => putK s d (.int k n) K
  | .bool b => putK s d (.bool b) K
  | .str b => putK s d (.str b) K
  | .tup vs => match scalars vs with
    | true => putK s d (.tup vs) K
    | false => match dataL vs with
      | true => putK (eraseAll tags s) d (.tup vs) K
      | false => False
  | .nil => putK (eraseAll tags s) d .nil K
  | .lst z es => putK (eraseAll tags s) d (.lst z es) K
  | .agg cs => putK (eraseAll tags s) d (.agg cs) K
  | _ => False
def noUndef : List AV → Bool
  | [] => true
  | .undef :: _ => false
  | _ :: vs => noUndef vs
/-! maps from numbers to Bools -/
def mfind (n : Int) : List (Int × Bool) → Nat → Option (Nat × Bool)
  | [], _ => none
  | (k, v) :: l, i => bif n == k then some (i, v) else mfind n l (i + 1)
def mget (n : Int) : List (Int × Bool) → Option Bool
  | [] => none
  | (k, v) :: l => bif n == k then some v else mget n l
def mput (n : Int) (v : Bool) (kvs : List (Int × Bool)) : List (Int × Bool) := match mfind n kvs 0 with
  | some (i, _) => kvs.set i (n, v)
  | none => kvs ++ [(n, v)]
/-- A type of maps from int to bool. -/
structure mapTy (P : Program) (t : Nat) (A : Prop) : Prop where
  out : (∃ k e, P.underlying t = some (.map k e) ∧ P.underlying k = some (.int .i64) ∧ ∀ w, (zeroValue e).run P w = .ok (.bool false) w) ∧ A
theorem mapTy_iff {P : Program} {t : Nat} {A : Prop} : mapTy P t A ↔ ((∃ k e, P.underlying t = some (.map k e) ∧ P.underlying k = some (.int .i64) ∧ ∀ w, (zeroValue e).run P w = .ok (.bool false) w) ∧ A) := ⟨fun h => h.out, fun h => ⟨h⟩⟩
/-- An operation. -/
def aop (P : Program) (T : Nat → Ty) (tt : Nat) (o : Oper) (K : St → Prop) (s : St) : Prop :=
  match o.op with
  | .box _ x => match o.dst with
    | some d => cellsK (s.eval x) fun cs => forceL cs fun cs => K (((s.map (killPtrF d)).setBox d cs).put d (.ptr d 0))
    | none => False
  | .alloc t => match o.dst, (T t).ok, (T t).zero with
    | some d, true, z :: zs => K (((s.map (killPtrF d)).setBox d (z :: zs)).put d (.ptr d 0))
    | _, _, _ => False
  | .store t x y => match s.eval x, (T t).ok && o.dst.isNone with
    | .ptr b off, true => match s.box b with
      | some cs => cellsK (s.eval y) fun vs => match Nat.beq vs.length (T t).size && Nat.ble (off + vs.length) cs.length && noUndef vs with
        | true => forceL (setRange cs off vs) fun cs' => K (s.setBox b cs')
        | false => False
      | none => False
    | .ept t' i off cs, true => cellsK (s.eval y) fun vs => match ownTags vs with
      | [] => presK vs fun vs' => match vs', Nat.beq (T t).size 1 && Nat.blt off cs.length with
        | [v], true => K (s.map (storeF t' cs.length i off v))
        | _, _ => False
      | [tg] => match Nat.beq t' tg with
        | false => presK vs fun vs' => match vs', Nat.beq (T t).size 1 && Nat.blt off cs.length with
          | [v], true => K ((s.map (eraseF tg)).map (storeF t' cs.length i off v))
          | _, _ => False
        | true => False
      | _ => False
    | _, _ => False
  | .load t x => match s.eval x with
    | .ept _ _ off cs => loadAs (T t) (cs.drop off) fun v => putK s o.dst v K
    | _ => aval T s (.load t x) fun v => putK s o.dst v K
  | .buildSlice t n parts => match o.dst with
    | some d => elemZ T t fun e z zero => match Nat.ble (n * z) 1000000 with
      | true => fillK (rangeOffs z 0 n) s parts.toList (repl n zero) fun cs => forceL cs fun cs => tagsK cs fun ts => presK cs fun cs' => chunkK z n cs' fun es => K (((eraseAll ts s).map (killF d)).put d (.own d e z es))
      | false => False
    | none => False
  | .makeSlice t l c => match o.dst, s.eval l, s.eval c with
    | some d, .int _ n, .int _ m => elemZ T t fun e z zero => need (0 ≤ n ∧ m = n ∧ n ≤ 1000000) (presK zero fun zero' => K ((s.map (killF d)).put d (.own d e z (List.replicate n.toNat zero'))))
    | _, _, _ => False
  | .makeMap _ r => match o.dst, r with
    | some d, none => K ((s.map (killF d)).put d (.mp d []))
    | _, _ => False
  | .lookup t x k ok => match s.eval x, s.eval k with
    | .mp _ kvs, .int .i64 n => mapTy P t (putK s o.dst (bif ok then .tup [.bool ((mget n kvs).getD false), .bool (mget n kvs).isSome] else .bool ((mget n kvs).getD false)) K)
    | _, _ => False
  | .mapUpdate t x k y => match s.eval x, s.eval k, s.eval y, o.dst with
    | .mp tg kvs, .int .i64 n, .bool v, none => mapTy P t (K (s.map (mapF tg (mput n v kvs))))
    | _, _, _, _ => False
  | .slice t x lo hi mx => match s.eval x with
    | .own t' _ _ _ => aval T (s.map (eraseF t')) (.slice t x lo hi mx) fun v => putK (s.map (eraseF t')) o.dst v K
    | _ => aval T s (.slice t x lo hi mx) fun v => putK s o.dst v K
  | .call c => match c.callee with
    | .builtin .append => match evals s c.args.toList, c.argTypes.toList, o.dst with
      | [x, y], [t, t'], some d => match Nat.beq t t' with
        | true => elemZ T t fun e z _ => srcK z y fun es' => match x with
          | .own tg e' z' es => match Nat.beq e' e && Nat.beq z' z with
            | true => need (es.length + es'.length ≤ 1000000) (K ((s.map (killF tg)).put d (.own tg e z (es ++ es'))))
            | false => False
          | .nil => need (es'.length ≤ 1000000) (K ((s.map (killF d)).put d (.own d e z es')))
          | _ => False
        | false => False
      | _, _, _ => False
    | .value f => match s.eval f with
      | .fn g cap => lowerL s (evals s c.args.toList ++ cap) fun args => forceM args fun args => acall P tt (hasTape args) g args fun r => admitV s (tagsL s (evals s c.args.toList ++ cap)) o.dst r K
      | _ => False
    | _ => aval T s (.call c) fun v => putK s o.dst v K
  | op => aval T s op fun v => putK s o.dst v K

/-- A guarded operation: the Bool that guards it becomes known. -/
def guardOf (ops : Array Oper) (s : St) (g : Option (Nat × Bool)) (yes no : St → Prop) : Prop :=
  match g with
  | none => yes s
  | some (j, want) => match ops[j]? with
    | some o => match o.dst with
      | some d => match s.slot d with
        | .bool b => branch b (match want with | true => yes (s.put d (.bool true)) | false => no (s.put d (.bool true))) (match want with | true => no (s.put d (.bool false)) | false => yes (s.put d (.bool false)))
        | .tup _ => no s
        | _ => False
      | none => False
    | none => False
def aopG (P : Program) (T : Nat → Ty) (tt : Nat) (ops : Array Oper) (o : Oper) (K : St → Prop) (s : St) : Prop :=
  guardOf ops s o.guard (fun s => aop P T tt o K s) (fun s => putK s o.dst (.tup []) K)
/-- A region in the order of the text. -/
def aops (P : Program) (T : Nat → Ty) (tt : Nat) (ops : Array Oper) : List Oper → (St → Prop) → St → Prop
  | [], K, s => K s
  | o :: rest, K, s => aopG P T tt ops o (aops P T tt ops rest K) s

/-- How a region that draws its order is gone through: an operation that may be taken first; or whichever comes up ('alt' .. 'stop'). -/
inductive Plan where
  | done
  | take (i : Nat) (p : Plan)
  | alt (i : Nat) (p rest : Plan)
  | stop
def atakeG (T : Nat → Ty) (ops : Array Oper) (o : Oper) (K : St → Prop) (s : St) : Prop :=
  guardOf ops s o.guard (fun s => aval T s o.op fun v => putK s o.dst v K) (fun s => putK s o.dst (.tup []) K)
def arun (P : Program) (T : Nat → Ty) (tt : Nat) (ops : Array Oper) : Plan → (St → Prop) → St → Prop
  | .done, K, s => K s
  | .take i p, K, s => match ops[i]? with
    | some o => atakeG T ops o (arun P T tt ops p K) s
    | none => False
  | .alt i p rest, K, s => (match ops[i]? with
    | some o => aopG P T tt ops o (arun P T tt ops p K) s
    | none => False) ∧ arun P T tt ops rest K s
  | .stop, _, _ => True
def valueOp : Op → Bool
  | .move _ => true
  | .assign _ => true
  | .pick _ _ _ => true
  | .binOp _ _ _ _ _ => true
  | .unOp _ _ _ => true
  | .convert _ _ _ => true
  | .fieldAddr _ _ _ => true
  | .indexAddr _ _ _ => true
  | .index _ _ _ => true
  | .extract _ _ => true
  | .nilCheck _ => true
  | .build _ _ => true
  | .makeFunc _ _ _ => true
  | .call c => match c.callee with
    | .builtin .len => true
    | .builtin .min => true
    | .builtin .max => true
    | _ => false
  | _ => false
def altIdx : Plan → List Nat
  | .alt i _ rest => i :: altIdx rest
  | _ => []
def depth : Plan → Nat
  | .take _ p => depth p + 1
  | .alt _ p rest => max (depth p + 1) (depth rest)
  | _ => 0
/-- Each operation from number m on waits for all before m; none before m is a store. -/
def phaseOk (ops : Array Oper) (m : Nat) : Bool :=
  (List.range ops.size).all fun j => match ops[j]? with
    | some o => if m ≤ j then (List.range m).all fun i => o.after.any fun e => Region.binds .any e && e.on == i
      else match o.op with | .store _ _ _ => false | _ => true
    | none => true
def chk (ops : Array Oper) (m : Nat) : (pre tail : Bool) → Plan → Array Bool → Bool
  | _, false, .done, l => (Region.ready .any ops l).isEmpty
  | pre, false, .take i p, l => (Region.ready .any ops l).contains i && Region.free .any ops l i && (match ops[i]? with
      | some o => valueOp o.op || (pre && isLoad o.op && decide (i < m))
      | none => false) && chk ops m pre false p (l.setIfInBounds i true)
  | _, false, .alt i p rest, l => (i :: altIdx rest == Region.ready .any ops l) && chk ops m false false p (l.setIfInBounds i true) && chk ops m false true rest l
  | _, true, .alt i p rest, l => chk ops m false false p (l.setIfInBounds i true) && chk ops m false true rest l
  | _, true, .stop, _ => true
  | _, _, _, _ => false
def planOk (ops : Array Oper) (m : Nat) (p : Plan) : Bool := Region.noSelect ops && phaseOk ops m && decide (depth p ≤ ops.size) && chk ops m true false p (Array.replicate ops.size false)
/-- A region that draws its order. -/
structure adraw (P : Program) (T : Nat → Ty) (tt : Nat) (ops : Array Oper) (K : St → Prop) (s : St) : Prop where
  out : ∃ m p, planOk ops m p = true ∧ arun P T tt ops p K s
theorem adraw_iff {P : Program} {T : Nat → Ty} {tt : Nat} {ops : Array Oper} {K : St → Prop} {s : St} : adraw P T tt ops K s ↔ (∃ m p, planOk ops m p = true ∧ arun P T tt ops p K s) := ⟨fun h => h.out, fun h => ⟨h⟩⟩

inductive Ex where
  | norm
  | exit (id : Nat)
  | ret
/-- s' says less than s: whatever s stands for, s' stands for. -/
def Le (tt : Nat) (s s' : St) : Prop := ∀ w0 G a w, Sim tt w0 G s a w → ∃ G', Sim tt w0 G' s' a w
/-- Before a region, where it is asked for: the state may be weakened. -/
structure rest (tt : Nat) (K : St → Prop) (s : St) : Prop where
  out : ∃ s', Le tt s s' ∧ K s'
theorem rest_iff {tt : Nat} {K : St → Prop} {s : St} : rest tt K s ↔ (∃ s', Le tt s s' ∧ K s') := ⟨fun h => h.out, fun h => ⟨h⟩⟩
/-- The states at a loop's head are a family. -/
structure aloop (tt : Nat) (body : (Ex → St → Prop) → St → Prop) (Q : Ex → St → Prop) (s : St) : Prop where
  out :   ∃ (α : Type) (I : α → Prop) (st : α → St) (μ : α → Nat) (x0 : α), I x0 ∧ Le tt s (st x0) ∧ ∀ x, I x → body (fun e s' => match e with | .norm => ∃ x', I x' ∧ Le tt s' (st x') ∧ μ x' < μ x | .exit i => Q (.exit i) s' | .ret => Q .ret s') (st x)
theorem aloop_iff {tt : Nat} {body : (Ex → St → Prop) → St → Prop} {Q : Ex → St → Prop} {s : St} : aloop tt body Q s ↔ (  ∃ (α : Type) (I : α → Prop) (st : α → St) (μ : α → Nat) (x0 : α), I x0 ∧ Le tt s (st x0) ∧ ∀ x, I x → body (fun e s' => match e with | .norm => ∃ x', I x' ∧ Le tt s' (st x') ∧ μ x' < μ x | .exit i => Q (.exit i) s' | .ret => Q .ret s') (st x)) := ⟨fun h => h.out, fun h => ⟨h⟩⟩
end Go.Proofs.Ytdoemjphffnmaaa
