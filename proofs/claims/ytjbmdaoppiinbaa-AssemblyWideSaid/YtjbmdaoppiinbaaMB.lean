/- A plain interpreter over Go's data, joined (Fw8, Fw9, Fw10, Fw11, Fw12, Fw13, Fw14, FwM). -/
import Derived.Test.YtjbmdaoppiinbaaMA
import Derived.Laws.MakeOwn
import Derived.Laws.IdiomCopy
/- A plain interpreter, part 8: operations with an effect, contracts, regions, code. -/
section
namespace Go.Proofs.Ytjbmdaoppiinbaa
set_option linter.unusedVariables false
set_option linter.unusedSimpArgs false
set_option linter.unnecessarySimpa false
set_option linter.unusedSectionVars false
open Go.RowKit

def ownTags : List AV → List Tg
  | [] => []
  | .own t _ _ _ :: vs => t :: ownTags vs
  | _ :: vs => ownTags vs
/-- The same, laid open. -/
def tagsK : List AV → (List Tg → Prop) → Prop
  | [], K => K []
  | .own t _ _ _ :: vs, K => tagsK vs fun ts => K (t :: ts)
  | _ :: vs, K => tagsK vs K
theorem tagsK_eq {cs : List AV} {K : List Tg → Prop} : tagsK cs K = K (ownTags cs) := by
  induction cs generalizing K with
  | nil => rfl
  | cons v vs ih => cases v <;> simp only [tagsK, ownTags, ih]
def eraseAll : List Tg → St → St
  | [], s => s
  | t :: ts, s => eraseAll ts (s.map (eraseF t))
def eraseV : List Tg → AV → AV
  | [], v => v
  | t :: ts, v => eraseV ts (eraseF t v)
/-- How a cell lies in an element of a list: plain data; a nil slice may stand for an empty list of elements of any size. -/
def PresC : AV → AV → Prop
  | .int k n, c => c = .int k n
  | .bool b, c => c = .bool b
  | .str b, c => c = .str b
  | .lst z es, c => c = .lst z es
  | .own _ _ z es, c => c = .lst z es
  | .nil, c => c = .nil ∨ ∃ z, c = .lst z []
  | _, _ => False
structure nils (cs : List AV) (K : List AV → Prop) : Prop where
  out : ∃ cs', All2 PresC cs cs' ∧ K cs'
theorem nils_iff {cs : List AV} {K : List AV → Prop} : nils cs K ↔ (∃ cs', All2 PresC cs cs' ∧ K cs') := ⟨fun h => h.out, fun h => ⟨h⟩⟩
def hasNil : List AV → Bool
  | [] => false
  | .nil :: _ => true
  | _ :: cs => hasNil cs
/-- The cells of an element of a list, where none is nil. -/
def presN : List AV → (List AV → Prop) → Prop
  | [], K => K []
  | .int k n :: cs, K => presN cs fun cs' => K (.int k n :: cs')
  | .bool b :: cs, K => presN cs fun cs' => K (.bool b :: cs')
  | .str b :: cs, K => presN cs fun cs' => K (.str b :: cs')
  | .lst z es :: cs, K => presN cs fun cs' => K (.lst z es :: cs')
  | .own t e z es :: cs, K => presN cs fun cs' => K (.lst z es :: cs')
  | _, _ => False
def presK (cs : List AV) (K : List AV → Prop) : Prop := match hasNil cs with
  | true => nils cs K
  | false => presN cs K
def chunk {α : Type} (z : Nat) : Nat → List α → List (List α)
  | 0, _ => []
  | n + 1, cs => cs.take z :: chunk z n (cs.drop z)
def chunkK (z : Nat) : Nat → List AV → (List (List AV) → Prop) → Prop
  | 0, _, K => K []
  | n + 1, cs, K => forceL (cs.take z) fun c => chunkK z n (cs.drop z) fun es => K (c :: es)
theorem chunkK_eq {z n : Nat} {cs : List AV} {K : List (List AV) → Prop} : chunkK z n cs K = K (chunk z n cs) := by
  induction n generalizing cs K with
  | zero => rfl
  | succ n ih => simp only [chunkK, forceL_eq, ih, chunk]
def repl : Nat → List AV → List AV
  | 0, _ => []
  | n + 1, cs => cs ++ repl n cs
/-- A slice type whose elements are known: element type, its size, its zero. -/
def elemZ (T : Nat → Ty) (t : Nat) (K : Nat → Nat → List AV → Prop) : Prop :=
  match (T t).ok with
  | true => match (T t).elem with
    | some e => match (T e).ok && (T e).small && Nat.blt 0 (T e).size && Nat.beq (T e).zero.length (T e).size with
      | true => K e (T e).size (T e).zero
      | false => False
    | none => False
  | false => False
def putK (s : St) (d : Option Nat) (v : AV) (K : St → Prop) : Prop :=
  match d with
  | some d => force v fun v => K (s.put d v)
  | none => K s
/-- A list that is read. -/
def srcK (z : Nat) (v : AV) (K : List (List AV) → Prop) : Prop :=
  match v with
  | .lst z' es => match Nat.beq z' z with | true => K es | false => False
  | .own _ _ z' es => match Nat.beq z' z with | true => K es | false => False
  | .win _ _ z' es => match Nat.beq z' z with | true => K es | false => False
  | .nil => K []
  | _ => False
/-- Cells as a callee sees them. -/
def plainL : List AV → (List AV → Prop) → Prop
  | [], K => K []
  | .int k n :: cs, K => plainL cs fun cs' => K (.int k n :: cs')
  | .bool b :: cs, K => plainL cs fun cs' => K (.bool b :: cs')
  | .str b :: cs, K => plainL cs fun cs' => K (.str b :: cs')
  | .lst z es :: cs, K => plainL cs fun cs' => K (.lst z es :: cs')
  | .own t e z es :: cs, K => plainL cs fun cs' => K (.lst z es :: cs')
  | .nil :: cs, K => plainL cs fun cs' => K (.nil :: cs')
  | _, _ => False
def lowerP (s : St) (v : AV) (K : AV → Prop) : Prop :=
  match v with
  | .int k n => K (.int k n)
  | .bool b => K (.bool b)
  | .str b => K (.str b)
  | .nil => K .nil
  | .lst z es => K (.lst z es)
  | .own t e z es => K (.lst z es)
  | .ref cs => K (.ref cs)
  | .ept t i off cs => K (.ref (cs.drop off))
  | .ptr t off => match s.box t with | some cs => plainL (cs.drop off) fun cs' => K (.ref cs') | none => False
  | .tape => K .tape
  | _ => False
def lowerPs (s : St) : List AV → (List AV → Prop) → Prop
  | [], K => K []
  | v :: vs, K => lowerP s v fun v' => lowerPs s vs fun vs' => K (v' :: vs')
def hasTape : List AV → Bool
  | [] => false
  | .tape :: _ => true
  | _ :: vs => hasTape vs
def lowerV (s : St) (v : AV) (K : AV → Prop) : Prop :=
  match v with
  | .agg cs => plainL cs fun cs' => K (.agg cs')
  | .fn f cap => lowerPs s cap fun cap' => match hasTape cap' with | false => K (.fn f cap') | true => False
  | v => lowerP s v K
def lowerL (s : St) : List AV → (List AV → Prop) → Prop
  | [], K => K []
  | v :: vs, K => lowerV s v fun v' => lowerL s vs fun vs' => K (v' :: vs')
/-- The slices of its own that a call gets to see. -/
def tagsP (s : St) : AV → List Tg
  | .own t _ _ _ => [t]
  | .ept t _ _ _ => [t]
  | .ptr t off => match s.box t with | some cs => ownTags cs | none => []
  | _ => []
def tagsPs (s : St) : List AV → List Tg
  | [] => []
  | v :: vs => tagsP s v ++ tagsPs s vs
def tagsV (s : St) : AV → List Tg
  | .agg cs => ownTags cs
  | .fn _ cap => tagsPs s cap
  | v => tagsP s v
def tagsL (s : St) : List AV → List Tg
  | [] => []
  | v :: vs => tagsV s v ++ tagsL s vs

/-! contracts -/
def G0 (tp : Option Nat) (X : Nat → Prop) (h : Option Addr × Nat × Nat) : Gh := ⟨fun _ => none, fun _ => none, tp, X, h, fun _ => False, default⟩
/-- What a call leaves as its result. -/
def RetR (tt : Nat) (tp : Option Nat) (X : Nat → Prop) (w w' : World) : AV → Value → Prop
  | .own _ e z es, u => OwnRep w.heap.size (fun b => X b ∨ tp = some b ∨ u.ownBlock = some b) w' e z es u
  | .tape, u => ∃ p A n c, u = .pointer (some ⟨p, 0, none⟩) ∧ w.heap.size ≤ p ∧ TapeAt tt (fun b => X b ∨ w.heap.size ≤ b) A n c w' p ∧ tp = none
  | r, u => RA w.heap.size (G0 tp X (none, 0, 0)) w' r u
def Enters (P : Program) (f : Nat) : Prop := ∃ fn c, P.funcs[f]? = some fn ∧ (fn.name == "runtime.NumGoroutine") = false ∧ fn.body = some c
/-- A contract: called with these arguments, the function returns a result of which R holds, and changes nothing but the tape. -/
def Good (P : Program) (tt : Nat) (b : Bool) (f : Nat) (args : List AV) (R : AV → Prop) : Prop :=
  Enters P f ∧ ∀ (w : World) (X : Nat → Prop) (tp : Option Nat) (us : List Value) (h : Option Addr × Nat × Nat), (∀ b, X b → b < w.heap.size) → tp.isSome = b → All2 (RA w.heap.size (G0 tp X h) w) args us →
    (∀ p, tp = some p → TapeAt tt (fun b => tp = some b) h.1 h.2.1 h.2.2 w p) →
    Calls P f us.toArray w fun e w' => ∃ u r, e = .returned u ∧ R r ∧ RetR tt tp X w w' r u ∧ Chg (fun b => tp = some b) w w' ∧ ∀ p, tp = some p → TapeAt tt (fun b => tp = some b) h.1 h.2.1 h.2.2 w' p
def lk : List (Nat × AV) → Nat → AV
  | [], _ => .undef
  | (j, v) :: l, i => bif Nat.beq i j then v else lk l i
def lkB : List (Nat × List AV) → Nat → Option (List AV)
  | [], _ => none
  | (j, v) :: l, i => bif Nat.beq i j then some v else lkB l i
def mkSt (sl : List (Nat × AV)) (bx : List (Nat × List AV)) (tp : Bool) : St := ⟨lk sl, lkB bx, tp⟩
/-- s' says less than s: whatever s stands for, s' stands for. -/
def Le (tt : Nat) (s s' : St) : Prop := ∀ w0 G a w, Sim tt w0 G s a w → ∃ G', Sim tt w0 G' s' a w

/-! calls that change what the caller hands over -/
def plainC : AV → Bool
  | .int _ _ => true
  | .bool _ => true
  | .str _ => true
  | .lst _ _ => true
  | .nil => true
  | _ => false
def plainCs : List AV → Bool
  | [] => true
  | v :: vs => plainC v && plainCs vs
def plainG : AV → Bool
  | .agg cs => plainCs cs
  | v => plainC v
def plainGs : List AV → Bool
  | [] => true
  | v :: vs => plainG v && plainGs vs
def plainR : AV → Bool
  | .tup vs => plainGs vs
  | v => plainG v
def a0 : Act := { tmps := #[], defers := [] }
/-- The slices that are handed over to be changed, as the caller holds them. -/
def ovOf : Nat → List AV → List (Nat × AV)
  | _, [] => []
  | i, .own t e z es :: vs => (i, .own t e z es) :: ovOf (i + 1) vs
  | i, _ :: vs => ovOf (i + 1) vs
/-- A contract of a call that may change the caller's variables bx, and slices of the caller's own. -/
def GoodM (P : Program) (tt : Nat) (b : Bool) (f : Nat) (args : List AV) (bx : List (Nat × List AV)) (R : AV → List (Nat × AV) → List (Nat × List AV) → Prop) : Prop :=
  Enters P f ∧ ∀ (w0 : En) (G : Gh) (us : List Value), Sim tt w0 G (mkSt (ovOf 1000 args) bx b) a0 w0.toWorld → All2 (RA w0.B G w0.toWorld) args us →
    Calls P f us.toArray w0.toWorld fun e w' => ∃ u r ov bx' G', e = .returned u ∧ R r ov bx' ∧ Sim tt w0 G' (mkSt ov bx' b) a0 w' ∧ RA w0.B G' w' r u
def look : List (Nat × Nat) → Nat → Option Nat
  | [], _ => none
  | (a, b) :: l, t => bif Nat.beq a t then some b else look l t
def swp : List (Nat × Nat) → List (Nat × Nat)
  | [] => []
  | (a, b) :: l => (b, a) :: swp l
/-- From the callee's names to the caller's. -/
def lookT (l : List (Nat × Nat)) : Tg → Option Tg
  | .s t => match look l t with
    | some t1 => some (.s t1)
    | none => none
  | .r t i => match look l t with
    | some t1 => some (.r t1 i)
    | none => none
def renP (β : List (Nat × Nat)) : AV → AV
  | .undef => .undef
  | .nil => .nil
  | .nilp => .nilp
  | .int k n => .int k n
  | .bool b => .bool b
  | .str s => .str s
  | .lst z es => .lst z es
  | .own t e z es => .own t e z es
  | .mat t e e2 z2 rows => .mat t e e2 z2 rows
  | .agg cs => .agg cs
  | .tup vs => .tup vs
  | .ptr t off => match look β t with
    | some t1 => .ptr t1 off
    | none => .undef
  | .ept t i off cs => .ept t i off cs
  | .mpt t i e2 z2 o => .mpt t i e2 z2 o
  | .ref cs => .ref cs
  | .fn g cap => .fn g cap
  | .tape => .tape
  | .mp t kvs => .mp t kvs
  | .win t lo z es => .win t lo z es
def ren (β ρ : List (Nat × Nat)) : AV → AV
  | .undef => .undef
  | .nil => .nil
  | .nilp => .nilp
  | .int k n => .int k n
  | .bool b => .bool b
  | .str s => .str s
  | .lst z es => .lst z es
  | .own t e z es => match lookT ρ t with
    | some t1 => .own t1 e z es
    | none => .undef
  | .mat t e e2 z2 rows => match look ρ t with
    | some t1 => .mat t1 e e2 z2 rows
    | none => .undef
  | .agg cs => .agg cs
  | .tup vs => .tup vs
  | .ptr t off => match look β t with
    | some t1 => .ptr t1 off
    | none => .undef
  | .ept t i off cs => .ept t i off cs
  | .mpt t i e2 z2 o => .mpt t i e2 z2 o
  | .ref cs => .ref cs
  | .fn g cap => .fn g (cap.map (renP β))
  | .tape => .tape
  | .mp t kvs => .mp t kvs
  | .win t lo z es => .win t lo z es
/-- The same for results: what the caller can't name is dropped. -/
def renQ (β : List (Nat × Nat)) : AV → AV
  | .undef => .undef
  | .nil => .nil
  | .nilp => .nilp
  | .int k n => .int k n
  | .bool b => .bool b
  | .str s => .str s
  | .lst z es => .lst z es
  | .own t e z es => .undef
  | .mat t e e2 z2 rows => .undef
  | .agg cs => .undef
  | .tup vs => .undef
  | .ptr t off => match look β t with
    | some t1 => .ptr t1 off
    | none => .undef
  | .ept t i off cs => .undef
  | .mpt t i e2 z2 o => .undef
  | .ref cs => .undef
  | .fn g cap => .undef
  | .tape => .undef
  | .mp t kvs => .undef
  | .win t lo z es => .undef
def renL (β ρ : List (Nat × Nat)) : AV → AV
  | .undef => .undef
  | .nil => .nil
  | .nilp => .nilp
  | .int k n => .int k n
  | .bool b => .bool b
  | .str s => .str s
  | .lst z es => .lst z es
  | .own t e z es => match lookT ρ t with
    | some t1 => .own t1 e z es
    | none => .undef
  | .mat t e e2 z2 rows => match look ρ t with
    | some t1 => .mat t1 e e2 z2 rows
    | none => .undef
  | .agg cs => .undef
  | .tup vs => .undef
  | .ptr t off => match look β t with
    | some t1 => .ptr t1 off
    | none => .undef
  | .ept t i off cs => .undef
  | .mpt t i e2 z2 o => .undef
  | .ref cs => .undef
  | .fn g cap => .fn g (cap.map (renQ β))
  | .tape => .undef
  | .mp t kvs => .undef
  | .win t lo z es => .undef
def okP (β : List (Nat × Nat)) : AV → Bool
  | .ptr t _ => (look β t).isSome
  | .undef => true
  | .ref _ => true
  | v => plainC v
def okPs (β : List (Nat × Nat)) : List AV → Bool
  | [] => true
  | v :: vs => okP β v && okPs β vs
/-- An argument, as the callee sees it. -/
def okA (β ρ : List (Nat × Nat)) : AV → Bool
  | .own t _ _ _ => (lookT ρ t).isSome
  | .fn _ cap => okPs β cap
  | .agg cs => plainCs cs
  | .tape => true
  | v => okP β v
def okAs (β ρ : List (Nat × Nat)) : List AV → Bool
  | [] => true
  | v :: vs => okA β ρ v && okAs β ρ vs
/-- A cell of a variable, as the callee sees it. -/
def okC (β ρ : List (Nat × Nat)) : AV → Bool
  | .own t _ _ _ => (lookT ρ t).isSome
  | .mat t _ _ _ _ => (look ρ t).isSome
  | .fn _ cap => allPtr cap && okPs β cap
  | .ptr t _ => (look β t).isSome
  | .undef => true
  | v => plainC v
def okCs (β ρ : List (Nat × Nat)) : List AV → Bool
  | [] => true
  | v :: vs => okC β ρ v && okCs β ρ vs
def fsts : List (Nat × Nat) → List Nat
  | [] => []
  | (a, _) :: l => a :: fsts l
def inL (t : Nat) : List Nat → Bool
  | [] => false
  | a :: l => Nat.beq a t || inL t l
def ndp : List Nat → Bool
  | [] => true
  | a :: l => !inL a l && ndp l
def allGe : List Nat → Bool
  | [] => true
  | a :: l => Nat.ble 1000 a && allGe l
def okM (β ρ : List (Nat × Nat)) : Bool := ndp (fsts β) && ndp (fsts (swp β)) && ndp (fsts ρ) && ndp (fsts (swp ρ)) && allGe (fsts β)
def BoxesM (s : St) (β ρ : List (Nat × Nat)) : List (Nat × List AV) → Prop
  | [] => True
  | (t, cs) :: l => (∃ t1, look β t = some t1 ∧ s.box t1 = some (cs.map (ren β ρ)) ∧ okCs β ρ cs = true) ∧ BoxesM s β ρ l
/-- What is known of a slice behind the call. -/
def isOwn (t : Tg) : AV → Bool
  | .own t' _ _ _ => Tg.eqb t' t
  | _ => false
def ovFind (t : Tg) (ov0 ov : List (Nat × AV)) : List (Nat × AV) → AV
  | [] => .undef
  | (i, _) :: l => bif isOwn t (lk ov0 i) && isOwn t (lk ov i) then lk ov i else ovFind t ov0 ov l
def retag (t : Tg) : AV → AV
  | .own _ e z es => .own t e z es
  | _ => .undef
/-- Pointers to variables that get a new meaning. -/
def killLP (ν : List (Nat × Nat)) : AV → AV
  | .undef => .undef
  | .nil => .nil
  | .nilp => .nilp
  | .int k n => .int k n
  | .bool b => .bool b
  | .str s => .str s
  | .lst z es => .lst z es
  | .own t e z es => .own t e z es
  | .mat t e e2 z2 rows => .mat t e e2 z2 rows
  | .agg cs => .agg cs
  | .tup vs => .tup vs
  | .ptr t off => bif inL t (fsts (swp ν)) then .undef else .ptr t off
  | .ept t i off cs => .ept t i off cs
  | .mpt t i e2 z2 o => .mpt t i e2 z2 o
  | .ref cs => .ref cs
  | .fn g cap => .fn g cap
  | .tape => .tape
  | .mp t kvs => .mp t kvs
  | .win t lo z es => .win t lo z es
def afterF (ν ρ : List (Nat × Nat)) (ov0 ov : List (Nat × AV)) : AV → AV
  | .undef => .undef
  | .nil => .nil
  | .nilp => .nilp
  | .int k n => .int k n
  | .bool b => .bool b
  | .str s => .str s
  | .lst z es => .lst z es
  | .own t e z es => match lookT (swp ρ) t with
    | none => .own t e z es
    | some t' => retag t (ovFind t' ov0 ov ov0)
  | .mat t e e2 z2 rows => match look (swp ρ) t with
    | none => .mat t e e2 z2 rows
    | some _ => .undef
  | .agg cs => .agg cs
  | .tup vs => .tup vs
  | .ptr t off => bif inL t (fsts (swp ν)) then .undef else .ptr t off
  | .ept t i off cs => match look (swp ρ) t.base with
    | none => .ept t i off cs
    | some _ => .undef
  | .mpt t i e2 z2 o => match look (swp ρ) t with
    | none => .mpt t i e2 z2 o
    | some _ => .undef
  | .ref cs => .ref cs
  | .fn g cap => match ν with
    | [] => .fn g cap
    | _ :: _ => .fn g (cap.map (killLP ν))
  | .tape => .tape
  | .mp t kvs => match look (swp ρ) t with
    | none => .mp t kvs
    | some _ => .undef
  | .win t lo z es => match look (swp ρ) t.base with
    | none => .win t lo z es
    | some _ => .undef
/-- The variables behind the call. -/
def backK (β ρ : List (Nat × Nat)) (bx : List (Nat × List AV)) : List (Nat × Nat) → (St → Prop) → St → Prop
  | [], K, s => K s
  | (t, t1) :: l, K, s => match lkB bx t with
    | some cs => forceM (cs.map (ren β ρ)) fun cs => backK β ρ bx l K (s.setBox t1 cs)
    | none => backK β ρ bx l K (s.dropBox t1)
def ovGe : List (Nat × AV) → Bool
  | [] => true
  | (i, _) :: l => Nat.ble 1000 i && ovGe l
def keysIn (bx : List (Nat × List AV)) : List Nat → Bool
  | [] => true
  | t :: l => (lkB bx t).isSome && keysIn bx l
def allLt : List Nat → Bool
  | [] => true
  | a :: l => Nat.blt a 1000 && allLt l
/-- New names for what a call brings: variables (ν), slices (σ). -/
def okN (β ρ ν σ : List (Nat × Nat)) : Bool := ndp (fsts (β ++ ν)) && ndp (fsts (swp (β ++ ν))) && ndp (fsts (ρ ++ σ)) && ndp (fsts (swp (ρ ++ σ))) && allLt (fsts (swp ν))
structure mcall (P : Program) (tt : Nat) (f : Operand) (xs : List Operand) (d : Option Nat) (K : St → Prop) (s : St) : Prop where
  out : ∃ s1 g cap β ρ ν σ args bx R, Le tt s s1 ∧ s1.eval f = .fn g cap ∧ evals s1 xs ++ cap = args.map (ren β ρ) ∧ (okM β ρ && okAs β ρ args && keysIn bx (fsts β)) = true ∧ okN β ρ ν σ = true ∧ BoxesM s1 β ρ bx ∧ GoodM P tt (hasTape args) g args bx R ∧
    ∀ r ov bx', R r ov bx' → ovGe ov = true ∧ backK (β ++ ν) (ρ ++ σ) bx' (β ++ ν) (fun s => putK s d (r.mapT (renL (β ++ ν) (ρ ++ σ))) K) (s1.map (afterF ν (ρ ++ σ) (ovOf 1000 args) ov))
/-- A call that only reads what it is handed, or one that changes it. -/
structure callS (A B : Prop) : Prop where
  out : A ∨ B
theorem callS_iff {A B : Prop} : callS A B ↔ (A ∨ B) := ⟨fun h => h.out, fun h => ⟨h⟩⟩
def hasRefP : AV → Bool
  | .ptr _ _ => true
  | .own _ _ _ _ => true
  | _ => false
def hasRefPs : List AV → Bool
  | [] => false
  | v :: vs => hasRefP v || hasRefPs vs
def hasRefV : AV → Bool
  | .fn _ cap => hasRefPs cap
  | v => hasRefP v
def hasRefs : List AV → Bool
  | [] => false
  | v :: vs => hasRefV v || hasRefs vs
/-- A nil slice may be handed over as an empty list. -/
def WkC (v v' : AV) : Prop := v' = v ∨ (v = .nil ∧ ∃ z, v' = .lst z [])
def Wk (v v' : AV) : Prop := WkC v v' ∨ ∃ cs cs', v = .agg cs ∧ v' = .agg cs' ∧ All2 WkC cs cs'
def numV (l : List (IntKind × Int)) : List AV := l.map fun p => .int p.1 p.2
/-- A function without a body, over numbers. -/
structure Ext (P : Program) (f : Nat) (ns rs : List (IntKind × Int)) : Prop where
  out : ∃ fn e, P.funcs[f]? = some fn ∧ (fn.name == "runtime.NumGoroutine") = false ∧ fn.body.isNone = true ∧ Extern.findNext fn = none ∧ Extern.find fn = some e ∧
    ∀ w, (e (ns.map fun p => Value.int p.1 p.2).toArray).run P w = .ok (.tuple (rs.map fun p => Value.int p.1 p.2).toArray) w
structure acall (P : Program) (tt : Nat) (b : Bool) (f : Nat) (args : List AV) (K : AV → Prop) (alt : Prop) : Prop where
  out : (∃ args' R, All2 Wk args args' ∧ Good P tt b f args' R ∧ ∀ r, R r → K r) ∨ (∃ ns rs, args = numV ns ∧ Ext P f ns rs ∧ K (.tup (numV rs))) ∨ alt
theorem acall_iff {P : Program} {tt : Nat} {b : Bool} {f : Nat} {args : List AV} {K : AV → Prop} {alt : Prop} : acall P tt b f args K alt ↔ ((∃ args' R, All2 Wk args args' ∧ Good P tt b f args' R ∧ ∀ r, R r → K r) ∨ (∃ ns rs, args = numV ns ∧ Ext P f ns rs ∧ K (.tup (numV rs))) ∨ alt) := ⟨fun h => h.out, fun h => ⟨h⟩⟩
def scalar0 : AV → Bool
  | .int _ _ => true
  | .bool _ => true
  | .str _ => true
  | _ => false
def scalars : List AV → Bool
  | [] => true
  | v :: vs => scalar0 v && scalars vs
def dataL : List AV → Bool
  | [] => true
  | .ref _ :: _ => false
  | .fn _ _ :: _ => false
  | _ :: vs => dataL vs
def scalE (es : List (List AV)) : Prop := ∀ c ∈ es, ∀ v ∈ c, scalar0 v = true
/-- A slice that a call made: what was lent may lie in it, or its elements are numbers. -/
structure admO (A B : Prop) : Prop where
  out : A ∨ B
theorem admO_iff {A B : Prop} : admO A B ↔ (A ∨ B) := ⟨fun h => h.out, fun h => ⟨h⟩⟩
/-- The result of a call comes into the state. -/
def admitV (s : St) (tags : List Tg) (d : Option Nat) (r : AV) (K : St → Prop) : Prop :=
  match r with
  | .own _ e z es => match d with
    | some d => match tags with
      | [] => K ((s.map (killF d)).put d (.own d e z es))
      | _ => admO (K (((eraseAll tags s).map (killF d)).put d (.own d e z es))) (scalE es ∧ K ((s.map (killF d)).put d (.own d e z es)))
    | none => False
  | .tape => match d, s.tp, tags with
    | some d, false, [] => K (St.put { s with tp := true } d .tape)
    | _, _, _ => False
  | .int k n => putK s d (.int k n) K
  | .bool b => putK s d (.bool b) K
  | .str b => putK s d (.str b) K
  | .tup vs => match scalars vs with
    | true => putK s d (.tup vs) K
    | false => match dataL vs with
      | true => putK (eraseAll tags s) d (.tup vs) K
      | false => False
  | .nil => putK (eraseAll tags s) d .nil K
  | .lst z es => putK (eraseAll tags s) d (.lst z es) K
  | .agg cs => putK (eraseAll tags s) d (.agg cs) K
  | _ => False
def noUndef : List AV → Bool
  | [] => true
  | .undef :: _ => false
  | _ :: vs => noUndef vs
/-! maps from numbers to Bools -/
def mfind {α : Type} (n : Int) : List (Int × α) → Nat → Option (Nat × α)
  | [], _ => none
  | (k, v) :: l, i => bif n == k then some (i, v) else mfind n l (i + 1)
def mget {α : Type} (n : Int) : List (Int × α) → Option α
  | [] => none
  | (k, v) :: l => bif n == k then some v else mget n l
def mput {α : Type} (n : Int) (v : α) (kvs : List (Int × α)) : List (Int × α) := match mfind n kvs 0 with
  | some (i, _) => kvs.set i (n, v)
  | none => kvs ++ [(n, v)]
/-- A new map: of Bools or of numbers. -/
structure mkMapS (A B : Prop) : Prop where
  out : A ∨ B
theorem mkMapS_iff {A B : Prop} : mkMapS A B ↔ (A ∨ B) := ⟨fun h => h.out, fun h => ⟨h⟩⟩
/-- A type of maps from int to bool or int (z: the zero of its values). -/
structure mapTy (P : Program) (t : Nat) (z : Value) (A : Prop) : Prop where
  out : (∃ k e, P.underlying t = some (.map k e) ∧ P.underlying k = some (.int .i64) ∧ ∀ w, (zeroValue e).run P w = .ok z w) ∧ A
theorem mapTy_iff {P : Program} {t : Nat} {z : Value} {A : Prop} : mapTy P t z A ↔ ((∃ k e, P.underlying t = some (.map k e) ∧ P.underlying k = some (.int .i64) ∧ ∀ w, (zeroValue e).run P w = .ok z w) ∧ A) := ⟨fun h => h.out, fun h => ⟨h⟩⟩
/-! equality of structs -/
def valsK : List AV → (List Value → Prop) → Prop
  | [], K => K []
  | .int k n :: cs, K => valsK cs fun vs => K (.int k n :: vs)
  | .bool b :: cs, K => valsK cs fun vs => K (.bool b :: vs)
  | .str s :: cs, K => valsK cs fun vs => K (.string s :: vs)
  | _, _ => False
structure eqS (P : Program) (t : Nat) (vs us : List Value) (K : Bool → Prop) : Prop where
  out : P.eqGuardType P.depth t = false ∧ ∃ b, (∀ w, (Op.equalIn 10000 t (.agg vs.toArray) (.agg us.toArray)).run P w = .ok b w) ∧ K b
theorem eqS_iff {P : Program} {t : Nat} {vs us : List Value} {K : Bool → Prop} : eqS P t vs us K ↔ (P.eqGuardType P.depth t = false ∧ ∃ b, (∀ w, (Op.equalIn 10000 t (.agg vs.toArray) (.agg us.toArray)).run P w = .ok b w) ∧ K b) := ⟨fun h => h.out, fun h => ⟨h⟩⟩
/-- A slice of the function's own is cut: it is given away and only read; or a part of it may be written; or it gets shorter. -/
structure slc (A B C : Prop) : Prop where
  out : A ∨ B ∨ C
theorem slc_iff {A B C : Prop} : slc A B C ↔ (A ∨ B ∨ C) := ⟨fun h => h.out, fun h => ⟨h⟩⟩
/-- A row is appended to a slice of slices. -/
def appM (T : Nat → Ty) (t : Nat) (x y : AV) (d : Nat) (s : St) (K : St → Prop) (A : Prop) : Prop :=
  match x, y with
  | .mat tm e' e2 z2 rows, .mat d' _ e2' z2' [some es] => elemZ T t fun e z _ => match Nat.beq z 1 && Nat.beq e' e && Nat.beq e2' e2 && Nat.beq z2' z2 && !Nat.beq d' tm with
    | true => need (rows.length + 1 ≤ 1000000) (K ((((s.map (killM d')).map (killM tm)).map (killF (.s tm))).put d (.mat tm e' e2 z2 (rows ++ [some es]))))
    | false => False
  | _, _ => A
/-- A new slice with one slice of the function's own in it: that is given away, or it becomes a row. -/
structure bldS (A B : Prop) : Prop where
  out : A ∨ B
def bldK (d e z n : Nat) (cs : List AV) (s : St) (K : St → Prop) (A : Prop) : Prop :=
  match cs with
  | [.own (.s T) e2 z2 es] => match Nat.beq n 1 && Nat.beq z 1 && !Nat.beq T d with
    | true => bldS A (K ((((s.map (killM d)).map (killF (.s T))).map (killF (.s d))).put d (.mat d e e2 z2 [some es])))
    | false => A
  | _ => A
/-- An operation. -/
def aop (P : Program) (T : Nat → Ty) (tt : Nat) (o : Oper) (K : St → Prop) (s : St) : Prop :=
  match o.op with
  | .box _ x => match o.dst with
    | some d => cellsK (s.eval x) fun cs => forceL (cs.map (killPtrF d)) fun cs => K (((s.map (killPtrF d)).setBox d cs).put d (.ptr d 0))
    | none => False
  | .alloc t => match o.dst, (T t).ok, (T t).zero with
    | some d, true, z :: zs => K (((s.map (killPtrF d)).setBox d ((z :: zs).map (killPtrF d))).put d (.ptr d 0))
    | _, _, _ => False
  | .store t x y => match s.eval x, (T t).ok && o.dst.isNone with
    | .ptr b off, true => match s.box b with
      | some cs => cellsK (s.eval y) fun vs => match Nat.beq vs.length (T t).size && Nat.ble (off + vs.length) cs.length && noUndef vs with
        | true => forceL (setRange cs off vs) fun cs' => K (s.setBox b cs')
        | false => False
      | none => False
    | .ept t' i off cs, true => cellsK (s.eval y) fun vs => match ownTags vs with
      | [] => presK vs fun vs' => match vs', Nat.beq (T t).size 1 && Nat.blt off cs.length with
        | [v], true => K (s.map (storeF t' cs.length i off v))
        | _, _ => False
      | [tg] => match Tg.eqb t' tg with
        | false => presK vs fun vs' => match vs', Nat.beq (T t).size 1 && Nat.blt off cs.length with
          | [v], true => K ((s.map (eraseF tg)).map (storeF t' cs.length i off v))
          | _, _ => False
        | true => False
      | _ => False
    | .mpt tm i e2 z2 _, true => match s.eval y with
      | .own (.s tg) e' z' es => match !Nat.beq tg tm && Nat.beq e' e2 && Nat.beq z' z2 && Nat.beq (T t).size 1 with
        | true => K (s.map (setRowF tm i tg e' z' es))
        | false => False
      | _ => False
    | _, _ => False
  | .load t x => match s.eval x with
    | .ept _ _ off cs => loadAs (T t) (cs.drop off) fun v => putK s o.dst v K
    | .mpt t' i e2 z2 (some es) => loadAs (T t) [.own (.r t' i) e2 z2 es] fun v => putK s o.dst v K
    | _ => aval T s (.load t x) fun v => putK s o.dst v K
  | .buildSlice t n parts => match o.dst with
    | some d => elemZ T t fun e z zero => match Nat.ble (n * z) 1000000 with
      | true => fillK (rangeOffs z 0 n) s parts.toList (repl n zero) fun cs => forceL cs fun cs => bldK d e z n cs s K (tagsK cs fun ts => presK cs fun cs' => chunkK z n cs' fun es => K (((eraseAll ts s).map (killF d)).put d (.own d e z es)))
      | false => False
    | none => False
  | .makeSlice t l c => match o.dst, s.eval l, s.eval c with
    | some d, .int _ n, .int _ m => elemZ T t fun e z zero => need (0 ≤ n ∧ m = n ∧ n ≤ 1000000) (presK zero fun zero' => K ((s.map (killF d)).put d (.own d e z (List.replicate n.toNat zero'))))
    | _, _, _ => False
  | .binOp op t x y yt => match s.eval x, s.eval y with
    | .agg cs, .agg ds => match op with
      | .eql => valsK cs fun vs => valsK ds fun us => eqS P t vs us fun b => putK s o.dst (.bool b) K
      | .neq => valsK cs fun vs => valsK ds fun us => eqS P t vs us fun b => putK s o.dst (.bool (!b)) K
      | _ => False
    | _, _ => aval T s (.binOp op t x y yt) fun v => putK s o.dst v K
  | .makeMap _ r => match o.dst, r with
    | some d, none => mkMapS (K ((s.map (killF d)).put d (.mp d (.b [])))) (K ((s.map (killF d)).put d (.mp d (.i []))))
    | _, _ => False
  | .lookup t x k ok => match s.eval x, s.eval k with
    | .mp _ (.b kvs), .int .i64 n => mapTy P t (.bool false) (putK s o.dst (bif ok then .tup [.bool ((mget n kvs).getD false), .bool (mget n kvs).isSome] else .bool ((mget n kvs).getD false)) K)
    | .mp _ (.i kvs), .int .i64 n => mapTy P t (.int .i64 0) (putK s o.dst (bif ok then .tup [.int .i64 ((mget n kvs).getD 0), .bool (mget n kvs).isSome] else .int .i64 ((mget n kvs).getD 0)) K)
    | _, _ => False
  | .mapUpdate t x k y => match s.eval x, s.eval k, s.eval y, o.dst with
    | .mp tg (.b kvs), .int .i64 n, .bool v, none => mapTy P t (.bool false) (K (s.map (mapF tg (.b (mput n v kvs)))))
    | .mp tg (.i kvs), .int .i64 n, .int .i64 v, none => mapTy P t (.int .i64 0) (K (s.map (mapF tg (.i (mput n v kvs)))))
    | _, _, _, _ => False
  | .slice t x lo hi mx => match s.eval x with
    | .own t' e z es => slc (aval T (s.map (eraseF t')) (.slice t x lo hi mx) fun v => putK (s.map (eraseF t')) o.dst v K)
      (match mx, o.dst with
        | none, some d => elemOf T t z fun _ => optInt s 0 lo fun l => optInt s es.length hi fun h => sub es l h fun es' => need (0 < es.length) (K (s.put d (.win t' l.toNat z es')))
        | _, _ => False)
      (match mx, lo, o.dst with
        | none, none, some d => elemOf T t z fun _ => optInt s es.length hi fun h => sub es 0 h fun es' => need (0 < es.length) (K ((s.map (killF t')).put d (.own t' e z es')))
        | _, _, _ => False)
    | _ => aval T s (.slice t x lo hi mx) fun v => putK s o.dst v K
  | .call c => match c.callee with
    | .builtin .append => match evals s c.args.toList, c.argTypes.toList, o.dst with
      | [x, y], [t, t'], some d => match Nat.beq t t' with
        | true => appM T t x y d s K <| elemZ T t fun e z _ => srcK z y fun es' => match x with
          | .own (.s tg) e' z' es => match Nat.beq e' e && Nat.beq z' z with
            | true => appLim ((T e).ok && (T e).word) (es.length + es'.length) (K ((s.map (killF tg)).put d (.own tg e z (es ++ es'))))
            | false => False
          | .own (.r tm k) e' z' es => match Nat.beq e' e && Nat.beq z' z && !Nat.beq d tm with
            | true => need (es.length + es'.length ≤ 1000000) (K ((((s.map (killF (.s d))).map (rowsF tm e z (·.set k none))).map (killF (.s d))).put d (.own (.s d) e z (es ++ es'))))
            | false => False
          | .nil => appLim ((T e).ok && (T e).word) es'.length (K ((s.map (killF d)).put d (.own d e z es')))
          | _ => False
        | false => False
      | _, _, _ => False
    | .builtin .copy => match evals s c.args.toList, c.argTypes.toList, o.dst with
      | [x, y], [t, _], some d => elemZ T t fun _ z _ => match Nat.beq z 1 with
        | true => srcK z y fun src => match x with
          | .own tg _ z' es => match Nat.beq z' z with
            | true => branch (decide (0 < es.length ∧ 0 < src.length)) (K ((s.map (copyF tg z 0 (src.take es.length))).put d (.int .i64 (min src.length es.length : Nat)))) (K (s.put d (.int .i64 0)))
            | false => False
          | .win tg lo z' es => match Nat.beq z' z with
            | true => branch (decide (0 < es.length ∧ 0 < src.length)) (K ((s.map (copyF tg z lo (src.take es.length))).put d (.int .i64 (min src.length es.length : Nat)))) (K (s.put d (.int .i64 0)))
            | false => False
          | _ => False
        | false => False
      | _, _, _ => False
    | .value f => match s.eval f with
      | .fn g cap => lowerL s (evals s c.args.toList ++ cap) fun args => forceM args fun args => acall P tt (hasTape args) g args (fun r => admitV s (tagsL s (evals s c.args.toList ++ cap)) o.dst r K) False
      | _ => False
    | .builtin .len => match evals s c.args.toList, c.argTypes.toList with
      | [.mp _ kvs], [t] => mapTy P t kvs.zero (putK s o.dst (.int .i64 kvs.size) K)
      | _, _ => aval T s (.call c) fun v => putK s o.dst v K
    | _ => aval T s (.call c) fun v => putK s o.dst v K
  | op => aval T s op fun v => putK s o.dst v K

/-- A text out of bytes. -/
def strOf (ns : List Int) : ByteArray := ns.foldl (fun r n => r.push (UInt8.ofNat n.toNat)) ByteArray.empty
structure toStr (es : List (List AV)) (K : ByteArray → Prop) : Prop where
  out : ∃ ns : List Int, es = ns.map (fun n => [AV.int .u8 n]) ∧ K (strOf ns)
def isU8 : Option IntKind → Bool
  | some .u8 => true
  | _ => false
/-- An operation, or a call that changes what it is handed. -/
def aopX (P : Program) (T : Nat → Ty) (tt : Nat) (o : Oper) (K : St → Prop) (s : St) : Prop :=
  match o.op with
  | .call c => match c.callee with
    | .value f => match hasRefV (s.eval f) || hasRefs (evals s c.args.toList) with
      | true => callS (aop P T tt o K s) (mcall P tt f c.args.toList o.dst K s)
      | false => match s.eval f with
        | .fn g cap => lowerL s (evals s c.args.toList ++ cap) fun args => forceM args fun args => acall P tt (hasTape args) g args (fun r => admitV s (tagsL s (evals s c.args.toList ++ cap)) o.dst r K) (mcall P tt f c.args.toList o.dst K s)
        | _ => False
    | _ => aop P T tt o K s
  | .convert src dst x => match (T src).elem with
    | some e => match (T dst).isStr && (T src).ok && (T dst).ok && (T e).ok && isU8 (T e).kind with
      | true => srcK 1 (s.eval x) fun es => toStr es fun b => putK s o.dst (.str b) K
      | false => aop P T tt o K s
    | none => aop P T tt o K s
  | _ => aop P T tt o K s
/-- A guarded operation: the Bool that guards it becomes known. -/
def guardOf (ops : Array Oper) (s : St) (g : Option (Nat × Bool)) (yes no : St → Prop) : Prop :=
  match g with
  | none => yes s
  | some (j, want) => match ops[j]? with
    | some o => match o.dst with
      | some d => match s.eval (.tmp d) with
        | .bool b => branch b (match want with | true => yes (s.put d (.bool true)) | false => no (s.put d (.bool true))) (match want with | true => no (s.put d (.bool false)) | false => yes (s.put d (.bool false)))
        | .tup _ => no s
        | _ => False
      | none => False
    | none => False
def aopG (P : Program) (T : Nat → Ty) (tt : Nat) (ops : Array Oper) (o : Oper) (K : St → Prop) (s : St) : Prop :=
  guardOf ops s o.guard (fun s => aop P T tt o K s) (fun s => putK s o.dst (.tup []) K)
def aopXG (P : Program) (T : Nat → Ty) (tt : Nat) (ops : Array Oper) (o : Oper) (K : St → Prop) (s : St) : Prop :=
  guardOf ops s o.guard (fun s => aopX P T tt o K s) (fun s => putK s o.dst (.tup []) K)
/-- A region in the order of the text. -/
def aops (P : Program) (T : Nat → Ty) (tt : Nat) (ops : Array Oper) : List Oper → (St → Prop) → St → Prop
  | [], K, s => K s
  | o :: rest, K, s => aopXG P T tt ops o (aops P T tt ops rest K) s

/-- How a region that draws its order is gone through: an operation that may be taken first; or whichever comes up ('alt' .. 'stop'). -/
inductive Plan where
  | done
  | take (i : Nat) (p : Plan)
  | alt (i : Nat) (p rest : Plan)
  | altE (i : Nat) (p rest : Plan)
  | altM (i : Nat) (p rest : Plan)
  | takeQ (i : Nat) (p : Plan)
  | cut (L : List Nat) (p q : Plan)
  | stop
def atakeG (T : Nat → Ty) (ops : Array Oper) (o : Oper) (K : St → Prop) (s : St) : Prop :=
  guardOf ops s o.guard (fun s => aval T s o.op fun v => putK s o.dst v K) (fun s => putK s o.dst (.tup []) K)
/-- A store into an element of a slice of the function's own. -/
def isElem (s : St) (o : Oper) : Prop := match o.op with
  | .store _ x _ => match s.eval x with | .ept _ _ _ _ => True | .mpt _ _ _ _ _ => True | _ => False
  | _ => False
def aopE (P : Program) (T : Nat → Ty) (tt : Nat) (ops : Array Oper) (o : Oper) (K : St → Prop) (s : St) : Prop :=
  match o.guard with
  | none => isElem s o ∧ aop P T tt o K s
  | some _ => False
/-- A load, through whatever. -/
def aloadN (T : Nat → Ty) (o : Oper) (K : St → Prop) (s : St) : Prop :=
  match o.op with
  | .load t x => match s.eval x with
    | .ept _ _ off cs => loadAs (T t) (cs.drop off) fun v => putK s o.dst v K
    | .mpt t' i e2 z2 (some es) => loadAs (T t) [.own (.r t' i) e2 z2 es] fun v => putK s o.dst v K
    | _ => aval T s (.load t x) fun v => putK s o.dst v K
  | _ => False
def aloadQ (T : Nat → Ty) (ops : Array Oper) (o : Oper) (K : St → Prop) (s : St) : Prop :=
  guardOf ops s o.guard (fun s => aloadN T o K s) (fun s => putK s o.dst (.tup []) K)
/-- All orders of the first part meet in one state. -/
structure leS (tt : Nat) (s' s : St) : Prop where
  out : Le tt s s'
structure acut (tt : Nat) (p : (St → Prop) → Prop) (q : St → Prop) : Prop where
  out : ∃ s', p (leS tt s') ∧ q s'
def arun (P : Program) (T : Nat → Ty) (tt : Nat) (ops : Array Oper) : Plan → (St → Prop) → St → Prop
  | .done, K, s => K s
  | .take i p, K, s => match ops[i]? with
    | some o => atakeG T ops o (arun P T tt ops p K) s
    | none => False
  | .alt i p rest, K, s => (match ops[i]? with
    | some o => aopG P T tt ops o (arun P T tt ops p K) s
    | none => False) ∧ arun P T tt ops rest K s
  | .altE i p rest, K, s => (match ops[i]? with
    | some o => aopE P T tt ops o (arun P T tt ops p K) s
    | none => False) ∧ arun P T tt ops rest K s
  | .altM i p rest, K, s => (match ops[i]? with
    | some o => aopXG P T tt ops o (arun P T tt ops p K) s
    | none => False) ∧ arun P T tt ops rest K s
  | .stop, _, _ => True
  | .takeQ i p, K, s => match ops[i]? with
    | some o => aloadQ T ops o (arun P T tt ops p K) s
    | none => False
  | .cut _ p q, K, s => acut tt (fun K' => arun P T tt ops p K' s) (fun s' => arun P T tt ops q K s')
def valueOp : Op → Bool
  | .move _ => true
  | .assign _ => true
  | .pick _ _ _ => true
  | .binOp _ _ _ _ _ => true
  | .unOp _ _ _ => true
  | .convert _ _ _ => true
  | .fieldAddr _ _ _ => true
  | .indexAddr _ _ _ => true
  | .index _ _ _ => true
  | .extract _ _ => true
  | .nilCheck _ => true
  | .build _ _ => true
  | .makeFunc _ _ _ => true
  | .call c => match c.callee with
    | .builtin .len => true
    | .builtin .min => true
    | .builtin .max => true
    | _ => false
  | _ => false
def altIdx : Plan → List Nat
  | .alt i _ rest => i :: altIdx rest
  | .altE i _ rest => i :: altIdx rest
  | .altM i _ rest => i :: altIdx rest
  | _ => []
def depth : Plan → Nat
  | .take _ p => depth p + 1
  | .takeQ _ p => depth p + 1
  | .cut _ p q => depth p + depth q
  | .alt _ p rest => max (depth p + 1) (depth rest)
  | .altE _ p rest => max (depth p + 1) (depth rest)
  | .altM _ p rest => max (depth p + 1) (depth rest)
  | _ => 0
/-- Each operation from number m on waits for all before m. -/
def phaseOk (ops : Array Oper) (m : Nat) : Bool :=
  (List.range ops.size).all fun j => match ops[j]? with
    | some o => if m ≤ j then (List.range m).all fun i => o.after.any fun e => Region.binds .any e && e.on == i else true
    | none => true
/-- Before m no store but into an element of a slice of the function's own. -/
def lateOk (ops : Array Oper) (m i : Nat) : Bool := decide (m ≤ i) || match ops[i]? with
  | some o => match o.op with | .store _ _ _ => false | _ => true
  | none => true
/-- What waits for operation i, of all that is not done. -/
def waitsFor (ops : Array Oper) (l : Array Bool) (i : Nat) (D : List Nat) (j : Nat) : Bool := !(l.getD j true) && (match ops[j]? with | some o => o.after.any fun e => Region.binds .any e && (e.on == i || D.contains e.on) | none => false)
def waitsOn (ops : Array Oper) (l : Array Bool) (i : Nat) : List Nat := (List.range ops.size).foldl (fun D j => if waitsFor ops l i D j then D ++ [j] else D) []
def quietOk (ops : Array Oper) (l : Array Bool) (i : Nat) (D : List Nat) : Bool :=
  (List.range ops.size).all (fun j => l.getD j true || j == i || D.contains j || (match ops[j]? with | some o => isLoad o.op | none => false)) && D.all (waitsFor ops l i D)
def maskL (n : Nat) (L : List Nat) : Array Bool := L.foldl (fun l i => l.setIfInBounds i true) (Array.replicate n false)
def chk (ops : Array Oper) (m : Nat) : (Array Bool → Bool) → (pre tail : Bool) → Plan → Array Bool → Bool
  | E, _, false, .done, l => E l
  | E, pre, false, .take i p, l => (Region.ready .any ops l).contains i && Region.free .any ops l i && (match ops[i]? with
      | some o => valueOp o.op || (pre && isLoad o.op && decide (i < m))
      | none => false) && chk ops m E pre false p (l.setIfInBounds i true)
  | E, _, false, .alt i p rest, l => (i :: altIdx rest == Region.ready .any ops l) && lateOk ops m i && chk ops m E false false p (l.setIfInBounds i true) && chk ops m E false true rest l
  | E, _, true, .alt i p rest, l => lateOk ops m i && chk ops m E false false p (l.setIfInBounds i true) && chk ops m E false true rest l
  | E, _, false, .altE i p rest, l => (i :: altIdx rest == Region.ready .any ops l) && chk ops m E false false p (l.setIfInBounds i true) && chk ops m E false true rest l
  | E, _, true, .altE i p rest, l => chk ops m E false false p (l.setIfInBounds i true) && chk ops m E false true rest l
  | E, _, false, .altM i p rest, l => (i :: altIdx rest == Region.ready .any ops l) && decide (m ≤ i) && chk ops m E false false p (l.setIfInBounds i true) && chk ops m E false true rest l
  | E, _, true, .altM i p rest, l => decide (m ≤ i) && chk ops m E false false p (l.setIfInBounds i true) && chk ops m E false true rest l
  | E, pre, false, .takeQ i p, l => (Region.ready .any ops l).contains i && Region.free .any ops l i && quietOk ops l i (waitsOn ops l i) && chk ops m E pre false p (l.setIfInBounds i true)
  | E, pre, false, .cut L p q, l => Nat.beq m 0 && chk ops m (fun l => l == maskL ops.size L) pre false p l && chk ops m E false false q (maskL ops.size L)
  | _, _, true, .stop, _ => true
  | _, _, _, _, _ => false
def planOk (ops : Array Oper) (m : Nat) (p : Plan) : Bool := Region.noSelect ops && phaseOk ops m && decide (depth p ≤ ops.size) && chk ops m (fun l => (Region.ready .any ops l).isEmpty) true false p (Array.replicate ops.size false)
/-- A region that draws its order. -/
structure adraw (P : Program) (T : Nat → Ty) (tt : Nat) (ops : Array Oper) (K : St → Prop) (s : St) : Prop where
  out : ∃ m p, planOk ops m p = true ∧ arun P T tt ops p K s
theorem adraw_iff {P : Program} {T : Nat → Ty} {tt : Nat} {ops : Array Oper} {K : St → Prop} {s : St} : adraw P T tt ops K s ↔ (∃ m p, planOk ops m p = true ∧ arun P T tt ops p K s) := ⟨fun h => h.out, fun h => ⟨h⟩⟩

inductive Ex where
  | norm
  | exit (id : Nat)
  | ret
/-- Before a region, where it is asked for: the state may be weakened. -/
structure rest (tt : Nat) (K : St → Prop) (s : St) : Prop where
  out : ∃ s', Le tt s s' ∧ K s'
theorem rest_iff {tt : Nat} {K : St → Prop} {s : St} : rest tt K s ↔ (∃ s', Le tt s s' ∧ K s') := ⟨fun h => h.out, fun h => ⟨h⟩⟩
/-- The states at a loop's head are a family. -/
structure aloop (tt : Nat) (body : (Ex → St → Prop) → St → Prop) (Q : Ex → St → Prop) (s : St) : Prop where
  out :   ∃ (α : Type) (I : α → Prop) (st : α → St) (μ : α → Nat) (x0 : α), I x0 ∧ Le tt s (st x0) ∧ ∀ x, I x → body (fun e s' => match e with | .norm => ∃ x', I x' ∧ Le tt s' (st x') ∧ μ x' < μ x | .exit i => Q (.exit i) s' | .ret => Q .ret s') (st x)
theorem aloop_iff {tt : Nat} {body : (Ex → St → Prop) → St → Prop} {Q : Ex → St → Prop} {s : St} : aloop tt body Q s ↔ (  ∃ (α : Type) (I : α → Prop) (st : α → St) (μ : α → Nat) (x0 : α), I x0 ∧ Le tt s (st x0) ∧ ∀ x, I x → body (fun e s' => match e with | .norm => ∃ x', I x' ∧ Le tt s' (st x') ∧ μ x' < μ x | .exit i => Q (.exit i) s' | .ret => Q .ret s') (st x)) := ⟨fun h => h.out, fun h => ⟨h⟩⟩
end Go.Proofs.Ytjbmdaoppiinbaa
end

/- A plain interpreter, part 9: operations with an effect: the model does what the interpreter says. -/
section
namespace Go.Proofs.Ytjbmdaoppiinbaa
set_option linter.unusedVariables false
set_option linter.unusedSimpArgs false
set_option linter.unnecessarySimpa false
set_option linter.unusedSectionVars false
open Go.RowKit

section
variable {P : Program} {T : Nat → Ty} {tt : Nat} {w0 : En} {w w' : World} {G : Gh} {s : St} {a : Act} {B : Nat}
/-- What is to be shown behind an operation. -/
def Nxt (tt : Nat) (w0 : En) (n : Nat) (F : Option Gh) (K : St → Prop) (a : Act) (w : World) : Prop := ∃ G s, Sim tt w0 G s a w ∧ a.tmps.size = n ∧ K s ∧ ∀ g, F = some g → G.fz = g.fz ∧ G.fw = g.fw
def Kp (F : Option Gh) (G : Gh) : Prop := ∀ g, F = some g → G.fz = g.fz ∧ G.fw = g.fw
theorem Kp.refl (G : Gh) : Kp (some G) G := fun g e => by injection e with e; subst e; exact ⟨rfl, rfl⟩
theorem Kp.of {F : Option Gh} {G G' : Gh} (h : Kp F G) (h1 : G'.fz = G.fz) (h2 : G'.fw = G.fw) : Kp F G' := fun g e => ⟨h1.trans (h g e).1, h2.trans (h g e).2⟩
theorem Kp.none {G : Gh} : Kp Option.none G := fun g e => by cases e
theorem Nxt.weaken {n : Nat} {F : Option Gh} {K : St → Prop} (h : Nxt tt w0 n F K a w) : Nxt tt w0 n none K a w := by
  obtain ⟨G, s, h1, h2, h3, _⟩ := h
  exact ⟨G, s, h1, h2, h3, Kp.none⟩
theorem size_put {d : Option Nat} {u : Value} : (a.put d u).tmps.size = a.tmps.size := by cases d <;> simp [Act.put]
theorem put_sound (S : Sim tt w0 G s a w) {d : Option Nat} (hd : ∀ x, d = some x → x < a.tmps.size) {v : AV} {u : Value} (hr : RA w0.B G w v u) {K : St → Prop} {F : Option Gh} (hF : Kp F G) (h : putK s d v K) : Nxt tt w0 a.tmps.size F K (a.put d u) w := by
  cases d with
  | none => exact ⟨G, s, S, rfl, h, hF⟩
  | some d =>
    simp only [putK, force_eq] at h
    exact ⟨G, _, S.put (hd d rfl) hr, size_put, h, hF⟩
theorem erases (S : Sim tt w0 G s a w) (ts : List Tg) : ∃ G', Sim tt w0 G' (eraseAll ts s) a w ∧ (∀ v u, RC w0.B G w v u → RC w0.B G' w (eraseV ts v) u) ∧
    (∀ b, GX G' b → GX G b ∧ ∀ t, t ∈ ts → ∀ v, G.own t = some v → v.ownBlock ≠ some b) ∧ G'.tape = G.tape ∧ G'.hdr = G.hdr ∧ (∀ t v, G'.own t = some v → G.own t = some v ∧ t ∉ ts) ∧ G'.box = G.box ∧ G'.fz = G.fz ∧ G'.fw = G.fw := by
  induction ts generalizing G s with
  | nil => exact ⟨G, S, fun v u h => h, fun b h => ⟨h, fun t ht => by simp at ht⟩, rfl, rfl, fun t v h => ⟨h, by simp⟩, rfl, rfl, rfl⟩
  | cons t ts ih =>
    obtain ⟨S1, hc⟩ := S.erase t
    obtain ⟨G', k1, k2, k3, k4, k5, k6, k7, k8⟩ := ih S1
    refine ⟨G', k1, fun v u h => k2 _ _ (hc v u h), fun b hb => ?_, k4, k5, fun t' v h => ?_, k7, k8⟩
    · obtain ⟨h1, h2⟩ := k3 b hb
      refine ⟨?_, fun t' ht' v hv hvb => ?_⟩
      · rcases h1 with (⟨t', ht⟩ | ⟨t', v, h, h'⟩ | h) | h
        · exact .inl (.inl ⟨t', ht⟩)
        · rcases upd_cases h with ⟨_, e⟩ | ⟨_, e⟩
          · cases e
          · exact .inl (.inr (.inl ⟨t', v, e, h'⟩))
        · exact .inl (.inr (.inr h))
        · exact .inr h
      · by_cases e : t' = t
        · subst e
          rcases h1 with (⟨t2, ht⟩ | ⟨t2, v2, h, h'⟩ | h) | h
          · exact S.boxOwn t2 t' v b ht hv hvb
          · rcases upd_cases h with ⟨_, e⟩ | ⟨hne, e⟩
            · cases e
            · exact hne (S.ownInj t2 t' v2 v b e hv h' hvb)
          · exact S.tapeOwn t' v b h hv hvb
          · exact S.newX (S.ownLt t' v b hv hvb).1 h
        · exact h2 t' (by simpa [e] using ht') v ((upd_ne e).trans hv) hvb
    · obtain ⟨h1, h2⟩ := k6 t' v h
      rcases upd_cases h1 with ⟨_, e⟩ | ⟨hne, e⟩
      · cases e
      · exact ⟨e, by simp [hne, h2]⟩
theorem eraseV_own {ts : List Tg} {t : Tg} {e z : Nat} {es : List (List AV)} (h : t ∈ ts) : eraseV ts (.own t e z es) = .lst z es := by
  have hl : ∀ ts : List Tg, eraseV ts (.lst z es) = .lst z es := fun ts => by
    induction ts with
    | nil => rfl
    | cons t ts ih => exact ih
  induction ts with
  | nil => simp at h
  | cons t' ts ih =>
    by_cases e' : t = t'
    · subst e'
      simp only [eraseV, eraseF, Tg.eqb_self, cond_true]
      exact hl ts
    · simp only [eraseV, eraseF, Tg.eqb_ne e', cond_false]
      exact ih (by simpa [e'] using h)
theorem eraseV_plain {ts : List Tg} {v : AV} (h1 : ∀ t e z es, v ≠ .own t e z es) (h2 : ∀ t i off cs, v ≠ .ept t i off cs) (h3 : ∀ t kvs, v ≠ .mp t kvs) (h4 : ∀ t lo z es, v ≠ .win t lo z es) (h5 : ∀ t e e2 z2 rows, v ≠ .mat t e e2 z2 rows) (h6 : ∀ t i e2 z2 o, v ≠ .mpt t i e2 z2 o) : eraseV ts v = v := by
  induction ts with
  | nil => rfl
  | cons t ts ih =>
    have : eraseF t v = v := by cases v <;> first | rfl | (exact absurd rfl (h1 _ _ _ _)) | (exact absurd rfl (h2 _ _ _ _)) | (exact absurd rfl (h3 _ _)) | (exact absurd rfl (h4 _ _ _ _)) | (exact absurd rfl (h5 _ _ _ _ _)) | (exact absurd rfl (h6 _ _ _ _ _))
    rw [eraseV, this, ih]
theorem presN_ex : ∀ {cs : List AV} {K : List AV → Prop}, presN cs K → ∃ cs', All2 PresC cs cs' ∧ K cs'
  | [], K, h => ⟨[], trivial, h⟩
  | c :: cs, K, h => by
    cases c
    case int k n => obtain ⟨cs', h1, h2⟩ := presN_ex (cs := cs) h; exact ⟨.int k n :: cs', ⟨rfl, h1⟩, h2⟩
    case bool b => obtain ⟨cs', h1, h2⟩ := presN_ex (cs := cs) h; exact ⟨.bool b :: cs', ⟨rfl, h1⟩, h2⟩
    case str b => obtain ⟨cs', h1, h2⟩ := presN_ex (cs := cs) h; exact ⟨.str b :: cs', ⟨rfl, h1⟩, h2⟩
    case lst z es => obtain ⟨cs', h1, h2⟩ := presN_ex (cs := cs) h; exact ⟨.lst z es :: cs', ⟨rfl, h1⟩, h2⟩
    case own t e z es => obtain ⟨cs', h1, h2⟩ := presN_ex (cs := cs) h; exact ⟨.lst z es :: cs', ⟨rfl, h1⟩, h2⟩
    all_goals exact h.elim
theorem pres_ex {cs : List AV} {K : List AV → Prop} (h : presK cs K) : ∃ cs', All2 PresC cs cs' ∧ K cs' := by
  unfold presK at h
  split at h
  · exact nils_iff.1 h
  · exact presN_ex h
theorem pres_rel {G' : Gh} {ts : List Tg} (hc : ∀ v u, RC B G w v u → RC B G' w (eraseV ts v) u) : ∀ {cs cs' : List AV} {us : List Value}, (∀ t, t ∈ ownTags cs → t ∈ ts) → All2 PresC cs cs' → All2 (RC B G w) cs us → All2 (RepV w (GX G')) cs' us
  | [], [], [], _, _, _ => trivial
  | c :: cs, c' :: cs', u :: us, ht, h, hA => by
    have pl : (∀ t e z es, c ≠ .own t e z es) → (∀ t i off cs, c ≠ .ept t i off cs) → (∀ t e e2 z2 rows, c ≠ .mat t e e2 z2 rows) → RC B G' w c u := fun h1 h2 h3 => by
      have := hc c u hA.1
      rwa [eraseV_plain h1 h2 (fun t kvs e => by subst e; have h0 := hA.1; simp only [RC] at h0; cases h0) (fun t lo z es e => by subst e; have h0 := hA.1; simp only [RC] at h0; cases h0) h3 (fun t i e2 z2 o e => by subst e; have h0 := hA.1; simp only [RC] at h0; cases h0)] at this
    have ht' : ∀ t, t ∈ ownTags cs → t ∈ ts := fun t h' => ht t (by cases c <;> simp [ownTags, h'])
    refine ⟨?_, pres_rel hc ht' h.2 hA.2⟩
    have h1 := h.1
    cases c
    case int k n => obtain rfl := h1; exact pl (by simp) (by simp) (by simp)
    case bool b => obtain rfl := h1; exact pl (by simp) (by simp) (by simp)
    case str b => obtain rfl := h1; exact pl (by simp) (by simp) (by simp)
    case lst z es => obtain rfl := h1; exact pl (by simp) (by simp) (by simp)
    case own t e z es =>
      obtain rfl := h1
      have := hc _ u hA.1
      rwa [eraseV_own (ht t (by simp [ownTags]))] at this
    case nil =>
      have : u = .slice none 0 0 := hA.1
      subst this
      rcases h1 with rfl | ⟨z, rfl⟩
      · exact .nil0
      · exact .nil z _ _
    all_goals exact h1.elim
  | [], _ :: _, _, _, h, _ => h.elim
  | _ :: _, [], _, _, h, _ => h.elim
  | [], [], _ :: _, _, _, hA => hA.elim
  | _ :: _, _ :: _, [], _, _, hA => hA.elim
theorem pres_sound {G' : Gh} {ts : List Tg} (hc : ∀ v u, RC B G w v u → RC B G' w (eraseV ts v) u) : ∀ {cs : List AV} {us : List Value} {K : List AV → Prop}, (∀ t, t ∈ ownTags cs → t ∈ ts) → presK cs K → All2 (RC B G w) cs us → ∃ cs', K cs' ∧ All2 (RepV w (GX G')) cs' us := by
  intro cs us K ht h hA
  obtain ⟨cs', h1, h2⟩ := pres_ex h
  exact ⟨cs', h2, pres_rel hc ht h1 hA⟩
theorem chunk_flat {z : Nat} : ∀ {n : Nat} {us : List Value}, us.length = n * z → (chunk z n us).flatten = us
  | 0, us, h => by
    obtain rfl : us = [] := List.eq_nil_of_length_eq_zero (by simpa using h)
    rfl
  | n + 1, us, h => by
    simp only [chunk, List.flatten_cons]
    rw [chunk_flat (by simp [h, Nat.add_mul]), List.take_append_drop]
theorem chunk_len {α : Type} {z n : Nat} {us : List α} : (chunk z n us).length = n := by
  induction n generalizing us with
  | zero => rfl
  | succ n ih => simp [chunk, ih]
theorem chunk_all {R : AV → Value → Prop} {z : Nat} : ∀ {n : Nat} {cs : List AV} {us : List Value}, cs.length = n * z → All2 R cs us → All2 (fun ds cs => ds.length = z ∧ All2 R ds cs) (chunk z n cs) (chunk z n us)
  | 0, cs, us, _, _ => trivial
  | n + 1, cs, us, h, hA => by
    refine ⟨⟨?_, hA.take z⟩, chunk_all ?_ (hA.drop z)⟩
    · rw [List.length_take, h, Nat.add_mul]; omega
    · simp [h, Nat.add_mul]
theorem repl_at {zs : List AV} : ∀ {n k : Nat}, k < n * zs.length → (repl n zs)[k]? = zs[k % zs.length]?
  | 0, k, h => by simp at h
  | n + 1, k, h => by
    simp only [repl]
    rcases Nat.lt_or_ge k zs.length with hk | hk
    · rw [List.getElem?_append_left hk, Nat.mod_eq_of_lt hk]
    · rw [List.getElem?_append_right hk, repl_at (by rw [Nat.add_mul] at h; omega), Nat.mod_eq_sub_mod hk]
theorem repl_len {n : Nat} {zs : List AV} : (repl n zs).length = n * zs.length := by
  induction n with
  | zero => simp [repl]
  | succ n ih => simp [repl, ih, Nat.add_mul]; omega
/-- The cells of a new row of zeros. -/
theorem zeros_sound {zv : Value} {n : Nat} (hz : 0 < zv.cells.size) : All2 (RC B G w) (repl n (zv.cells.toList.map ofValue)) ((Array.range (n * zv.cells.size)).map (zv.cells[· % zv.cells.size]!)).toList := by
  refine All2.of (by simp [repl_len]) fun j c v hc hv => ?_
  have hj : j < n * zv.cells.size := by
    have := (List.getElem?_eq_some_iff.1 hc).1
    rw [repl_len] at this
    simpa using this
  have hm : j % zv.cells.size < zv.cells.size := Nat.mod_lt _ hz
  rw [repl_at (by simpa using hj)] at hc
  simp only [List.length_map, Array.length_toList, List.getElem?_map, Array.getElem?_toList, Array.getElem?_eq_getElem hm, Option.map_some, Option.some.injEq] at hc
  subst hc
  simp only [Array.getElem?_toList, Array.getElem?_map, Array.getElem?_range, hj, if_true, Option.map_some, Option.some.injEq] at hv
  subst hv
  rw [getElem!_pos zv.cells _ hm]
  have := zero_sound (B := B) (G := G) (w := w) [zv.cells[j % zv.cells.size]]
  exact this.1
theorem elemZ_sound {t : Nat} {K : Nat → Nat → List AV → Prop} (hT : TabOk P T) (h : elemZ T t K) : ∃ e i zv, K e i.size (zv.cells.toList.map ofValue) ∧ P.underlying t = some (.slice e) ∧ P.info? e = some i ∧ i.zero = some zv ∧ zv.cells.size = i.size ∧ 0 < i.size ∧ i.bytes ≤ 8192 := by
  unfold elemZ at h
  split at h
  · next hok =>
    obtain ⟨i0, d, hi0, hd, -, -, -, hel, -⟩ := ty_at hT hok
    split at h
    · next e he =>
      rw [hel] at he
      obtain rfl := elemD_eq he
      split at h
      · next hk =>
        simp only [Bool.and_eq_true] at hk
        obtain ⟨⟨⟨k1, k2⟩, k3⟩, k4⟩ := hk
        obtain ⟨i, d', hi, hd', -, hs, hsm, -, hz, -⟩ := ty_at hT k1
        have h3 : 0 < i.size := by rw [← hs]; simpa using k3
        have h4 : (T e).zero.length = i.size := by rw [← hs]; simpa using k4
        cases hiz : i.zero with
        | none => rw [hz, hiz] at h4; simp [zeroD] at h4; omega
        | some zv =>
          rw [hz, hiz] at h4 h
          rw [hs] at h
          exact ⟨e, i, zv, h, hd, hi, hiz, by simpa [zeroD] using h4, h3, Nat.le_of_ble_eq_true (hsm ▸ k2)⟩
      · exact h.elim
    · exact h.elim
  · exact h.elim
end
end Go.Proofs.Ytjbmdaoppiinbaa
end

/- A plain interpreter, part 10: variables, stores, new slices. -/
section
namespace Go.Proofs.Ytjbmdaoppiinbaa
set_option linter.unusedVariables false
set_option linter.unusedSimpArgs false
set_option linter.unnecessarySimpa false
set_option linter.unusedSectionVars false
open Go.RowKit

section
variable {P : Program} {T : Nat → Ty} {tt : Nat} {w0 : En} {w w' : World} {G : Gh} {s : St} {a : Act} {B : Nat} {Q : Exit → Act → World → Prop}
theorem val_wp {o : Oper} {K : Act → World → Prop} {u : Value} (hr : (execOp a.eval o).run P w = .ok (.value u) w') (h : K (a.put o.dst u) w') : o.wp P a w K Q := by
  unfold Oper.wp
  rw [hr]
  exact h
theorem skip_wp {o : Oper} {K : Act → World → Prop} (hd : o.dst = none) (hr : (execOp a.eval o).run P w = .ok .skip w') (h : K a w') : o.wp P a w K Q := by
  unfold Oper.wp
  rw [hr]
  simp only [Oper.upon, hd, Act.put]
  exact h
theorem aval_wp (hT : TabOk P T) (S : Sim tt w0 G s a w) (o : Oper) (hd : ∀ x, o.dst = some x → x < a.tmps.size) {K : St → Prop} {F : Option Gh} (hF : Kp F G) (h : aval T s o.op fun v => putK s o.dst v K) : o.wp P a w (Nxt tt w0 a.tmps.size F K) Q := by
  obtain ⟨v, u, h1, h2, h3⟩ := aval_sound hT S o h
  exact val_wp (h3 w fun _ => Agr.refl _ _) (put_sound S hd h2 hF h1)
theorem run_newVar (t : Nat) (v : Value) (w : World) : (newVar t v).run P w = .ok ⟨w.heap.size, 0, none⟩ (w.alloc (.cells v.cells t)) := by
  simp only [newVar, newRow, newObj, Sem.run_bind, Sem.run, Result.andThen_ok, Sem.run_pure]
  rfl
theorem newBox (S : Sim tt w0 G s a w) {d : Nat} (hd : d < a.tmps.size) (e : Nat) {cs : List AV} {us : List Value} (hA : All2 (RC w0.B G w) cs us) {K : St → Prop} (h : K (((s.map (killPtrF d)).setBox d (cs.map (killPtrF d))).put d (.ptr d 0))) :
    Nxt tt w0 a.tmps.size (some G) K (a.put (some d) (.pointer (some ⟨w.heap.size, 0, none⟩))) (w.alloc (.cells us.toArray e)) := by
  have S1 := S.allocBox d e hd hA
  exact ⟨_, _, S1.put (v := .ptr d 0) hd ⟨w.heap.size, upd_same, rfl⟩, size_put, h, (Kp.refl G).of rfl rfl⟩
theorem sound_box (S : Sim tt w0 G s a w) (o : Oper) (hd : ∀ x, o.dst = some x → x < a.tmps.size) {K : St → Prop} {t : Nat} {x : Operand} (ho : o.op = .box t x) (h : aop P T tt o K s) : o.wp P a w (Nxt tt w0 a.tmps.size (some G) K) Q := by
  simp only [aop, ho] at h
  split at h
  · next d hdd =>
    obtain ⟨cs, us, h1, h2, h3⟩ := cells_sound h (S.eval x)
    rw [forceL_eq] at h1
    refine val_wp (u := .pointer (some ⟨w.heap.size, 0, none⟩)) (w' := w.alloc (.cells us.toArray t)) ?_ ?_
    · simp only [execOp, ho, Instr.box, Sem.run_bind, run_newVar, h2, Result.andThen_ok, Sem.run_pure]
    · rw [hdd]; exact newBox S (hd d hdd) t h3 h1
  · exact h.elim
theorem sound_alloc (hT : TabOk P T) (S : Sim tt w0 G s a w) (o : Oper) (hd : ∀ x, o.dst = some x → x < a.tmps.size) {K : St → Prop} {t : Nat} (ho : o.op = .alloc t) (h : aop P T tt o K s) : o.wp P a w (Nxt tt w0 a.tmps.size (some G) K) Q := by
  simp only [aop, ho] at h
  split at h
  · next d z zs hdd hok hz =>
    obtain ⟨i, dd, hi, hdd', -, -, -, -, hzz, -⟩ := ty_at hT hok
    cases hiz : i.zero with
    | none => rw [hzz, hiz] at hz; simp [zeroD] at hz
    | some zv =>
      rw [hzz, hiz] at hz
      have hA : All2 (RC w0.B G w) (z :: zs) zv.cells.toList := by rw [← hz]; exact zero_sound _
      refine val_wp (u := .pointer (some ⟨w.heap.size, 0, none⟩)) (w' := w.alloc (.cells zv.cells.toList.toArray t)) ?_ ?_
      · simp only [execOp, ho, Instr.alloc, Sem.run_bind, zeroValue, typeInfo, program, Sem.run, hi, hiz, Result.andThen_ok, Sem.run_pure, run_newVar]
      · rw [hdd]; exact newBox S (hd d hdd) t hA h
  · exact h.elim
theorem storeCells_run {b e : Nat} : ∀ {us : List Value} {cur : List Value} {o i : Nat} {w : World}, Blk w b e cur.toArray → o + i + us.length ≤ cur.length → (∀ u ∈ us, u.oneCell' = true) →
    ∃ w', (storeCells ⟨b, o, none⟩ us i).run P w = .ok () w' ∧ Blk w' b e ((us.zipIdx i).foldl (fun cs (p : Value × Nat) => cs.set (o + p.2) p.1) cur).toArray ∧ w'.heap.size = w.heap.size ∧ (∀ b', b' ≠ b → w'.heap[b']? = w.heap[b']?) ∧ w'.os = w.os ∧ w'.tape = w.tape ∧ w'.output = w.output
  | [], cur, o, i, w, hB, _, _ => ⟨w, rfl, hB, rfl, fun _ _ => rfl, rfl, rfl, rfl⟩
  | u :: us, cur, o, i, w, hB, hl, h1 => by
    have hlt : o + i < cur.length := by simp at hl; omega
    have hcell : w.cell? ⟨b, o + i, none⟩ = some cur[o + i] := by rw [hB.cell]; simp [hlt]
    have hB' := hB.stored (o + i) u
    have e1 : cur.toArray.setIfInBounds (o + i) u = (cur.set (o + i) u).toArray := by simp
    rw [e1] at hB'
    obtain ⟨w', k1, k2, k3, k4, k5, k6, k7⟩ := storeCells_run (us := us) (cur := cur.set (o + i) u) (o := o) (i := i + 1) hB' (by simp at hl ⊢; omega) (fun v hv => h1 v (by simp [hv]))
    refine ⟨w', ?_, by simpa [List.zipIdx_cons] using k2, by rw [k3]; simp [World.setCell], fun b' hb' => (k4 b' hb').trans (Below.heap_setCell _ _ _ _ hb'), by rw [k5]; rfl, by rw [k6]; rfl, by rw [k7]; rfl⟩
    have hu := h1 u (by simp)
    simp only [storeCells, Sem.run_bind, store, add_none]
    have hrun : (Sem.store .plain ⟨b, o + i, none⟩ u (.pure ())).run P w = .ok () (w.setCell ⟨b, o + i, none⟩ u) := by
      cases u <;> first | (simp [Value.oneCell'] at hu; done) | (simp [Sem.run, hcell, hB.frozen])
    rw [hrun]
    simpa using k1
theorem RC.one {v : AV} {u : Value} (h : RC B G w v u) (hn : v ≠ .undef) : u.oneCell' = true := by
  cases v
  case fn f cap => obtain ⟨us, rfl, _⟩ := h; rfl
  case undef => exact absurd rfl hn
  case nil => have : u = .slice none 0 0 := h; subst this; rfl
  case nilp => have : u = .pointer none := h; subst this; rfl
  case ptr t off => obtain ⟨b, _, rfl⟩ := h; rfl
  case mat t e e2 z2 rows =>
    obtain ⟨-, hs, h1, -⟩ := h
    rcases h1.2 with ⟨rfl, -⟩ | ⟨g, cap, cur, rfl, -⟩ <;> rfl
  case own t e z es =>
    obtain ⟨A, c, rfl⟩ := h.2.inv
    rfl
  all_goals exact RepV.one h
theorem noUndef_one : ∀ {cs : List AV} {us : List Value}, noUndef cs = true → All2 (RC B G w) cs us → ∀ u ∈ us, u.oneCell' = true
  | [], [], _, _, u, h => by simp at h
  | c :: cs, v :: us, hn, hA, u, h => by
    have hc : c ≠ .undef := fun e => by subst e; simp [noUndef] at hn
    have hn' : noUndef cs = true := by cases c <;> first | exact hn | (exact absurd rfl hc)
    rcases List.mem_cons.1 h with rfl | h
    · exact hA.1.one hc
    · exact noUndef_one hn' hA.2 u h
  | [], _ :: _, _, hA, _, _ => hA.elim
  | _ :: _, [], _, hA, _, _ => hA.elim
theorem RepV.notUndef {X : Nat → Prop} {v : AV} {u : Value} (h : RepV w X v u) : v ≠ .undef := by cases h <;> simp
def kpS (s : St) (x : Operand) (G : Gh) : Option Gh := match s.eval x with | .ept _ _ _ _ => some G | .mpt _ _ _ _ _ => some G | _ => none
theorem sound_store (hT : TabOk P T) (S : Sim tt w0 G s a w) (o : Oper) {K : St → Prop} {t : Nat} {x y : Operand} (ho : o.op = .store t x y) (h : aop P T tt o K s) : o.wp P a w (Nxt tt w0 a.tmps.size (kpS s x G) K) Q := by
  simp only [aop, ho] at h
  have hx := S.eval x
  split at h
  · next b off hb hk =>
    rw [show kpS s x G = none by simp only [kpS, hb]]
    rw [Bool.and_eq_true] at hk
    obtain ⟨i, d, hi, hd, -, hs, -⟩ := ty_at hT hk.1
    have hdst : o.dst = none := by simpa using hk.2
    rw [hb] at hx
    obtain ⟨bb, hbb, hu⟩ := hx
    split at h
    · next cs hcs =>
      obtain ⟨vs, us, h1, h2, h3⟩ := cells_sound h (S.eval y)
      split at h1
      · next hc =>
        simp only [Bool.and_eq_true] at hc
        obtain ⟨⟨c1, c2⟩, c3⟩ := hc
        have e1 : vs.length = (T t).size := by simpa using c1
        have e2 : off + vs.length ≤ cs.length := Nat.le_of_ble_eq_true c2
        rw [forceL_eq] at h1
        obtain ⟨b', e, cur, k1, k2, k3⟩ := S.box b cs hcs
        rw [hbb] at k1
        injection k1 with k1
        subst k1
        have l3 := h3.len
        have lk := k3.len
        obtain ⟨w', r1, r2, r3, r4, r5, r6, r7⟩ := storeCells_run (P := P) (us := us) (o := off) (i := 0) k2 (by omega) (noUndef_one c3 h3)
        have hset := setRange_sound (R := RC w0.B G w) off 0 h3 k3
        rw [Nat.add_zero] at hset
        refine skip_wp (w' := w') hdst ?_ ⟨_, _, S.storeBox hbb r2 r3 r4 ?_ hset, rfl, h1, Kp.none⟩
        · have hsz : ¬ us.toArray.size ≠ i.size := by simp; omega
          simp only [execOp, ho, Instr.storeAt, Instr.sureAddr, hu, storeVar, h2, Sem.run_bind, Sem.run_pure, Result.andThen_ok, run_sizeOf hi, hsz, if_false, r1]
        · exact S.chg.andThen (Y := fun b2 => b2 = bb) ⟨r5, r6, r7, by omega, fun b2 hb2 hx2 => r4 b2 hx2⟩ fun b2 hb2 e => (S.boxLt b bb hbb).1.elim (fun h => by omega) fun h => .inr (e ▸ h)
      · exact h1.elim
    · exact h.elim
  · next t' i off cs hb hk =>
    rw [show kpS s x G = some G by simp only [kpS, hb]]
    rw [Bool.and_eq_true] at hk
    obtain ⟨ii, d, hi, hd, -, hs, -⟩ := ty_at hT hk.1
    have hdst : o.dst = none := by simpa using hk.2
    rw [hb] at hx
    obtain ⟨g, n, c, e, cur, us, k1, hu, k3, k4, k4', k5, k6⟩ := hx
    obtain ⟨vs, ws, h1, h2, h3⟩ := cells_sound h (S.eval y)
    split at h1
    · next hts =>
      obtain ⟨vs', h4, h5⟩ := pres_sound (G := G) (G' := G) (B := w0.B) (w := w) (ts := []) (fun _ _ h => h) (fun t ht => by rw [hts] at ht; exact ht) h1 h3
      split at h4
      · next v hk2 =>
        rw [Bool.and_eq_true] at hk2
        have hsz : (T t).size = 1 := by simpa using hk2.1
        have hoff : off < cs.length := by simpa using hk2.2
        obtain ⟨u, ws', rfl, h6, h7⟩ := h5.cons_inv
        obtain rfl := h7.nil_inv
        have hone := h6.one
        · have hin : i * cs.length + off < cur.size := by
            have : (i + 1) * cs.length ≤ n * cs.length := Nat.mul_le_mul_right _ k3
            rw [Nat.add_mul] at this
            omega
          have hB : Blk w g e cur := k4
          refine skip_wp (w' := w.setCell ⟨g, i * cs.length + off, none⟩ u) hdst ?_ ⟨G, _, S.storeTg k1 k3 hoff h6, rfl, h4, Kp.refl G⟩
          have hcell : w.cell? ⟨g, i * cs.length + off, none⟩ = some cur[i * cs.length + off] := by rw [hB.cell]; simp [hin]
          have hrun : (Sem.store .plain ⟨g, i * cs.length + off, none⟩ u (.pure ())).run P w = .ok () (w.setCell ⟨g, i * cs.length + off, none⟩ u) := by
            cases u <;> first | (simp [Value.oneCell'] at hone; done) | (simp [Sem.run, hcell, hB.frozen])
          have hs1 : ii.size = 1 := by omega
          simp only [execOp, ho, Instr.storeAt, Instr.sureAddr, hu, storeVar, h2, Sem.run_bind, Sem.run_pure, Result.andThen_ok, run_sizeOf hi, hs1, List.size_toArray, List.length_singleton, ne_eq, not_true_eq_false, if_false, storeCells, store, add_none, Nat.add_zero, hrun]
      · exact h4.elim
    · next tg hts =>
      split at h1
      · next htt =>
        have hne : t' ≠ tg := fun e => by subst e; simp [Tg.eqb_self] at htt
        obtain ⟨S', hc⟩ := S.erase tg
        have k1' : upd G.own tg none t' = some (.slice (some ⟨g, 0, none⟩) n c) := (upd_ne hne).trans k1
        obtain ⟨vs', h4, h5⟩ := pres_sound (G := G) (G' := { G with own := upd G.own tg none }) (B := w0.B) (w := w) (ts := [tg]) hc (fun t ht => by rw [hts] at ht; exact ht) h1 h3
        split at h4
        · next v hk2 =>
          rw [Bool.and_eq_true] at hk2
          have hsz : (T t).size = 1 := by simpa using hk2.1
          have hoff : off < cs.length := by simpa using hk2.2
          obtain ⟨u, ws', rfl, h6, h7⟩ := h5.cons_inv
          obtain rfl := h7.nil_inv
          have hone := h6.one
          have hin : i * cs.length + off < cur.size := by
            have : (i + 1) * cs.length ≤ n * cs.length := Nat.mul_le_mul_right _ k3
            rw [Nat.add_mul] at this
            omega
          have hB : Blk w g e cur := k4
          refine skip_wp (w' := w.setCell ⟨g, i * cs.length + off, none⟩ u) hdst ?_ ⟨_, _, S'.storeTg k1' k3 hoff h6, rfl, h4, (Kp.refl G).of rfl rfl⟩
          have hcell : w.cell? ⟨g, i * cs.length + off, none⟩ = some cur[i * cs.length + off] := by rw [hB.cell]; simp [hin]
          have hrun : (Sem.store .plain ⟨g, i * cs.length + off, none⟩ u (.pure ())).run P w = .ok () (w.setCell ⟨g, i * cs.length + off, none⟩ u) := by
            cases u <;> first | (simp [Value.oneCell'] at hone; done) | (simp [Sem.run, hcell, hB.frozen])
          have hs1 : ii.size = 1 := by omega
          simp only [execOp, ho, Instr.storeAt, Instr.sureAddr, hu, storeVar, h2, Sem.run_bind, Sem.run_pure, Result.andThen_ok, run_sizeOf hi, hs1, List.size_toArray, List.length_singleton, ne_eq, not_true_eq_false, if_false, storeCells, store, add_none, Nat.add_zero, hrun]
        · exact h4.elim
      · exact h1.elim
    · exact h1.elim
  · next tm i e2 z2 ro hb hk =>
    rw [show kpS s x G = some G by simp only [kpS, hb]]
    rw [Bool.and_eq_true] at hk
    obtain ⟨ii, d, hi, hd, -, hs, -⟩ := ty_at hT hk.1
    have hdst : o.dst = none := by simpa using hk.2
    rw [hb] at hx
    obtain ⟨g, n, c, e, cur, k1, hu, k3, k4, k5, -⟩ := hx
    split at h
    · next tg e' z' es hy =>
      split at h
      · next hq =>
        simp only [Bool.and_eq_true, Bool.not_eq_true', Nat.beq_eq] at hq
        obtain ⟨⟨⟨q1, q2⟩, q3⟩, q4⟩ := hq
        have hne : tg ≠ tm := fun e => by subst e; simp at q1
        have hy' : RC w0.B G w (.own (.s tg) e' z' es) (a.eval y) := by have := S.eval y; rw [hy] at this; exact this
        obtain ⟨G', S', f1, f2⟩ := S.setRow (k := i) hne k1 k3 k4 k5 hy'
        have hone : (a.eval y).oneCell' = true := hy'.one nofun
        have hcells : (a.eval y).cells = #[a.eval y] := by
          obtain ⟨A, c, e⟩ := hy'.2.inv
          rw [e]; rfl
        have hB : Blk w g e cur := k4
        have hin : i < cur.size := by omega
        refine skip_wp (w' := w.setCell ⟨g, i, none⟩ (a.eval y)) hdst ?_ ⟨_, _, S', rfl, h, (Kp.refl G).of f1 f2⟩
        have hcell : w.cell? ⟨g, i, none⟩ = some cur[i] := by rw [hB.cell]; simp [hin]
        have hrun : (Sem.store .plain ⟨g, i, none⟩ (a.eval y) (.pure ())).run P w = .ok () (w.setCell ⟨g, i, none⟩ (a.eval y)) := by
          generalize a.eval y = u at hone ⊢
          cases u <;> first | (simp [Value.oneCell'] at hone; done) | (simp [Sem.run, hcell, hB.frozen])
        have hs1 : ii.size = 1 := by omega
        simp only [execOp, ho, Instr.storeAt, Instr.sureAddr, hu, storeVar, hcells, Sem.run_bind, Sem.run_pure, Result.andThen_ok, run_sizeOf hi, hs1, List.size_toArray, List.length_singleton, ne_eq, not_true_eq_false, if_false, storeCells, store, add_none, Nat.add_zero, hrun]
      · exact h.elim
    · exact h.elim
  · exact h.elim
end
end Go.Proofs.Ytjbmdaoppiinbaa
end

/- A plain interpreter, part 11: new slices, append. -/
section
namespace Go.Proofs.Ytjbmdaoppiinbaa
set_option linter.unusedVariables false
set_option linter.unusedSimpArgs false
set_option linter.unnecessarySimpa false
set_option linter.unusedSectionVars false
open Go.RowKit

section
variable {P : Program} {T : Nat → Ty} {tt : Nat} {w0 : En} {w w' : World} {G : Gh} {s : St} {a : Act} {B : Nat} {Q : Exit → Act → World → Prop}
theorem sound_load (hT : TabOk P T) (S : Sim tt w0 G s a w) (o : Oper) (hd : ∀ x, o.dst = some x → x < a.tmps.size) {K : St → Prop} {t : Nat} {x : Operand} (ho : o.op = .load t x) (h : aop P T tt o K s) : o.wp P a w (Nxt tt w0 a.tmps.size (some G) K) Q := by
  simp only [aop, ho] at h
  split at h
  · next t' i off cs hb =>
    have hx := S.eval x
    rw [hb] at hx
    obtain ⟨g, n, c, e, cur, us, k1, hu, k3, k4, k4', k5, k6⟩ := hx
    obtain ⟨v, u, h1, h2, h3⟩ := load_sound (P := P) (b := g) (o := i * cs.length + off) hT h ((k5.mono fun _ _ h => (RepU.rc h : RC w0.B G w _ _)).drop off)
    refine val_wp (u := u) (w' := w) ?_ (put_sound S hd (RC.of_load h2) (Kp.refl G) h1)
    have := h3 w (fun j v hv => by rw [List.getElem?_drop] at hv; rw [Nat.add_assoc]; exact k6 _ v hv)
    simp only [execOp, ho, hu, Sem.run_bind, this, Result.andThen_ok, Sem.run_pure]
  · next t' i e2 z2 es hb =>
    have hx := S.eval x
    rw [hb] at hx
    obtain ⟨g, n, c, e, cur, k1, hu, k3, k4, k5, k6⟩ := hx
    obtain ⟨hh, q1, q2, q3⟩ := k6 es rfl
    have hA : All2 (RC w0.B G w) [.own (.r t' i) e2 z2 es] [hh] := ⟨⟨q2, q3⟩, trivial⟩
    obtain ⟨v, u, h1, h2, h3⟩ := load_sound (P := P) (b := g) (o := i) hT h hA
    refine val_wp (u := u) (w' := w) ?_ (put_sound S hd (RC.of_load h2) (Kp.refl G) h1)
    have := h3 w (fun j v hv => by
      cases j with
      | zero =>
        simp only [List.getElem?_cons_zero, Option.some.injEq] at hv
        subst hv
        rw [Nat.add_zero, (show Blk w g e cur from k4).cell, ← Array.getElem?_toList]
        exact q1
      | succ j => simp at hv)
    simp only [execOp, ho, hu, Sem.run_bind, this, Result.andThen_ok, Sem.run_pure]
  · exact aval_wp hT S o hd (Kp.refl G) (by rw [ho]; exact h)
theorem flat_len {css : List (List Value)} {z : Nat} (hl : ∀ c ∈ css, c.length = z) : css.flatten.length = css.length * z := by
  induction css with
  | nil => simp
  | cons c css ih =>
    rw [List.flatten_cons, List.length_append, hl c (by simp), ih (fun c hc => hl c (by simp [hc])), List.length_cons, Nat.add_mul]
    omega
theorem fill_size {pl : Nat → Option (Nat × Nat)} : ∀ {parts : List (Nat × Value)} {cells r : Array Value}, Instr.fill pl cells parts = some r → r.size = cells.size
  | [], cells, r, h => by simp only [Instr.fill, Option.some.injEq] at h; rw [h]
  | (i, v) :: rest, cells, r, h => by
    simp only [Instr.fill] at h
    split at h
    · cases h
    · split at h
      · cases h
      · rw [fill_size h]
        clear h
        rename_i hcc
        clear hcc
        generalize v.cells.zipIdx = l
        rw [← Array.foldl_toList]
        generalize l.toList = l
        induction l generalizing cells with
        | nil => rfl
        | cons p l ih => rw [List.foldl_cons, ih]; simp
theorem newOwn (S : Sim tt w0 G s a w) {d : Nat} (hd : d < a.tmps.size) (e z n : Nat) {es : List (List AV)} {css : List (List Value)} (hn : es.length = n) (hA : All2 (fun ds cs => ds.length = z ∧ All2 (RepV w (GX G)) ds cs) es css) (hm : n ≤ maxLen) {K : St → Prop} {F : Option Gh} (hF : Kp F G)
    (h : K ((s.map (killF d)).put d (.own d e z es))) : Nxt tt w0 a.tmps.size F K (a.put (some d) (.slice (some ⟨w.heap.size, 0, none⟩) n n)) (w.alloc (.cells css.flatten.toArray e)) := by
  have hb : ∀ b, b < w.heap.size → (w.alloc (.cells css.flatten.toArray e)).heap[b]? = w.heap[b]? := fun b hb => Below.heap_alloc _ _ _ hb
  have S1 := S.setOwn (w' := w.alloc (.cells css.flatten.toArray e)) d (.slice (some ⟨w.heap.size, 0, none⟩) n n) (by simp) (fun b h _ => hb b h) (fun b h => by
    simp only [Value.ownBlock, Option.some.injEq] at h
    exact .inr ⟨by omega, by simp; omega⟩) (S.chg.alloc _)
  refine ⟨_, _, S1.put (v := .own d e z es) hd ⟨upd_same, css, ?_, ?_⟩, size_put, h, hF.of rfl rfl⟩
  · obtain ⟨hl, hl'⟩ := OwnRep.lens hA
    have hlen : css.flatten.length = n * z := by
      rw [flat_len hl, ← hA.len, hn]
    exact ⟨by rw [hn]; exact hlen, .inr ⟨w.heap.size, n, css.flatten.toArray, by rw [hn], Nat.le_trans S.hB S.chg.size, heap_alloc_new w _, by rw [hn]; exact Nat.le_refl _, hm, by simp [hlen], by rw [hn, ← hlen]; exact List.take_of_length_le (Nat.le_refl _)⟩⟩
  · refine hA.mono fun ds cs h => ⟨h.1, h.2.mono fun v u hr => hr.move (fun b hlt _ => hb b hlt) fun b hlt hx => ?_⟩
    rcases hx with (⟨t, ht⟩ | ⟨t, v, h, h'⟩ | h) | h
    · exact .inl (.inl ⟨t, ht⟩)
    · rcases upd_cases h with ⟨_, e⟩ | ⟨_, e⟩
      · injection e with e; subst e; simp only [Value.ownBlock, Option.some.injEq] at h'; omega
      · exact .inl (.inr (.inl ⟨t, v, e, h'⟩))
    · exact .inl (.inr (.inr h))
    · exact .inr h
theorem bldK_cases {d e z n : Nat} {cs : List AV} {K : St → Prop} {A : Prop} (h : bldK d e z n cs s K A) : A ∨ ∃ T e2 z2 es, cs = [.own (.s T) e2 z2 es] ∧ n = 1 ∧ z = 1 ∧ T ≠ d ∧ K ((((s.map (killM d)).map (killF (.s T))).map (killF (.s d))).put d (.mat d e e2 z2 [some es])) := by
  unfold bldK at h
  split at h
  · next T e2 z2 es =>
    split at h
    · next hq =>
      simp only [Bool.and_eq_true, Bool.not_eq_true', Nat.beq_eq] at hq
      rcases h.out with h | h
      · exact .inl h
      · exact .inr ⟨T, e2, z2, es, rfl, hq.1.1, hq.1.2, fun e => by subst e; simp at hq, h⟩
    · exact .inl h
  · exact .inl h
/-- A new slice of slices with one row. -/
theorem newMat (S : Sim tt w0 G s a w) {d T : Nat} (hd : d < a.tmps.size) (e : Nat) (hT : T ≠ d) {e2 z2 : Nat} {es : List (List AV)} {u : Value} (hu : RC w0.B G w (.own (.s T) e2 z2 es) u) {K : St → Prop}
    (h : K ((((s.map (killM d)).map (killF (.s T))).map (killF (.s d))).put d (.mat d e e2 z2 [some es]))) : Nxt tt w0 a.tmps.size (some G) K (a.put (some d) (.slice (some ⟨w.heap.size, 0, none⟩) 1 1)) (w.alloc (.cells [u].toArray e)) := by
  obtain ⟨G1, S1, g1, g2, g3, f1, f2⟩ := S.moveRow d 0 (.s T) (killM d) (killF (.s T)) _ _ (fun v => killM_ok) (fun v => killF_ok) (fun tg => tg = .s T ∨ tg.base = d) (.inl rfl) (fun tg h1 h2 => ⟨fun e => h1 (by rw [e]; rfl), fun h => h.elim h2 h1⟩)
  have hb : ∀ b, b < w.heap.size → (w.alloc (.cells [u].toArray e)).heap[b]? = w.heap[b]? := fun b hb => Below.heap_alloc _ _ _ hb
  have S2 := S1.setOwn (w' := w.alloc (.cells [u].toArray e)) (.s d) (.slice (some ⟨w.heap.size, 0, none⟩) 1 1) (by simp) (fun b h _ => hb b h) (fun b h => by
    simp only [Value.ownBlock, Option.some.injEq] at h
    exact .inr ⟨by omega, by simp; omega⟩) (S1.chg.alloc _)
  have hrow : G1.own (.r d 0) = some u := g1.trans hu.1
  refine ⟨_, _, S2.put (v := .mat d e e2 z2 [some es]) hd ⟨upd_same, [u], ?_, fun i es' hi => ?_⟩, size_put, h, (Kp.refl G).of f1 f2⟩
  · exact ⟨rfl, .inr ⟨w.heap.size, 1, [u].toArray, rfl, Nat.le_trans S.hB S.chg.size, heap_alloc_new w _, Nat.le_refl _, by simp [maxLen], rfl, rfl⟩⟩
  · cases i with
    | succ i => simp at hi
    | zero =>
      simp only [List.getElem?_cons_zero, Option.some.injEq] at hi
      subst hi
      refine ⟨u, rfl, (show upd G1.own (Tg.s d) (some (.slice (some ⟨w.heap.size, 0, none⟩) 1 1)) (Tg.r d 0) = some u by rw [upd_ne (by nofun)]; exact hrow), (g3 _ _ _ _ hu.2).go (fun b hub => hb b (S1.ownLt _ u b hrow hub).2) fun v u hr => hr.move (fun b hlt _ => hb b hlt) fun b hlt hx => ?_⟩
      rcases hx with (⟨t, ht⟩ | ⟨t, v, h, h'⟩ | h) | h
      · exact .inl (.inl ⟨t, ht⟩)
      · rcases upd_cases h with ⟨_, e⟩ | ⟨_, e⟩
        · injection e with e; subst e; simp only [Value.ownBlock, Option.some.injEq] at h'; omega
        · exact .inl (.inr (.inl ⟨t, v, e, h'⟩))
      · exact .inl (.inr (.inr h))
      · exact .inr h
theorem setRange_len : ∀ {vs cells : List AV} {off : Nat}, (setRange cells off vs).length = cells.length
  | [], cells, off => rfl
  | v :: vs, cells, off => by rw [setRange, setRange_len]; simp
theorem sound_buildSlice (hT : TabOk P T) (S : Sim tt w0 G s a w) (o : Oper) (hd : ∀ x, o.dst = some x → x < a.tmps.size) {K : St → Prop} {t n : Nat} {parts : Array (Nat × Operand)} (ho : o.op = .buildSlice t n parts) (h : aop P T tt o K s) : o.wp P a w (Nxt tt w0 a.tmps.size (some G) K) Q := by
  simp only [aop, ho] at h
  split at h
  · next d hdd =>
    obtain ⟨e, i, zv, h1, h2, h3, h4, h5, h6, h7⟩ := elemZ_sound hT h
    split at h1
    · next hle =>
      have hle' : n * i.size ≤ 1000000 := Nat.le_of_ble_eq_true hle
      have hz := zeros_sound (B := w0.B) (G := G) (w := w) (zv := zv) (n := n) (by omega)
      obtain ⟨cells', cs', k1, k2, k3⟩ := fill_sound S h1 hz
      rw [forceL_eq] at k1
      have hk3 := fill_place (pl' := fun j => some (j * i.size, i.size)) (fun j p hj => by rw [range_at hj]; simp) k3
      have hlen : cs'.length = n * i.size := by
        have e1 := fill_size hk3
        simpa [h5] using e1
      have fin : Nxt tt w0 a.tmps.size (some G) K (a.put (some d) (.slice (some ⟨w.heap.size, 0, none⟩) n n)) (w.alloc (.cells cs'.toArray e)) := by
        rcases bldK_cases k1 with k1 | ⟨Tg', e2, z2, es, rfl, hn1, hz1, hTd, m0⟩
        · rw [tagsK_eq] at k1
          obtain ⟨G', S', hc, hx, -, -, -, -, hf1, hf2⟩ := erases S (ownTags cells')
          obtain ⟨cs2, m1, m2⟩ := pres_sound hc (fun _ h => h) k1 k2
          rw [chunkK_eq] at m1
          have hfl := chunk_flat (z := i.size) (n := n) (us := cs') hlen
          have := newOwn S' (hd d hdd) e i.size n (es := chunk i.size n cs2) (css := chunk i.size n cs') chunk_len (chunk_all (by rw [m2.len]; exact hlen) m2) (by simp only [maxLen]; have := Nat.le_mul_of_pos_right n h6; omega) ((Kp.refl G).of hf1 hf2) m1
          rwa [hfl] at this
        · obtain ⟨u, us, rfl, hu, hus⟩ := k2.cons_inv
          obtain rfl := hus.nil_inv
          subst hn1
          exact newMat S (hd d hdd) e hTd hu m0
      refine val_wp (u := .slice (some ⟨w.heap.size, 0, none⟩) n n) (w' := w.alloc (.cells cs'.toArray e)) ?_ ?_
      · have hbig : ¬ n * i.size > 2 ^ 24 := by
          have : (2 : Nat) ^ 24 = 16777216 := by decide
          omega
        by_cases hz0 : n * i.size = 0
        · have hcs : cs' = [] := List.eq_nil_of_length_eq_zero (by omega)
          have hk4 : Instr.fill (fun j => some (j * i.size, i.size)) #[] (List.map (fun p => (p.1, a.eval p.2)) parts.toList) = some #[] := by
            have := hk3
            rw [hcs, h5, hz0] at this
            simpa using this
          have hp : (parts.map fun x => (x.1, a.eval x.2)).toList = List.map (fun p => (p.1, a.eval p.2)) parts.toList := by simp
          simp only [execOp, ho, Instr.buildSlice, Sem.run_bind, run_underlying h2, Result.andThen_ok, run_sizeOf h3, hz0, if_true, Sem.run_pure, hcs]
          have e0 : Array.map (fun x => (#[] : Array Value)[x % (#[] : Array Value).size]!) (Array.range 0) = #[] := by simp
          have hz1 : ¬ 0 > 2 ^ 24 := by simp
          simp only [hz1, if_false, Sem.run_pure, Result.andThen_ok, Sem.run_bind, e0, hp, hk4, newRow, newObj, Sem.run]
          rfl
        · have hp : (parts.map fun x => (x.1, a.eval x.2)).toList = List.map (fun p => (p.1, a.eval p.2)) parts.toList := by simp
          have hk4 : Instr.fill (fun j => some (j * i.size, i.size)) ((Array.range (n * i.size)).map (zv.cells[· % zv.cells.size]!)) (parts.map fun x => (x.1, a.eval x.2)).toList = some cs'.toArray := by
            have := hk3
            rw [Array.toArray_toList, h5] at this
            rw [hp, h5]
            exact this
          simp only [execOp, ho, Instr.buildSlice, Sem.run_bind, run_underlying h2, Result.andThen_ok, run_sizeOf h3, hbig, if_false, hz0, zeroValue, typeInfo, program, Sem.run, h3, h4, Sem.run_pure, hk4, newRow, newObj]
          rfl
      · rw [hdd]; exact fin
    · exact h1.elim
  · exact h.elim

theorem made_flat {zs : List Value} (hz : 0 < zs.length) (n : Nat) : (madeCells zs.toArray (n * zs.length)).toList = (List.replicate n zs).flatten := by
  apply List.ext_getElem?
  intro j
  have hl : (List.replicate n zs).flatten.length = n * zs.length := by rw [flat_len (z := zs.length) (fun c hc => by rw [List.eq_of_mem_replicate hc])]; simp
  rcases Nat.lt_or_ge j (n * zs.length) with hj | hj
  · have hm : j % zs.length < zs.length := Nat.mod_lt _ hz
    have hd : j / zs.length < n := Nat.div_lt_of_lt_mul (by rw [Nat.mul_comm]; exact hj)
    have e1 : j = j / zs.length * zs.length + j % zs.length := by have := Nat.div_add_mod j zs.length; rw [Nat.mul_comm]; omega
    have e2 := flatten_at (css := List.replicate n zs) (k := zs.length) (fun c hc => by rw [List.eq_of_mem_replicate hc]) (i := j / zs.length) (j := j % zs.length) (c := zs) (u := zs[j % zs.length]) (by simp [hd]) (by simp [hm])
    rw [← e1] at e2
    rw [e2]
    simp only [madeCells, Array.getElem?_toList, Array.getElem?_map, Array.getElem?_range, hj, if_true, Option.map_some, Option.some.injEq]
    rw [getElem!_pos zs.toArray _ (by simpa using hm)]
    simp
  · rw [List.getElem?_eq_none (l := (madeCells zs.toArray (n * zs.length)).toList) (by simp [madeCells]; exact hj), List.getElem?_eq_none (by rw [hl]; exact hj)]
theorem sound_makeSlice (hT : TabOk P T) (S : Sim tt w0 G s a w) (o : Oper) (hd : ∀ x, o.dst = some x → x < a.tmps.size) {K : St → Prop} {t : Nat} {l c : Operand} (ho : o.op = .makeSlice t l c) (h : aop P T tt o K s) : o.wp P a w (Nxt tt w0 a.tmps.size (some G) K) Q := by
  simp only [aop, ho] at h
  have hl := S.eval l
  have hc := S.eval c
  split at h
  · next d k n k' m hdd hln hcm =>
    rw [hln] at hl
    rw [hcm] at hc
    obtain ⟨e, i, zv, h1, h2, h3, h4, h5, h6, h7⟩ := elemZ_sound hT h
    simp only [need_iff] at h1
    obtain ⟨⟨b1, rfl, b2⟩, h1⟩ := h1
    obtain ⟨zero', m1, m2⟩ := pres_sound (G := G) (G' := G) (B := w0.B) (w := w) (ts := ownTags (zv.cells.toList.map ofValue)) (fun v u hr => by
      have e0 : ownTags (zv.cells.toList.map ofValue) = [] := by
        generalize zv.cells.toList = vs
        induction vs with
        | nil => rfl
        | cons v vs ih =>
          rw [List.map_cons]
          unfold ofValue
          split <;> exact ih
      rw [e0]; exact hr) (fun _ h => h) h1 (zero_sound zv.cells.toList)
    have hrun := run_make (P := P) w t e i zv h2 h3 h4 k k' m m b1 (Int.le_refl _) (by
      have : (i.bytes : Int) * m ≤ 8192 * 1000000 := Int.mul_le_mul (by omega) b2 b1 (by omega)
      omega) (by omega)
    have hzl : zv.cells.toList.length = i.size := by simpa using h5
    have hfl : madeCells zv.cells (m.toNat * i.size) = (List.replicate m.toNat zv.cells.toList).flatten.toArray := by
      have := made_flat (zs := zv.cells.toList) (by omega) m.toNat
      rw [hzl] at this
      rw [← this]
    rw [hfl] at hrun
    refine val_wp (u := .slice (some ⟨w.heap.size, 0, none⟩) m.toNat m.toNat) (w' := w.alloc (.cells (List.replicate m.toNat zv.cells.toList).flatten.toArray e)) ?_ ?_
    · simp only [execOp, ho, hl.int_inv, hc.int_inv, Sem.run_bind, hrun, Result.andThen_ok, Sem.run_pure]
    · rw [hdd]
      refine newOwn S (hd d hdd) e i.size m.toNat (es := List.replicate m.toNat zero') (css := List.replicate m.toNat zv.cells.toList) (by simp) (All2.of (by simp) fun j x y hx hy => ?_) (by simp only [maxLen]; omega) (Kp.refl G) m1
      obtain rfl := List.eq_of_mem_replicate (List.mem_of_getElem? hx)
      obtain rfl := List.eq_of_mem_replicate (List.mem_of_getElem? hy)
      exact ⟨by rw [m2.len, hzl], m2⟩
  · exact h.elim
theorem cut_args (hT : TabOk P T) (S : Sim tt w0 G s a w) {t z : Nat} {es : List (List AV)} {lo hi : Option Operand} {K : Int → List (List AV) → Prop} (h : elemOf T t z fun _ => optInt s 0 lo fun l => optInt s es.length hi fun h => sub es l h fun es' => K l es') :
    ∃ e ie, ∃ l hh : Int, P.underlying t = some (.slice e) ∧ P.info? e = some ie ∧ ie.size = z ∧ 0 ≤ l ∧ l ≤ hh ∧ hh ≤ es.length ∧ ((lo = none ∧ l = 0) ∨ ∃ y k, lo = some y ∧ a.eval y = .int k l) ∧ ((hi = none ∧ hh = es.length) ∨ ∃ y k, hi = some y ∧ a.eval y = .int k hh) ∧ K l ((es.take hh.toNat).drop l.toNat) := by
  obtain ⟨e, ie, h1, h2, h3, h4, -⟩ := elem_sound (P := P) hT h
  obtain ⟨l, h5, hl⟩ := opt_sound S h1
  obtain ⟨hh, h6, hhi⟩ := opt_sound S h5
  simp only [sub_iff] at h6
  exact ⟨e, ie, l, hh, h2, h3, h4, h6.1.1, h6.1.2.1, h6.1.2.2, hl, hhi, h6.2⟩
theorem run_cut {o : Oper} {t z e n c : Nat} {ie : TypeInfo} {x : Operand} {lo hi : Option Operand} {A : Option Addr} {l hh : Int} (ho : o.op = .slice t x lo hi none) (h2 : P.underlying t = some (.slice e)) (h3 : P.info? e = some ie) (h4 : ie.size = z) (b1 : 0 ≤ l) (b2 : l ≤ hh) (b3 : hh ≤ n) (hc : n ≤ c) (hu : a.eval x = .slice A n c)
    (hl : (lo = none ∧ l = 0) ∨ ∃ y k, lo = some y ∧ a.eval y = .int k l) (hhi : (hi = none ∧ hh = n) ∨ ∃ y k, hi = some y ∧ a.eval y = .int k hh) : (execOp a.eval o).run P w' = .ok (.value (.slice (if c = l.toNat then A else A.map (·.add (l.toNat * ie.size))) (hh.toNat - l.toNat) (c - l.toNat))) w' := by
  have r1 : (match hi.map a.eval with | some v => Instr.sliceBound v c .sliceAcap | none => pure n : Sem Nat).run P w' = .ok hh.toNat w' := by
    rcases hhi with ⟨rfl, rfl⟩ | ⟨y, k, rfl, hy⟩
    · simp
    · simp only [Option.map_some, hy]; exact run_bound (by omega) (by omega) w'
  have r2 : (match lo.map a.eval with | some v => Instr.sliceBound v hh.toNat .sliceB | none => pure 0 : Sem Nat).run P w' = .ok l.toNat w' := by
    rcases hl with ⟨rfl, rfl⟩ | ⟨y, k, rfl, hy⟩
    · simp
    · simp only [Option.map_some, hy]; exact run_bound (by omega) (by omega) w'
  have r0 : (Instr.sliceBounds true n c (lo.map a.eval) (hi.map a.eval) none).run P w' = .ok (l.toNat, hh.toNat, c) w' := by
    rcases hhi with ⟨rfl, rfl⟩ | ⟨y, k, rfl, hy⟩ <;> rcases hl with ⟨rfl, rfl⟩ | ⟨y', k', rfl, hy'⟩
    · simp [Instr.sliceBounds]
    · simp only [Option.map_some, Option.map_none, Int.toNat_natCast] at r2 ⊢
      simp [Instr.sliceBounds, r2]
    · simp only [Option.map_some, Option.map_none] at r1 ⊢
      simp [Instr.sliceBounds, r1]
    · simp only [Option.map_some] at r1 r2 ⊢
      simp [Instr.sliceBounds, r1, r2]
  simp only [execOp, ho, hu, Instr.sliceAt, Instr.slice, Sem.run_bind, run_underlying h2, Result.andThen_ok, Option.map_none, r0, run_sizeOf h3, h4, Sem.run_pure]
theorem sound_slice (hT : TabOk P T) (S : Sim tt w0 G s a w) (o : Oper) (hd : ∀ x, o.dst = some x → x < a.tmps.size) {K : St → Prop} {t : Nat} {x : Operand} {lo hi mx : Option Operand} (ho : o.op = .slice t x lo hi mx) (h : aop P T tt o K s) : o.wp P a w (Nxt tt w0 a.tmps.size (some G) K) Q := by
  simp only [aop, ho] at h
  split at h
  · next t' e z es hb =>
    rw [slc_iff] at h
    rcases h with h | h | h
    · obtain ⟨S1, -⟩ := S.erase t'
      exact aval_wp hT S1 o hd ((Kp.refl G).of rfl rfl) (by rw [ho]; exact h)
    · split at h
      · next d hdd =>
        have hx := S.eval x
        rw [hb] at hx
        obtain ⟨hG, css, hown, hA⟩ := (show RC w0.B G w (.own t' e z es) (a.eval x) from hx)
        obtain ⟨e', ie, l, hh, h2, h3, h4, b1, b2, b3, hl, hhi, h7⟩ := cut_args hT S h
        simp only [need_iff] at h7
        obtain ⟨hpos, hK⟩ := h7
        rcases hown.2 with ⟨_, h0⟩ | ⟨g, cap, cur, hu, k1, k2, k3, k4, k5, k6⟩
        · omega
        · have hrun := run_cut (P := P) (w' := w) (a := a) (x := x) (n := es.length) (o := o) (ho := ho) h2 h3 h4 (by omega : 0 ≤ l) b2 b3 k3 hu hl hhi
          refine val_wp hrun ?_
          rw [hdd]
          obtain ⟨hcl, hel⟩ := OwnRep.lens hA
          have hlen : ((es.take hh.toNat).drop l.toNat).length = hh.toNat - l.toNat := by simp; omega
          refine ⟨_, _, S.put (v := .win t' l.toNat z ((es.take hh.toNat).drop l.toNat)) (hd d hdd) ?_, size_put, hK, Kp.refl G⟩
          refine ⟨g, es.length, cap, e, cur, (css.take hh.toNat).drop l.toNat, _, cap - l.toNat, by rw [hG, hu], by rw [hlen]; omega, by rw [hlen], fun hne => ?_, by rw [hlen]; omega, k2, by rw [k5]; exact Nat.mul_le_mul_right _ k3, (hA.take _).drop _, fun j v hv => ?_⟩
          · have : 0 < ((es.take hh.toNat).drop l.toNat).length := List.length_pos_iff.2 hne
            have hcl' : ¬ cap = l.toNat := by omega
            simp [hcl', add_none, h4]
          · rw [flat_drop (fun c hc => hcl c (List.mem_of_mem_take hc)), flat_take hcl, List.getElem?_drop, List.getElem?_take] at hv
            split at hv
            · next hj =>
              rw [← Nat.zero_add (l.toNat * z + j), ← Nat.zero_add (l.toNat * z + j)]
              have hlt := (List.getElem?_eq_some_iff.1 hv).1
              rw [hu] at hown
              rw [Nat.zero_add, Nat.zero_add, hown.cellAt _ (by rw [hown.1] at hlt; exact hlt), hv]
            · cases hv
      · exact h.elim
    · split at h
      · next d hdd =>
        have hx := S.eval x
        rw [hb] at hx
        obtain ⟨hG, css, hown, hA⟩ := (show RC w0.B G w (.own t' e z es) (a.eval x) from hx)
        obtain ⟨e', ie, l, hh, h2, h3, h4, b1, b2, b3, hl, hhi, h7⟩ := cut_args (lo := none) (hi := hi) (es := es) (t := t) (z := z) (K := fun _ es' => need (0 < es.length) (K ((s.map (killF t')).put d (.own t' e z es')))) hT S h
        simp only [need_iff] at h7
        obtain ⟨hpos, hK⟩ := h7
        have hl0 : l = 0 := by
          rcases hl with ⟨_, e1⟩ | ⟨y, k, e1, _⟩
          · exact e1
          · cases e1
        subst hl0
        rcases hown.2 with ⟨_, h0⟩ | ⟨g, cap, cur, hu, k1, k2, k3, k4, k5, k6⟩
        · omega
        · have hrun := run_cut (P := P) (w' := w) (a := a) (x := x) (n := es.length) (o := o) (ho := ho) h2 h3 h4 (by omega : (0 : Int) ≤ 0) b2 b3 k3 hu hl hhi
          refine val_wp hrun ?_
          rw [hdd]
          obtain ⟨hcl, hel⟩ := OwnRep.lens hA
          have hval : (Value.slice (if cap = (0 : Int).toNat then some (⟨g, 0, none⟩ : Addr) else (some (⟨g, 0, none⟩ : Addr)).map (·.add ((0 : Int).toNat * ie.size))) (hh.toNat - (0 : Int).toNat) (cap - (0 : Int).toNat)) = .slice (some ⟨g, 0, none⟩) hh.toNat cap := by
            simp [add_none]
          rw [hval]
          have S1 := S.setOwn t' (.slice (some ⟨g, 0, none⟩) hh.toNat cap) (Nat.le_refl _) (fun _ _ _ => rfl) (fun b hb' => .inl ⟨_, hG, by rw [hu]; exact hb'⟩) S.chg
          have hlen : ((es.take hh.toNat).drop (0 : Int).toNat).length = hh.toNat := by simp; omega
          refine ⟨_, _, S1.put (v := .own t' e z ((es.take hh.toNat).drop (0 : Int).toNat)) (hd d hdd) ?_, size_put, hK, (Kp.refl G).of rfl rfl⟩
          refine ⟨upd_same, css.take hh.toNat, ⟨?_, .inr ⟨g, cap, cur, by rw [hlen], k1, k2, by rw [hlen]; omega, k4, k5, ?_⟩⟩, ?_⟩
          · rw [hlen, flat_take hcl, List.length_take, hown.1]
            exact Nat.min_eq_left (Nat.mul_le_mul_right _ (by omega))
          · rw [hlen, flat_take hcl, ← k6, List.take_take, Nat.min_eq_left (Nat.mul_le_mul_right _ (by omega))]
          · have e0 : (es.take hh.toNat).drop (0 : Int).toNat = es.take hh.toNat := by simp
            rw [e0]
            refine (hA.take _).mono fun _ _ h => ⟨h.1, h.2.mono fun x u hr => hr.move (fun _ _ _ => rfl) fun b hb' hx => ?_⟩
            rcases hx with (⟨t, ht⟩ | ⟨t, v2, h, h'⟩ | h) | h
            · exact .inl (.inl ⟨t, ht⟩)
            · rcases upd_cases h with ⟨_, e⟩ | ⟨_, e⟩
              · injection e with e
                subst e
                exact .inl (.inr (.inl ⟨t', _, hG, by rw [hu]; exact h'⟩))
              · exact .inl (.inr (.inl ⟨t, v2, e, h'⟩))
            · exact .inl (.inr (.inr h))
            · exact .inr h
      · exact h.elim
  · exact aval_wp hT S o hd (Kp.refl G) (by rw [ho]; exact h)

/-- The cells of a list that is read. -/
theorem rep_cells {X : Nat → Prop} {z : Nat} {es : List (List AV)} {u : Value} (h : RepV w X (.lst z es) u) : ∃ A c dss, u = .slice A es.length c ∧ All2 (fun ds cs => ds.length = z ∧ All2 (RepV w X) ds cs) es dss ∧ (A = none → es = []) ∧ ∀ ad, A = some ad → ∀ j v, dss.flatten[j]? = some v → w.cell? (ad.add j) = some v := by
  cases h with
  | nil z A c => exact ⟨A, c, [], rfl, trivial, fun _ => rfl, fun ad _ j v hv => by simp at hv⟩
  | lst f hne hc hb hx hz hcell hrep =>
    next b off c =>
    let dss : List (List Value) := (List.range es.length).map fun i => (List.range z).map (f i)
    have hd : ∀ i, i < es.length → dss[i]? = some ((List.range z).map (f i)) := fun i hi => by simp [dss, hi]
    have hlen : ∀ c ∈ dss, c.length = z := fun c hc => by
      obtain ⟨i, _, rfl⟩ := List.mem_map.1 hc
      simp
    refine ⟨_, c, dss, rfl, All2.of (by simp [dss]) fun i ds cs h1 h2 => ?_, (fun h => by cases h), fun ad had j v hv => ?_⟩
    · have hi : i < es.length := (List.getElem?_eq_some_iff.1 h1).1
      rw [hd i hi] at h2
      injection h2 with h2
      subst h2
      have hdz := hz ds (List.mem_of_getElem? h1)
      refine ⟨hdz, All2.of (by simp [hdz]) fun j d v h3 h4 => ?_⟩
      have hj : j < z := by rw [← hdz]; exact (List.getElem?_eq_some_iff.1 h3).1
      simp only [List.getElem?_map, List.getElem?_range hj, Option.map_some, Option.some.injEq] at h4
      subst h4
      exact hrep i j d (by simp [at2, h1, h3])
    · injection had with had
      subst had
      obtain ⟨i, t, cc, h1, h2, rfl⟩ := flatten_inv hlen hv
      have hi : i < es.length := by have := (List.getElem?_eq_some_iff.1 h1).1; simpa [dss] using this
      rw [hd i hi] at h1
      injection h1 with h1
      subst h1
      have ht : t < z := by have := (List.getElem?_eq_some_iff.1 h2).1; simpa using this
      simp only [List.getElem?_map, List.getElem?_range ht, Option.map_some, Option.some.injEq] at h2
      subst h2
      rw [add_none, ← Nat.add_assoc]
      have hds := hz es[i] (List.getElem_mem hi)
      exact hcell i t (es[i][t]'(by omega)) (by simp [at2, List.getElem?_eq_getElem hi, List.getElem?_eq_getElem (show t < es[i].length by omega)])
theorem src_sound {z : Nat} {y : AV} {u : Value} {K : List (List AV) → Prop} (h : srcK z y K) (hr : RA B G w y u) : ∃ es A c dss, K es ∧ u = .slice A es.length c ∧ All2 (fun ds cs => ds.length = z ∧ All2 (RepV w (GX G)) ds cs) es dss ∧ (A = none → es = []) ∧ ∀ ad, A = some ad → ∀ j v, dss.flatten[j]? = some v → w.cell? (ad.add j) = some v := by
  cases y
  case lst z' es =>
    simp only [srcK] at h
    split at h
    · next hz =>
      have : z' = z := by simpa using hz
      subst this
      obtain ⟨A, c, dss, h1, h2, h3, h4⟩ := rep_cells (show RepV w (GX G) (.lst z' es) u from hr)
      exact ⟨es, A, c, dss, h, h1, h2, h3, h4⟩
    · exact h.elim
  case own t e z' es =>
    simp only [srcK] at h
    split at h
    · next hz =>
      have : z' = z := by simpa using hz
      subst this
      obtain ⟨-, css, ho, hA⟩ := (show RC B G w (.own t e z' es) u from hr)
      have ho' := ho
      rcases ho'.2 with ⟨rfl, h0⟩ | ⟨g, cap, cur, rfl, -⟩
      · obtain rfl : es = [] := List.eq_nil_of_length_eq_zero h0
        exact ⟨[], none, 0, [], h, rfl, trivial, fun _ => rfl, fun ad h => by cases h⟩
      · refine ⟨es, _, cap, css, h, rfl, hA, (fun h => by cases h), fun ad had j v hv => ?_⟩
        injection had with had
        subst had
        rw [add_none, Nat.zero_add, ho.cellAt j (by have := (List.getElem?_eq_some_iff.1 hv).1; rw [ho.1] at this; exact this), hv]
    · exact h.elim
  case win t lo z' es =>
    simp only [srcK] at h
    split at h
    · next hz =>
      have : z' = z := by simpa using hz
      subst this
      obtain ⟨g, n, c, e, cur, css, A, c', h1, h2, rfl, h4, h5, h6, h7, h8, h9⟩ := (show WinRep G w t lo z' es u from hr)
      by_cases hes : es = []
      · subst hes
        obtain rfl := h8.nil_inv
        exact ⟨[], A, c', [], h, rfl, trivial, fun _ => rfl, fun ad _ j v hv => by simp at hv⟩
      · obtain rfl := h4 hes
        refine ⟨es, _, c', css, h, rfl, h8, (fun h => by cases h), fun ad had j v hv => ?_⟩
        injection had with had
        subst had
        rw [add_none]
        exact h9 j v hv
    · exact h.elim
  case nil =>
    obtain rfl := hr.nil_inv
    exact ⟨[], none, 0, [], h, rfl, trivial, fun _ => rfl, fun ad h => by cases h⟩
  all_goals exact h.elim
end
end Go.Proofs.Ytjbmdaoppiinbaa
end

/- A plain interpreter, part 12: append; calls. -/
section
namespace Go.Proofs.Ytjbmdaoppiinbaa
set_option linter.unusedVariables false
set_option linter.unusedSimpArgs false
set_option linter.unnecessarySimpa false
set_option linter.unusedSectionVars false
open Go.RowKit

section
variable {P : Program} {T : Nat → Ty} {tt : Nat} {w0 : En} {w w' : World} {G : Gh} {s : St} {a : Act} {B : Nat} {Q : Exit → Act → World → Prop}
theorem appLim_out {b : Bool} {n : Nat} {A : Prop} (h : appLim b n A) : (n ≤ 17592186044416 ∧ (b = false → n ≤ 1000000)) ∧ A := by
  cases b with
  | true =>
    simp only [appLim, need_iff] at h
    exact ⟨⟨h.1, nofun⟩, h.2⟩
  | false =>
    simp only [appLim, need_iff] at h
    exact ⟨⟨by omega, fun _ => h.1⟩, h.2⟩
theorem app_room (hT : TabOk P T) {e n : Nat} {i : TypeInfo} (h3 : P.info? e = some i) (h7 : i.bytes ≤ 8192) (h : n ≤ 17592186044416 ∧ (((T e).ok && (T e).word) = false → n ≤ 1000000)) : n * i.bytes ≤ 140737488355328 ∧ n ≤ maxLen := by
  refine ⟨?_, by simp only [maxLen]; omega⟩
  cases hb : (T e).ok && (T e).word with
  | false => exact Nat.le_trans (Nat.mul_le_mul (h.2 hb) h7) (by omega)
  | true =>
    rw [Bool.and_eq_true] at hb
    obtain ⟨i', d, hi, hd, he⟩ := ty_info hT hb.1
    rw [h3] at hi
    injection hi with hi
    subst hi
    have hw := hb.2
    rw [he] at hw
    simp only [tyOf, h3, hd] at hw
    exact Nat.le_trans (Nat.mul_le_mul h.1 (Nat.le_of_ble_eq_true hw)) (by omega)
/-- append, the run: onto a row of the function's own (or nil), from whatever list. -/
theorem run_app (S : Sim tt w0 G s a w) {t ty e : Nat} {i : TypeInfo} {zv : Value} (h2 : P.underlying t = some (.slice e)) (h3 : P.info? e = some i) (h4 : i.zero = some zv) (h5 : zv.cells.size = i.size) (h6 : 0 < i.size) (h7 : i.bytes ≤ 8192)
    {v : Value} {es es' : List (List AV)} {css dss : List (List Value)} (ho : w.ownsRow w0.B e i.size v es.length css.flatten) (hA : All2 (fun ds cs => ds.length = i.size ∧ All2 (RepV w (GX G)) ds cs) es css)
    {A : Option Addr} {c : Nat} (hA' : All2 (fun ds cs => ds.length = i.size ∧ All2 (RepV w (GX G)) ds cs) es' dss) (hn : A = none → es' = []) (hc : ∀ ad, A = some ad → ∀ j v, dss.flatten[j]? = some v → w.cell? (ad.add j) = some v)
    (hl : (es.length + es'.length) * i.bytes ≤ 140737488355328 ∧ es.length + es'.length ≤ maxLen) :
    ∃ v' w', (Builtin.append_ #[t, t] ty #[v, .slice A es'.length c]).run P w = .ok v' w' ∧ w'.ownsRow w0.B e i.size v' (es ++ es').length (css ++ dss).flatten ∧ w.grownBy w' v.ownBlock ∧ (v'.ownBlock = v.ownBlock ∨ v'.ownBlock = some w.heap.size) := by
  have hone : ∀ u ∈ dss.flatten, u.oneCell' = true := by
    intro u hu
    obtain ⟨d, hd, hu⟩ := List.mem_flatten.1 hu
    obtain ⟨j, hj, rfl⟩ := List.mem_iff_getElem.1 hd
    obtain ⟨ds, _, _, k⟩ := hA'.get' (List.getElem?_eq_getElem hj)
    obtain ⟨m, hm, rfl⟩ := List.mem_iff_getElem.1 hu
    obtain ⟨x, _, hx⟩ := k.get' (List.getElem?_eq_getElem hm)
    exact hx.one
  have hdl : dss.flatten.length = es'.length * i.size := by rw [flat_len (OwnRep.lens hA').1, hA'.len]
  cases A with
  | none =>
    obtain rfl := hn rfl
    obtain rfl := hA'.nil_inv
    exact ⟨v, w, run_append_nothing w w0.B t ty e i i.size h2 h3 v _ _ ho c, by simpa using ho, World.grownBy.refl w _, .inl rfl⟩
  | some ad =>
    obtain ⟨v', w', hrun, k2, k3, _, k5⟩ := run_append_own_at (P := P) w w0.B t ty e i zv i.size i.bytes h2 h3 h4 rfl rfl h5 h6 v es.length css.flatten ho ad es'.length c dss.flatten hdl (hc ad rfl) hone
      hl.2 hl.1 (Nat.le_trans S.hB S.chg.size)
    exact ⟨v', w', hrun, by simpa using k2, k3, k5⟩
/-- append: the state behind it. -/
theorem app_sim (S : Sim tt w0 G s a w) {d : Nat} {tg : Tg} {e z : Nat} (hd : d < a.tmps.size) {v v' : Value} {es es' : List (List AV)} {css dss : List (List Value)} (hv : ∀ b, v.ownBlock = some b → ∃ v0, G.own tg = some v0 ∧ v0.ownBlock = some b)
    (hA : All2 (fun ds cs => ds.length = z ∧ All2 (RepV w (GX G)) ds cs) es css) (hA' : All2 (fun ds cs => ds.length = z ∧ All2 (RepV w (GX G)) ds cs) es' dss)
    (ho : w'.ownsRow w0.B e z v' (es ++ es').length (css ++ dss).flatten) (hg : w.grownBy w' v.ownBlock) (hb : v'.ownBlock = v.ownBlock ∨ v'.ownBlock = some w.heap.size) {K : St → Prop}
    (h : K ((s.map (killF tg)).put d (.own tg e z (es ++ es')))) : Nxt tt w0 a.tmps.size (some G) K (a.put (some d) v') w' := by
  have hlt : ∀ b, v'.ownBlock = some b → b < w'.heap.size := fun b hb => by
    rcases ho.2 with ⟨rfl, _⟩ | ⟨g, cap, cur, rfl, _, hh, _⟩
    · cases hb
    · simp only [Value.ownBlock, Option.some.injEq] at hb
      subst hb
      exact (Array.getElem?_eq_some_iff.1 hh).1
  have hblk : ∀ b, v'.ownBlock = some b → (∃ v0, G.own tg = some v0 ∧ v0.ownBlock = some b) ∨ (w.heap.size ≤ b ∧ b < w'.heap.size) := fun b hb' => by
    rcases hb with e | e
    · exact .inl (hv b (e ▸ hb'))
    · rw [e] at hb'; injection hb' with hb'; subst hb'; exact .inr ⟨Nat.le_refl _, hlt _ e⟩
  have hne : ∀ b, b < w.heap.size → (∀ v0, G.own tg = some v0 → v0.ownBlock ≠ some b) → w'.heap[b]? = w.heap[b]? := fun b hb' hn => hg.block b hb' fun e => by
    obtain ⟨v0, k1, k2⟩ := hv b e.symm
    exact hn v0 k1 k2
  have S1 := S.setOwn tg v' hg.size hne hblk (S.chg.grown hg fun k hk => by
    obtain ⟨v0, k1, k2⟩ := hv k hk
    exact (S.ownLt tg v0 k k1 k2).1.symm.imp .inr id)
  have mv : ∀ x u, RepV w (GX G) x u → RepV w' (GX { G with own := upd G.own tg (some v') }) x u := fun x u hr => hr.move (fun b hb' hx => hne b hb' fun v0 k1 k2 => hx (.inl (.inr (.inl ⟨tg, v0, k1, k2⟩)))) fun b hb' hx => by
    rcases hx with (⟨t, ht⟩ | ⟨t, v2, h, h'⟩ | h) | h
    · exact .inl (.inl ⟨t, ht⟩)
    · rcases upd_cases h with ⟨_, e⟩ | ⟨_, e⟩
      · injection e with e
        subst e
        rcases hblk b h' with ⟨v0, k1, k2⟩ | k
        · exact .inl (.inr (.inl ⟨tg, v0, k1, k2⟩))
        · omega
      · exact .inl (.inr (.inl ⟨t, v2, e, h'⟩))
    · exact .inl (.inr (.inr h))
    · exact .inr h
  exact ⟨_, _, S1.put (v := .own tg e z (es ++ es')) hd ⟨upd_same, css ++ dss, ho, All2.append (hA.mono fun _ _ h => ⟨h.1, h.2.mono mv⟩) (hA'.mono fun _ _ h => ⟨h.1, h.2.mono mv⟩)⟩, size_put, h, (Kp.refl G).of rfl rfl⟩
theorem elemZ_mono {t : Nat} {K K' : Nat → Nat → List AV → Prop} (hk : ∀ e z zs, K e z zs → K' e z zs) (h : elemZ T t K) : elemZ T t K' := by
  unfold elemZ at h ⊢
  cases hb : (T t).ok with
  | false => rw [hb] at h; exact h.elim
  | true =>
    rw [hb] at h
    cases he : (T t).elem with
    | none => rw [he] at h; exact h.elim
    | some e =>
      rw [he] at h
      cases hc : (T e).ok && (T e).small && Nat.blt 0 (T e).size && Nat.beq (T e).zero.length (T e).size with
      | false => simp only [hc] at h
      | true => simp only [hc] at h ⊢; exact hk _ _ _ h
theorem appM_cases {t : Nat} {x y : AV} {d : Nat} {K : St → Prop} {A : Prop} (h : appM T t x y d s K A) : A ∨ ∃ tm e' e2 z2 rows d' e'' es, x = .mat tm e' e2 z2 rows ∧ y = .mat d' e'' e2 z2 [some es] ∧ d' ≠ tm ∧
    elemZ T t fun e z _ => z = 1 ∧ e' = e ∧ rows.length + 1 ≤ 1000000 ∧ K ((((s.map (killM d')).map (killM tm)).map (killF (.s tm))).put d (.mat tm e' e2 z2 (rows ++ [some es]))) := by
  unfold appM at h
  split at h
  · next tm e' e2 z2 rows d' e'' e2' z2' es =>
    by_cases hq : e2' = e2 ∧ z2' = z2 ∧ d' ≠ tm
    · obtain ⟨rfl, rfl, hne⟩ := hq
      refine .inr ⟨tm, e', e2', z2', rows, d', e'', es, rfl, rfl, hne, elemZ_mono (fun e z zs h => ?_) h⟩
      split at h
      · next hq =>
        simp only [Bool.and_eq_true, Bool.not_eq_true', Nat.beq_eq] at hq
        simp only [need_iff] at h
        exact ⟨hq.1.1.1.1, hq.1.1.1.2, h.1, h.2⟩
      · exact h.elim
    · exfalso
      have : elemZ T t fun e z _ => False := elemZ_mono (fun e z zs h => by
        split at h
        · next hq' =>
          simp only [Bool.and_eq_true, Bool.not_eq_true', Nat.beq_eq] at hq'
          exact hq ⟨hq'.1.1.2, hq'.1.2, fun e => by subst e; simp at hq'⟩
        · exact h) h
      unfold elemZ at this
      split at this
      · split at this
        · split at this <;> exact this
        · exact this
      · exact this
  · exact .inl h
set_option maxHeartbeats 1000000 in
theorem app_row (S : Sim tt w0 G s a w) {t ty e tm d' d e2 z2 e'' : Nat} {rows : List (Option (List (List AV)))} {es : List (List AV)} {i : TypeInfo} {zv : Value} (h2 : P.underlying t = some (.slice e)) (h3 : P.info? e = some i) (h4 : i.zero = some zv) (h5 : zv.cells.size = i.size) (h6 : i.size = 1) (h7 : i.bytes ≤ 8192) (hd : d < a.tmps.size) (hne : d' ≠ tm)
    {ux uy : Value} (hx : RC w0.B G w (.mat tm e e2 z2 rows) ux) (hy : RC w0.B G w (.mat d' e'' e2 z2 [some es]) uy) (hl : rows.length + 1 ≤ 1000000) {K : St → Prop} (h : K ((((s.map (killM d')).map (killM tm)).map (killF (.s tm))).put d (.mat tm e e2 z2 (rows ++ [some es])))) :
    ∃ v' w', (Builtin.append_ #[t, t] ty #[ux, uy]).run P w = .ok v' w' ∧ Nxt tt w0 a.tmps.size (some G) K (a.put (some d) v') w' := by
  obtain ⟨hG, hs, ho, hA⟩ := hx
  obtain ⟨hG', hs', ho', hA'⟩ := hy
  obtain ⟨hr, r1, r2, r3⟩ := hA' 0 es rfl
  rcases ho'.2 with ⟨_, h0⟩ | ⟨g', cap', cur', rfl, -, hh', -, -, -, ht'⟩
  · cases h0
  have hs1 : hs' = [hr] := by
    have hl' := ho'.1
    cases hs' with
    | nil => simp at r1
    | cons x xs =>
      simp at r1 hl'
      subst r1
      rw [hl']
  subst hs1
  have hone : ∀ u ∈ [hr], u.oneCell' = true := fun u hu => by
    rw [List.mem_singleton.1 hu]
    obtain ⟨A, c, e⟩ := r3.inv
    rw [e]; rfl
  obtain ⟨v', w', hrun, k2, k3, _, k5⟩ := run_append_own_at (P := P) w w0.B t ty e i zv i.size i.bytes h2 h3 h4 rfl rfl h5 (by omega) ux rows.length hs (by rw [h6]; exact ho) ⟨g', 0, none⟩ 1 cap' [hr] (by simp [h6])
    (fun j v hv => by
      cases j with
      | zero =>
        simp only [List.getElem?_cons_zero, Option.some.injEq] at hv
        subst hv
        rw [add_none]
        have := ho'.cellAt 0 (by simp)
        simpa using this
      | succ j => simp at hv) hone
    (by simp only [maxLen]; omega) (Nat.le_trans (Nat.mul_le_mul hl h7) (by omega)) (Nat.le_trans S.hB S.chg.size)
  rw [h6] at k2
  refine ⟨v', w', hrun, ?_⟩
  obtain ⟨G1, S1, g1, g2, g3, f1, f2⟩ := S.moveRow tm rows.length (.r d' 0) (killM d') (killM tm) _ _ (fun v => killM_ok) (fun v => killM_ok) (fun tg => tg.base = d') rfl (fun tg h1 h2 => ⟨fun e => h2 (by rw [e]; rfl), h1⟩)
  have hT1 : G1.own (.s tm) = some ux := (g2 (.s tm) nofun (fun e => hne e.symm)).trans hG
  have hlt : ∀ b, v'.ownBlock = some b → b < w'.heap.size := fun b hb => by
    rcases k2.2 with ⟨rfl, _⟩ | ⟨g, cap, cur, rfl, _, hh, _⟩
    · cases hb
    · simp only [Value.ownBlock, Option.some.injEq] at hb
      subst hb
      exact (Array.getElem?_eq_some_iff.1 hh).1
  have hblk : ∀ b, v'.ownBlock = some b → (∃ v0, G1.own (.s tm) = some v0 ∧ v0.ownBlock = some b) ∨ (w.heap.size ≤ b ∧ b < w'.heap.size) := fun b hb' => by
    rcases k5 with e | e
    · exact .inl ⟨ux, hT1, e ▸ hb'⟩
    · rw [e] at hb'; injection hb' with hb'; subst hb'; exact .inr ⟨Nat.le_refl _, hlt _ e⟩
  have hneb : ∀ b, b < w.heap.size → (∀ v0, G1.own (.s tm) = some v0 → v0.ownBlock ≠ some b) → w'.heap[b]? = w.heap[b]? := fun b hb' hn => k3.block b hb' fun e => hn ux hT1 e.symm
  have S2 := S1.setOwn (.s tm) v' k3.size hneb hblk (S1.chg.grown k3 fun k hk => (S1.ownLt (.s tm) ux k hT1 hk).1.symm.imp .inr id)
  have mv : ∀ x u, RepV w (GX G1) x u → RepV w' (GX { G1 with own := upd G1.own (.s tm) (some v') }) x u := fun x u hr => hr.move (fun b hb' hx => hneb b hb' fun v0 k1 k2 => hx (.inl (.inr (.inl ⟨.s tm, v0, k1, k2⟩)))) fun b hb' hx => by
    rcases hx with (⟨t, ht⟩ | ⟨t, v2, h, h'⟩ | h) | h
    · exact .inl (.inl ⟨t, ht⟩)
    · rcases upd_cases h with ⟨_, e⟩ | ⟨_, e⟩
      · injection e with e
        subst e
        rcases hblk b h' with ⟨v0, k1, k2⟩ | k
        · exact .inl (.inr (.inl ⟨.s tm, v0, k1, k2⟩))
        · omega
      · exact .inl (.inr (.inl ⟨t, v2, e, h'⟩))
    · exact .inl (.inr (.inr h))
    · exact .inr h
  have rowOk : ∀ j es0 x, G1.own (.r tm j) = some x → OwnRep w0.B (GX G) w e2 z2 es0 x → ∃ h', upd G1.own (.s tm) (some v') (.r tm j) = some h' ∧ h' = x ∧ OwnRep w0.B (GX { G1 with own := upd G1.own (.s tm) (some v') }) w' e2 z2 es0 h' := fun j es0 x q1 q2 =>
    ⟨x, by rw [upd_ne (by nofun)]; exact q1, rfl, (g3 _ _ _ _ q2).go (fun b hb => hneb b (S1.ownLt _ x b q1 hb).2 fun v0 m1 m2 => by have := S1.ownInj _ _ v0 x b m1 q1 m2 hb; cases this) mv⟩
  refine ⟨_, _, S2.put (v := .mat tm e e2 z2 (rows ++ [some es])) hd ⟨upd_same, hs ++ [hr], by simpa using k2, fun j es0 hj => ?_⟩, size_put, h, (Kp.refl G).of f1 f2⟩
  have hlen : hs.length = rows.length := by have := ho.1; omega
  rcases Nat.lt_trichotomy j rows.length with hj1 | hj1 | hj1
  · rw [List.getElem?_append_left hj1] at hj
    obtain ⟨x, q1, q2, q3⟩ := hA j es0 hj
    obtain ⟨h', m1, rfl, m3⟩ := rowOk j es0 x ((g2 (.r tm j) (fun e => by injection e with _ e; omega) (fun e => hne e.symm)).trans q2) q3
    exact ⟨h', by rw [List.getElem?_append_left (by omega)]; exact q1, m1, m3⟩
  · subst hj1
    simp only [List.getElem?_concat_length, Option.some.injEq] at hj
    subst hj
    obtain ⟨h', m1, rfl, m3⟩ := rowOk rows.length es hr (g1.trans r2) r3
    exact ⟨h', by rw [← hlen]; simp, m1, m3⟩
  · rw [List.getElem?_eq_none (by simp; omega)] at hj; cases hj
theorem sound_append (hT : TabOk P T) (S : Sim tt w0 G s a w) (o : Oper) (hd : ∀ x, o.dst = some x → x < a.tmps.size) {K : St → Prop} {c : Call} (ho : o.op = .call c) (hc : c.callee = .builtin .append) (h : aop P T tt o K s) : o.wp P a w (Nxt tt w0 a.tmps.size (some G) K) Q := by
  simp only [aop, ho, hc] at h
  have hA := S.evals c.args.toList
  have eargs : c.args.map a.eval = (c.args.toList.map a.eval).toArray := by cases c.args; simp
  split at h
  · next x y t t' d he ht hdd =>
    rw [he] at hA
    obtain ⟨ux, us, hu, hx, h2⟩ := hA.cons_inv
    obtain ⟨uy, us', rfl, hy, h4⟩ := h2.cons_inv
    obtain rfl := h4.nil_inv
    have hts : c.argTypes = #[t, t'] := by cases hct : c.argTypes; rw [hct] at ht; simpa using ht
    split at h
    · next htt =>
      have : t = t' := by simpa using htt
      subst this
      rcases appM_cases h with h | ⟨tm, e', e2, z2, rows, d', e'', es, rfl, rfl, hne, h⟩
      case inr =>
        obtain ⟨e, i, zv, ⟨h1, rfl, h1b, h1c⟩, k2, k3, k4, k5, k6, k7⟩ := elemZ_sound hT h
        obtain ⟨v', w', r1, r2⟩ := app_row S (ty := o.type) k2 k3 k4 k5 h1 k7 (hd d hdd) hne hx hy h1b h1c
        refine val_wp (u := v') (w' := w') ?_ ?_
        · simp only [execOp, ho, resolve, hc, Sem.run_bind, Sem.run_pure, Result.andThen_ok, invoke, builtin, eargs, hu, hts, r1]
        · rw [hdd]; exact r2
      obtain ⟨e, i, zv, h1, k2, k3, k4, k5, k6, k7⟩ := elemZ_sound hT h
      obtain ⟨es', A, cc, dss, m1, rfl, m3, m4, m5⟩ := src_sound h1 hy
      split at m1
      · next tg e' z' es _ =>
        split at m1
        · next hk =>
          rw [Bool.and_eq_true] at hk
          have e1 : e' = e := by simpa using hk.1
          have e2 : z' = i.size := by simpa using hk.2
          subst e1 e2
          replace m1 := appLim_out m1
          obtain ⟨hG, css, hown, hcss⟩ := (show RC w0.B G w (.own tg e' i.size es) ux from hx)
          obtain ⟨v', w', r1, r2, r3, r4⟩ := run_app S (ty := o.type) (c := cc) k2 k3 k4 k5 k6 k7 hown hcss m3 m4 m5 (app_room hT k3 k7 m1.1)
          refine val_wp (u := v') (w' := w') ?_ ?_
          · simp only [execOp, ho, resolve, hc, Sem.run_bind, Sem.run_pure, Result.andThen_ok, invoke, builtin, eargs, hu, hts, r1]
          · rw [hdd]; exact app_sim S (hd d hdd) (fun b hb => ⟨ux, hG, hb⟩) hcss m3 r2 r3 r4 m1.2
        · exact m1.elim
      · next tm k e' z' es _ =>
        split at m1
        · next hk =>
          simp only [Bool.and_eq_true, Bool.not_eq_true', Nat.beq_eq] at hk
          obtain ⟨⟨e1, e2⟩, e3⟩ := hk
          subst e1 e2
          have hdm : d ≠ tm := fun e => by subst e; simp at e3
          simp only [need_iff] at m1
          have S1 := S.dropOwn (.s d)
          have hx1 : RC w0.B (GhP G fun t => if t = .s d then none else some t) w (.own (.r tm k) e' i.size es) ux := (ghP_shift (G := G) (w := w) (π := fun t => if t = .s d then none else some t)).rc (v := .own (.r tm k) e' i.size es) (if_neg nofun) hx
          obtain ⟨G2, S2, hx2, hrep, f1, f2⟩ := S1.takeRow hdm (by simp [GhP]) hx1
          have m3' := m3.mono fun ds cs hh => (⟨hh.1, hh.2.mono fun v u hq => hrep v u ((ghP_shift (G := G) (w := w) (π := fun t => if t = .s d then none else some t)).rep hq)⟩ : ds.length = i.size ∧ All2 (RepV w (GX G2)) ds cs)
          obtain ⟨hG, css, hown, hcss⟩ := hx2
          obtain ⟨v', w', r1, r2, r3, r4⟩ := run_app S2 (ty := o.type) (c := cc) k2 k3 k4 k5 k6 k7 hown hcss m3' m4 m5 ⟨Nat.le_trans (Nat.mul_le_mul m1.1 k7) (by omega), by have := m1.1; simp only [maxLen]; omega⟩
          refine val_wp (u := v') (w' := w') ?_ ?_
          · simp only [execOp, ho, resolve, hc, Sem.run_bind, Sem.run_pure, Result.andThen_ok, invoke, builtin, eargs, hu, hts, r1]
          · rw [hdd]
            obtain ⟨G3, s3, q1, q2, q3, q4⟩ := app_sim S2 (hd d hdd) (fun b hb => ⟨ux, hG, hb⟩) hcss m3' r2 r3 r4 m1.2
            exact ⟨G3, s3, q1, q2, q3, fun g hg => by injection hg with hg; subst hg; exact ⟨((q4 _ rfl).1.trans f1), ((q4 _ rfl).2.trans f2)⟩⟩
        · exact m1.elim
      · replace m1 := appLim_out m1
        obtain rfl := hx.nil_inv
        obtain ⟨v', w', r1, r2, r3, r4⟩ := run_app S (ty := o.type) (c := cc) (es := []) (css := []) k2 k3 k4 k5 k6 k7 (World.ownsRow_nil w w0.B e i.size) trivial m3 m4 m5 (by have := app_room hT k3 k7 m1.1; simpa using this)
        refine val_wp (u := v') (w' := w') ?_ ?_
        · simp only [execOp, ho, resolve, hc, Sem.run_bind, Sem.run_pure, Result.andThen_ok, invoke, builtin, eargs, hu, hts, r1]
        · rw [hdd]; exact app_sim (es := []) (css := []) S (hd d hdd) (fun b hb => by cases hb) trivial m3 r2 r3 r4 m1.2
      · exact m1.elim
    · exact h.elim
  · exact h.elim
theorem sound_copy (hT : TabOk P T) (S : Sim tt w0 G s a w) (o : Oper) (hd : ∀ x, o.dst = some x → x < a.tmps.size) {K : St → Prop} {c : Call} (ho : o.op = .call c) (hc : c.callee = .builtin .copy) (h : aop P T tt o K s) : o.wp P a w (Nxt tt w0 a.tmps.size (some G) K) Q := by
  simp only [aop, ho, hc] at h
  have hA := S.evals c.args.toList
  have eargs : c.args.map a.eval = (c.args.toList.map a.eval).toArray := by cases c.args; simp
  split at h
  · next x y t t' d he ht hdd =>
    rw [he] at hA
    obtain ⟨ux, us, hu, hx, h2⟩ := hA.cons_inv
    obtain ⟨uy, us', rfl, hy, h4⟩ := h2.cons_inv
    obtain rfl := h4.nil_inv
    have hts : c.argTypes = #[t, t'] := by cases hct : c.argTypes; rw [hct] at ht; simpa using ht
    obtain ⟨e, i, zv, h1, k2, k3, k4, k5, k6, k7⟩ := elemZ_sound hT h
    split at h1
    · next hz1 =>
      have hz : i.size = 1 := by simpa using hz1
      obtain ⟨src, A, cc, dss, m1, rfl, m3, m4, m5⟩ := src_sound h1 hy
      have fin : ∀ (tg : Tg) (lo : Nat) (es : List (List AV)) (g n cap e0 dc : Nat) (cur : Array Value), G.own tg = some (.slice (some ⟨g, 0, none⟩) n cap) → w.heap[g]? = some (.cells cur e0 (0, 0)) → lo + es.length ≤ n → n * i.size ≤ cur.size → ux = .slice (some ⟨g, lo * i.size, none⟩) es.length dc → 0 < es.length ∧ 0 < src.length →
          K ((s.map (copyF tg i.size lo (src.take es.length))).put d (.int .i64 (min src.length es.length : Nat))) → o.wp P a w (Nxt tt w0 a.tmps.size (some G) K) Q := fun tg lo es g n cap e0 dc cur q1 q2 q3 q4 q5 q6 q7 => by
        subst q5
        cases A with
        | none => have := m4 rfl; rw [this] at q6; simp at q6
        | some ad =>
          obtain ⟨hdl, hsl⟩ := OwnRep.lens m3
          have hll := m3.len
          have efl : (dss.take es.length).flatten = dss.flatten.take (es.length * i.size) := flat_take hdl _
          have hfl := flat_len0 hdl
          have hcl : (dss.take es.length).flatten.length = min src.length es.length := by
            rw [efl, List.length_take, hfl, hz, hll]; omega
          have hone : ∀ u ∈ (dss.take es.length).flatten, u.oneCell' = true := by
            intro u hu
            obtain ⟨d, hd, hu⟩ := List.mem_flatten.1 hu
            obtain ⟨j, hj, rfl⟩ := List.mem_iff_getElem.1 (List.mem_of_mem_take hd)
            obtain ⟨ds, _, _, k⟩ := m3.get' (List.getElem?_eq_getElem hj)
            obtain ⟨m, hm, rfl⟩ := List.mem_iff_getElem.1 hu
            obtain ⟨x, _, hx⟩ := k.get' (List.getElem?_eq_getElem hm)
            exact hx.one
          have hrun := run_copy_row P w t t' o.type e g (lo * i.size) es.length dc ad src.length cc cur e0 (dss.take es.length).flatten k2 (by simp [k3, hz]) q2 hcl (fun j v hv => m5 ad rfl j v (by
              rw [efl, List.getElem?_take] at hv
              split at hv
              · exact hv
              · cases hv)) (by rw [hcl, hz]; rw [hz] at q4; omega) hone
          refine val_wp (u := goInt (dss.take es.length).flatten.length) (w' := w.setRow g (cur.toList.take (lo * i.size) ++ (dss.take es.length).flatten ++ cur.toList.drop (lo * i.size + (dss.take es.length).flatten.length)).toArray) ?_ ?_
          · simp only [execOp, ho, resolve, hc, Sem.run_bind, Sem.run_pure, Result.andThen_ok, invoke, builtin, eargs, hu, hts, hrun]
          · rw [hdd]
            have S1 := S.copyOwn q1 q2 (lo := lo) (src := src.take es.length) (dss := dss.take es.length) (by rw [List.length_take]; omega) q4 (m3.take es.length)
            exact ⟨_, _, S1.put (v := .int .i64 (min src.length es.length : Nat)) (hd d hdd) (by rw [hcl]; exact RepV.int _ _), size_put, q7, Kp.refl G⟩
      have non : ∀ (A' : Option Addr) (n c' : Nat), ux = .slice A' n c' → ¬ (0 < n ∧ 0 < src.length) → K (s.put d (.int .i64 0)) → o.wp P a w (Nxt tt w0 a.tmps.size (some G) K) Q := fun A' n c' q1 q2 q3 => by
        subst q1
        have hrun := run_copy_none (P := P) w t t' o.type e A' A n c' src.length cc k2 (by simp [k3, hz]) (show min src.length n = 0 by omega)
        refine val_wp (u := goInt 0) (w' := w) ?_ ?_
        · simp only [execOp, ho, resolve, hc, Sem.run_bind, Sem.run_pure, Result.andThen_ok, invoke, builtin, eargs, hu, hts, hrun]
        · rw [hdd]
          exact ⟨_, _, S.put (v := .int .i64 0) (hd d hdd) (RepV.int _ _), size_put, q3, Kp.refl G⟩
      split at m1
      · next tg e' z' es =>
        split at m1
        · next hk =>
          have e2 : z' = i.size := by simpa using hk
          subst e2
          rw [branch_iff, decide_eq_true_iff, decide_eq_false_iff_not] at m1
          obtain ⟨hG, css, hown, hcss⟩ := (show RC w0.B G w (.own tg e' i.size es) ux from hx)
          by_cases hpos : 0 < es.length ∧ 0 < src.length
          rotate_left 1
          · obtain ⟨A', c', hux⟩ := OwnRep.inv ⟨css, hown, hcss⟩
            exact non A' es.length c' hux hpos (m1.2 hpos)
          replace m1 := And.intro hpos (m1.1 hpos)
          rcases hown.2 with ⟨_, h0⟩ | ⟨g, cap, cur, hux, b1, b2, b3, b4, b5, b6⟩
          · omega
          · exact fin tg 0 es g es.length cap e' cap cur (by rw [hG, hux]) b2 (by omega) (by rw [b5]; exact Nat.mul_le_mul_right _ b3) (by rw [hux, Nat.zero_mul]) m1.1 m1.2
        · exact m1.elim
      · next tg lo z' es =>
        split at m1
        · next hk =>
          have e2 : z' = i.size := by simpa using hk
          subst e2
          rw [branch_iff, decide_eq_true_iff, decide_eq_false_iff_not] at m1
          obtain ⟨g, n, cap, e0, cur, css, A', c', q1, q2, q3, q4, q5, q6, q7, q8, q9⟩ := (show WinRep G w tg lo i.size es ux from hx)
          by_cases hpos : 0 < es.length ∧ 0 < src.length
          rotate_left 1
          · exact non A' es.length c' q3 hpos (m1.2 hpos)
          replace m1 := And.intro hpos (m1.1 hpos)
          exact fin tg lo es g n cap e0 c' cur q1 q6 q2 q7 (by rw [q3, q4 (List.length_pos_iff.1 m1.1.1)]) m1.1 m1.2
        · exact m1.elim
      · exact m1.elim
    · exact h1.elim
  · exact h.elim
end
end Go.Proofs.Ytjbmdaoppiinbaa
end

/- A plain interpreter, part 13: calls of functions by their contracts. -/
section
namespace Go.Proofs.Ytjbmdaoppiinbaa
set_option linter.unusedVariables false
set_option linter.unusedSimpArgs false
set_option linter.unnecessarySimpa false
set_option linter.unusedSectionVars false
set_option linter.unusedSectionVars false
open Go.RowKit

section
variable {P : Program} {T : Nat → Ty} {tt : Nat} {w0 : En} {w w' : World} {G : Gh} {s : St} {a : Act} {B : Nat} {Q : Exit → Act → World → Prop}
theorem run_enter {f : Nat} (h : Enters P f) (args : Array Value) (w : World) : (callFunc f args).run P w = .ok (.enter f args) w := by
  obtain ⟨fn, c, h1, h2, h3⟩ := h
  have h2' : ¬ fn.name = "runtime.NumGoroutine" := by simpa using h2
  simp [callFunc, program, Sem.run, h1, h2', h3]
/-- What the callee may not look at: all that the caller writes, but for the slices that it gets to see. -/
def Cut (G : Gh) (tags : List Tg) : Nat → Prop := fun b => GX G b ∧ ∀ t, t ∈ tags → ∀ v, G.own t = some v → v.ownBlock ≠ some b
section lower
variable {tags : List Tg} {tp : Option Nat} {h : Option Addr × Nat × Nat} (S : Sim tt w0 G s a w) (htp : tp = G.tape ∨ tp = none)
include S htp
theorem cut_gx {b : Nat} (hb : GX (G0 tp (Cut G tags) h) b) : GX G b ∧ ∀ t, t ∈ tags → ∀ v, G.own t = some v → v.ownBlock ≠ some b := by
  rcases hb with (⟨t, ht⟩ | ⟨t, v, ht, _⟩ | ht) | hb
  · cases ht
  · cases ht
  · have e : G.tape = some b := by rcases htp with e | e; exact e ▸ ht; rw [show (G0 tp (Cut G tags) h).tape = tp from rfl, e] at ht; cases ht
    exact ⟨.inl (.inr (.inr e)), fun t _ v hv hb => S.tapeOwn t v b e hv hb⟩
  · exact hb
theorem gm0 {b : Nat} (hb : GM (G0 tp (Cut G tags) h) b) : G.tape = some b := by
  rcases hb with ⟨t, ht⟩ | ⟨t, v, ht, _⟩ | ht
  · cases ht
  · cases ht
  · rcases htp with e | e
    · exact e ▸ ht
    · rw [show (G0 tp (Cut G tags) h).tape = tp from rfl, e] at ht; cases ht
theorem low_rep {v : AV} {u : Value} (hr : RepV w (GX G) v u) : RepV w (GX (G0 tp (Cut G tags) h)) v u := hr.move (fun _ _ _ => rfl) fun b _ hb => (cut_gx S htp hb).1
theorem low_own {t : Tg} {e z : Nat} {es : List (List AV)} {u : Value} (ht : t ∈ tags) (hr : RC w0.B G w (.own t e z es) u) : RepV w (GX (G0 tp (Cut G tags) h)) (.lst z es) u :=
  hr.2.rep (fun b _ hb => (cut_gx S htp hb).1) fun b hb hx => (cut_gx S htp hx).2 t ht u hr.1 hb
omit S htp
theorem own_drop {cs : List AV} {n : Nat} {t : Tg} (ht : t ∈ ownTags (cs.drop n)) : t ∈ ownTags cs := by
  induction n generalizing cs with
  | zero => exact ht
  | succ n ih =>
    cases cs with
    | nil => simpa using ht
    | cons c cs => have := ih (cs := cs) (by simpa using ht); cases c <;> simp [ownTags, this]
include S
theorem plain_sound : ∀ {cs : List AV} {us : List Value} {K : List AV → Prop}, (∀ t, t ∈ ownTags cs → t ∈ tags) → plainL cs K → All2 (RC w0.B G w) cs us → ∃ cs', K cs' ∧ All2 (fun c u => ∀ tp h, (tp = G.tape ∨ tp = none) → RepV w (GX (G0 tp (Cut G tags) h)) c u) cs' us
  | [], [], K, _, hk, _ => ⟨[], hk, trivial⟩
  | c :: cs, u :: us, K, ht, hk, hA => by
    have ht' : ∀ t, t ∈ ownTags cs → t ∈ tags := fun t h' => ht t (by cases c <;> simp [ownTags, h'])
    cases c
    case int k n => obtain ⟨cs', h1, h2⟩ := plain_sound ht' hk hA.2; exact ⟨_, h1, fun tp h htp => low_rep S htp hA.1, h2⟩
    case bool b => obtain ⟨cs', h1, h2⟩ := plain_sound ht' hk hA.2; exact ⟨_, h1, fun tp h htp => low_rep S htp hA.1, h2⟩
    case str b => obtain ⟨cs', h1, h2⟩ := plain_sound ht' hk hA.2; exact ⟨_, h1, fun tp h htp => low_rep S htp hA.1, h2⟩
    case lst z es => obtain ⟨cs', h1, h2⟩ := plain_sound ht' hk hA.2; exact ⟨_, h1, fun tp h htp => low_rep S htp hA.1, h2⟩
    case own t e z es => obtain ⟨cs', h1, h2⟩ := plain_sound ht' hk hA.2; exact ⟨_, h1, fun tp h htp => low_own S htp (ht t (by simp [ownTags])) hA.1, h2⟩
    case nil =>
      obtain ⟨cs', h1, h2⟩ := plain_sound ht' hk hA.2
      refine ⟨_, h1, ?_, h2⟩
      have : u = .slice none 0 0 := hA.1
      subst this
      exact fun tp h htp => .nil0
    all_goals exact hk.elim
  | [], _ :: _, _, _, _, hA => hA.elim
  | _ :: _, [], _, _, _, hA => hA.elim
theorem lowP_sound {v : AV} {u : Value} {K : AV → Prop} (ht : ∀ t, t ∈ tagsP s v → t ∈ tags) (hk : lowerP s v K) (hr : RP w0.B G w v u) : ∃ v', K v' ∧ ∀ tp h, (tp = G.tape ∨ tp = none) → (v' = .tape → tp = G.tape) → RP w.heap.size (G0 tp (Cut G tags) h) w v' u := by
  cases v
  case int k n => exact ⟨_, hk, fun tp h htp _ => low_rep S htp hr⟩
  case bool b => exact ⟨_, hk, fun tp h htp _ => low_rep S htp hr⟩
  case str b => exact ⟨_, hk, fun tp h htp _ => low_rep S htp hr⟩
  case lst z es => exact ⟨_, hk, fun tp h htp _ => low_rep S htp hr⟩
  case nil => exact ⟨_, hk, fun tp h htp _ => hr⟩
  case own t e z es => exact ⟨_, hk, fun tp h htp _ => low_own S htp (ht t (by simp [tagsP])) hr⟩
  case ref cs =>
    obtain ⟨b, o, us, rfl, h1, h2, h3, h4⟩ := hr
    exact ⟨_, hk, fun tp h htp _ => ⟨b, o, us, rfl, h1, fun hm => h2 (.inr (.inr (gm0 S htp hm))), h3.mono fun _ _ hr => hr.imp id (low_rep S htp), h4⟩⟩
  case ept t i off cs =>
    obtain ⟨g, n, c, e, cur, us, k1, rfl, k3, k4, k4', k5, k6⟩ := hr
    refine ⟨_, hk, fun tp h htp _ => ⟨g, _, us.drop off, rfl, (Array.getElem?_eq_some_iff.1 k4).1, fun hm => S.tapeOwn t _ g (gm0 S htp hm) k1 rfl, (k5.mono fun _ _ hr => hr.imp id (low_rep S htp)).drop off, fun j v hv => ?_⟩⟩
    rw [List.getElem?_drop] at hv
    rw [Nat.add_assoc]
    exact k6 _ v hv
  case ptr t off =>
    simp only [lowerP] at hk
    obtain ⟨b, hb, rfl⟩ := hr
    split at hk
    · next cs hcs =>
      obtain ⟨b', e, us, k1, k2, k3⟩ := S.box t cs hcs
      rw [hb] at k1
      injection k1 with k1
      subst k1
      obtain ⟨cs', m1, m2⟩ := plain_sound (tags := tags) S (fun t' h' => ht t' (by simp only [tagsP, hcs]; exact own_drop h')) hk (k3.drop off)
      refine ⟨_, m1, fun tp h htp _ => ⟨b, off, us.drop off, rfl, k2.lt, fun hm => S.tapeBox t b (gm0 S htp hm) hb, m2.mono fun _ _ k => .inr (k tp h htp), fun j v hv => ?_⟩⟩
      rw [k2.cell]
      rw [List.getElem?_drop] at hv
      simpa using hv
    · exact hk.elim
  case tape =>
    obtain ⟨p, hp, rfl⟩ := hr
    exact ⟨_, hk, fun tp h htp e => ⟨p, (e rfl).trans hp, rfl⟩⟩
  all_goals exact hk.elim
theorem lowPs_sound : ∀ {vs : List AV} {us : List Value} {K : List AV → Prop}, (∀ t, t ∈ tagsPs s vs → t ∈ tags) → lowerPs s vs K → All2 (RP w0.B G w) vs us → ∃ vs', K vs' ∧ ∀ tp h, (tp = G.tape ∨ tp = none) → (hasTape vs' = true → tp = G.tape) → All2 (RP w.heap.size (G0 tp (Cut G tags) h) w) vs' us
  | [], [], K, _, hk, _ => ⟨[], hk, fun _ _ _ _ => trivial⟩
  | v :: vs, u :: us, K, ht, hk, hA => by
    obtain ⟨v', k1, k2⟩ := lowP_sound S (fun t h' => ht t (by simp [tagsPs, h'])) hk hA.1
    obtain ⟨vs', m1, m2⟩ := lowPs_sound (fun t h' => ht t (by simp [tagsPs, h'])) k1 hA.2
    exact ⟨_, m1, fun tp h htp e => ⟨k2 tp h htp fun e' => e (by rw [e']; rfl), m2 tp h htp fun e' => e (by cases v' <;> first | rfl | exact e')⟩⟩
  | [], _ :: _, _, _, _, hA => hA.elim
  | _ :: _, [], _, _, _, hA => hA.elim
theorem lowV_sound {v : AV} {u : Value} {K : AV → Prop} (ht : ∀ t, t ∈ tagsV s v → t ∈ tags) (hk : lowerV s v K) (hr : RA w0.B G w v u) : ∃ v', K v' ∧ ∀ tp h, (tp = G.tape ∨ tp = none) → (v' = .tape → tp = G.tape) → RA w.heap.size (G0 tp (Cut G tags) h) w v' u := by
  have leaf : (∀ cs, v ≠ .agg cs) → (∀ f cap, v ≠ .fn f cap) → lowerP s v K → RP w0.B G w v u → (∀ t, t ∈ tagsP s v → t ∈ tags) → ∃ v', K v' ∧ ∀ tp h, (tp = G.tape ∨ tp = none) → (v' = .tape → tp = G.tape) → RA w.heap.size (G0 tp (Cut G tags) h) w v' u := fun _ _ k1 k2 k3 => by
    obtain ⟨v', m1, m2⟩ := lowP_sound S k3 k1 k2
    exact ⟨v', m1, fun tp h htp e => (m2 tp h htp e).rg.ra⟩
  cases v
  case agg cs =>
    obtain ⟨us, rfl, hA⟩ := hr
    obtain ⟨cs', m1, m2⟩ := plain_sound (tags := tags) S ht hk hA
    exact ⟨_, m1, fun tp h htp _ => ⟨us, rfl, m2.mono fun _ _ k => RepV.rc (k tp h htp)⟩⟩
  case fn f cap =>
    obtain ⟨us, rfl, hA⟩ := hr
    obtain ⟨cap', m1, m2⟩ := lowPs_sound (tags := tags) S ht hk hA
    split at m1
    · next hf => exact ⟨_, m1, fun tp h htp _ => ⟨us, rfl, m2 tp h htp (by rw [hf]; nofun)⟩⟩
    · exact m1.elim
  case tup => exact hk.elim
  all_goals exact leaf (by simp) (by simp) hk hr ht
theorem lowL_sound : ∀ {vs : List AV} {us : List Value} {K : List AV → Prop}, (∀ t, t ∈ tagsL s vs → t ∈ tags) → lowerL s vs K → All2 (RA w0.B G w) vs us → ∃ vs', K vs' ∧ ∀ tp h, (tp = G.tape ∨ tp = none) → (hasTape vs' = true → tp = G.tape) → All2 (RA w.heap.size (G0 tp (Cut G tags) h) w) vs' us
  | [], [], K, _, hk, _ => ⟨[], hk, fun _ _ _ _ => trivial⟩
  | v :: vs, u :: us, K, ht, hk, hA => by
    obtain ⟨v', k1, k2⟩ := lowV_sound S (fun t h' => ht t (by simp [tagsL, h'])) hk hA.1
    obtain ⟨vs', m1, m2⟩ := lowL_sound (fun t h' => ht t (by simp [tagsL, h'])) k1 hA.2
    exact ⟨_, m1, fun tp h htp e => ⟨k2 tp h htp fun e' => e (by rw [e']; rfl), m2 tp h htp fun e' => e (by cases v' <;> first | rfl | exact e')⟩⟩
  | [], _ :: _, _, _, _, hA => hA.elim
  | _ :: _, [], _, _, _, hA => hA.elim
end lower
theorem wkc_sound {v v' : AV} {u : Value} (h : WkC v v') (hr : RC B G w v u) : RC B G w v' u := by
  rcases h with rfl | ⟨rfl, z, rfl⟩
  · exact hr
  · have : u = .slice none 0 0 := hr
    subst this
    exact RepV.nil z _ _
theorem wk_sound {v v' : AV} {u : Value} (h : Wk v v') (hr : RA B G w v u) : RA B G w v' u := by
  rcases h with (rfl | ⟨rfl, z, rfl⟩) | ⟨cs, cs', rfl, rfl, hA⟩
  · exact hr
  · obtain rfl := hr.nil_inv
    exact RepV.nil z _ _
  · obtain ⟨us, rfl, h⟩ := hr
    refine ⟨us, rfl, All2.of (hA.len.symm.trans h.len) fun j c u hc hu => ?_⟩
    obtain ⟨c0, h0, hw⟩ := hA.get' hc
    obtain ⟨u0, h1, hr⟩ := h.get h0
    rw [hu] at h1
    injection h1 with h1
    subst h1
    exact wkc_sound hw hr
theorem wks_sound : ∀ {vs vs' : List AV} {us : List Value}, All2 Wk vs vs' → All2 (RA B G w) vs us → All2 (RA B G w) vs' us
  | [], [], [], _, _ => trivial
  | v :: vs, v' :: vs', u :: us, h, hA => ⟨wk_sound h.1 hA.1, wks_sound h.2 hA.2⟩
  | [], _ :: _, _, h, _ => h.elim
  | _ :: _, [], _, h, _ => h.elim
  | [], [], _ :: _, _, hA => hA.elim
  | _ :: _, _ :: _, [], _, hA => hA.elim
theorem tape_in {tp : Option Nat} {X : Nat → Prop} {h : Option Addr × Nat × Nat} : ∀ {vs : List AV} {us : List Value}, hasTape vs = true → All2 (RA B (G0 tp X h) w) vs us → ∃ p, tp = some p
  | [], _, ht, _ => by simp [hasTape] at ht
  | v :: vs, us, ht, hA => by
    obtain ⟨u, us', rfl, h1, h2⟩ := hA.cons_inv
    cases v
    case tape => obtain ⟨p, hp, _⟩ := h1; exact ⟨p, hp⟩
    all_goals exact tape_in (vs := vs) ht h2

/-! the result -/
theorem rep_back {tags : List Tg} {tp : Option Nat} {hh : Option Addr × Nat × Nat} {G1 : Gh} (hg : ∀ b, GX G1 b → Cut G tags b) {v : AV} {u : Value} (h : RepV w' (GX (G0 tp (Cut G tags) hh)) v u) : RepV w' (GX G1) v u :=
  h.move (fun _ _ _ => rfl) fun b _ hb => .inr (hg b hb)
theorem rc_back {tags : List Tg} {tp : Option Nat} {hh : Option Addr × Nat × Nat} {G1 : Gh} (hg : ∀ b, GX G1 b → Cut G tags b) {B' : Nat} {v : AV} {u : Value} (h : RC B (G0 tp (Cut G tags) hh) w' v u) : RC B' G1 w' v u := by
  cases v
  case undef => trivial
  case nil => exact h
  case nilp => exact h
  case own => exact absurd h.1 (by simp [G0])
  case mat => exact absurd h.1 (by simp [G0])
  case ptr t off => obtain ⟨b, hb, _⟩ := h; simp [G0] at hb
  case fn f cap =>
    obtain ⟨us, rfl, hA⟩ := h
    exact ⟨us, rfl, hA.mono fun v u h => by cases v <;> first | trivial | exact h.elim | (obtain ⟨b, hb, _⟩ := h; simp [G0] at hb)⟩
  all_goals exact rep_back hg h
theorem data_back {tags : List Tg} {tp : Option Nat} {hh : Option Addr × Nat × Nat} {G1 : Gh} (hg : ∀ b, GX G1 b → Cut G tags b) (htp : ∀ p, tp = some p → G1.tape = some p) {B' : Nat} : ∀ {vs : List AV} {us : List Value}, dataL vs = true → All2 (RG B (G0 tp (Cut G tags) hh) w') vs us → All2 (RG B' G1 w') vs us
  | [], [], _, _ => trivial
  | v :: vs, u :: us, hd, hA => by
    have hd' : dataL vs = true := by cases v <;> first | exact hd | (simp [dataL] at hd)
    refine ⟨?_, data_back hg htp hd' hA.2⟩
    have h1 := hA.1
    cases v
    case agg cs =>
      obtain ⟨us', rfl, h⟩ := h1
      exact ⟨us', rfl, h.mono fun _ _ h => rc_back hg h⟩
    case ref => simp [dataL] at hd
    case fn => simp [dataL] at hd
    case ptr t off => obtain ⟨b, hb, _⟩ := h1; simp [G0] at hb
    case ept t i off cs => obtain ⟨g, n, c, e, cur, us', hb, _⟩ := h1; simp [G0] at hb
    case mp t kvs => obtain ⟨b, es, c, hb, _⟩ := h1; simp [G0] at hb
    case mpt t i e2 z2 o => obtain ⟨g, n, c, e, cur, hb, _⟩ := h1; simp [G0] at hb
    case win t lo z es => obtain ⟨g, n, c, e, cur, css, A, c', hb, _⟩ := h1; simp [G0] at hb
    case tape =>
      obtain ⟨p, hp, rfl⟩ := h1
      exact ⟨p, htp p hp, rfl⟩
    case tup => simp only [RG, RP, RC] at h1; cases h1
    all_goals (simp only [RG, RP] at h1; exact (RC.rp (rc_back hg h1)).rg)
  | [], _ :: _, _, hA => hA.elim
  | _ :: _, [], _, hA => hA.elim
end
end Go.Proofs.Ytjbmdaoppiinbaa
end

/- A plain interpreter, part 14: calls of functions by their contracts: the whole. -/
section
namespace Go.Proofs.Ytjbmdaoppiinbaa
set_option linter.unusedVariables false
set_option linter.unusedSimpArgs false
set_option linter.unnecessarySimpa false
set_option linter.unusedSectionVars false
open Go.RowKit

section
variable {P : Program} {T : Nat → Ty} {tt : Nat} {w0 : En} {w w' : World} {G : Gh} {s : St} {a : Act} {B : Nat} {Q : Exit → Act → World → Prop}
/-- The tape behind a call. -/
theorem tape_after {tp : Option Nat} (S : Sim tt w0 G s a w) (htp : tp = G.tape ∨ tp = none) (hc : Chg (fun b => tp = some b) w w') (hk : ∀ p, tp = some p → TapeAt tt (fun b => tp = some b) G.hdr.1 G.hdr.2.1 G.hdr.2.2 w' p) :
    ∀ p, G.tape = some p → TapeAt tt (fun b => G.tape = some b) G.hdr.1 G.hdr.2.1 G.hdr.2.2 w p → TapeAt tt (fun b => G.tape = some b) G.hdr.1 G.hdr.2.1 G.hdr.2.2 w' p := fun p hp ht => by
  rcases htp with e | e
  · subst e; exact hk p hp
  · subst e
    exact ht.move (hc.block p ht.lt (by simp)) (fun b hb _ => hc.block b hb (by simp)) fun b _ h => h
/-- A slice that the call made becomes the function's own. -/
theorem Sim.gotOwn (S : Sim tt w0 G s a w) (d : Nat) (v' : Value) (hc : Chg (fun b => G.tape = some b) w w') (ht : ∀ p, G.tape = some p → TapeAt tt (fun b => G.tape = some b) G.hdr.1 G.hdr.2.1 G.hdr.2.2 w p → TapeAt tt (fun b => G.tape = some b) G.hdr.1 G.hdr.2.1 G.hdr.2.2 w' p)
    (hv' : ∀ b, v'.ownBlock = some b → w.heap.size ≤ b ∧ b < w'.heap.size) : Sim tt w0 { G with own := upd G.own d (some v') } (s.map (killF d)) a w' := by
  have hne : ∀ b, b < w.heap.size → G.tape ≠ some b → w'.heap[b]? = w.heap[b]? := fun b hb h => hc.block b hb h
  have H : Shift (· ≠ d) (fun _ => True) G { G with own := upd G.own d (some v') } w w' :=
    ⟨fun b hlt hn => hne b hlt fun e => hn (.inr (.inr e)), fun b hlt hx => by
      rcases hx with ⟨t, ht⟩ | ⟨t, v, h, h'⟩ | h
      · exact .inl ⟨t, ht⟩
      · rcases upd_cases h with ⟨_, e⟩ | ⟨_, e⟩
        · injection e with e
          subst e
          have := hv' b h'
          omega
        · exact .inr (.inl ⟨t, v, e, h'⟩)
      · exact .inr (.inr h), fun b h => h, fun t v h hk => ⟨(upd_ne hk).trans h, fun b hv => hne b (S.ownLt t v b h hv).2 fun e => S.tapeOwn t v b e h hv⟩, fun t b h _ => h, fun p h => h, fun b h => hne b (S.fz1 b h).1 fun e => S.fz3 b e h, fun b h => h, rfl, fun _ _ => rfl, rfl⟩
  have hp : ∀ v u, RP w0.B G w v u → RP w0.B { G with own := upd G.own d (some v') } w' (killF d v) u := fun v u h => by
    rcases killF_ok (T := d) (v := v) with e | ⟨e, hk⟩
    · rw [e]; trivial
    · rw [e]; exact H.rp hk h
  have hcc : ∀ v u, RC w0.B G w v u → RC w0.B { G with own := upd G.own d (some v') } w' (killF d v) u := fun v u h => by
    rcases killF_ok (T := d) (v := v) with e | ⟨e, hk⟩
    · rw [e]; trivial
    · rw [e]; exact H.rc hk h
  have hs := S.chg.size
  refine S.shift (f := killF d) H hp hcc (fun t b h _ => ⟨b, h, rfl, hne b (S.boxLt t b h).2 fun e => S.tapeBox t b e h⟩) (S.chg.andThen hc fun _ _ h => .inl h) hc.size (fun t b h => ⟨(S.boxLt t b h).1, Nat.lt_of_lt_of_le (S.boxLt t b h).2 hc.size⟩) ?ownLt S.boxInj ?ownInj ?boxOwn S.tapeBox ?tapeOwn
    (fun htp => by
      obtain ⟨p, h1, h2⟩ := S.tape htp
      refine ⟨p, h1, ?_⟩
      have h3 : TapeAt tt (fun b => G.tape = some b) G.hdr.1 G.hdr.2.1 G.hdr.2.2 w p := h2.move rfl (fun _ _ _ => rfl) fun b _ h => .inr (.inr h)
      obtain ⟨xs, k, hB, hI, hk⟩ := ht p h1 h3
      obtain ⟨xs', k', hB', hI', hk'⟩ := h2
      exact ⟨xs', k, hB, hI'.move _ H.sh H.gm, hk⟩) S.noTape ?ownFz S.fz3 S.tapeNew
  case ownLt =>
    intro t v b h h'
    rcases upd_cases h with ⟨_, e⟩ | ⟨_, e⟩
    · injection e with e; subst e; have := hv' b h'; exact ⟨.inl (by omega), this.2⟩
    · exact ⟨(S.ownLt t v b e h').1, by have := (S.ownLt t v b e h').2; have := hc.size; omega⟩
  case ownInj =>
    intro t t' v1 v2 b h h' k k'
    rcases upd_cases h with ⟨e1, e⟩ | ⟨e1, e⟩ <;> rcases upd_cases h' with ⟨e2, e'⟩ | ⟨e2, e'⟩
    · exact e1.trans e2.symm
    · injection e with e; subst e; have := hv' b k; have := (S.ownLt t' v2 b e' k').2; omega
    · injection e' with e'; subst e'; have := hv' b k'; have := (S.ownLt t v1 b e k).2; omega
    · exact S.ownInj t t' v1 v2 b e e' k k'
  case boxOwn =>
    intro t t' v b h h' h''
    rcases upd_cases h' with ⟨_, e⟩ | ⟨_, e⟩
    · injection e with e; subst e; have := hv' b h''; have := (S.boxLt t b h).2; omega
    · exact S.boxOwn t t' v b h e h''
  case tapeOwn =>
    intro t v b h h' h''
    rcases upd_cases h' with ⟨_, e⟩ | ⟨_, e⟩
    · injection e with e; subst e; have := hv' b h''; have := S.tapeLt h; omega
    · exact S.tapeOwn t v b h e h''
  case ownFz =>
    intro t v b h h' hz
    rcases upd_cases h with ⟨_, e⟩ | ⟨_, e⟩
    · injection e with e; subst e; have := hv' b h'; have := (S.fz1 b hz).1; omega
    · exact S.fz2 t v b e h' hz
theorem mapT_id {v : AV} : v.mapT id = v := by
  have hg : ∀ v : AV, v.mapG id = v := fun v => by cases v <;> simp [AV.mapG]
  cases v
  case tup vs =>
    simp only [AV.mapT]
    congr 1
    conv => rhs; rw [← List.map_id vs]
    exact List.map_congr_left fun v _ => hg v
  all_goals simp [AV.mapT]
/-- A tape that the call made. -/
theorem Sim.gotTape (S : Sim tt w0 G s a w) (hs : s.tp = false) {p : Nat} {A : Option Addr} {n c : Nat} (hp : w.heap.size ≤ p) (hc : Chg No w w') (ht : TapeAt tt (fun b => GX G b ∨ w.heap.size ≤ b) A n c w' p) :
    Sim tt w0 { G with tape := some p, hdr := (A, n, c) } { s with tp := true } a w' := by
  have hn := S.noTape hs
  have hb : ∀ b, b < w.heap.size → w'.heap[b]? = w.heap[b]? := fun b h => hc.block b h no_
  have H : Shift (fun _ => True) (fun _ => True) G { G with tape := some p, hdr := (A, n, c) } w w' :=
    ⟨fun b hlt _ => hb b hlt, fun b hlt hx => by
      rcases hx with ⟨t, ht⟩ | ⟨t, v, h, h'⟩ | h
      · exact .inl ⟨t, ht⟩
      · exact .inr (.inl ⟨t, v, h, h'⟩)
      · injection h with h; omega, fun b h => h, fun t v h _ => ⟨h, fun b hv => hb b (S.ownLt t v b h hv).2⟩, fun t b h _ => h, (fun p h => by rw [hn] at h; cases h), fun b h => hb b (S.fz1 b h).1, fun b h => h, rfl, (fun p h => by rw [hn] at h; cases h), rfl⟩
  have hs0 := S.chg.size
  have hra : ∀ v u, RA w0.B G w v u → RA w0.B { G with tape := some p, hdr := (A, n, c) } w' v u := fun v u h => by
    have := h.mapT (f := id) (fun v u h => H.rp (okT v) h) (fun v u h => H.rc (okT v) h)
    rwa [mapT_id] at this
  exact
    { slot := fun i => hra _ _ (S.slot i)
      box := fun t cs h => by
        obtain ⟨b, e, us, h1, h2, h3⟩ := S.box t cs h
        exact ⟨b, e, us, h1, h2.chg hc no_, h3.mono fun v u h => H.rc (okT v) h⟩
      defers := S.defers
      chg := (S.chg.andThen hc fun _ _ h => h.elim).mono fun b _ h => h.elim (fun h => by rw [hn] at h; cases h) .inr
      boxLt := fun t b h => ⟨(S.boxLt t b h).1, Nat.lt_of_lt_of_le (S.boxLt t b h).2 hc.size⟩
      ownLt := fun t v b h h' => ⟨(S.ownLt t v b h h').1, Nat.lt_of_lt_of_le (S.ownLt t v b h h').2 hc.size⟩
      boxInj := S.boxInj
      ownInj := S.ownInj
      boxOwn := S.boxOwn
      tapeBox := fun t b h h' => by injection h with h; have := (S.boxLt t b h').2; omega
      tapeOwn := fun t v b h h' h'' => by injection h with h; have := (S.ownLt t v b h' h'').2; omega
      tape := fun _ => ⟨p, rfl, ht.move rfl (fun _ _ _ => rfl) fun b hb hx => by
        rcases hx with ⟨t, ht⟩ | ⟨t, v, h, h'⟩ | h
        · exact .inl (.inl (.inl ⟨t, ht⟩))
        · exact .inl (.inl (.inr (.inl ⟨t, v, h, h'⟩)))
        · injection h with h; exact .inr (by omega)⟩
      noTape := fun h => by cases h
      ext := S.ext
      fz1 := fun b h => ⟨Nat.lt_of_lt_of_le (S.fz1 b h).1 hc.size, (hb b (S.fz1 b h).1).trans (S.fz1 b h).2⟩
      fz2 := S.fz2
      fz3 := fun b h hz => by injection h with h; have := (S.fz1 b hz).1; omega
      ext0 := S.ext0
      tape0 := fun p h => by have := (S.tape0 p h).1; rw [hn] at this; cases this
      tapeNew := fun b h hb => by injection h with h; omega
      hB := S.hB
      hM := S.hM
      size := S.size
      box0 := S.box0 }

theorem scalar_ra {v : AV} {u : Value} {B' : Nat} {G' : Gh} {w1 : World} (h : scalar0 v = true) (hr : RG B G w v u) : RG B' G' w1 v u := by
  cases v
  case int k n => cases hr; exact RepV.int _ _
  case bool b => cases hr; exact RepV.bool _
  case str b => cases hr; exact RepV.str _
  all_goals simp [scalar0] at h
theorem scalars_ra {B' : Nat} {G' : Gh} {w1 : World} : ∀ {vs : List AV} {us : List Value}, scalars vs = true → All2 (RG B G w) vs us → All2 (RG B' G' w1) vs us
  | [], [], _, _ => trivial
  | v :: vs, u :: us, h, hA => by
    simp only [scalars, Bool.and_eq_true] at h
    exact ⟨scalar_ra h.1 hA.1, scalars_ra h.2 hA.2⟩
  | [], _ :: _, _, hA => hA.elim
  | _ :: _, [], _, hA => hA.elim
theorem nums_inv {B : Nat} {G : Gh} : ∀ {ns : List (IntKind × Int)} {us : List Value}, All2 (RA B G w) (numV ns) us → us = ns.map fun p => Value.int p.1 p.2
  | [], us, h => h.nil_inv
  | p :: ns, us, h => by
    obtain ⟨u, us', rfl, h1, h2⟩ := h.cons_inv
    rw [nums_inv (ns := ns) h2, h1.int_inv]; rfl
theorem nums_rg {B : Nat} {G : Gh} : ∀ {ns : List (IntKind × Int)}, All2 (RG B G w) (numV ns) (ns.map fun p => Value.int p.1 p.2)
  | [] => trivial
  | p :: ns => ⟨RepV.int _ _, nums_rg⟩
theorem nums_scal : ∀ {ns : List (IntKind × Int)}, scalars (numV ns) = true
  | [] => rfl
  | p :: ns => by simp only [numV, List.map_cons, scalars, scalar0, Bool.true_and]; exact nums_scal
theorem sound_call (S : Sim tt w0 G s a w) (o : Oper) (hd : ∀ x, o.dst = some x → x < a.tmps.size) {K : St → Prop} {c : Call} {f : Operand} (ho : o.op = .call c) (hc : c.callee = .value f) (h : aop P T tt o K s) : o.wp P a w (Nxt tt w0 a.tmps.size (some G) K) Q := by
  simp only [aop, ho, hc] at h
  split at h
  · next g cap hf =>
    have hfr := S.eval f
    rw [hf] at hfr
    obtain ⟨ucap, hfu, hcap⟩ := hfr
    have hA : All2 (RA w0.B G w) (evals s c.args.toList ++ cap) (c.args.toList.map a.eval ++ ucap) := (S.evals c.args.toList).append (hcap.mono fun _ _ h => h.rg.ra)
    generalize hargs : evals s c.args.toList ++ cap = vs at h hA
    obtain ⟨args', h1, hlow⟩ := lowL_sound (tags := tagsL s vs) S (fun _ h => h) h hA
    rw [forceM_eq] at h1
    obtain ⟨tp, htp, htp', htn⟩ : ∃ tp, (tp = G.tape ∨ tp = none) ∧ (hasTape args' = true → tp = G.tape) ∧ (hasTape args' = false → tp = none) := by
      cases hh : hasTape args' with
      | true => exact ⟨G.tape, .inl rfl, fun _ => rfl, by nofun⟩
      | false => exact ⟨none, .inr rfl, by nofun, fun _ => rfl⟩
    have hlow := hlow tp G.hdr htp htp'
    simp only [acall_iff, or_false] at h1
    rcases h1 with ⟨args2, R, hwk, ⟨hent, hgood⟩, hR⟩ | ⟨ns, rs, rfl, ⟨fn, e, x1, x2, x3, x4, x5, x6⟩, hK⟩
    case inr =>
      have hu : c.args.toList.map a.eval ++ ucap = ns.map fun p => Value.int p.1 p.2 := nums_inv hlow
      have hrun : (execOp a.eval o).run P w = .ok (.value (.tuple (rs.map fun p => Value.int p.1 p.2).toArray)) w := by
        have e1 : (#[] ++ c.args.map a.eval) ++ ucap.toArray = (c.args.toList.map a.eval ++ ucap).toArray := by cases c.args; simp
        simp only [execOp, ho, resolve, hc, hfu, Deferred.ofValue, Sem.run_bind, Sem.run_pure, Result.andThen_ok, invoke, e1, hu, run_callFunc_extern x1 x2 x3 x4 x5, x6]
      refine val_wp hrun ?_
      simp only [admitV, nums_scal] at hK
      exact put_sound S hd (v := .tup (numV rs)) ⟨_, rfl, nums_rg⟩ (Kp.refl G) hK
    have hsome : tp.isSome = hasTape args' := by
      cases hh : hasTape args' with
      | true =>
        obtain ⟨p, hp⟩ := tape_in hh hlow
        rw [hp]; rfl
      | false => rw [htn hh]; rfl
    have hstp : ∀ p, G.tape = some p → s.tp = true := fun p hp => by
      cases hs : s.tp with
      | true => rfl
      | false => rw [S.noTape hs] at hp; cases hp
    have hta : ∀ p, tp = some p → TapeAt tt (fun b => tp = some b) G.hdr.1 G.hdr.2.1 G.hdr.2.2 w p := fun p hp => by
      have hG : tp = G.tape := by rcases htp with e | e; exact e; rw [e] at hp; cases hp
      obtain ⟨p', k1, k2⟩ := S.tape (hstp p (hG ▸ hp))
      rw [hG, k1] at hp
      injection hp with hp
      subst hp
      exact k2.move rfl (fun _ _ _ => rfl) fun b _ hb => .inr (.inr (hG ▸ hb))
    have hcall := hgood w (Cut G (tagsL s vs)) tp _ G.hdr (fun b hb => S.gxLt hb.1) hsome (wks_sound hwk hlow) hta
    have hrun : (execOp a.eval o).run P w = .ok (.enter g (c.args.toList.map a.eval ++ ucap).toArray) w := by
      have e1 : (#[] ++ c.args.map a.eval) ++ ucap.toArray = (c.args.toList.map a.eval ++ ucap).toArray := by cases c.args; simp
      simp only [execOp, ho, resolve, hc, hfu, Deferred.ofValue, Sem.run_bind, Sem.run_pure, Result.andThen_ok, invoke, e1, run_enter hent]
    unfold Oper.wp
    rw [hrun]
    refine Calls.mono hcall fun e w1 he => ?_
    obtain ⟨u, r, rfl, hRr, hret, hchg, htape⟩ := he
    have hk := hR r hRr
    have hG : Chg (fun b => G.tape = some b) w w1 := hchg.mono fun b _ hb => by rcases htp with e | e; exact e ▸ hb; rw [e] at hb; cases hb
    have S1 := S.called hG (tape_after S htp hchg htape)
    obtain ⟨G2, S2, -, hgx2, ht2, hh2, -, hb2, hf1, hf2⟩ := erases S (tagsL s vs)
    have hK2 : Kp (some G) G2 := (Kp.refl G).of hf1 hf2
    have hcut : ∀ b, GX G2 b → Cut G (tagsL s vs) b := hgx2
    have S3 := S2.called (w' := w1) (by rw [ht2]; exact hG) (by rw [ht2, hh2]; exact tape_after S htp hchg htape)
    have htp2 : ∀ p, tp = some p → G2.tape = some p := fun p hp => by rw [ht2]; rcases htp with e | e; exact e ▸ hp; rw [e] at hp; cases hp
    show Nxt tt w0 a.tmps.size (some G) K (a.put o.dst u) w1
    cases r
    case own t0 e z es =>
      simp only [admitV] at hk
      split at hk
      · next d hdd =>
        obtain ⟨css, hown, hcss⟩ := hret
        have hblk : ∀ b, u.ownBlock = some b → w.heap.size ≤ b ∧ b < w1.heap.size := fun b hb => by
          rcases hown.2 with ⟨rfl, _⟩ | ⟨g', cap', cur, rfl, hg', hh', _⟩
          · cases hb
          · simp only [Value.ownBlock, Option.some.injEq] at hb
            subst hb
            exact ⟨hg', (Array.getElem?_eq_some_iff.1 hh').1⟩
        have hk : K (((eraseAll (tagsL s vs) s).map (killF d)).put d (.own d e z es)) ∨ (scalE es ∧ K ((s.map (killF d)).put d (.own d e z es))) := by
          split at hk
          · next htg => rw [htg]; exact .inl hk
          · exact admO_iff.1 hk
        rcases hk with hk | ⟨hsc, hk⟩
        rotate_left 1
        · have S4 := S.gotOwn (w' := w1) d u hG (tape_after S htp hchg htape) hblk
          refine hdd ▸ ⟨_, _, S4.put (v := .own d e z es) (hd d hdd) ⟨upd_same, css, ?_, ?_⟩, size_put, hk, (Kp.refl G).of rfl rfl⟩
          · refine ⟨hown.1, ?_⟩
            rcases hown.2 with k | ⟨g', cap', cur, k1, k2, k3⟩
            · exact .inl k
            · exact .inr ⟨g', cap', cur, k1, Nat.le_trans (Nat.le_trans S.hB S.chg.size) k2, k3⟩
          · refine All2.of hcss.len fun j ds cs h1 h2 => ?_
            obtain ⟨cs', k1, k2, k3⟩ := hcss.get h1
            rw [h2] at k1
            injection k1 with k1
            subst k1
            refine ⟨k2, All2.of k3.len fun i v u' g1 g2 => ?_⟩
            obtain ⟨u2, g3, g4⟩ := k3.get g1
            rw [g2] at g3
            injection g3 with g3
            subst g3
            have hv := hsc ds (List.mem_of_getElem? h1) v (List.mem_of_getElem? g1)
            cases v
            case int k n => cases g4; exact RepV.int _ _
            case bool b => cases g4; exact RepV.bool _
            case str b => cases g4; exact RepV.str _
            all_goals simp [scalar0] at hv
        have S4 := S2.gotOwn (w' := w1) d u (by rw [ht2]; exact hG) (by rw [ht2, hh2]; exact tape_after S htp hchg htape) hblk
        refine hdd ▸ ⟨_, _, S4.put (v := .own d e z es) (hd d hdd) ⟨upd_same, css, ?_, hcss.mono fun _ _ h => ⟨h.1, h.2.mono fun _ _ hr => hr.move (fun _ _ _ => rfl) fun b _ hx => ?_⟩⟩, size_put, hk, hK2.of rfl rfl⟩
        · refine ⟨hown.1, ?_⟩
          rcases hown.2 with k | ⟨g', cap', cur, k1, k2, k3⟩
          · exact .inl k
          · exact .inr ⟨g', cap', cur, k1, Nat.le_trans (Nat.le_trans S.hB S.chg.size) k2, k3⟩
        · rcases hx with (⟨t, ht⟩ | ⟨t, v, h, h'⟩ | h) | h
          · exact .inl (hcut b (.inl (.inl ⟨t, ht⟩)))
          · rcases upd_cases h with ⟨_, e⟩ | ⟨_, e⟩
            · injection e with e; subst e; exact .inr (.inr h')
            · exact .inl (hcut b (.inl (.inr (.inl ⟨t, v, e, h'⟩))))
          · exact .inl (hcut b (.inl (.inr (.inr h))))
          · exact .inl (hcut b (.inr h))
      · exact hk.elim
    case tape =>
      simp only [admitV] at hk
      obtain ⟨p, A, n, cc, rfl, k2, k3, k4⟩ := hret
      split at hk
      · next d hdd hs htg =>
        subst k4
        rw [htg] at k3
        have S4 := S.gotTape hs k2 (hchg.mono fun b _ hb => by cases hb) (k3.move rfl (fun _ _ _ => rfl) fun b _ hb => hb.imp (fun h => ⟨h, fun t ht => by simp at ht⟩) id)
        exact hdd ▸ ⟨_, _, S4.put (v := .tape) (hd d hdd) ⟨p, rfl, rfl⟩, size_put, hk, (Kp.refl G).of rfl rfl⟩
      · exact hk.elim
    case int k n => exact put_sound S1 hd (v := .int k n) (by obtain rfl := RA.int_inv (B := w.heap.size) hret; exact RepV.int _ _) (Kp.refl G) hk
    case bool b => exact put_sound S1 hd (v := .bool b) (by obtain rfl := RA.bool_inv (B := w.heap.size) hret; exact RepV.bool _) (Kp.refl G) hk
    case str b => exact put_sound S1 hd (v := .str b) (by obtain rfl := RA.str_inv (B := w.heap.size) hret; exact RepV.str _) (Kp.refl G) hk
    case nil => exact put_sound S3 hd (v := .nil) (show u = .slice none 0 0 from hret) hK2 hk
    case lst z es => exact put_sound S3 hd (v := .lst z es) (rep_back hcut (show RepV w1 (GX (G0 tp (Cut G (tagsL s vs)) (none, 0, 0))) (.lst z es) u from hret)) hK2 hk
    case agg cs =>
      obtain ⟨us', rfl, h⟩ := (show RA w.heap.size (G0 tp (Cut G (tagsL s vs)) (none, 0, 0)) w1 (.agg cs) u from hret)
      exact put_sound S3 hd (v := .agg cs) ⟨us', rfl, h.mono fun _ _ h => rc_back hcut h⟩ hK2 hk
    case tup rs =>
      obtain ⟨us', rfl, h⟩ := (show RA w.heap.size (G0 tp (Cut G (tagsL s vs)) (none, 0, 0)) w1 (.tup rs) u from hret)
      simp only [admitV] at hk
      split at hk
      · next hsc => exact put_sound S1 hd (v := .tup rs) ⟨us', rfl, scalars_ra hsc h⟩ (Kp.refl G) hk
      · split at hk
        · next hdt => exact put_sound S3 hd (v := .tup rs) ⟨us', rfl, data_back hcut htp2 hdt h⟩ hK2 hk
        · exact hk.elim
    all_goals exact hk.elim
  · exact h.elim
end
end Go.Proofs.Ytjbmdaoppiinbaa
end

/- A plain interpreter: calls that change what the caller hands over. -/
section
namespace Go.Proofs.Ytjbmdaoppiinbaa
set_option linter.unusedVariables false
set_option linter.unusedSimpArgs false
set_option linter.unnecessarySimpa false
set_option linter.unusedSectionVars false
open Go.RowKit

theorem inL_iff {t : Nat} : ∀ {l : List Nat}, inL t l = true ↔ t ∈ l
  | [] => by simp [inL]
  | a :: l => by
    simp only [inL, Bool.or_eq_true, Nat.beq_eq, inL_iff (l := l), List.mem_cons]
    exact ⟨fun h => h.imp Eq.symm id, fun h => h.imp Eq.symm id⟩
theorem look_fst {a b : Nat} : ∀ {l : List (Nat × Nat)}, look l a = some b → a ∈ fsts l ∧ b ∈ fsts (swp l)
  | [], h => by cases h
  | (x, y) :: l, h => by
    by_cases e : x = a
    · subst e
      simp only [look, Nat.beq_refl, cond_true, Option.some.injEq] at h
      subst h
      simp [fsts, swp]
    · have : Nat.beq x a = false := by rw [← Bool.not_eq_true, Nat.beq_eq]; exact e
      simp only [look, this, cond_false] at h
      have := look_fst h
      exact ⟨by simp [fsts, this.1], by simp [fsts, swp, this.2]⟩
theorem look_swp {a b : Nat} : ∀ {l : List (Nat × Nat)}, ndp (fsts l) = true → ndp (fsts (swp l)) = true → (look l a = some b ↔ look (swp l) b = some a)
  | [], _, _ => by simp [look, swp]
  | (x, y) :: l, h1, h2 => by
    simp only [fsts, swp, ndp, Bool.and_eq_true, Bool.not_eq_true'] at h1 h2
    have ih := look_swp (a := a) (b := b) h1.2 h2.2
    have n1 : x ∉ fsts l := fun h => by have := inL_iff.2 h; rw [h1.1] at this; cases this
    have n2 : y ∉ fsts (swp l) := fun h => by have := inL_iff.2 h; rw [h2.1] at this; cases this
    have sw : fsts (swp (swp l)) = fsts l := by
      clear ih h1 h2 n1 n2
      induction l with
      | nil => rfl
      | cons p l ih => obtain ⟨p, q⟩ := p; simp [swp, fsts, ih]
    by_cases e1 : x = a <;> by_cases e2 : y = b
    · subst e1 e2; simp [look, swp]
    · subst e1
      have : Nat.beq y b = false := by rw [← Bool.not_eq_true, Nat.beq_eq]; exact e2
      simp only [look, swp, Nat.beq_refl, cond_true, this, cond_false, Option.some.injEq]
      exact ⟨fun h => absurd h e2, fun h => absurd (sw ▸ (look_fst h).2) n1⟩
    · subst e2
      have : Nat.beq x a = false := by rw [← Bool.not_eq_true, Nat.beq_eq]; exact e1
      simp only [look, swp, Nat.beq_refl, cond_true, this, cond_false, Option.some.injEq]
      exact ⟨fun h => absurd (look_fst h).2 n2, fun h => absurd h e1⟩
    · have t1 : Nat.beq x a = false := by rw [← Bool.not_eq_true, Nat.beq_eq]; exact e1
      have t2 : Nat.beq y b = false := by rw [← Bool.not_eq_true, Nat.beq_eq]; exact e2
      simp only [look, swp, t1, t2, cond_false]
      exact ih
theorem look_inj {a b c : Nat} {l : List (Nat × Nat)} (h1 : ndp (fsts l) = true) (h2 : ndp (fsts (swp l)) = true) (ha : look l a = some c) (hb : look l b = some c) : a = b := by
  rw [look_swp h1 h2] at ha hb
  rw [ha] at hb
  injection hb
theorem lookT_s {l : List (Nat × Nat)} {t : Nat} {x : Tg} (h : lookT l (.s t) = some x) : ∃ t1, look l t = some t1 ∧ x = .s t1 := by
  simp only [lookT] at h
  split at h
  · next t1 e => injection h with h; exact ⟨t1, e, h.symm⟩
  · cases h
theorem lookT_r {l : List (Nat × Nat)} {t i : Nat} {x : Tg} (h : lookT l (.r t i) = some x) : ∃ t1, look l t = some t1 ∧ x = .r t1 i := by
  simp only [lookT] at h
  split at h
  · next t1 e => injection h with h; exact ⟨t1, e, h.symm⟩
  · cases h
theorem lookT_sI {l : List (Nat × Nat)} {t t1 : Nat} (h : look l t = some t1) : lookT l (.s t) = some (.s t1) := by simp [lookT, h]
theorem lookT_rI {l : List (Nat × Nat)} {t t1 i : Nat} (h : look l t = some t1) : lookT l (.r t i) = some (.r t1 i) := by simp [lookT, h]
theorem lookT_none {l : List (Nat × Nat)} {t : Nat} (h : look l t = none) : lookT l (.s t) = none ∧ ∀ i, lookT l (.r t i) = none := by simp [lookT, h]
theorem lookT_base {l : List (Nat × Nat)} {t : Tg} : lookT l t = none ↔ look l t.base = none := by
  cases t <;> simp only [lookT, Tg.base] <;> split <;> simp_all
theorem lookT_swp {a b : Tg} {l : List (Nat × Nat)} (h1 : ndp (fsts l) = true) (h2 : ndp (fsts (swp l)) = true) : lookT l a = some b ↔ lookT (swp l) b = some a := by
  constructor
  · intro h
    cases a with
    | s t => obtain ⟨t1, e, rfl⟩ := lookT_s h; exact lookT_sI ((look_swp h1 h2).1 e)
    | r t i => obtain ⟨t1, e, rfl⟩ := lookT_r h; exact lookT_rI ((look_swp h1 h2).1 e)
  · intro h
    cases b with
    | s t => obtain ⟨t1, e, rfl⟩ := lookT_s h; exact lookT_sI ((look_swp h1 h2).2 e)
    | r t i => obtain ⟨t1, e, rfl⟩ := lookT_r h; exact lookT_rI ((look_swp h1 h2).2 e)
theorem lookT_inj {a b c : Tg} {l : List (Nat × Nat)} (h1 : ndp (fsts l) = true) (h2 : ndp (fsts (swp l)) = true) (ha : lookT l a = some c) (hb : lookT l b = some c) : a = b := by
  rw [lookT_swp h1 h2] at ha hb
  rw [ha] at hb
  injection hb
theorem look_app {t : Nat} : ∀ {l l' : List (Nat × Nat)}, look (l ++ l') t = (look l t).orElse fun _ => look l' t
  | [], l' => rfl
  | (a, b) :: l, l' => by
    simp only [List.cons_append, look]
    cases Nat.beq a t with
    | true => rfl
    | false => exact look_app
theorem look_appL {t t1 : Nat} {l l' : List (Nat × Nat)} (h : look l t = some t1) : look (l ++ l') t = some t1 := by rw [look_app, h]; rfl
theorem look_appR {t t1 : Nat} {l l' : List (Nat × Nat)} (h : look (l ++ l') t = some t1) : look l t = some t1 ∨ (look l t = none ∧ look l' t = some t1) := by
  rw [look_app] at h
  cases e : look l t with
  | none => rw [e] at h; exact .inr ⟨rfl, h⟩
  | some x => rw [e] at h; exact .inl h
theorem swp_app {l l' : List (Nat × Nat)} : swp (l ++ l') = swp l ++ swp l' := by
  induction l with
  | nil => rfl
  | cons p l ih => obtain ⟨a, b⟩ := p; simp [swp, ih]
theorem fsts_app {l l' : List (Nat × Nat)} : fsts (l ++ l') = fsts l ++ fsts l' := by
  induction l with
  | nil => rfl
  | cons p l ih => obtain ⟨a, b⟩ := p; simp [fsts, ih]
theorem ndp_appL {l l' : List Nat} (h : ndp (l ++ l') = true) : ndp l = true := by
  induction l with
  | nil => rfl
  | cons a l ih =>
    simp only [List.cons_append, ndp, Bool.and_eq_true, Bool.not_eq_true'] at h ⊢
    refine ⟨?_, ih h.2⟩
    cases e : inL a l with
    | false => rfl
    | true => have := inL_iff.2 (List.mem_append_left l' (inL_iff.1 e)); rw [h.1] at this; cases this
theorem ndp_not {l l' : List Nat} (h : ndp (l ++ l') = true) {t : Nat} (h1 : t ∈ l) (h2 : t ∈ l') : False := by
  induction l with
  | nil => simp at h1
  | cons a l ih =>
    simp only [List.cons_append, ndp, Bool.and_eq_true, Bool.not_eq_true'] at h
    rcases List.mem_cons.1 h1 with rfl | h1
    · have := inL_iff.2 (List.mem_append_right l h2); rw [h.1] at this; cases this
    · exact ih h.2 h1
theorem look_none {t : Nat} : ∀ {l : List (Nat × Nat)}, look l t = none ↔ inL t (fsts l) = false
  | [] => by simp [look, inL, fsts]
  | (a, b) :: l => by
    simp only [look, fsts, inL]
    cases Nat.beq a t with
    | true => simp
    | false => simpa using look_none
theorem allLt_at {t : Nat} : ∀ {l : List Nat}, allLt l = true → t ∈ l → t < 1000
  | [], _, h => by simp at h
  | a :: l, h, ht => by
    simp only [allLt, Bool.and_eq_true] at h
    rcases List.mem_cons.1 ht with rfl | ht
    · simpa using h.1
    · exact allLt_at h.2 ht
theorem allGe_at {t : Nat} : ∀ {l : List Nat}, allGe l = true → t ∈ l → 1000 ≤ t
  | [], _, h => by simp at h
  | a :: l, h, ht => by
    simp only [allGe, Bool.and_eq_true] at h
    rcases List.mem_cons.1 ht with rfl | ht
    · exact Nat.le_of_ble_eq_true h.1
    · exact allGe_at h.2 ht
theorem keysIn_at {bx : List (Nat × List AV)} {t : Nat} : ∀ {l : List Nat}, keysIn bx l = true → t ∈ l → ∃ cs, lkB bx t = some cs
  | [], _, h => by simp at h
  | a :: l, h, ht => by
    simp only [keysIn, Bool.and_eq_true] at h
    rcases List.mem_cons.1 ht with rfl | ht
    · exact Option.isSome_iff_exists.1 h.1
    · exact keysIn_at h.2 ht
theorem ov_at {t : Tg} {e z : Nat} {es : List (List AV)} {i : Nat} : ∀ {args : List AV} {k : Nat}, lk (ovOf k args) i = .own t e z es → k ≤ i ∧ args[i - k]? = some (.own t e z es)
  | [], k, h => by simp [ovOf, lk] at h
  | v :: args, k, h => by
    have next : lk (ovOf (k + 1) args) i = .own t e z es → k ≤ i ∧ (v :: args)[i - k]? = some (.own t e z es) := fun h => by
      obtain ⟨h1, h2⟩ := ov_at h
      refine ⟨by omega, ?_⟩
      rw [show i - k = (i - (k + 1)) + 1 by omega, List.getElem?_cons_succ]
      exact h2
    cases v
    case own t' e' z' es' =>
      by_cases hi : i = k
      · subst hi
        simp only [ovOf, lk, Nat.beq_refl, cond_true] at h
        rw [h]
        exact ⟨Nat.le_refl _, by simp⟩
      · simp only [ovOf, lk, beq_ne hi, cond_false] at h
        exact next h
    all_goals exact next h
theorem ov_cases {i : Nat} : ∀ {args : List AV} {k : Nat}, lk (ovOf k args) i = .undef ∨ ∃ t e z es, lk (ovOf k args) i = .own t e z es
  | [], k => .inl rfl
  | v :: args, k => by
    cases v
    case own t' e' z' es' =>
      by_cases hi : i = k
      · subst hi; exact .inr ⟨t', e', z', es', by simp [ovOf, lk]⟩
      · simp only [ovOf, lk, beq_ne hi, cond_false]; exact ov_cases
    all_goals exact ov_cases (args := args) (k := k + 1)
theorem isOwn_inv {t : Tg} {v : AV} (h : isOwn t v = true) : ∃ e z es, v = .own t e z es := by
  cases v
  case own t' e z es =>
    simp only [isOwn, Tg.eqb_iff] at h
    subst h
    exact ⟨e, z, es, rfl⟩
  all_goals simp [isOwn] at h
theorem ovFind_spec {t : Tg} {ov0 ov : List (Nat × AV)} : ∀ {l : List (Nat × AV)}, ovFind t ov0 ov l = .undef ∨ ∃ i e0 z0 es0 e z es, lk ov0 i = .own t e0 z0 es0 ∧ lk ov i = .own t e z es ∧ ovFind t ov0 ov l = .own t e z es
  | [] => .inl rfl
  | (i, v) :: l => by
    simp only [ovFind]
    cases h : isOwn t (lk ov0 i) && isOwn t (lk ov i) with
    | false => exact ovFind_spec (l := l)
    | true =>
      rw [Bool.and_eq_true] at h
      obtain ⟨e0, z0, es0, h1⟩ := isOwn_inv h.1
      obtain ⟨e, z, es, h2⟩ := isOwn_inv h.2
      exact .inr ⟨i, e0, z0, es0, e, z, es, h1, h2, by simp only [cond_true, h2]⟩
theorem ovGe_at {i : Nat} : ∀ {ov : List (Nat × AV)}, ovGe ov = true → i < 1000 → lk ov i = .undef
  | [], _, _ => rfl
  | (j, v) :: l, h, hi => by
    simp only [ovGe, Bool.and_eq_true] at h
    have hj := Nat.le_of_ble_eq_true h.1
    simp only [lk, beq_ne (show i ≠ j by omega), cond_false]
    exact ovGe_at h.2 hi

section
variable {P : Program} {T : Nat → Ty} {tt : Nat} {w0 : En} {w w' : World} {G G2 : Gh} {s : St} {a : Act} {B : Nat} {Q : Exit → Act → World → Prop} {β ρ : List (Nat × Nat)} {tp : Option Nat} {us : List Value}
/-- The blocks that are handed over. -/
def MB (β ρ : List (Nat × Nat)) (G : Gh) : Nat → Prop := fun b => (∃ t t1, look β t = some t1 ∧ G.box t1 = some b) ∨ ∃ t t1 v, lookT ρ t = some t1 ∧ G.own t1 = some v ∧ v.ownBlock = some b
def EnM (w0 : En) (G : Gh) (w : World) (β ρ : List (Nat × Nat)) (tp : Option Nat) (us : List Value) : En :=
  { toWorld := w, X := fun b => GX G b ∧ ¬ MB β ρ G b, tp := tp, hd := G.hdr, B := w0.B, M := MB β ρ G, bx := fun t => (look β t).bind G.box, outs := fun i => us.getD (i - 1000) undef }
def GhM (G : Gh) (β ρ : List (Nat × Nat)) (tp : Option Nat) : Gh :=
  { box := fun t => (look β t).bind G.box, own := fun t => (lookT ρ t).bind G.own, tape := tp, ext := fun b => GX G b ∧ ¬ MB β ρ G b, hdr := G.hdr, fz := fun _ => False, fw := default }
def GhB (G G2 : Gh) (β ρ ν σ : List (Nat × Nat)) : Gh :=
  { G with box := fun t => match look (swp ν) t with | some t' => G2.box t' | none => G.box t, own := fun t => match lookT (swp (ρ ++ σ)) t with | some t' => G2.own t' | none => G.own t, fz := fun b => G.fz b ∧ ¬ MB β ρ G b }
theorem mb_gm {b : Nat} (h : MB β ρ G b) : GM G b := by
  rcases h with ⟨t, t1, _, h⟩ | ⟨t, t1, v, _, h, h'⟩
  · exact .inl ⟨t1, h⟩
  · exact .inr (.inl ⟨t1, v, h, h'⟩)
theorem gm_m (htp : tp = G.tape ∨ tp = none) {b : Nat} (h : GM (GhM G β ρ tp) b) : GM G b := by
  rcases h with ⟨t, ht⟩ | ⟨t, v, ht, hv⟩ | ht
  · obtain ⟨t1, h1, h2⟩ := Option.bind_eq_some_iff.1 ht
    exact .inl ⟨t1, h2⟩
  · obtain ⟨t1, h1, h2⟩ := Option.bind_eq_some_iff.1 ht
    exact .inr (.inl ⟨t1, v, h2, hv⟩)
  · rcases htp with e | e
    · exact .inr (.inr (e ▸ ht))
    · rw [show (GhM G β ρ tp).tape = tp from rfl, e] at ht; cases ht
theorem gx_m (htp : tp = G.tape ∨ tp = none) {b : Nat} (h : GX (GhM G β ρ tp) b) : GX G b := h.elim (fun h => .inl (gm_m htp h)) fun h => h.1
section enter
variable (htp : tp = G.tape ∨ tp = none)
include htp
theorem rep_m {v : AV} {u : Value} (h : RepV w (GX G) v u) : RepV w (GX (GhM G β ρ tp)) v u := h.move (fun _ _ _ => rfl) fun b _ hb => gx_m htp hb
theorem plain_m {v : AV} {u : Value} (hk : plainC v = true) (h : RC B G w v u) : RC B (GhM G β ρ tp) w v u := by
  cases v
  case nil => exact h
  case int => exact rep_m htp h
  case bool => exact rep_m htp h
  case str => exact rep_m htp h
  case lst => exact rep_m htp h
  all_goals simp [plainC] at hk
theorem plains_m : ∀ {cs : List AV} {us : List Value}, plainCs cs = true → All2 (RC B G w) cs us → All2 (RC B (GhM G β ρ tp) w) cs us
  | [], [], _, _ => trivial
  | c :: cs, u :: us, hk, h => by
    simp only [plainCs, Bool.and_eq_true] at hk
    exact ⟨plain_m htp hk.1 h.1, plains_m hk.2 h.2⟩
  | [], _ :: _, _, h => h.elim
  | _ :: _, [], _, h => h.elim
theorem p_m {v : AV} {u : Value} (hk : okP β v = true) (h : RP B G w (renP β v) u) : RP B (GhM G β ρ tp) w v u := by
  cases v
  case undef => trivial
  case ptr t off =>
    simp only [okP] at hk
    obtain ⟨t1, h1⟩ := Option.isSome_iff_exists.1 hk
    simp only [renP, h1] at h
    obtain ⟨b, hb, rfl⟩ := h
    exact ⟨b, by simp [GhM, h1, hb], rfl⟩
  case ref cs =>
    obtain ⟨b, o, us, rfl, h1, h2, h3, h4⟩ := h
    exact ⟨b, o, us, rfl, h1, fun hm => h2 (gm_m htp hm), h3.mono fun _ _ h => h.imp id (rep_m htp), h4⟩
  all_goals first | (simp [okP, plainC] at hk; done) | exact RC.rp (plain_m (B := B) htp (by rfl) h)
theorem ps_m : ∀ {cs : List AV} {us : List Value}, okPs β cs = true → All2 (RP B G w) (cs.map (renP β)) us → All2 (RP B (GhM G β ρ tp) w) cs us
  | [], [], _, _ => trivial
  | c :: cs, u :: us, hk, h => by
    simp only [okPs, Bool.and_eq_true] at hk
    exact ⟨p_m htp hk.1 h.1, ps_m hk.2 h.2⟩
  | [], _ :: _, _, h => h.elim
  | _ :: _, [], _, h => h.elim
theorem own_m {t : Tg} {e z : Nat} {es : List (List AV)} {u : Value} (hk : (lookT ρ t).isSome = true) (h : RC B G w (ren β ρ (.own t e z es)) u) : RC B (GhM G β ρ tp) w (.own t e z es) u := by
  obtain ⟨t1, h1⟩ := Option.isSome_iff_exists.1 hk
  simp only [ren, h1] at h
  obtain ⟨h2, css, h3, h4⟩ := h
  exact ⟨by simp [GhM, h1, h2], css, h3, h4.mono fun _ _ h => ⟨h.1, h.2.mono fun _ _ h => rep_m htp h⟩⟩
theorem a_m {v : AV} {u : Value} (hk : okA β ρ v = true) (htape : v = .tape → tp = G.tape) (h : RA B G w (ren β ρ v) u) : RA B (GhM G β ρ tp) w v u := by
  cases v
  case own t e z es => exact (own_m (B := B) htp hk (by
    obtain ⟨t1, h1⟩ := Option.isSome_iff_exists.1 hk
    simp only [ren, h1] at h ⊢
    exact h)).ra
  case fn f cap =>
    obtain ⟨us, rfl, hA⟩ := h
    exact ⟨us, rfl, ps_m htp hk hA⟩
  case agg cs =>
    obtain ⟨us, rfl, hA⟩ := h
    exact ⟨us, rfl, plains_m htp hk hA⟩
  case tape =>
    obtain ⟨p, hp, rfl⟩ := h
    exact ⟨p, (htape rfl).trans hp, rfl⟩
  case tup => simp [okA, okP, plainC] at hk
  case mat => simp [okA, okP, plainC] at hk
  case mpt => simp [okA, okP, plainC] at hk
  case nilp => simp [okA, okP, plainC] at hk
  case ept => simp [okA, okP, plainC] at hk
  case mp => simp [okA, okP, plainC] at hk
  case win => simp [okA, okP, plainC] at hk
  case ptr t off =>
    refine (p_m (v := .ptr t off) (B := B) htp hk ?_).rg.ra
    simp only [okA, okP] at hk
    obtain ⟨t1, h1⟩ := Option.isSome_iff_exists.1 hk
    simp only [ren, renP, h1] at h ⊢
    exact h
  all_goals exact RG.ra (RP.rg (p_m (B := B) htp (by first | rfl | exact hk) h))
theorem mat_m {t e e2 z2 : Nat} {rows : List (Option (List (List AV)))} {u : Value} (hk : (look ρ t).isSome = true) (h : RC B G w (ren β ρ (.mat t e e2 z2 rows)) u) : RC B (GhM G β ρ tp) w (.mat t e e2 z2 rows) u := by
  obtain ⟨t1, h1⟩ := Option.isSome_iff_exists.1 hk
  simp only [ren, h1] at h
  obtain ⟨h2, hs, h3, h4⟩ := h
  refine ⟨by simp [GhM, lookT_sI h1, h2], hs, h3, fun i es hi => ?_⟩
  obtain ⟨x, k1, k2, css, k3, k4⟩ := h4 i es hi
  exact ⟨x, k1, by simp [GhM, lookT_rI h1, k2], css, k3, k4.mono fun _ _ h => ⟨h.1, h.2.mono fun _ _ h => rep_m htp h⟩⟩
theorem as_m : ∀ {cs : List AV} {us : List Value}, okAs β ρ cs = true → (hasTape cs = true → tp = G.tape) → All2 (RA B G w) (cs.map (ren β ρ)) us → All2 (RA B (GhM G β ρ tp) w) cs us
  | [], [], _, _, _ => trivial
  | c :: cs, u :: us, hk, ht, h => by
    simp only [okAs, Bool.and_eq_true] at hk
    exact ⟨a_m htp hk.1 (fun e => ht (by rw [e]; rfl)) h.1, as_m hk.2 (fun e => ht (by cases c <;> first | rfl | exact e)) h.2⟩
  | [], _ :: _, _, _, h => h.elim
  | _ :: _, [], _, _, h => h.elim
theorem c_m {v : AV} {u : Value} (hk : okC β ρ v = true) (h : RC B G w (ren β ρ v) u) : RC B (GhM G β ρ tp) w v u := by
  cases v
  case own t e z es => exact own_m htp hk h
  case mat t e e2 z2 rows => exact mat_m htp hk h
  case undef => trivial
  case fn f cap =>
    simp only [okC, Bool.and_eq_true] at hk
    obtain ⟨us, rfl, hA⟩ := h
    exact ⟨us, rfl, allPtr_sound hk.1 (ps_m (B := B) (w := w) htp hk.2 (hA.mono fun _ _ h => h.rp))⟩
  case ptr t off =>
    simp only [okC] at hk
    obtain ⟨t1, h1⟩ := Option.isSome_iff_exists.1 hk
    simp only [ren, h1] at h
    obtain ⟨b, hb, rfl⟩ := h
    exact ⟨b, by simp [GhM, h1, hb], rfl⟩
  all_goals first | (simp [okC, plainC] at hk; done) | exact plain_m htp (by rfl) h
theorem cs_m : ∀ {cs : List AV} {us : List Value}, okCs β ρ cs = true → All2 (RC B G w) (cs.map (ren β ρ)) us → All2 (RC B (GhM G β ρ tp) w) cs us
  | [], [], _, _ => trivial
  | c :: cs, u :: us, hk, h => by
    simp only [okCs, Bool.and_eq_true] at hk
    exact ⟨c_m htp hk.1 h.1, cs_m hk.2 h.2⟩
  | [], _ :: _, _, h => h.elim
  | _ :: _, [], _, h => h.elim
end enter
theorem boxesM_at {bx : List (Nat × List AV)} {t : Nat} {cs : List AV} : ∀ {l : List (Nat × List AV)}, BoxesM s β ρ l → lkB l t = some cs → ∃ t1, look β t = some t1 ∧ s.box t1 = some (cs.map (ren β ρ)) ∧ okCs β ρ cs = true
  | [], _, h => by cases h
  | (t', cs') :: l, hb, h => by
    by_cases e : t = t'
    · subst e
      simp only [lkB, beq_self, cond_true, Option.some.injEq] at h
      subst h
      exact hb.1
    · simp only [lkB, beq_ne e, cond_false] at h
      exact boxesM_at (bx := bx) hb.2 h
theorem notMB_own (S : Sim tt w0 G s a w) (h1 : ndp (fsts ρ) = true) (h2 : ndp (fsts (swp ρ)) = true) {t : Tg} {b : Nat} {v : Value} (hn : lookT (swp ρ) t = none) (ho : G.own t = some v) (hb : v.ownBlock = some b) : ¬ MB β ρ G b := by
  rintro (⟨t', t1, _, h⟩ | ⟨t', t1, v', hl, h, h'⟩)
  · exact S.boxOwn t1 t v b h ho hb
  · have e := S.ownInj t1 t v' v b h ho h' hb
    subst e
    rw [lookT_swp h1 h2, hn] at hl
    cases hl
theorem notMB_box (S : Sim tt w0 G s a w) {t b : Nat} (hn : ∀ t', look β t' ≠ some t) (ho : G.box t = some b) : ¬ MB β ρ G b := by
  rintro (⟨t', t1, hl, h⟩ | ⟨t', t1, v', hl, h, h'⟩)
  · exact hn t' (S.boxInj t1 t b h ho ▸ hl)
  · exact S.boxOwn t t1 v' b ho h h'
theorem notMB_tape (S : Sim tt w0 G s a w) {b : Nat} (ho : G.tape = some b) : ¬ MB β ρ G b := by
  rintro (⟨t', t1, hl, h⟩ | ⟨t', t1, v', hl, h, h'⟩)
  · exact S.tapeBox t1 b ho h
  · exact S.tapeOwn t1 v' b ho h h'
theorem mb_nw (S : Sim tt w0 G s a w) {b : Nat} (h : MB β ρ G b) : Nw w0 b ∧ b < w.heap.size := by
  rcases h with ⟨t', t1, hl, h⟩ | ⟨t', t1, v', hl, h, h'⟩
  · exact S.boxLt t1 b h
  · exact S.ownLt t1 v' b h h'
/-- The state in which the callee begins. -/
theorem enterM (S : Sim tt w0 G s a w) {args : List AV} {bx : List (Nat × List AV)} (hok : okM β ρ = true) (hA : All2 (RA w0.B G w) (args.map (ren β ρ)) us) (hka : okAs β ρ args = true) (hbx : BoxesM s β ρ bx) (htp : tp = G.tape ∨ tp = none) (ht1 : hasTape args = true → tp = G.tape ∧ s.tp = true) (ht2 : hasTape args = false → tp = none) :
    Sim tt (EnM w0 G w β ρ tp us) (GhM G β ρ tp) (mkSt (ovOf 1000 args) bx (hasTape args)) a0 w ∧ All2 (RA w0.B (GhM G β ρ tp) w) args us := by
  simp only [okM, Bool.and_eq_true] at hok
  obtain ⟨⟨⟨⟨b1, b2⟩, r1⟩, r2⟩, bg⟩ := hok
  have hargs := as_m (B := w0.B) (w := w) htp hka (fun h => (ht1 h).1) hA
  refine ⟨?_, hargs⟩
  exact
    { slot := fun i => by
        show RA w0.B (GhM G β ρ tp) w (lk (ovOf 1000 args) i) _
        rcases ov_cases (i := i) (args := args) (k := 1000) with h | ⟨t, e, z, es, h⟩
        · rw [h]; trivial
        · obtain ⟨h1, h2⟩ := ov_at h
          obtain ⟨u, h3, h4⟩ := hargs.get h2
          rw [at_ge (by omega), h]
          show RA _ _ _ _ (us.getD (i - 1000) undef)
          rw [List.getD_eq_getElem?_getD, h3]
          exact h4
      box := fun t cs h => by
        obtain ⟨t1, h1, h2, h3⟩ := boxesM_at (bx := bx) hbx h
        obtain ⟨b, e, us', k1, k2, k3⟩ := S.box t1 _ h2
        exact ⟨b, e, us', by simp [GhM, h1, k1], k2, cs_m htp h3 k3⟩
      defers := rfl
      chg := Chg.refl _ _
      boxLt := fun t b h => by
        obtain ⟨t1, h1, h2⟩ := Option.bind_eq_some_iff.1 h
        exact ⟨.inr (.inl ⟨t, t1, h1, h2⟩), (S.boxLt t1 b h2).2⟩
      ownLt := fun t v b h hb => by
        obtain ⟨t1, h1, h2⟩ := Option.bind_eq_some_iff.1 h
        exact ⟨.inr (.inr ⟨t, t1, v, h1, h2, hb⟩), (S.ownLt t1 v b h2 hb).2⟩
      boxInj := fun t t' b h h' => by
        obtain ⟨t1, h1, h2⟩ := Option.bind_eq_some_iff.1 h
        obtain ⟨t2, h3, h4⟩ := Option.bind_eq_some_iff.1 h'
        have := S.boxInj t1 t2 b h2 h4
        subst this
        exact look_inj b1 b2 h1 h3
      ownInj := fun t t' v v' b h h' hb hb' => by
        obtain ⟨t1, h1, h2⟩ := Option.bind_eq_some_iff.1 h
        obtain ⟨t2, h3, h4⟩ := Option.bind_eq_some_iff.1 h'
        have := S.ownInj t1 t2 v v' b h2 h4 hb hb'
        subst this
        exact lookT_inj r1 r2 h1 h3
      boxOwn := fun t t' v b h h' hb => by
        obtain ⟨t1, h1, h2⟩ := Option.bind_eq_some_iff.1 h
        obtain ⟨t2, h3, h4⟩ := Option.bind_eq_some_iff.1 h'
        exact S.boxOwn t1 t2 v b h2 h4 hb
      tapeBox := fun t b h h' => by
        obtain ⟨t1, h1, h2⟩ := Option.bind_eq_some_iff.1 h'
        rcases htp with e | e
        · exact S.tapeBox t1 b (e ▸ h) h2
        · rw [show (GhM G β ρ tp).tape = tp from rfl, e] at h; cases h
      tapeOwn := fun t v b h h' hb => by
        obtain ⟨t1, h1, h2⟩ := Option.bind_eq_some_iff.1 h'
        rcases htp with e | e
        · exact S.tapeOwn t1 v b (e ▸ h) h2 hb
        · rw [show (GhM G β ρ tp).tape = tp from rfl, e] at h; cases h
      tape := fun h => by
        obtain ⟨h1, h2⟩ := ht1 h
        obtain ⟨p, k1, k2⟩ := S.tape h2
        exact ⟨p, h1.trans k1, k2.move rfl (fun _ _ _ => rfl) fun b _ hb => gm_m htp hb⟩
      noTape := fun h => ht2 h
      ext := fun b h => S.gxLt h.1
      fz1 := fun b h => h.elim
      fz2 := fun t v b _ _ h => h.elim
      fz3 := fun b _ h => h.elim
      ext0 := rfl
      tape0 := fun p h => ⟨h, rfl⟩
      tapeNew := fun b h _ => h
      hB := Nat.le_trans S.hB S.chg.size
      hM := fun b h hx => hx.2 h
      size := by simp [a0]
      box0 := fun t b h => by
        refine ⟨?_, h⟩
        obtain ⟨t1, h1, h2⟩ := Option.bind_eq_some_iff.1 h
        exact allGe_at bg (look_fst h1).1 }
theorem okN_parts {ν σ : List (Nat × Nat)} (h : okN β ρ ν σ = true) : ndp (fsts (β ++ ν)) = true ∧ ndp (fsts (swp (β ++ ν))) = true ∧ ndp (fsts (ρ ++ σ)) = true ∧ ndp (fsts (swp (ρ ++ σ))) = true ∧ allLt (fsts (swp ν)) = true := by
  simp only [okN, Bool.and_eq_true] at h
  exact ⟨h.1.1.1.1, h.1.1.1.2, h.1.1.2, h.1.2, h.2⟩
theorem notR {σ : List (Nat × Nat)} {t : Tg} (h : lookT (swp (ρ ++ σ)) t = none) : lookT (swp ρ) t = none := by
  rw [lookT_base] at h ⊢
  cases e : look (swp ρ) t.base with
  | none => rfl
  | some x => rw [swp_app, look_appL e] at h; cases h
section leave
variable {ν σ : List (Nat × Nat)} {ov : List (Nat × AV)} {bx bx' : List (Nat × List AV)} {fl : Bool} {s2 : St} {args : List AV} (S : Sim tt w0 G s a w) (S2 : Sim tt (EnM w0 G w β ρ tp us) G2 s2 a0 w') (hok : okM β ρ = true) (hnw : okN β ρ ν σ = true) (hkey : keysIn bx (fsts β) = true) (hbx : BoxesM s β ρ bx) (htp : tp = G.tape ∨ tp = none)
include S S2 hok hnw hkey hbx htp
theorem same_box {t t1 : Nat} (h : look β t = some t1) : ∃ b, G.box t1 = some b ∧ G2.box t = some b := by
  obtain ⟨cs, hcs⟩ := keysIn_at hkey (look_fst h).1
  obtain ⟨t2, h1, h2, h3⟩ := boxesM_at (bx := bx) hbx hcs
  rw [h] at h1
  injection h1 with h1
  subst h1
  obtain ⟨b, e, us', k1, k2, k3⟩ := S.box t1 _ h2
  exact ⟨b, k1, (S2.box0 t b (by simp [EnM, h, k1])).2⟩
theorem ext2 {b : Nat} (h : GX G b) (hn : ¬ MB β ρ G b) : GX G2 b := .inr (by rw [S2.ext0]; exact ⟨h, hn⟩)
theorem rr : ndp (fsts ρ) = true ∧ ndp (fsts (swp ρ)) = true := by
  simp only [okM, Bool.and_eq_true] at hok
  exact ⟨hok.1.1.2, hok.1.2⟩
/-- A variable that the call brings lies in no block that the caller keeps. -/
theorem new_box {t t1 t3 b : Nat} (h : look ν t = some t1) (h1 : G2.box t = some b) (h2 : G.box t3 = some b) : False := by
  obtain ⟨n1, n2, n3, n4, n5⟩ := okN_parts hnw
  rcases (S2.boxLt t b h1).1 with hlt | hm
  · exact absurd (S.boxLt t3 b h2).2 (Nat.not_lt.2 hlt)
  · rcases (show MB β ρ G b from hm) with ⟨t2, t4, g1, g2⟩ | ⟨t2, t4, v, g1, g2, g3⟩
    · obtain ⟨b', q1, q2⟩ := same_box S S2 hok hnw hkey hbx htp g1
      rw [g2] at q1
      injection q1 with q1
      subst q1
      have := S2.boxInj t t2 b h1 q2
      subst this
      rw [fsts_app] at n1
      exact ndp_not n1 (look_fst g1).1 (look_fst h).1
    · exact S.boxOwn t3 t4 v b h2 g2 g3
theorem new_own {t : Nat} {t4 : Tg} {v : Value} {b : Nat} (h1 : G2.box t = some b) (hn : lookT (swp ρ) t4 = none) (h2 : G.own t4 = some v) (h3 : v.ownBlock = some b) : False := by
  obtain ⟨r1, r2⟩ := rr S S2 hok hnw hkey hbx htp
  rcases (S2.boxLt t b h1).1 with hlt | hm
  · exact absurd (S.ownLt t4 v b h2 h3).2 (Nat.not_lt.2 hlt)
  · exact notMB_own S r1 r2 hn h2 h3 hm
theorem gx_b {b : Nat} (h : GX (GhB G G2 β ρ ν σ) b) : GX G2 b := by
  obtain ⟨r1, r2⟩ := rr S S2 hok hnw hkey hbx htp
  rcases h with (⟨t, ht⟩ | ⟨t, v, ht, hv⟩ | ht) | ht
  · simp only [GhB] at ht
    cases hl : look (swp ν) t with
    | some t' => rw [hl] at ht; exact .inl (.inl ⟨t', ht⟩)
    | none =>
      rw [hl] at ht
      replace ht : G.box t = some b := ht
      by_cases hex : ∃ t', look β t' = some t
      · obtain ⟨t', hl⟩ := hex
        obtain ⟨b', k1, k2⟩ := same_box S S2 hok hnw hkey hbx htp hl
        rw [ht] at k1
        injection k1 with k1
        subst k1
        exact .inl (.inl ⟨t', k2⟩)
      · exact ext2 S S2 hok hnw hkey hbx htp (.inl (.inl ⟨t, ht⟩)) (notMB_box S (fun t' h => hex ⟨t', h⟩) ht)
  · simp only [GhB] at ht
    cases hl : lookT (swp (ρ ++ σ)) t with
    | some t' => rw [hl] at ht; exact .inl (.inr (.inl ⟨t', v, ht, hv⟩))
    | none => rw [hl] at ht; exact ext2 S S2 hok hnw hkey hbx htp (.inl (.inr (.inl ⟨t, v, ht, hv⟩))) (notMB_own S r1 r2 (notR hl) ht hv)
  · have ht' : G.tape = some b := ht
    exact ext2 S S2 hok hnw hkey hbx htp (.inl (.inr (.inr ht'))) (notMB_tape S ht')
  · have ht' : G.ext b := ht
    exact ext2 S S2 hok hnw hkey hbx htp (.inr ht') fun h => S.newX (mb_nw S h).1 ht'
theorem gm_b {b : Nat} (hb : b < w.heap.size) (h : GM (GhB G G2 β ρ ν σ) b) : GM G b := by
  have old : Nw (EnM w0 G w β ρ tp us) b → GM G b := fun h => h.elim (fun h => absurd hb (Nat.not_lt.2 h)) fun h => mb_gm (show MB β ρ G b from h)
  rcases h with ⟨t, ht⟩ | ⟨t, v, ht, hv⟩ | ht
  · simp only [GhB] at ht
    cases hl : look (swp ν) t with
    | some t' => rw [hl] at ht; exact old (S2.boxLt t' b ht).1
    | none => rw [hl] at ht; exact .inl ⟨t, ht⟩
  · simp only [GhB] at ht
    cases hl : lookT (swp (ρ ++ σ)) t with
    | some t' => rw [hl] at ht; exact old (S2.ownLt t' v b ht hv).1
    | none => rw [hl] at ht; exact .inr (.inl ⟨t, v, ht, hv⟩)
  · exact .inr (.inr ht)
theorem same_blk {b : Nat} (hb : b < w.heap.size) (hn : ¬ MB β ρ G b) (ht : G.tape ≠ some b) : w'.heap[b]? = w.heap[b]? := by
  refine S2.chg.block b hb fun h => ?_
  rcases h with h | h
  · have := S2.tapeNew b h hb
    rcases htp with e | e
    · exact ht (e ▸ this)
    · rw [show (EnM w0 G w β ρ tp us).tp = tp from rfl, e] at this; cases this
  · exact hn h
theorem rep_b {v : AV} {u : Value} (h : RepV w' (GX G2) v u) : RepV w' (GX (GhB G G2 β ρ ν σ)) v u := h.move (fun _ _ _ => rfl) fun b _ hb => gx_b S S2 hok hnw hkey hbx htp hb
theorem box_b {t t1 b : Nat} (hl : look (β ++ ν) t = some t1) (h : G2.box t = some b) : (GhB G G2 β ρ ν σ).box t1 = some b := by
  obtain ⟨n1, n2, n3, n4, n5⟩ := okN_parts hnw
  rcases look_appR hl with hl | ⟨-, hl⟩
  · obtain ⟨b', k1, k2⟩ := same_box S S2 hok hnw hkey hbx htp hl
    rw [h] at k2
    injection k2 with k2
    subst k2
    have : look (swp ν) t1 = none := by
      rw [look_none]
      cases e : inL t1 (fsts (swp ν)) with
      | false => rfl
      | true => rw [swp_app, fsts_app] at n2; exact (ndp_not n2 (look_fst hl).2 (inL_iff.1 e)).elim
    simp only [GhB, this]
    exact k1
  · have n1' : ndp (fsts ν) = true := by
      rw [fsts_app] at n1
      clear n2 n3 n4 n5 hl h
      generalize fsts β = l at n1
      induction l with
      | nil => exact n1
      | cons a l ih => simp only [List.cons_append, ndp, Bool.and_eq_true] at n1; exact ih n1.2
    have n2' : ndp (fsts (swp ν)) = true := by
      rw [swp_app, fsts_app] at n2
      clear n1 n3 n4 n5 hl h
      generalize fsts (swp β) = l at n2
      induction l with
      | nil => exact n2
      | cons a l ih => simp only [List.cons_append, ndp, Bool.and_eq_true] at n2; exact ih n2.2
    simp only [GhB, (look_swp n1' n2').1 hl]
    exact h
theorem own_at {t t1 : Tg} (hl : lookT (ρ ++ σ) t = some t1) : (GhB G G2 β ρ ν σ).own t1 = G2.own t := by
  obtain ⟨n1, n2, n3, n4, n5⟩ := okN_parts hnw
  simp only [GhB, (lookT_swp n3 n4).1 hl]
theorem ownRep_b {e z : Nat} {es : List (List AV)} {u : Value} {B : Nat} (h : OwnRep B (GX G2) w' e z es u) : OwnRep B (GX (GhB G G2 β ρ ν σ)) w' e z es u := by
  obtain ⟨css, h3, h4⟩ := h
  exact ⟨css, h3, h4.mono fun _ _ h => ⟨h.1, h.2.mono fun _ _ h => rep_b S S2 hok hnw hkey hbx htp h⟩⟩
theorem own_b {t t1 : Tg} {e z : Nat} {es : List (List AV)} {u : Value} (hl : lookT (ρ ++ σ) t = some t1) (h : RC w0.B G2 w' (.own t e z es) u) : RC w0.B (GhB G G2 β ρ ν σ) w' (.own t1 e z es) u :=
  ⟨(own_at S S2 hok hnw hkey hbx htp hl).trans h.1, ownRep_b S S2 hok hnw hkey hbx htp h.2⟩
theorem mat_b {t t1 e e2 z2 : Nat} {rows : List (Option (List (List AV)))} {u : Value} (hl : look (ρ ++ σ) t = some t1) (h : RC w0.B G2 w' (.mat t e e2 z2 rows) u) : RC w0.B (GhB G G2 β ρ ν σ) w' (.mat t1 e e2 z2 rows) u := by
  obtain ⟨h1, hs, h2, h3⟩ := h
  refine ⟨(own_at S S2 hok hnw hkey hbx htp (lookT_sI hl)).trans h1, hs, h2, fun i es hi => ?_⟩
  obtain ⟨x, k1, k2, k3⟩ := h3 i es hi
  exact ⟨x, k1, (own_at S S2 hok hnw hkey hbx htp (lookT_rI hl)).trans k2, ownRep_b S S2 hok hnw hkey hbx htp k3⟩
theorem ptr_b {t off : Nat} {u : Value} {g : AV → AV} (hg : g (.ptr t off) = match look (β ++ ν) t with | some t1 => .ptr t1 off | none => .undef) (h : PtrRep G2 (.ptr t off) u) : PtrRep (GhB G G2 β ρ ν σ) (g (.ptr t off)) u := by
  rw [hg]
  obtain ⟨b, hb, rfl⟩ := h
  cases hl : look (β ++ ν) t with
  | none => trivial
  | some t1 => exact ⟨b, box_b S S2 hok hnw hkey hbx htp hl hb, rfl⟩
theorem ptrs_b {g : AV → AV} (hg : ∀ t off, g (.ptr t off) = match look (β ++ ν) t with | some t1 => .ptr t1 off | none => .undef) (hu : g .undef = .undef) : ∀ {cap : List AV} {us : List Value}, All2 (PtrRep G2) cap us → All2 (PtrRep (GhB G G2 β ρ ν σ)) (cap.map g) us
  | [], [], _ => trivial
  | c :: cap, u :: us, h => by
    refine ⟨?_, ptrs_b hg hu h.2⟩
    have h1 := h.1
    cases c
    case undef => rw [hu]; trivial
    case ptr t off => exact ptr_b S S2 hok hnw hkey hbx htp (hg t off) h1
    all_goals exact h1.elim
  | [], _ :: _, h => h.elim
  | _ :: _, [], h => h.elim
theorem c_b {v : AV} {u : Value} (h : RC w0.B G2 w' v u) : RC w0.B (GhB G G2 β ρ ν σ) w' (ren (β ++ ν) (ρ ++ σ) v) u := by
  cases v
  case undef => trivial
  case nil => exact h
  case nilp => exact h
  case own t e z es =>
    simp only [ren]
    cases hl : lookT (ρ ++ σ) t with
    | none => trivial
    | some t1 => exact own_b S S2 hok hnw hkey hbx htp hl h
  case mat t e e2 z2 rows =>
    simp only [ren]
    cases hl : look (ρ ++ σ) t with
    | none => trivial
    | some t1 => exact mat_b S S2 hok hnw hkey hbx htp hl h
  case fn f cap =>
    obtain ⟨us, rfl, hA⟩ := h
    exact ⟨us, rfl, ptrs_b S S2 hok hnw hkey hbx htp (fun _ _ => rfl) rfl hA⟩
  case ptr t off =>
    obtain ⟨b, hb, rfl⟩ := h
    simp only [ren]
    cases hl : look (β ++ ν) t with
    | none => trivial
    | some t1 => exact ⟨b, box_b S S2 hok hnw hkey hbx htp hl hb, rfl⟩
  all_goals exact rep_b S S2 hok hnw hkey hbx htp h
theorem cL_b {v : AV} {u : Value} (h : RC w0.B G2 w' v u) : RC w0.B (GhB G G2 β ρ ν σ) w' (renL (β ++ ν) (ρ ++ σ) v) u := by
  cases v
  case undef => trivial
  case nil => exact h
  case nilp => exact h
  case own t e z es => exact c_b S S2 hok hnw hkey hbx htp h
  case mat t e e2 z2 rows => exact c_b S S2 hok hnw hkey hbx htp h
  case fn f cap =>
    obtain ⟨us, rfl, hA⟩ := h
    exact ⟨us, rfl, ptrs_b S S2 hok hnw hkey hbx htp (fun _ _ => rfl) rfl hA⟩
  case ptr t off =>
    obtain ⟨b, hb, rfl⟩ := h
    simp only [renL]
    cases hl : look (β ++ ν) t with
    | none => trivial
    | some t1 => exact ⟨b, box_b S S2 hok hnw hkey hbx htp hl hb, rfl⟩
  case int => exact rep_b S S2 hok hnw hkey hbx htp h
  case bool => exact rep_b S S2 hok hnw hkey hbx htp h
  case str => exact rep_b S S2 hok hnw hkey hbx htp h
  case lst => exact rep_b S S2 hok hnw hkey hbx htp h
  all_goals trivial
theorem pL_b {v : AV} {u : Value} (h : RP w0.B G2 w' v u) : RP w0.B (GhB G G2 β ρ ν σ) w' (renL (β ++ ν) (ρ ++ σ) v) u := by
  cases v
  case ptr t off =>
    obtain ⟨b, hb, rfl⟩ := h
    simp only [renL]
    cases hl : look (β ++ ν) t with
    | none => trivial
    | some t1 => exact ⟨b, box_b S S2 hok hnw hkey hbx htp hl hb, rfl⟩
  case ept => trivial
  case mpt => trivial
  case ref => trivial
  case tape => trivial
  case mp => trivial
  case win => trivial
  all_goals
    refine RC.rp (cL_b S S2 hok hnw hkey hbx htp ?_)
    exact h
theorem res_b {v : AV} {u : Value} (h : RA w0.B G2 w' v u) : RA w0.B (GhB G G2 β ρ ν σ) w' (v.mapT (renL (β ++ ν) (ρ ++ σ))) u :=
  RA.mapT (fun _ _ h => pL_b S S2 hok hnw hkey hbx htp h) (fun _ _ h => cL_b S S2 hok hnw hkey hbx htp h) h
end leave
theorem okAs_at {t : Tg} {e z : Nat} {es : List (List AV)} : ∀ {args : List AV} {j : Nat}, okAs β ρ args = true → args[j]? = some (.own t e z es) → (lookT ρ t).isSome = true
  | [], j, _, h => by simp at h
  | v :: args, 0, hk, h => by
    simp only [List.getElem?_cons_zero, Option.some.injEq] at h
    subst h
    simp only [okAs, Bool.and_eq_true] at hk
    exact hk.1
  | v :: args, j + 1, hk, h => by
    simp only [okAs, Bool.and_eq_true] at hk
    exact okAs_at hk.2 (by simpa using h)
theorem Sim.boxes (S : Sim tt w0 G s a w) {s2 : St} (hs : s2.slot = s.slot) (ht : s2.tp = s.tp) (hb : ∀ t cs, s2.box t = some cs → ∃ b e us, G.box t = some b ∧ Blk w b e (List.toArray us) ∧ All2 (RC w0.B G w) cs us) : Sim tt w0 G s2 a w :=
  { S with
    slot := fun i => by rw [hs]; exact S.slot i
    box := hb
    tape := fun h => S.tape (ht ▸ h)
    noTape := fun h => S.noTape (ht ▸ h) }
theorem back_ind {bx' : List (Nat × List AV)} {OK : Nat → List AV → Prop} {K : St → Prop} : ∀ (l : List (Nat × Nat)) (s : St), (∀ t cs, s.box t = some cs → inL t (fsts (swp l)) = false → OK t cs) → (∀ t t1, (t, t1) ∈ l → ∀ cs, lkB bx' t = some cs → OK t1 (cs.map (ren β ρ))) → backK β ρ bx' l K s →
    ∃ s2, K s2 ∧ s2.slot = s.slot ∧ s2.tp = s.tp ∧ ∀ t cs, s2.box t = some cs → OK t cs
  | [], s, h1, _, h => ⟨s, h, rfl, rfl, fun t cs hc => h1 t cs hc rfl⟩
  | (t, t1) :: l, s, h1, h2, h => by
    simp only [backK] at h
    split at h
    · next cs hcs =>
      rw [forceM_eq] at h
      refine back_ind l (s.setBox t1 (cs.map (ren β ρ))) (fun i c hc hi => ?_) (fun a b hm => h2 a b (by simp [hm])) h
      · by_cases e : i = t1
        · subst e
          simp only [St.setBox, beq_self, cond_true, Option.some.injEq] at hc
          subst hc
          exact h2 t i (by simp) cs hcs
        · simp only [St.setBox, beq_ne e, cond_false] at hc
          exact h1 i c hc (by simp only [swp, fsts, inL, beq_ne (Ne.symm e), hi, Bool.or_self])
    · refine back_ind l (s.dropBox t1) (fun i c hc hi => ?_) (fun a b hm => h2 a b (by simp [hm])) h
      · by_cases e : i = t1
        · subst e
          simp only [St.dropBox, beq_self, cond_true] at hc
          cases hc
        · simp only [St.dropBox, beq_ne e, cond_false] at hc
          exact h1 i c hc (by simp only [swp, fsts, inL, beq_ne (Ne.symm e), hi, Bool.or_self])
theorem mem_look {t t1 : Nat} : ∀ {l : List (Nat × Nat)}, ndp (fsts l) = true → (t, t1) ∈ l → look l t = some t1
  | [], _, h => by simp at h
  | (x, y) :: l, hn, h => by
    simp only [fsts, ndp, Bool.and_eq_true, Bool.not_eq_true'] at hn
    rcases List.mem_cons.1 h with e | e
    · injection e with e1 e2
      subst e1 e2
      simp [look]
    · have ih := mem_look hn.2 e
      have hne : x ≠ t := fun hx => by
        have := inL_iff.2 (look_fst ih).1
        rw [← hx, hn.1] at this
        cases this
      simp only [look, beq_ne hne, cond_false]
      exact ih
set_option maxHeartbeats 2000000 in
/-- Behind the call. -/
theorem leaveM {ν σ : List (Nat × Nat)} {ov : List (Nat × AV)} {bx bx' : List (Nat × List AV)} {fl : Bool} {args : List AV} (S : Sim tt w0 G s a w) (S2 : Sim tt (EnM w0 G w β ρ tp us) G2 (mkSt ov bx' fl) a0 w') (hok : okM β ρ = true) (hnw : okN β ρ ν σ = true) (hka : okAs β ρ args = true) (hkey : keysIn bx (fsts β) = true) (hbx : BoxesM s β ρ bx) (htp : tp = G.tape ∨ tp = none)
    (hA : All2 (RA w0.B G w) (args.map (ren β ρ)) us) {K : St → Prop} (h : backK (β ++ ν) (ρ ++ σ) bx' (β ++ ν) K (s.map (afterF ν (ρ ++ σ) (ovOf 1000 args) ov))) : ∃ s3, K s3 ∧ Sim tt w0 (GhB G G2 β ρ ν σ) s3 a w' := by
  obtain ⟨r1, r2⟩ := rr S S2 hok hnw hkey hbx htp
  obtain ⟨n1, n2, n3, n4, n5⟩ := okN_parts hnw
  have hsz : w.heap.size ≤ w'.heap.size := S2.chg.size
  have hs0 := S.chg.size
  have nwM : ∀ b, b < w.heap.size → Nw (EnM w0 G w β ρ tp us) b → MB β ρ G b := fun b h3 h => h.elim (fun h => absurd h3 (Nat.not_lt.2 h)) id
  have inM : ∀ t' v b, G2.own t' = some v → v.ownBlock = some b → b < w.heap.size → MB β ρ G b := fun t' v b h1 h2 h3 => nwM b h3 (S2.ownLt t' v b h1 h2).1
  have toNw : ∀ b, Nw (EnM w0 G w β ρ tp us) b → Nw w0 b := fun b h => h.elim (fun h => .inl (Nat.le_trans hs0 h)) fun h => (mb_nw S (show MB β ρ G b from h)).1
  have same : ∀ b, b < w.heap.size → ¬ MB β ρ G b → G.tape ≠ some b → w'.heap[b]? = w.heap[b]? := fun b h1 h2 h3 => same_blk S S2 hok hnw hkey hbx htp h1 h2 h3
  have S1 := S.unfz (fun b => ¬ MB β ρ G b)
  have SD : Sim tt w0 { G with fz := fun b => G.fz b ∧ ¬ MB β ρ G b } { s with box := fun t => bif inL t (fsts (swp (β ++ ν))) then none else s.box t } a w := S1.boxes rfl rfl fun t cs hc => by
    cases hi : inL t (fsts (swp (β ++ ν))) with
    | true => simp [hi] at hc
    | false => simp only [hi, cond_false] at hc; exact S1.box t cs hc
  have H : Shift (fun t => lookT (swp (ρ ++ σ)) t = none) (fun t => look (swp ν) t = none) { G with fz := fun b => G.fz b ∧ ¬ MB β ρ G b } (GhB G G2 β ρ ν σ) w w' :=
    ⟨fun b hb hn => same b hb (fun hm => hn (mb_gm hm)) (fun e => hn (.inr (.inr e))), fun b hb hx => gm_b S S2 hok hnw hkey hbx htp hb hx, fun b h => h,
     fun t v h hk => ⟨by simp only [GhB, hk]; exact h, fun b hv => same b (S.ownLt t v b h hv).2 (notMB_own S r1 r2 (notR hk) h hv) fun e => S.tapeOwn t v b e h hv⟩, fun t b h hk => by simp only [GhB, hk]; exact h, fun p h => h,
     fun b h => same b (S.fz1 b h.1).1 h.2 fun e => S.fz3 b e h.1, fun b h => h, rfl, fun _ _ => rfl, rfl⟩
  have ownC : ∀ t e z es u, RC w0.B { G with fz := fun b => G.fz b ∧ ¬ MB β ρ G b } w (.own t e z es) u → RC w0.B (GhB G G2 β ρ ν σ) w' (afterF ν (ρ ++ σ) (ovOf 1000 args) ov (.own t e z es)) u := fun t e z es u h => by
    simp only [afterF]
    cases hl : lookT (swp (ρ ++ σ)) t with
    | none => exact H.rc (v := .own t e z es) hl h
    | some t' =>
      simp only
      have hl' := (lookT_swp n3 n4).2 hl
      rcases ovFind_spec (t := t') (ov0 := ovOf 1000 args) (ov := ov) (l := ovOf 1000 args) with e1 | ⟨i, e0, z0, es0, e1, z1, es1, h1, h2, h3⟩
      · rw [e1]; trivial
      · rw [h3]
        obtain ⟨g1, g2⟩ := ov_at h1
        obtain ⟨t2, ht2⟩ := Option.isSome_iff_exists.1 (okAs_at hka g2)
        have e2 : t2 = t := by
          have : lookT (ρ ++ σ) t' = some t2 := by
            cases t' with
            | s x => obtain ⟨y, q, rfl⟩ := lookT_s ht2; exact lookT_sI (look_appL q)
            | r x i => obtain ⟨y, q, rfl⟩ := lookT_r ht2; exact lookT_rI (look_appL q)
          rw [hl'] at this
          injection this with this
          exact this.symm
        subst e2
        obtain ⟨uj, g3, g4⟩ := hA.get (show (args.map (ren β ρ))[i - 1000]? = some (.own t2 e0 z0 es0) by rw [List.getElem?_map, g2]; simp only [Option.map_some, ren, ht2])
        have g5 : G.own t2 = some uj := (show RC w0.B G w (.own t2 e0 z0 es0) uj from g4).1
        have g6 : G.own t2 = some u := h.1
        rw [g5] at g6
        injection g6 with g6
        subst g6
        have g7 := S2.slot i
        rw [show (mkSt ov bx' fl).slot i = lk ov i from rfl, h2, at_ge (by omega), show (EnM w0 G w β ρ tp us).outs i = us.getD (i - 1000) undef from rfl, List.getD_eq_getElem?_getD, g3] at g7
        exact own_b S S2 hok hnw hkey hbx htp hl' (show RC w0.B G2 w' (.own t' e1 z1 es1) uj from g7)
  have fnC : ∀ f cap u, RC w0.B { G with fz := fun b => G.fz b ∧ ¬ MB β ρ G b } w (.fn f cap) u → RC w0.B (GhB G G2 β ρ ν σ) w' (afterF ν (ρ ++ σ) (ovOf 1000 args) ov (.fn f cap)) u := fun f cap u hq => by
    simp only [afterF]
    split
    · next => exact H.rc (v := .fn f cap) (fun v _ => by cases v <;> first | trivial | rfl) hq
    · next p ν =>
      obtain ⟨us, rfl, hA⟩ := hq
      refine ⟨us, rfl, All2.map_left.2 (hA.mono fun v u h => ?_)⟩
      cases v
      case undef => trivial
      case ptr t off =>
        simp only [killLP]
        cases hi : inL t (fsts (swp (p :: ν))) with
        | true => trivial
        | false =>
          obtain ⟨b, hb, rfl⟩ := h
          exact ⟨b, H.box t b hb (look_none.2 hi), rfl⟩
      all_goals exact h.elim
  have hc : ∀ v u, RC w0.B { G with fz := fun b => G.fz b ∧ ¬ MB β ρ G b } w v u → RC w0.B (GhB G G2 β ρ ν σ) w' (afterF ν (ρ ++ σ) (ovOf 1000 args) ov v) u := fun v u h => by
    cases v
    case own t e z es => exact ownC t e z es u h
    case fn f cap => exact fnC f cap u h
    case mat t e e2 z2 rows =>
      simp only [afterF]
      cases hl : look (swp (ρ ++ σ)) t with
      | none => exact H.rc (v := .mat t e e2 z2 rows) (lookT_none hl) h
      | some t' => trivial
    case ept => simp only [RC] at h; cases h
    case mpt => simp only [RC] at h; cases h
    case mp => simp only [RC] at h; cases h
    case win => simp only [RC] at h; cases h
    case ptr t off =>
      simp only [afterF]
      cases hi : inL t (fsts (swp ν)) with
      | true => trivial
      | false => exact H.rc (v := .ptr t off) (look_none.2 hi) h
    all_goals exact H.rc (by trivial) h
  have hp : ∀ v u, RP w0.B { G with fz := fun b => G.fz b ∧ ¬ MB β ρ G b } w v u → RP w0.B (GhB G G2 β ρ ν σ) w' (afterF ν (ρ ++ σ) (ovOf 1000 args) ov v) u := fun v u h => by
    cases v
    case own t e z es => exact (ownC t e z es u h).rp
    case fn f cap => exact (fnC f cap u h).rp
    case mat t e e2 z2 rows => exact (hc (.mat t e e2 z2 rows) u h).rp
    case ept t i off cs =>
      simp only [afterF]
      cases hl : look (swp (ρ ++ σ)) t.base with
      | none => exact H.rp (v := .ept t i off cs) (lookT_base.2 hl) h
      | some t' => trivial
    case mpt t i e2 z2 o =>
      simp only [afterF]
      cases hl : look (swp (ρ ++ σ)) t with
      | none => exact H.rp (v := .mpt t i e2 z2 o) ⟨(lookT_none hl).1, (lookT_none hl).2 i⟩ h
      | some t' => trivial
    case mp t kvs =>
      simp only [afterF]
      cases hl : look (swp (ρ ++ σ)) t with
      | none => exact H.rp (v := .mp t kvs) (lookT_none hl).1 h
      | some t' => trivial
    case win t lo z es =>
      simp only [afterF]
      cases hl : look (swp (ρ ++ σ)) t.base with
      | none => exact H.rp (v := .win t lo z es) (lookT_base.2 hl) h
      | some t' => trivial
    case ptr t off =>
      simp only [afterF]
      cases hi : inL t (fsts (swp ν)) with
      | true => trivial
      | false => exact H.rp (v := .ptr t off) (look_none.2 hi) h
    all_goals exact H.rp (by trivial) h
  have νs : ∀ {t t' : Nat}, look (swp ν) t = some t' → look ν t' = some t := fun {t t'} hl => by
    have hl2 : look (swp (β ++ ν)) t = some t' := by
      rw [swp_app, look_app]
      cases e : look (swp β) t with
      | none => exact hl
      | some x => rw [swp_app, fsts_app] at n2; exact (ndp_not n2 (look_fst e).1 (look_fst hl).1).elim
    have := (look_swp n1 n2).2 hl2
    rcases look_appR this with q | ⟨-, q⟩
    · have := (look_fst q).2
      rw [swp_app, fsts_app] at n2
      exact (ndp_not n2 this (look_fst hl).1).elim
    · exact q
  have S3 := SD.shift (f := afterF ν (ρ ++ σ) (ovOf 1000 args) ov) H hp hc ?hbox ?chg hsz ?boxLt ?ownLt ?boxInj ?ownInj ?boxOwn ?tapeBox ?tapeOwn ?htp S.noTape ?ownFz (fun b h hz => S.fz3 b h hz.1) S.tapeNew ?hb0
  case hbox =>
    intro t b ht hne
    have hi : inL t (fsts (swp (β ++ ν))) = false := by
      cases e : inL t (fsts (swp (β ++ ν))) with
      | false => rfl
      | true => simp [e] at hne
    have hi1 : inL t (fsts (swp ν)) = false := by
      cases e : inL t (fsts (swp ν)) with
      | false => rfl
      | true => rw [swp_app, fsts_app] at hi; have := inL_iff.2 (List.mem_append_right (fsts (swp β)) (inL_iff.1 e)); rw [hi] at this; cases this
    refine ⟨b, by simp only [GhB, look_none.2 hi1]; exact ht, rfl, ?_⟩
    refine same b (S.boxLt t b ht).2 (notMB_box S (fun t' hl => ?_) ht) fun e => S.tapeBox t b e ht
    rw [swp_app, fsts_app] at hi
    have := inL_iff.2 (List.mem_append_left (fsts (swp ν)) (look_fst hl).2)
    rw [hi] at this
    cases this
  case hb0 =>
    intro t b ht hge
    have hi : inL t (fsts (swp ν)) = false := by
      cases e : inL t (fsts (swp ν)) with
      | false => rfl
      | true => have := allLt_at n5 (inL_iff.1 e); omega
    simp only [GhB, look_none.2 hi]; exact ht
  case chg =>
    refine S.chg.andThen S2.chg fun b hb hx => ?_
    rcases hx with hx | hx
    · have := S2.tapeNew b hx (Nat.lt_of_lt_of_le hb hs0)
      rcases htp with e | e
      · exact .inl (e ▸ this)
      · rw [show (EnM w0 G w β ρ tp us).tp = tp from rfl, e] at this; cases this
    · rcases (mb_nw S hx).1 with h | h
      · omega
      · exact .inr h
  case boxLt =>
    intro t b h
    simp only [GhB] at h
    cases hl : look (swp ν) t with
    | some t' => rw [hl] at h; exact ⟨toNw b (S2.boxLt t' b h).1, (S2.boxLt t' b h).2⟩
    | none => rw [hl] at h; exact ⟨(S.boxLt t b h).1, Nat.lt_of_lt_of_le (S.boxLt t b h).2 hsz⟩
  case ownLt =>
    intro t v b ho hv
    simp only [GhB] at ho
    cases hl : lookT (swp (ρ ++ σ)) t with
    | some t' => rw [hl] at ho; exact ⟨toNw b (S2.ownLt t' v b ho hv).1, (S2.ownLt t' v b ho hv).2⟩
    | none => rw [hl] at ho; exact ⟨(S.ownLt t v b ho hv).1, Nat.lt_of_lt_of_le (S.ownLt t v b ho hv).2 hsz⟩
  case boxInj =>
    intro t t' b h1 h2
    simp only [GhB] at h1 h2
    cases hl : look (swp ν) t with
    | some a1 =>
      rw [hl] at h1
      cases hl' : look (swp ν) t' with
      | some a2 =>
        rw [hl'] at h2
        have := S2.boxInj a1 a2 b h1 h2
        subst this
        have e1 := νs hl
        rw [νs hl'] at e1
        injection e1 with e1
        exact e1.symm
      | none => rw [hl'] at h2; exact (new_box S S2 hok hnw hkey hbx htp (νs hl) h1 h2).elim
    | none =>
      rw [hl] at h1
      cases hl' : look (swp ν) t' with
      | some a2 => rw [hl'] at h2; exact (new_box S S2 hok hnw hkey hbx htp (νs hl') h2 h1).elim
      | none => rw [hl'] at h2; exact S.boxInj t t' b h1 h2
  case ownInj =>
    intro t t' v v' b h1 h2 k1 k2
    simp only [GhB] at h1 h2
    cases hl : lookT (swp (ρ ++ σ)) t with
    | some a1 =>
      rw [hl] at h1
      cases hl' : lookT (swp (ρ ++ σ)) t' with
      | some a2 =>
        rw [hl'] at h2
        have := S2.ownInj a1 a2 v v' b h1 h2 k1 k2
        subst this
        have e1 := (lookT_swp n3 n4).2 hl
        have e2 := (lookT_swp n3 n4).2 hl'
        rw [e1] at e2
        injection e2
      | none =>
        rw [hl'] at h2
        exact absurd (inM a1 v b h1 k1 (S.ownLt t' v' b h2 k2).2) (notMB_own S r1 r2 (notR hl') h2 k2)
    | none =>
      rw [hl] at h1
      cases hl' : lookT (swp (ρ ++ σ)) t' with
      | some a2 =>
        rw [hl'] at h2
        exact absurd (inM a2 v' b h2 k2 (S.ownLt t v b h1 k1).2) (notMB_own S r1 r2 (notR hl) h1 k1)
      | none =>
        rw [hl'] at h2
        exact S.ownInj t t' v v' b h1 h2 k1 k2
  case boxOwn =>
    intro t t' v b h1 h2 k
    simp only [GhB] at h1 h2
    cases hb : look (swp ν) t with
    | some a0 =>
      rw [hb] at h1
      cases hl : lookT (swp (ρ ++ σ)) t' with
      | some a1 => rw [hl] at h2; exact S2.boxOwn a0 a1 v b h1 h2 k
      | none => rw [hl] at h2; exact new_own S S2 hok hnw hkey hbx htp h1 (notR hl) h2 k
    | none =>
      rw [hb] at h1
      cases hl : lookT (swp (ρ ++ σ)) t' with
      | some a1 =>
        rw [hl] at h2
        rcases inM a1 v b h2 k (S.boxLt t b h1).2 with ⟨t2, t3, g1, g2⟩ | ⟨t2, t3, v', g1, g2, g3⟩
        · obtain ⟨b', q1, q2⟩ := same_box S S2 hok hnw hkey hbx htp g1
          rw [g2] at q1
          injection q1 with q1
          subst q1
          exact S2.boxOwn t2 a1 v b q2 h2 k
        · exact S.boxOwn t t3 v' b h1 g2 g3
      | none => rw [hl] at h2; exact S.boxOwn t t' v b h1 h2 k
  case tapeBox =>
    intro t b h1 h2
    simp only [GhB] at h2
    cases hl : look (swp ν) t with
    | some t' => rw [hl] at h2; exact notMB_tape S h1 (nwM b (S.tapeLt h1) (S2.boxLt t' b h2).1)
    | none => rw [hl] at h2; exact S.tapeBox t b h1 h2
  case tapeOwn =>
    intro t v b h1 h2 k
    simp only [GhB] at h2
    cases hl : lookT (swp (ρ ++ σ)) t with
    | some a1 => rw [hl] at h2; exact notMB_tape S h1 (inM a1 v b h2 k (S.tapeLt h1))
    | none => rw [hl] at h2; exact S.tapeOwn t v b h1 h2 k
  case ownFz =>
    intro t v b h1 k hz
    simp only [GhB] at h1
    cases hl : lookT (swp (ρ ++ σ)) t with
    | some a1 => rw [hl] at h1; exact hz.2 (inM a1 v b h1 k (S.fz1 b hz.1).1)
    | none => rw [hl] at h1; exact S.fz2 t v b h1 k hz.1
  case htp =>
    intro hst
    obtain ⟨p, h1, h2⟩ := S.tape hst
    refine ⟨p, h1, ?_⟩
    rcases htp with e | e
    · obtain ⟨g1, g2⟩ := S2.tape0 p (e.trans h1)
      have hfl : (mkSt ov bx' fl).tp = true := by
        cases hh : (mkSt ov bx' fl).tp with
        | true => rfl
        | false => rw [S2.noTape hh] at g1; cases g1
      obtain ⟨p', m1, m2⟩ := S2.tape hfl
      rw [g1] at m1
      injection m1 with m1
      subst m1
      rw [g2] at m2
      obtain ⟨xs, k, hB, hI, hk⟩ := m2
      obtain ⟨xs', k', hB', hI', hk'⟩ := h2
      exact ⟨xs', k, hB, hI'.move _ H.sh H.gm, hk⟩
    · refine h2.move (S2.chg.block p (S.tapeLt h1) fun hx => ?_) H.sh H.gm
      rcases hx with hx | hx
      · have := S2.tapeNew p hx (S.tapeLt h1)
        rw [show (EnM w0 G w β ρ tp us).tp = tp from rfl, e] at this; cases this
      · exact notMB_tape S h1 hx
  obtain ⟨s3, k1, k2, k3, k4⟩ := back_ind (OK := fun t cs => ∃ b e us, (GhB G G2 β ρ ν σ).box t = some b ∧ Blk w' b e (List.toArray us) ∧ All2 (RC w0.B (GhB G G2 β ρ ν σ) w') cs us) (β ++ ν) _ (fun t cs hc hi => by
      refine S3.box t cs ?_
      simp only [St.map, hi, cond_false]
      exact hc) (fun t t1 hm cs hcs => by
      have hl := mem_look n1 hm
      obtain ⟨b', e, us', q3, q4, q5⟩ := S2.box t cs hcs
      exact ⟨b', e, us', box_b S S2 hok hnw hkey hbx htp hl q3, q4, All2.map_left.2 (q5.mono fun v u h => c_b S S2 hok hnw hkey hbx htp h)⟩) h
  exact ⟨s3, k1, S3.boxes k2 k3 k4⟩
theorem sound_mcall (S0 : Sim tt w0 G s a w) (o : Oper) (hd : ∀ x, o.dst = some x → x < a.tmps.size) {K : St → Prop} {c : Call} {f : Operand} (ho : o.op = .call c) (hc : c.callee = .value f) (h : mcall P tt f c.args.toList o.dst K s) : o.wp P a w (Nxt tt w0 a.tmps.size none K) Q := by
  obtain ⟨s1, g, cap, β, ρ, ν, σ, args, bx, R, hle, hf, hargs, hk, hnw, hbx, ⟨hent, hgood⟩, hR⟩ := h.out
  obtain ⟨G1, S⟩ := hle w0 G a w S0
  simp only [Bool.and_eq_true] at hk
  obtain ⟨⟨hok, hka⟩, hkey⟩ := hk
  have hfr := S.eval f
  rw [hf] at hfr
  obtain ⟨ucap, hfu, hcap⟩ := hfr
  have hA : All2 (RA w0.B G1 w) (args.map (ren β ρ)) (c.args.toList.map a.eval ++ ucap) := by
    rw [← hargs]
    exact (S.evals c.args.toList).append (hcap.mono fun _ _ h => h.rg.ra)
  have tapeIn : ∀ {vs : List AV} {us : List Value}, hasTape vs = true → All2 (RA w0.B G1 w) (vs.map (ren β ρ)) us → ∃ p, G1.tape = some p := by
    intro vs
    induction vs with
    | nil => intro us h; simp [hasTape] at h
    | cons v vs ih =>
      intro us h hA
      obtain ⟨u, us', rfl, h1, h2⟩ := hA.cons_inv
      cases v
      case tape => obtain ⟨p, hp, _⟩ := h1; exact ⟨p, hp⟩
      all_goals exact ih h h2
  obtain ⟨tp, htp, ht1, ht2⟩ : ∃ tp, (tp = G1.tape ∨ tp = none) ∧ (hasTape args = true → tp = G1.tape ∧ s1.tp = true) ∧ (hasTape args = false → tp = none) := by
    cases hh : hasTape args with
    | true =>
      obtain ⟨p, hp⟩ := tapeIn hh hA
      refine ⟨G1.tape, .inl rfl, fun _ => ⟨rfl, ?_⟩, by nofun⟩
      cases hs : s1.tp with
      | true => rfl
      | false => rw [S.noTape hs] at hp; cases hp
    | false => exact ⟨none, .inr rfl, by nofun, fun _ => rfl⟩
  obtain ⟨SM, hAM⟩ := enterM S hok hA hka hbx htp ht1 ht2
  have hcall := hgood (EnM w0 G1 w β ρ tp (c.args.toList.map a.eval ++ ucap)) _ _ SM hAM
  have hrun : (execOp a.eval o).run P w = .ok (.enter g (c.args.toList.map a.eval ++ ucap).toArray) w := by
    have e1 : (#[] ++ c.args.map a.eval) ++ ucap.toArray = (c.args.toList.map a.eval ++ ucap).toArray := by cases c.args; simp
    simp only [execOp, ho, resolve, hc, hfu, Deferred.ofValue, Sem.run_bind, Sem.run_pure, Result.andThen_ok, invoke, e1, run_enter hent]
  unfold Oper.wp
  rw [hrun]
  refine Calls.mono hcall fun e w1 he => ?_
  obtain ⟨u, r, ov, bx', G2, rfl, hRr, S2, hru⟩ := he
  obtain ⟨hge, hb⟩ := hR r ov bx' hRr
  obtain ⟨s3, hk3, S3⟩ := leaveM S S2 hok hnw hka hkey hbx htp hA hb
  show Nxt tt w0 a.tmps.size none K (a.put o.dst u) w1
  exact put_sound S3 hd (res_b S S2 hok hnw hkey hbx htp hru) Kp.none hk3
end
end Go.Proofs.Ytjbmdaoppiinbaa
end
