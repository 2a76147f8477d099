/- A plain interpreter, part 6: operations that yield a value: the model does what the interpreter says. -/
import Derived.Test.YtlminbeepaacjaaFw5
import Derived.Laws.StructEq
import Derived.Laws.Cover3
import Derived.Lib.SliceRun
namespace Go.Proofs.Ytlminbeepaacjaa
set_option linter.unusedVariables false
set_option linter.unusedSimpArgs false
set_option linter.unnecessarySimpa false
set_option linter.unusedSectionVars false
open Go.RowKit

def TabOk (P : Program) (T : Nat → Ty) : Prop := ∀ t, (T t).ok = true → T t = tyOf P t
/-- The blocks that a load may look at are as they were. -/
def Agr (G : Gh) (w w' : World) : Prop := ∀ b, b < w.heap.size → (¬ GM G b ∨ ∃ t, G.box t = some b) → w'.heap[b]? = w.heap[b]?
theorem Agr.refl (G : Gh) (w : World) : Agr G w w := fun _ _ _ => rfl

section
variable {P : Program} {T : Nat → Ty} {tt : Nat} {w0 : En} {w w' : World} {G : Gh} {s : St} {a : Act} {B : Nat}
theorem ofValue_ra (v : Value) : RA B G w (ofValue v) v := by
  unfold ofValue
  split <;> first | exact (RepV.int _ _) | exact (RepV.bool _) | exact (RepV.str _) | rfl | trivial
theorem Sim.eval (S : Sim tt w0 G s a w) (x : Operand) : RA w0.heap.size G w (s.eval x) (a.eval x) := by
  cases x
  case tmp t => exact S.slot t
  case const v => exact ofValue_ra v
  case func f => exact ⟨[], rfl, trivial⟩
  case global g => trivial
theorem Sim.evals (S : Sim tt w0 G s a w) (xs : List Operand) : All2 (RA w0.heap.size G w) (evals s xs) (xs.map a.eval) := by
  induction xs with
  | nil => trivial
  | cons x xs ih => exact ⟨S.eval x, ih⟩

section inv
variable {u : Value}
theorem RA.int_inv {k : IntKind} {n : Int} (h : RA B G w (.int k n) u) : u = .int k n := by cases h; rfl
theorem RA.bool_inv {b : Bool} (h : RA B G w (.bool b) u) : u = .bool b := by cases h; rfl
theorem RA.str_inv {b : ByteArray} (h : RA B G w (.str b) u) : u = .string b := by cases h; rfl
theorem RA.nil_inv (h : RA B G w .nil u) : u = .slice none 0 0 := h
theorem RepV.lst_inv {X : Nat → Prop} {z : Nat} {es : List (List AV)} (h : RepV w X (.lst z es) u) : ∃ A c, u = .slice A es.length c := by
  cases h
  · exact ⟨_, _, rfl⟩
  · exact ⟨_, _, rfl⟩
theorem OwnRep.inv {X : Nat → Prop} {e z : Nat} {es : List (List AV)} (h : OwnRep B X w e z es u) : ∃ A c, u = .slice A es.length c := by
  obtain ⟨css, h1, _⟩ := h
  rcases h1.2 with ⟨rfl, h0⟩ | ⟨g, cap, cur, rfl, _⟩
  · exact ⟨none, 0, by rw [h0]⟩
  · exact ⟨_, _, rfl⟩
theorem add_none (b o n : Nat) : (⟨b, o, none⟩ : Addr).add n = ⟨b, o + n, none⟩ := by
  unfold Addr.add
  split
  · next h => subst h; rfl
  · rfl
end inv

/-! types -/
theorem ty_info {t : Nat} (hT : TabOk P T) (h : (T t).ok = true) : ∃ i d, P.info? t = some i ∧ P.underlying t = some d ∧ T t = tyOf P t := by
  have e := hT t h
  rw [e] at h
  unfold tyOf at h
  split at h
  · next i d h1 h2 => exact ⟨i, d, h1, h2, e⟩
  · cases h
theorem run_sizeOf {t : Nat} {i : TypeInfo} (h : P.info? t = some i) (w : World) : (sizeOf t).run P w = .ok i.size w := by simp [sizeOf, typeInfo, h]
theorem run_isAgg {t : Nat} {d : TypeDesc} (h : P.underlying t = some d) (w : World) : (isAgg t).run P w = .ok (aggD d) w := by
  simp only [isAgg, Sem.run_bind, run_underlying h, Result.andThen_ok]
  cases d <;> simp [aggD]
theorem run_loadCellsFrom (ad : Addr) (w : World) : ∀ (n i : Nat) (us : List Value) (acc : Array Value), us.length = n → (∀ j v, us[j]? = some v → w.cell? (ad.add (i + j)) = some v) → (loadCellsFrom ad i n acc).run P w = .ok (acc ++ us.toArray) w
  | 0, i, us, acc, hl, _ => by
    obtain rfl : us = [] := List.eq_nil_of_length_eq_zero hl
    simp [loadCellsFrom]
  | n + 1, i, us, acc, hl, h => by
    cases us with
    | nil => simp at hl
    | cons u us =>
      have h0 := h 0 u rfl
      rw [Nat.add_zero] at h0
      have := run_loadCellsFrom ad w n (i + 1) us (acc.push u) (by simpa using hl) (fun j v hv => by rw [Nat.add_assoc, Nat.add_comm 1 j]; exact h (j + 1) v (by simpa using hv))
      simp only [loadCellsFrom, Sem.run_bind, load, Sem.run, h0, Result.andThen_ok, this]
      simp
theorem run_loadCells {b o : Nat} {us : List Value} {w : World} (h : ∀ j v, us[j]? = some v → w.cell? ⟨b, o + j, none⟩ = some v) : (loadCells ⟨b, o, none⟩ us.length).run P w = .ok us.toArray w := by
  have := run_loadCellsFrom (P := P) ⟨b, o, none⟩ w us.length 0 us #[] rfl (fun j v hv => by rw [add_none, Nat.zero_add]; exact h j v hv)
  simpa [loadCells] using this

/-- A load, whatever it goes through: the cells are known. -/
theorem load_sound {t b o : Nat} {R : AV → Value → Prop} {cs : List AV} {us : List Value} {K : AV → Prop} (hT : TabOk P T) (h : loadAs (T t) cs K) (hA : All2 R cs us) :
    ∃ v u, K v ∧ ((∃ cs' us', v = .agg cs' ∧ u = .agg (List.toArray us') ∧ All2 R cs' us') ∨ R v u) ∧ ∀ w' : World, (∀ j v, us[j]? = some v → w'.cell? ⟨b, o + j, none⟩ = some v) → (Instr.loadAt t (.pointer (some ⟨b, o, none⟩))).run P w' = .ok u w' := by
  unfold loadAs at h
  split at h
  · next hok =>
    obtain ⟨i, d, hi, hd, e⟩ := ty_info hT hok
    have hagg : (T t).agg = aggD d := by rw [e]; simp only [tyOf, hi, hd]
    have hsize : (T t).size = i.size := by rw [e]; simp only [tyOf, hi, hd]
    split at h
    · next hg =>
      split at h
      · next hle =>
        have hle' : (T t).size ≤ cs.length := Nat.le_of_ble_eq_true hle
        refine ⟨_, .agg (us.take (T t).size).toArray, h, .inl ⟨_, _, rfl, rfl, hA.take _⟩, fun w' hw => ?_⟩
        have hl : (us.take (T t).size).length = i.size := by rw [List.length_take, ← hA.len, ← hsize]; omega
        have := run_loadCells (P := P) (w := w') (b := b) (o := o) (us := us.take (T t).size) (fun j v hv => hw j v (by rw [List.getElem?_take] at hv; split at hv; exact hv; cases hv))
        rw [hl] at this
        simp only [Instr.loadAt, Instr.sureAddr, loadVar, Sem.run_bind, Sem.run_pure, Result.andThen_ok, run_isAgg hd, ← hagg, hg, if_true, run_sizeOf hi, this]
      · exact h.elim
    · next hg =>
      split at h
      · next c cs' =>
        obtain ⟨u, us', rfl, hr, _⟩ := hA.cons_inv
        refine ⟨_, u, h, .inr hr, fun w' hw => ?_⟩
        have h0 := hw 0 u rfl
        rw [Nat.add_zero] at h0
        simp only [Instr.loadAt, Instr.sureAddr, loadVar, Sem.run_bind, Sem.run_pure, Result.andThen_ok, run_isAgg hd, ← hagg, hg, Bool.false_eq_true, if_false, load, Sem.run, h0]
      · exact h.elim
  · exact h.elim

def isLoad : Op → Bool
  | .load _ _ => true
  | _ => false
def Val (P : Program) (B : Nat) (G : Gh) (w : World) (ρ : Operand → Value) (o : Oper) (K : AV → Prop) : Prop :=
  ∃ v u, K v ∧ RA B G w v u ∧ ∀ w', (isLoad o.op = true → Agr G w w') → (execOp ρ o).run P w' = .ok (.value u) w'
theorem kind_eq {k k' : IntKind} (h : sameKind k k' = true) : k' = k := by cases k <;> cases k' <;> first | rfl | (simp [sameKind] at h)
theorem sound_int {op : BinOp} {k : IntKind} {x y : Int} {K : AV → Prop} (h : abinInt op k x y K) : ∃ v u, K v ∧ RA B G w v u ∧ ∀ t, ∀ w' : World, (binOp op t (.int k x) (.int k y)).run P w' = .ok u w' := by
  cases op <;> simp only [abinInt, cmp, bitF, arith_iff, need_iff] at h
  case add => exact ⟨_, .int k _, h, .int _ _, fun t w' => by simp [binOp, Op.intArith]⟩
  case sub => exact ⟨_, .int k _, h, .int _ _, fun t w' => by simp [binOp, Op.intArith]⟩
  case mul => exact ⟨_, .int k _, h, .int _ _, fun t w' => by simp [binOp, Op.intArith]⟩
  case quo => exact ⟨_, .int k _, h.2, .int _ _, fun t w' => by simp [binOp, Op.intDiv, h.1]⟩
  case rem => exact ⟨_, .int k _, h.2, .int _ _, fun t w' => by simp [binOp, Op.intDiv, h.1]⟩
  case and => exact ⟨_, .int k _, h, .int _ _, fun t w' => by simp [binOp, Op.intBits]⟩
  case or => exact ⟨_, .int k _, h, .int _ _, fun t w' => by simp [binOp, Op.intBits]⟩
  case xor => exact ⟨_, .int k _, h, .int _ _, fun t w' => by simp [binOp, Op.intBits]⟩
  case eql => exact ⟨_, .bool _, h, .bool _, fun t w' => by simp [binOp, Op.intCmp]⟩
  case neq => exact ⟨_, .bool _, h, .bool _, fun t w' => by simp [binOp, Op.intCmp]⟩
  case lss => exact ⟨_, .bool _, h, .bool _, fun t w' => by simp [binOp, Op.intCmp]⟩
  case leq => exact ⟨_, .bool _, h, .bool _, fun t w' => by simp [binOp, Op.intCmp]⟩
  case gtr => exact ⟨_, .bool _, h, .bool _, fun t w' => by simp [binOp, Op.intCmp]⟩
  case geq => exact ⟨_, .bool _, h, .bool _, fun t w' => by simp [binOp, Op.intCmp]⟩
theorem sound_str {op : BinOp} {x y : ByteArray} {K : AV → Prop} (h : abinStr op x y K) : ∃ v u, K v ∧ RA B G w v u ∧ ∀ t, ∀ w' : World, (binOp op t (.string x) (.string y)).run P w' = .ok u w' := by
  cases op <;> simp only [abinStr, need_iff] at h
  case eql => exact ⟨_, .bool _, h, .bool _, fun t w' => by simp [binOp, Op.stringOp]⟩
  case neq => exact ⟨_, .bool _, h, .bool _, fun t w' => by simp [binOp, Op.stringOp]⟩
  case lss => exact ⟨_, .bool _, h, .bool _, fun t w' => by simp [binOp, Op.stringOp]⟩
  case leq => exact ⟨_, .bool _, h, .bool _, fun t w' => by simp [binOp, Op.stringOp]⟩
  case gtr => exact ⟨_, .bool _, h, .bool _, fun t w' => by simp [binOp, Op.stringOp]⟩
  case geq => exact ⟨_, .bool _, h, .bool _, fun t w' => by simp [binOp, Op.stringOp]⟩
  case add =>
    refine ⟨_, .string _, h.2, .str _, fun t w' => ?_⟩
    have h1 : ¬ ((x.size + y.size : Nat) : Int) > IntKind.i64.max := by
      have : IntKind.i64.max = 9223372036854775807 := rfl
      rw [this]; have := h.1; omega
    simp only [binOp, Op.stringOp, h1, if_false, Sem.run_pure]
theorem run_guard_prim {op : BinOp} {t : Nat} {x y : Operand} {u v : Value} (hu : ∀ cs, u ≠ .agg cs) (hn : u ≠ .nilIface) (w : World) : (eqGuard op t x y u v).run P w = .ok () w := by
  unfold eqGuard
  cases op <;> simp only [] <;> first | rfl | (cases u <;> first | rfl | (exact absurd rfl hn) | (exact absurd rfl (hu _)))
theorem ty_at {t : Nat} (hT : TabOk P T) (h : (T t).ok = true) : ∃ i d, P.info? t = some i ∧ P.underlying t = some d ∧ (T t).agg = aggD d ∧ (T t).size = i.size ∧ (T t).small = Nat.ble i.bytes 8192 ∧ (T t).elem = elemD d ∧ (T t).zero = zeroD i.zero ∧ (T t).offs = offsD P d ∧ (T t).kind = kindD d ∧ (T t).isBool = boolD d ∧ (T t).isStr = strD d ∧ (T t).isStruct = structD d := by
  obtain ⟨i, d, hi, hd, e⟩ := ty_info hT h
  refine ⟨i, d, hi, hd, ?_⟩
  rw [e]
  simp only [tyOf, hi, hd, and_self]
theorem run_equal_bool {t : Nat} (hd : P.underlying t = some .bool) (a b : Bool) (w : World) : (Op.equal t (.bool a) (.bool b)).run P w = .ok (a == b) w := run_equalIn_bool' w 9999 t a b hd
theorem structD_eq {d : TypeDesc} (h : structD d = true) : ∃ fs, d = .struct fs := by cases d <;> first | exact ⟨_, rfl⟩ | (simp [structD] at h)
theorem boolD_eq {d : TypeDesc} (h : boolD d = true) : d = .bool := by cases d <;> first | rfl | (simp [boolD] at h)
theorem strD_eq {d : TypeDesc} (h : strD d = true) : d = .string := by cases d <;> first | rfl | (simp [strD] at h)
theorem elemD_eq {d : TypeDesc} {e : Nat} (h : elemD d = some e) : d = .slice e := by cases d <;> first | (simp [elemD] at h; done) | (simp [elemD] at h; rw [h])
theorem kindD_eq {d : TypeDesc} {k : IntKind} (h : kindD d = some k) : d = .int k := by cases d <;> first | (simp [kindD] at h; done) | (simp [kindD] at h; rw [h])
theorem RepV.nil_test {X : Nat → Prop} {z : Nat} {es : List (List AV)} {u : Value} (h : RepV w X (.lst z es) u) : ∃ A c, u = .slice A es.length c ∧ (A.isNone = true → es = []) := by
  cases h
  · exact ⟨_, _, rfl, fun _ => rfl⟩
  · exact ⟨_, _, rfl, nofun⟩
theorem OwnRep.nil_test {X : Nat → Prop} {e z : Nat} {es : List (List AV)} {u : Value} (h : OwnRep B X w e z es u) : ∃ A c, u = .slice A es.length c ∧ (A.isNone = true → es = []) := by
  obtain ⟨css, h1, _⟩ := h
  rcases h1.2 with ⟨rfl, h0⟩ | ⟨g, cap, cur, rfl, _⟩
  · exact ⟨none, 0, by rw [h0], fun _ => List.eq_nil_of_length_eq_zero h0⟩
  · exact ⟨_, _, rfl, nofun⟩
theorem nil_sound {op : BinOp} {t n c : Nat} {A : Option Addr} {es : List (List AV)} {K : AV → Prop} (hT : TabOk P T) (hA : A.isNone = true → es = [])
    (h : match (T t).ok && (T t).elem.isSome with
      | true => match op with
        | .eql => nilTest es fun b => K (.bool b)
        | .neq => nilTest es fun b => K (.bool (!b))
        | _ => False
      | false => False) (X Y : Operand) :
    ∃ r ur, K r ∧ RA B G w r ur ∧ ∀ w' : World, (do eqGuard op t X Y (.slice A n c) (.slice none 0 0); binOp op t (.slice A n c) (.slice none 0 0) : Sem Value).run P w' = .ok ur w' := by
  split at h
  · next hk =>
    rw [Bool.and_eq_true] at hk
    obtain ⟨i, d, hi, hd, -, -, -, hel, -⟩ := ty_at hT hk.1
    obtain ⟨e, he⟩ := Option.isSome_iff_exists.1 hk.2
    obtain rfl := elemD_eq (hel ▸ he)
    have g : ∀ w' : World, (eqGuard op t X Y (.slice A n c) (.slice none 0 0)).run P w' = .ok () w' := run_guard_prim (by simp) (by simp)
    split at h
    · rw [nilTest_iff] at h
      exact ⟨_, .bool _, h _ hA, .bool _, fun w' => by simp only [Sem.run_bind, g, Result.andThen_ok, Lib.run_eql_slice_nil w' _ _ _ _ _ _ _ hd]⟩
    · rw [nilTest_iff] at h
      exact ⟨_, .bool _, h _ hA, .bool _, fun w' => by simp only [Sem.run_bind, g, Result.andThen_ok, run_neq_slice_nil w' _ _ _ _ _ hd]⟩
    · exact h.elim
  · exact h.elim
theorem sound_bin {op : BinOp} {t : Nat} {x y : AV} {u v : Value} {K : AV → Prop} (hT : TabOk P T) (hx : RA B G w x u) (hy : RA B G w y v) (h : abin T op t x y K) (X Y : Operand) :
    ∃ r ur, K r ∧ RA B G w r ur ∧ ∀ w' : World, (do eqGuard op t X Y u v; binOp op t u v : Sem Value).run P w' = .ok ur w' := by
  unfold abin at h
  split at h
  · next k a k' b =>
    obtain rfl := hx.int_inv
    obtain rfl := hy.int_inv
    have g : ∀ w' : World, (eqGuard op t X Y (.int k a) (.int k' b)).run P w' = .ok () w' := run_guard_prim (by simp) (by simp)
    split at h
    · simp only [need_iff, arith_iff] at h
      refine ⟨_, .int k _, h.2, .int _ _, fun w' => ?_⟩
      have h1 : ¬ b < 0 := by have := h.1; omega
      simp only [Sem.run_bind, g, Result.andThen_ok, binOp, Op.shift, h1, if_false, Sem.run_pure]
    · simp only [need_iff] at h
      refine ⟨_, .int k _, h.2, .int _ _, fun w' => ?_⟩
      have h1 : ¬ b < 0 := by have := h.1; omega
      simp only [Sem.run_bind, g, Result.andThen_ok, binOp, Op.shift, h1, if_false, Sem.run_pure]
    · split at h
      · next hk =>
        obtain rfl := kind_eq hk
        obtain ⟨r, ur, h1, h2, h3⟩ := sound_int (P := P) (B := B) (G := G) (w := w) h
        exact ⟨r, ur, h1, h2, fun w' => by simp only [Sem.run_bind, g, Result.andThen_ok, h3 t w']⟩
      · exact h.elim
  · next a b =>
    obtain rfl := hx.str_inv
    obtain rfl := hy.str_inv
    have g : ∀ w' : World, (eqGuard op t X Y (.string a) (.string b)).run P w' = .ok () w' := run_guard_prim (by simp) (by simp)
    obtain ⟨r, ur, h1, h2, h3⟩ := sound_str (P := P) (B := B) (G := G) (w := w) h
    exact ⟨r, ur, h1, h2, fun w' => by simp only [Sem.run_bind, g, Result.andThen_ok, h3 t w']⟩
  · next a b =>
    obtain rfl := hx.bool_inv
    obtain rfl := hy.bool_inv
    have g : ∀ w' : World, (eqGuard op t X Y (.bool a) (.bool b)).run P w' = .ok () w' := run_guard_prim (by simp) (by simp)
    split at h
    · next hk =>
      rw [Bool.and_eq_true] at hk
      obtain ⟨i, d, hi, hd, -, -, -, -, -, -, -, hb, -⟩ := ty_at hT hk.1
      obtain rfl := boolD_eq (hb ▸ hk.2)
      split at h
      · exact ⟨_, .bool _, h, .bool _, fun w' => by simp only [Sem.run_bind, g, Result.andThen_ok, binOp, run_equal_bool hd, Sem.run_pure]⟩
      · exact ⟨_, .bool _, h, .bool _, fun w' => by simp only [Sem.run_bind, g, Result.andThen_ok, binOp, run_equal_bool hd, Sem.run_pure]⟩
      · exact h.elim
    · exact h.elim
  · next z es =>
    have hx' : RepV w (GX G) (.lst z es) u := hx
    obtain rfl := hy.nil_inv
    obtain ⟨A, c, rfl, hA⟩ := hx'.nil_test
    exact nil_sound hT hA h X Y
  · next t' e' z es =>
    have hx' : RC B G w (.own t' e' z es) u := hx
    obtain rfl := hy.nil_inv
    obtain ⟨A, c, rfl, hA⟩ := hx'.2.nil_test
    exact nil_sound hT hA h X Y
  · obtain rfl := hx.nil_inv
    obtain rfl := hy.nil_inv
    split at h
    · next hk =>
      rw [Bool.and_eq_true] at hk
      obtain ⟨i, d, hi, hd, -, -, -, hel, -⟩ := ty_at hT hk.1
      obtain ⟨e, he⟩ := Option.isSome_iff_exists.1 hk.2
      obtain rfl := elemD_eq (hel ▸ he)
      have g : ∀ w' : World, (eqGuard op t X Y (.slice none 0 0) (.slice none 0 0)).run P w' = .ok () w' := run_guard_prim (by simp) (by simp)
      split at h
      · exact ⟨_, .bool _, h, .bool _, fun w' => by simp only [Sem.run_bind, g, Result.andThen_ok, Lib.run_eql_slice_nil w' _ _ _ _ _ _ _ hd]; rfl⟩
      · exact ⟨_, .bool _, h, .bool _, fun w' => by simp only [Sem.run_bind, g, Result.andThen_ok, run_neq_slice_nil w' _ _ _ _ _ hd]; rfl⟩
      · exact h.elim
    · exact h.elim
  · exact h.elim
end
end Go.Proofs.Ytlminbeepaacjaa
