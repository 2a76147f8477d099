/- A plain interpreter, part 19: the moves of a proof. -/
import Derived.Test.YtlminbeepaacjaaFw18
namespace Go.Proofs.Ytlminbeepaacjaa
set_option linter.unusedVariables false
set_option linter.unusedSimpArgs false
set_option linter.unnecessarySimpa false
set_option linter.unusedSectionVars false
open Go.RowKit

section
variable {P : Program} {T : Nat → Ty} {tt : Nat} {K : AV → Prop}
theorem branch_i {b : Bool} {A B : Prop} (h : b = true → A) (h' : b = false → B) : branch b A B := by exact ⟨⟨h, h'⟩⟩
theorem branch_t {b : Bool} {A B : Prop} (hb : b = true) (h : A) : branch b A B := by subst hb; exact ⟨⟨fun _ => h, nofun⟩⟩
theorem branch_f {b : Bool} {A B : Prop} (hb : b = false) (h : B) : branch b A B := by subst hb; exact ⟨⟨nofun, fun _ => h⟩⟩
theorem branch_tt {A B : Prop} (h : A) : branch true A B := branch_t rfl h
theorem branch_ff {A B : Prop} (h : B) : branch false A B := branch_f rfl h
theorem branch_d {p : Prop} [Decidable p] {A B : Prop} (h : p → A) (h' : ¬ p → B) : branch (decide p) A B := by exact ⟨⟨fun k => h (of_decide_eq_true k), fun k => h' (of_decide_eq_false k)⟩⟩
theorem branch_e {x y : Int} {A B : Prop} (h : x = y → A) (h' : x ≠ y → B) : branch (x == y) A B := by exact ⟨⟨fun k => h (by simpa using k), fun k => h' (by simpa using k)⟩⟩
theorem branch_n {x y : Int} {A B : Prop} (h : x ≠ y → A) (h' : x = y → B) : branch (x != y) A B := by exact ⟨⟨fun k => h (by simpa using k), fun k => h' (by simpa using k)⟩⟩
theorem branch_not {b : Bool} {A B : Prop} (h : branch b B A) : branch (!b) A B := by rw [branch_iff] at *; cases b <;> simp_all
theorem need_i {p A : Prop} (h : p) (k : A) : need p A := by exact ⟨⟨h, k⟩⟩
theorem slc_e {A B C : Prop} (h : A) : slc A B C := ⟨.inl h⟩
theorem slc_w {A B C : Prop} (h : B) : slc A B C := ⟨.inr (.inl h)⟩
theorem slc_o {A B C : Prop} (h : C) : slc A B C := ⟨.inr (.inr h)⟩
theorem nils_i {cs : List AV} {K : List AV → Prop} (cs' : List AV) (h : All2 PresC cs cs') (k : K cs') : nils cs K := by exact ⟨⟨cs', h, k⟩⟩
theorem pc {c : AV} {c' : AV} (h : PresC c c') : PresC c c' := h
theorem nil_i {es : List (List AV)} {K : Bool → Prop} (h0 : es = [] → K true) (h1 : K false) : nilTest es K := by
  exact ⟨fun b hb => by cases b; exact h1; exact h0 (hb rfl)⟩
theorem eq_i {t : Nat} {vs us : List Value} {K : Bool → Prop} {b : Bool} (h1 : P.eqGuardType P.depth t = false) (h2 : ∀ w, (Op.equalIn 10000 t (.agg vs.toArray) (.agg us.toArray)).run P w = .ok b w) (h : K b) : eqS P t vs us K := by exact ⟨⟨h1, b, h2, h⟩⟩
theorem map_i {t k e : Nat} {A : Prop} (h1 : P.underlying t = some (.map k e)) (h2 : P.underlying k = some (.int .i64)) (h3 : ∀ w, (zeroValue e).run P w = .ok (.bool false) w) (h : A) : mapTy P t A := by exact ⟨⟨⟨k, e, h1, h2, h3⟩, h⟩⟩
theorem arith_i {n : Int} (h : -9223372036854775808 ≤ n ∧ n ≤ 9223372036854775807) (k : K (.int .i64 n)) : arith .i64 n K := by
  rw [arith_iff]
  have : IntKind.i64.wrap n = n := by rw [IntKind.wrap_i64]; omega
  rw [this]; exact k
theorem arith_u {n : Int} (h : 0 ≤ n ∧ n ≤ 9223372036854775807) (k : K (.int .u64 n)) : arith .u64 n K := by
  rw [arith_iff]
  have : IntKind.u64.wrap n = n := by simp [IntKind.wrap, IntKind.bits, IntKind.signed]; omega
  rw [this]; exact k
theorem arith_w {k : IntKind} {n : Int} (h : K (.int k (k.wrap n))) : arith k n K := by exact ⟨h⟩
theorem idx_i {es : List (List AV)} {n : Int} {K : List AV → Prop} {cs : List AV} (h0 : 0 ≤ n) (h : es[n.toNat]? = some cs) (k : K cs) : idx es n K := by exact ⟨⟨h0, cs, h, k⟩⟩
/-- An element of a list of data. -/
theorem idx_m {α : Type} {enc : α → List AV} {xs : List α} {n : Int} {K : List AV → Prop} (h0 : 0 ≤ n) (h1 : n < xs.length) (k : ∀ x, xs[n.toNat]? = some x → K (enc x)) : idx (xs.map enc) n K := by
  have hlt : n.toNat < xs.length := by omega
  exact idx_i h0 (by rw [List.getElem?_map, List.getElem?_eq_getElem hlt]; rfl) (k _ (List.getElem?_eq_getElem hlt))
theorem sub_i {es : List (List AV)} {lo hi : Int} {K : List (List AV) → Prop} (h : 0 ≤ lo ∧ lo ≤ hi ∧ hi ≤ es.length) (k : K ((es.take hi.toNat).drop lo.toNat)) : sub es lo hi K := by exact ⟨⟨h, k⟩⟩
theorem byte_i {s : ByteArray} {n : Int} {K : Int → Prop} {b : UInt8} (h0 : 0 ≤ n) (h : s[n.toNat]? = some b) (k : K b.toNat) : byteAt s n K := by exact ⟨⟨h0, b, h, k⟩⟩
theorem wk_refl : ∀ {vs : List AV}, All2 Wk vs vs
  | [] => trivial
  | v :: vs => ⟨.inl (.inl rfl), wk_refl⟩
theorem call_i {b : Bool} {f : Nat} {args : List AV} {R : AV → Prop} (hG : Good P tt b f args R) (h : ∀ r, R r → K r) : acall P tt b f args K := by exact ⟨⟨args, R, wk_refl, hG, h⟩⟩
theorem call_e {b : Bool} {f : Nat} {args : List AV} {v : AV} (hG : Good P tt b f args (· = v)) (h : K v) : acall P tt b f args K := by exact ⟨⟨args, _, wk_refl, hG, fun r e => e ▸ h⟩⟩
theorem call_w {b : Bool} {f : Nat} {args args' : List AV} {R : AV → Prop} (hw : All2 Wk args args') (hG : Good P tt b f args' R) (h : ∀ r, R r → K r) : acall P tt b f args K := by exact ⟨⟨args', R, hw, hG, h⟩⟩
theorem Good.mono {b : Bool} {f : Nat} {args : List AV} {R R' : AV → Prop} (h : Good P tt b f args R) (hR : ∀ r, R r → R' r) : Good P tt b f args R' :=
  ⟨h.1, fun w X tp us hd k1 k2 k3 k4 => Calls.mono (h.2 w X tp us hd k1 k2 k3 k4) fun e w' ⟨u, r, e1, e2, e3⟩ => ⟨u, r, e1, hR r e2, e3⟩⟩
theorem ret_p {v : AV} {R : AV → Prop} (hp : plainC v = true) (h : R v) : aret v R := by exact ⟨⟨v, .inl (.inl (.inl ⟨rfl, hp⟩)), h⟩⟩
theorem ret_o {t e z : Nat} {es : List (List AV)} {R : AV → Prop} (h : R (.own 0 e z es)) : aret (.own t e z es) R := by exact ⟨⟨_, .inr (.inl ⟨t, e, z, es, rfl, rfl⟩), h⟩⟩
theorem ret_ol {t e z : Nat} {es : List (List AV)} {R : AV → Prop} (h : R (.lst z es)) : aret (.own t e z es) R := by exact ⟨⟨_, .inl (.inl (.inr (.inl ⟨t, e, z, es, rfl, rfl⟩))), h⟩⟩
theorem ret_n {e z : Nat} {R : AV → Prop} (h : R (.own 0 e z [])) : aret .nil R := by exact ⟨⟨_, .inr (.inr (.inl ⟨rfl, e, z, rfl⟩)), h⟩⟩
theorem ret_nl {z : Nat} {R : AV → Prop} (h : R (.lst z [])) : aret .nil R := by exact ⟨⟨_, .inl (.inl (.inr (.inr ⟨rfl, z, rfl⟩))), h⟩⟩
theorem ret_a {cs cs' : List AV} {R : AV → Prop} (hA : All2 RetC cs cs') (h : R (.agg cs')) : aret (.agg cs) R := by exact ⟨⟨_, .inl (.inr ⟨cs, cs', rfl, rfl, hA⟩), h⟩⟩
theorem ret_t {vs rs : List AV} {R : AV → Prop} (hA : All2 RetG vs rs) (h : R (.tup rs)) : aret (.tup vs) R := by exact ⟨⟨_, .inr (.inr (.inr ⟨vs, rs, rfl, rfl, hA⟩)), h⟩⟩
theorem rc_p {v : AV} (hp : plainC v = true) : RetC v v := .inl ⟨rfl, hp⟩
theorem rc_o {t e z : Nat} {es : List (List AV)} : RetC (.own t e z es) (.lst z es) := .inr (.inl ⟨t, e, z, es, rfl, rfl⟩)
theorem rc_n {z : Nat} : RetC .nil (.lst z []) := .inr (.inr ⟨rfl, z, rfl⟩)
theorem RetC.g {v r : AV} (h : RetC v r) : RetG v r := .inl h
theorem draw_i (m : Nat) (p : Plan) {ops : Array Oper} {K : St → Prop} {s : St} (hp : planOk ops m p = true) (h : arun P T tt ops p K s) : adraw P T tt ops K s := by exact ⟨⟨m, p, hp, h⟩⟩
/-! states -/
def lk : List (Nat × AV) → Nat → AV
  | [], _ => .undef
  | (j, v) :: l, i => bif Nat.beq i j then v else lk l i
def lkB : List (Nat × List AV) → Nat → Option (List AV)
  | [], _ => none
  | (j, v) :: l, i => bif Nat.beq i j then some v else lkB l i
def mkSt (sl : List (Nat × AV)) (bx : List (Nat × List AV)) (tp : Bool) : St := ⟨lk sl, lkB bx, tp⟩
def Slots : List (Nat × AV) → St → Prop
  | [], _ => True
  | (j, v) :: l, s => s.slot j = v ∧ Slots l s
def Boxes : List (Nat × List AV) → St → Prop
  | [], _ => True
  | (j, v) :: l, s => s.box j = some v ∧ Boxes l s
variable {s s1 s2 : St}
theorem Le.refl : Le tt s s := fun w0 G a w S => ⟨G, S⟩
theorem Le.trans (h : Le tt s s1) (k : Le tt s1 s2) : Le tt s s2 := fun w0 G a w S => by
  obtain ⟨G', S'⟩ := h w0 G a w S
  exact k w0 G' a w S'
theorem lk_slot {sl : List (Nat × AV)} (h : Slots sl s) (i : Nat) : lk sl i = .undef ∨ lk sl i = s.slot i := by
  induction sl with
  | nil => exact .inl rfl
  | cons p l ih =>
    obtain ⟨j, v⟩ := p
    by_cases e : i = j
    · subst e; right; simp only [lk, beq_self, cond_true]; exact h.1.symm
    · simp only [lk, beq_ne e, cond_false]; exact ih h.2
theorem lk_box {bx : List (Nat × List AV)} (h : Boxes bx s) (i : Nat) (cs : List AV) (hc : lkB bx i = some cs) : s.box i = some cs := by
  induction bx with
  | nil => cases hc
  | cons p l ih =>
    obtain ⟨j, v⟩ := p
    by_cases e : i = j
    · subst e; simp only [lkB, beq_self, cond_true] at hc; rw [← hc]; exact h.1
    · simp only [lkB, beq_ne e, cond_false] at hc; exact ih h.2 hc
/-- Only these slots and variables are kept. -/
theorem le_mk {sl : List (Nat × AV)} {bx : List (Nat × List AV)} {tp : Bool} (h : Slots sl s) (hb : Boxes bx s) (htp : s.tp = tp) : Le tt s (mkSt sl bx tp) := fun w0 G a w S =>
  ⟨G, { S with
    slot := fun i => by
      rcases lk_slot h i with e | e
      · show RA _ _ _ (lk sl i) _; rw [e]; trivial
      · show RA _ _ _ (lk sl i) _; rw [e]; exact S.slot i
    box := fun t cs hc => S.box t cs (lk_box hb t cs hc)
    tape := fun h => S.tape (htp.trans h)
    noTape := fun h => S.noTape (htp.trans h) }⟩
theorem le_erase (t : Nat) : Le tt s (s.map (eraseF t)) := fun w0 G a w S => ⟨_, (S.erase t).1⟩
/-- A nil slice is a slice of the function's own. -/
theorem le_adopt (i t e z : Nat) (h : s.slot i = .nil) : Le tt s ((s.map (killF t)).put i (.own t e z [])) := fun w0 G a w S => by
  have S1 := S.setOwn (w' := w) t (.slice none 0 0) (Nat.le_refl _) (fun _ _ _ => rfl) (fun b hb => by cases hb) S.chg
  have hu := S.slot i
  rw [h] at hu
  have hu' : a.tmps.getD i undef = .slice none 0 0 := hu
  refine ⟨_, S1.know (v := .own t e z []) ?_⟩
  rw [hu']
  exact ⟨upd_same, [], World.ownsRow_nil w w0.heap.size e z, trivial⟩
/-- The same, in a variable. -/
theorem le_adoptBox (b j t e z : Nat) {cs : List AV} (hb : s.box b = some cs) (h : cs[j]? = some .nil) : Le tt s ((s.map (killF t)).setBox b ((cs.map (killF t)).set j (.own t e z []))) := fun w0 G a w S => by
  have S1 := S.setOwn (w' := w) t (.slice none 0 0) (Nat.le_refl _) (fun _ _ _ => rfl) (fun b hb => by cases hb) S.chg
  obtain ⟨bb, ee, us, k1, k2, k3⟩ := S1.box b (cs.map (killF t)) (by simp [St.map, hb])
  obtain ⟨bb', ee', us', q1, q2, q3⟩ := S.box b cs hb
  obtain ⟨u, hu, hr⟩ := q3.get h
  have hu' : u = .slice none 0 0 := hr
  have e1 : us = us' := by
    have : bb = bb' := by
      have := k1
      rw [show ({ G with own := upd G.own t (some (.slice none 0 0)) } : Gh).box b = G.box b from rfl, q1] at this
      injection this with this
      exact this.symm
    subst this
    have a1 : w.heap[bb]? = some (.cells us.toArray ee (0, 0)) := k2
    have a2 : w.heap[bb]? = some (.cells us'.toArray ee' (0, 0)) := q2
    rw [a1] at a2
    simp only [Option.some.injEq, Obj.cells.injEq] at a2
    have := congrArg Array.toList a2.1
    simpa using this
  subst e1
  refine ⟨_, S1.setBox k1 k2 ?_⟩
  have hset := k3.set j (a := .own t e z []) (b := u) ⟨by rw [hu']; exact upd_same, by rw [hu']; exact ⟨[], World.ownsRow_nil w w0.heap.size e z, trivial⟩⟩
  have : us.set j u = us := by
    apply List.ext_getElem?
    intro k
    rw [List.getElem?_set]
    split
    · next e => subst e; rw [hu]; simp [(List.getElem?_eq_some_iff.1 hu).1]
    · rfl
  rwa [this] at hset
/-- The state is weakened before a region. -/
theorem rest_i {K : St → Prop} (s' : St) (hle : Le tt s s') (h : K s') : rest tt K s := by exact ⟨⟨s', hle, h⟩⟩
/-- A loop: the states at its head are a family. -/
theorem loop_i {α : Type} (I : α → Prop) (st : α → St) (μ : α → Nat) {body : (Ex → St → Prop) → St → Prop} {Q : Ex → St → Prop} (x0 : α) (h0 : I x0) (hle : Le tt s (st x0))
    (hstep : ∀ x, I x → body (fun e s' => match e with | .norm => ∃ x', I x' ∧ Le tt s' (st x') ∧ μ x' < μ x | .exit i => Q (.exit i) s' | .ret => Q .ret s') (st x)) : aloop tt body Q s := by
  exact ⟨⟨α, I, st, μ, x0, h0, hle, hstep⟩⟩
end
end Go.Proofs.Ytlminbeepaacjaa
