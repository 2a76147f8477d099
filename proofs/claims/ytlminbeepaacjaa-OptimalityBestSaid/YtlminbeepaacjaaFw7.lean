/- A plain interpreter, part 7: operations that yield a value, all of them. -/
import Derived.Test.YtlminbeepaacjaaFw6
import Derived.Laws.Tables
namespace Go.Proofs.Ytlminbeepaacjaa
set_option linter.unusedVariables false
set_option linter.unusedSimpArgs false
set_option linter.unnecessarySimpa false
set_option linter.unusedSectionVars false
open Go.RowKit

section
variable {P : Program} {T : Nat → Ty} {tt : Nat} {w0 : En} {w w' : World} {G : Gh} {s : St} {a : Act} {B : Nat}
theorem cells_agr {b o : Nat} {us : List Value} (hA : Agr G w w') (hb : b < w.heap.size) (hx : ¬ GM G b ∨ ∃ t, G.box t = some b) (h : ∀ j v, us[j]? = some v → w.cell? ⟨b, o + j, none⟩ = some v) : ∀ j v, us[j]? = some v → w'.cell? ⟨b, o + j, none⟩ = some v :=
  fun j v hv => (cell_move (hA b hb hx)).trans (h j v hv)
theorem RC.of_load {v : AV} {u : Value} (h : (∃ cs' us', v = .agg cs' ∧ u = .agg (List.toArray us') ∧ All2 (RC B G w) cs' us') ∨ RC B G w v u) : RA B G w v u := by
  rcases h with ⟨cs, us, rfl, rfl, h⟩ | h
  · exact ⟨us, rfl, h⟩
  · exact h.ra
theorem offs_at {d : TypeDesc} {f off size : Nat} (h : (offsD P d)[f]? = some (off, size)) : ∃ fs fd, d = .struct fs ∧ fs[f]? = some fd ∧ fd.offset = off ∧ ((P.info? fd.type).map (·.size)).getD 0 = size := by
  cases d
  case struct fs =>
    simp only [offsD, List.getElem?_map, Option.map_eq_some_iff, Prod.mk.injEq] at h
    obtain ⟨fd, h1, h2, h3⟩ := h
    exact ⟨fs, fd, rfl, by simpa using h1, h2, h3⟩
  all_goals (simp [offsD] at h)
theorem field_sound {t f b o : Nat} {K : Nat → Prop} (hT : TabOk P T) (h : fieldOff (T t) f K) : ∃ off, K off ∧ ∀ b o : Nat, ∀ w' : World, (Instr.fieldAt t (.pointer (some ⟨b, o, none⟩)) f).run P w' = .ok (.pointer (some ⟨b, o + off, none⟩)) w' := by
  unfold fieldOff at h
  split at h
  · next hok =>
    obtain ⟨i, d, hi, hd, -, -, -, -, -, hoffs, -⟩ := ty_at hT hok
    split at h
    · next off size he =>
      rw [hoffs] at he
      obtain ⟨fs, fd, rfl, h1, rfl, h3⟩ := offs_at he
      split at h
      · next hlt =>
        have hpos : 0 < size := by simpa using hlt
        refine ⟨_, h, fun b o w' => ?_⟩
        cases hfi : P.info? fd.type with
        | none => rw [hfi] at h3; simp at h3; omega
        | some j =>
          rw [hfi] at h3
          simp only [Option.map_some, Option.getD_some] at h3
          have hne : ¬ j.size = 0 := by omega
          simp only [Instr.fieldAt, Sem.run_bind, run_underlying hd, Result.andThen_ok, h1, Instr.sureAddr, Sem.run_pure, fieldPlace, run_sizeOf hfi, hne, if_false, add_none]
      · exact h.elim
    · exact h.elim
  · exact h.elim
theorem elem_sound {t z : Nat} {K : Nat → Prop} (hT : TabOk P T) (h : elemOf T t z K) : ∃ e i, K e ∧ P.underlying t = some (.slice e) ∧ P.info? e = some i ∧ i.size = z ∧ (T e).ok = true ∧ (T t).elem = some e := by
  unfold elemOf at h
  split at h
  · next hok =>
    obtain ⟨i, d, hi, hd, -, -, -, hel, -⟩ := ty_at hT hok
    split at h
    · next e he =>
      split at h
      · next hk =>
        rw [Bool.and_eq_true] at hk
        obtain ⟨i', d', hi', hd', -, hs, -⟩ := ty_at hT hk.1
        have hz : (T e).size = z := by simpa using hk.2
        rw [hel] at he
        obtain rfl := elemD_eq he
        exact ⟨e, i', h, hd, hi', by rw [← hs, hz], hk.1, by rw [hel]; rfl⟩
      · exact h.elim
    · exact h.elim
  · exact h.elim
theorem opt_sound (S : Sim tt w0 G s a w) {d : Int} {x : Option Operand} {K : Int → Prop} (h : optInt s d x K) : ∃ n, K n ∧ ((x = none ∧ n = d) ∨ ∃ y k, x = some y ∧ a.eval y = .int k n) := by
  cases x with
  | none => exact ⟨d, h, .inl ⟨rfl, rfl⟩⟩
  | some y =>
    simp only [optInt] at h
    split at h
    · next k n he =>
      have := S.eval y
      rw [he] at this
      exact ⟨n, h, .inr ⟨y, k, rfl, this.int_inv⟩⟩
    · exact h.elim
theorem run_bound {k : IntKind} {n : Int} {y : Nat} {code : BoundsCode} (h0 : 0 ≤ n) (h1 : n ≤ y) (w' : World) : (Instr.sliceBound (.int k n) y code).run P w' = .ok n.toNat w' := by
  simp only [Instr.sliceBound, Sem.run_bind, asIntOf, Sem.run_pure, Result.andThen_ok, h0, h1, and_self, if_true]
theorem rep_sub {X : Nat → Prop} {z : Nat} {es : List (List AV)} {A : Option Addr} {c l h : Nat} (hr : RepV w X (.lst z es) (.slice A es.length c)) (hl : l ≤ h) (hh : h ≤ es.length) :
    RepV w X (.lst z ((es.take h).drop l)) (.slice (if c = l then A else A.map (·.add (l * z))) (h - l) (c - l)) := by
  by_cases he : h = l
  · subst he
    have : (es.take h).drop h = [] := by apply List.eq_nil_of_length_eq_zero; simp
    rw [this, Nat.sub_self]
    exact .nil z _ _
  · cases hr with
    | nil => simp at hh; omega
    | lst f hne hc hb hx hz hcell hrep =>
      next b off =>
      have hlen : ((es.take h).drop l).length = h - l := by simp; omega
      have hcl : ¬ c = l := by omega
      have hat : ∀ i j d, at2 ((es.take h).drop l) i j = some d → at2 es (l + i) j = some d := fun i j d hd => by
        obtain ⟨ds, h1, h2⟩ := at2_some hd
        rw [List.getElem?_drop, List.getElem?_take] at h1
        split at h1
        · simp [at2, h1, h2]
        · cases h1
      have e : (if c = l then some (⟨b, off, none⟩ : Addr) else (some (⟨b, off, none⟩ : Addr)).map (·.add (l * z))) = some ⟨b, off + l * z, none⟩ := by simp [hcl, add_none]
      rw [e, ← hlen]
      refine .lst (fun i j => f (l + i) j) (fun hn => by rw [hn] at hlen; simp at hlen; omega) (by rw [hlen]; omega) hb hx (fun cs hcs => hz cs (List.mem_of_mem_take (List.mem_of_mem_drop hcs))) (fun i j d hd => ?_) (fun i j d hd => hrep _ j d (hat i j d hd))
      have := hcell (l + i) j d (hat i j d hd)
      rw [Nat.add_mul] at this
      rwa [Nat.add_assoc off]

theorem cells_sound {v : AV} {u : Value} {K : List AV → Prop} (h : cellsK v K) (hr : RA B G w v u) : ∃ cs us, K cs ∧ u.cells = List.toArray us ∧ All2 (RC B G w) cs us := by
  cases v
  case agg cs =>
    obtain ⟨us, rfl, hA⟩ := hr
    exact ⟨cs, us, h, rfl, hA⟩
  case int k n => obtain rfl := hr.int_inv; exact ⟨_, [_], h, rfl, RepV.int _ _, trivial⟩
  case bool b => obtain rfl := hr.bool_inv; exact ⟨_, [_], h, rfl, RepV.bool _, trivial⟩
  case str b => obtain rfl := hr.str_inv; exact ⟨_, [_], h, rfl, RepV.str _, trivial⟩
  case nil => obtain rfl := hr.nil_inv; exact ⟨_, [_], h, rfl, rfl, trivial⟩
  case lst z es =>
    have hr' : RepV w (GX G) (.lst z es) u := hr
    obtain ⟨A, c, rfl⟩ := hr'.lst_inv
    exact ⟨_, [_], h, rfl, hr', trivial⟩
  case own t e z es =>
    have hr' : RC B G w (.own t e z es) u := hr
    obtain ⟨A, c, rfl⟩ := hr'.2.inv
    exact ⟨_, [_], h, rfl, hr', trivial⟩
  all_goals exact h.elim
theorem foldl_set (vs : List Value) (cells : List Value) (off : Nat) : ((vs.toArray.zipIdx.foldl (fun cs (c, j) => cs.setIfInBounds (off + j) c) cells.toArray)).toList = vs.zipIdx.foldl (fun cs (p : Value × Nat) => cs.set (off + p.2) p.1) cells := by
  rw [← Array.foldl_toList]
  have : vs.toArray.zipIdx.toList = vs.zipIdx := by simp
  rw [this]
  generalize vs.zipIdx = l
  induction l generalizing cells with
  | nil => rfl
  | cons p l ih =>
    simp only [List.foldl_cons]
    have e : cells.toArray.setIfInBounds (off + p.2) p.1 = (cells.set (off + p.2) p.1).toArray := by simp
    rw [e, ih]
theorem setRange_sound {R : AV → Value → Prop} : ∀ {vs : List AV} {us : List Value} {cells : List AV} {cs : List Value} (off k : Nat), All2 R vs us → All2 R cells cs → All2 R (setRange cells (off + k) vs) ((us.zipIdx k).foldl (fun cs (p : Value × Nat) => cs.set (off + p.2) p.1) cs)
  | [], [], cells, cs, off, k, _, h => h
  | v :: vs, u :: us, cells, cs, off, k, hv, h => by
    simp only [setRange, List.zipIdx_cons, List.foldl_cons]
    exact setRange_sound off (k + 1) hv.2 (h.set (off + k) hv.1)
  | [], _ :: _, _, _, _, _, hv, _ => hv.elim
  | _ :: _, [], _, _, _, _, hv, _ => hv.elim
theorem fill_sound (S : Sim tt w0 G s a w) {offs : List (Nat × Nat)} {K : List AV → Prop} : ∀ {parts : List (Nat × Operand)} {cells : List AV} {cs : List Value}, fillK offs s parts cells K → All2 (RC w0.heap.size G w) cells cs →
    ∃ cells' cs', K cells' ∧ All2 (RC w0.heap.size G w) cells' cs' ∧ Instr.fill (offs[·]?) cs.toArray (parts.map fun p => (p.1, a.eval p.2)) = some cs'.toArray
  | [], cells, cs, h, hA => ⟨cells, cs, h, hA, rfl⟩
  | (i, x) :: rest, cells, cs, h, hA => by
    simp only [fillK] at h
    split at h
    · next off size ho =>
      obtain ⟨vs, us, h1, h2, h3⟩ := cells_sound h (S.eval x)
      split at h1
      · next hk =>
        rw [Bool.and_eq_true] at hk
        have e1 : vs.length = size := by simpa using hk.1
        have e2 : off + vs.length ≤ cells.length := Nat.le_of_ble_eq_true hk.2
        have hset := setRange_sound (R := RC w0.heap.size G w) off 0 h3 hA
        rw [Nat.add_zero] at hset
        obtain ⟨cells', cs', k1, k2, k3⟩ := fill_sound S h1 hset
        refine ⟨cells', cs', k1, k2, ?_⟩
        simp only [List.map_cons, Instr.fill, ho, h2]
        have hc : ¬ ((us.toArray.size ≠ size || off + us.toArray.size > cs.toArray.size) = true) := by
          have a1 := h3.len
          have a2 := hA.len
          simp only [List.size_toArray, Bool.or_eq_true, decide_eq_true_eq, not_or]
          constructor
          · simp; omega
          · omega
        have hc' : (decide (us.toArray.size ≠ size) || decide (off + us.toArray.size > cs.toArray.size)) = false := by simpa using hc
        rw [if_neg (by simpa using hc)]
        have e3 : us.toArray.zipIdx.foldl (fun cs (c, j) => cs.setIfInBounds (off + j) c) cs.toArray = (us.zipIdx.foldl (fun cs (p : Value × Nat) => cs.set (off + p.2) p.1) cs).toArray := by
          rw [← foldl_set]
        rw [e3]
        exact k3
      · exact h1.elim
    · exact h.elim

theorem places_eq : ∀ {fs : List Field}, allPos (fs.map fun f => (f.offset, ((P.info? f.type).map (·.size)).getD 0)) = true → fs.mapM (fun f => (P.info? f.type).map fun i => (f.offset, i.size)) = some (fs.map fun f => (f.offset, ((P.info? f.type).map (·.size)).getD 0))
  | [], _ => by simp
  | f :: fs, h => by
    simp only [List.map_cons, allPos, Bool.and_eq_true] at h
    have ih := places_eq h.2
    cases hi : P.info? f.type with
    | none => rw [hi] at h; simp at h
    | some i => simp [List.mapM_cons, hi, ih]
theorem zero_sound (vs : List Value) : All2 (RC B G w) (vs.map ofValue) vs := by
  induction vs with
  | nil => trivial
  | cons v vs ih =>
    refine ⟨?_, ih⟩
    unfold ofValue
    split <;> first | exact (RepV.int _ _) | exact (RepV.bool _) | exact (RepV.str _) | rfl | trivial
theorem build_sound (hT : TabOk P T) (S : Sim tt w0 G s a w) {t : Nat} {parts : Array (Nat × Operand)} {K : AV → Prop} (h : aval T s (.build t parts) K) :
    ∃ v u, K v ∧ RA w0.heap.size G w v u ∧ ∀ w' : World, (Instr.build t (parts.map fun (i, x) => (i, a.eval x))).run P w' = .ok u w' := by
  simp only [aval] at h
  split at h
  · next hk =>
    rw [Bool.and_eq_true] at hk
    obtain ⟨i, d, hi, hd, -, -, -, -, hz, hoffs, -, -, -, hst⟩ := ty_at hT hk.1
    obtain ⟨fs, rfl⟩ := structD_eq (hst ▸ hk.2)
    split at h
    · next z zs hp hzz =>
      cases hiz : i.zero with
      | none => rw [hz, hiz] at hzz; simp [zeroD] at hzz
      | some zv =>
        have hzA : All2 (RC w0.heap.size G w) (z :: zs) zv.cells.toList := by
          rw [← hzz, hz, hiz]; exact zero_sound _
        obtain ⟨cells', cs', k1, k2, k3⟩ := fill_sound S h hzA
        refine ⟨_, .agg cs'.toArray, k1, ⟨cs', rfl, k2⟩, fun w' => run_build w' t _ _ ?_⟩
        rw [hoffs] at hp k3
        have hpl := places_eq (P := P) (fs := fs.toList) hp
        simp only [Program.built, hi, hd, hiz, hpl]
        simp only [offsD] at k3
        rw [← k3]
        simp
    · exact h.elim
  · exact h.elim
theorem isP_sound {v : AV} {u : Value} (h : isP v = true) (hr : RA B G w v u) : RP B G w v u := by
  cases v <;> first | exact hr | (simp [isP] at h)
theorem allP_sound : ∀ {vs : List AV} {us : List Value}, allP vs = true → All2 (RA B G w) vs us → All2 (RP B G w) vs us
  | [], [], _, _ => trivial
  | v :: vs, u :: us, h, hA => by
    simp only [allP, Bool.and_eq_true] at h
    exact ⟨isP_sound h.1 hA.1, allP_sound h.2 hA.2⟩
  | [], _ :: _, _, hA => hA.elim
  | _ :: _, [], _, hA => hA.elim
theorem arr_one {t : Nat} {ts : Array Nat} (h : ts.toList = [t]) : ts = #[t] := by cases ts; simpa using h
set_option maxHeartbeats 1000000 in
theorem aval_sound (hT : TabOk P T) (S : Sim tt w0 G s a w) (o : Oper) {K : AV → Prop} (h : aval T s o.op K) : Val P w0.heap.size G w a.eval o K := by
  obtain ⟨dst, op, type, pos, after, guard⟩ := o
  cases op
  case move x => exact ⟨_, _, h, S.eval x, fun w' _ => rfl⟩
  case assign x => exact ⟨_, _, h, S.eval x, fun w' _ => rfl⟩
  case pick c x y =>
    simp only [aval] at h
    split at h
    · next b hb =>
      have hc := S.eval c
      rw [hb] at hc
      have hc' := hc.bool_inv
      simp only [branch_iff] at h
      cases b with
      | true => exact ⟨_, _, h.1 rfl, S.eval x, fun w' _ => by simp [execOp, hc', asBool]⟩
      | false => exact ⟨_, _, h.2 rfl, S.eval y, fun w' _ => by simp [execOp, hc', asBool]⟩
    · exact h.elim
  case load t x =>
    simp only [aval] at h
    have hx := S.eval x
    split at h
    · next b off hb =>
      rw [hb] at hx
      split at h
      · next cs hcs =>
        obtain ⟨bb, hbb, hu⟩ := hx
        obtain ⟨b', e, us, h1, h2, h3⟩ := S.box b cs hcs
        rw [hbb] at h1
        injection h1 with h1
        subst h1
        obtain ⟨v, u, k1, k2, k3⟩ := load_sound (P := P) (b := bb) (o := off) hT h (h3.drop off)
        refine ⟨v, u, k1, RC.of_load k2, fun w' hA => ?_⟩
        have hcell : ∀ j v, (us.drop off)[j]? = some v → w.cell? ⟨bb, off + j, none⟩ = some v := fun j v hv => by rw [h2.cell]; rw [List.getElem?_drop] at hv; simpa using hv
        have := k3 w' (cells_agr (hA rfl) h2.lt (.inr ⟨b, hbb⟩) hcell)
        simp only [execOp, hu, Sem.run_bind, this, Result.andThen_ok, Sem.run_pure]
      · exact h.elim
    · next cs hb =>
      rw [hb] at hx
      obtain ⟨b, o, us, hu, h1, h2, h3, h4⟩ := hx
      obtain ⟨v, u, k1, k2, k3⟩ := load_sound (P := P) (b := b) (o := o) hT h (h3.mono fun _ _ h => (RepV.rc h : RC w0.heap.size G w _ _))
      refine ⟨v, u, k1, RC.of_load k2, fun w' hA => ?_⟩
      have := k3 w' (cells_agr (hA rfl) h1 (.inl h2) h4)
      simp only [execOp, hu, Sem.run_bind, this, Result.andThen_ok, Sem.run_pure]
    · exact h.elim
  case binOp op t x y yt =>
    obtain ⟨r, ur, h1, h2, h3⟩ := sound_bin hT (S.eval x) (S.eval y) h x y
    exact ⟨r, ur, h1, h2, fun w' _ => by simp only [execOp]; rw [Sem.run_bind, h3 w']; rfl⟩
  case unOp op t x =>
    simp only [aval] at h
    have hx := S.eval x
    split at h
    · next b hb =>
      rw [hb] at hx
      exact ⟨_, .bool _, h, .bool _, fun w' _ => by simp [execOp, hx.bool_inv, Op.unary]⟩
    · next k n hb =>
      rw [hb] at hx
      simp only [arith_iff] at h
      exact ⟨_, .int k _, h, .int _ _, fun w' _ => by simp [execOp, hx.int_inv, Op.unary, Op.intArith]⟩
    · exact h.elim
  case convert src dst x =>
    simp only [aval] at h
    have hx := S.eval x
    split at h
    · next hk =>
      rw [Bool.and_eq_true] at hk
      obtain ⟨i, d, hi, hd, -⟩ := ty_at hT hk.1
      obtain ⟨i', d', hi', hd', -, -, -, -, -, -, hkd, -⟩ := ty_at hT hk.2
      split at h
      · next k k' n hkk hb =>
        rw [hb] at hx
        simp only [arith_iff] at h
        rw [hkd] at hkk
        obtain rfl := kindD_eq hkk
        refine ⟨_, .int k _, h, .int _ _, fun w' _ => ?_⟩
        simp only [execOp, hx.int_inv, Sem.run_bind, convert, run_underlying hd, run_underlying hd', Result.andThen_ok, Conv.intToInt, Sem.run_pure]
      · exact h.elim
    · exact h.elim
  case fieldAddr t x f =>
    simp only [aval] at h
    have hx := S.eval x
    split at h
    · next b off hb =>
      rw [hb] at hx
      obtain ⟨bb, hbb, hu⟩ := hx
      obtain ⟨o, h1, h2⟩ := field_sound (P := P) (b := 0) (o := 0) hT h
      exact ⟨_, .pointer (some ⟨bb, off + o, none⟩), h1, ⟨bb, hbb, rfl⟩, fun w' _ => by simp only [execOp, hu, Sem.run_bind, h2, Result.andThen_ok, Sem.run_pure]⟩
    · next cs hb =>
      rw [hb] at hx
      obtain ⟨b, o, us, hu, k1, k2, k3, k4⟩ := hx
      obtain ⟨off, h1, h2⟩ := field_sound (P := P) (b := 0) (o := 0) hT h
      refine ⟨_, .pointer (some ⟨b, o + off, none⟩), h1, ⟨b, o + off, us.drop off, rfl, k1, k2, k3.drop off, fun j v hv => ?_⟩, fun w' _ => by simp only [execOp, hu, Sem.run_bind, h2, Result.andThen_ok, Sem.run_pure]⟩
      rw [List.getElem?_drop] at hv
      rw [Nat.add_assoc]
      exact k4 _ v hv
    · next t' i off cs hb =>
      rw [hb] at hx
      obtain ⟨g, n, c, e, cur, us, k1, hu, k3, k4, k4', k5, k6⟩ := hx
      obtain ⟨o, h1, h2⟩ := field_sound (P := P) (b := 0) (o := 0) hT h
      exact ⟨_, .pointer (some ⟨g, i * cs.length + off + o, none⟩), h1, ⟨g, n, c, e, cur, us, k1, by rw [Nat.add_assoc], k3, k4, k4', k5, k6⟩, fun w' _ => by simp only [execOp, hu, Sem.run_bind, h2, Result.andThen_ok, Sem.run_pure]⟩
    · exact h.elim
  case indexAddr t x i =>
    simp only [aval] at h
    have hx := S.eval x
    have hi := S.eval i
    split at h
    · next z es k n hb hn =>
      rw [hb] at hx
      rw [hn] at hi
      have hi' := hi.int_inv
      obtain ⟨e, ie, h1, h2, h3, h4, -⟩ := elem_sound (P := P) hT h
      simp only [idx_iff] at h1
      obtain ⟨h0, cs, h5, h6⟩ := h1
      have hx' : RepV w (GX G) (.lst z es) (a.eval x) := hx
      have hlt : n.toNat < es.length := (List.getElem?_eq_some_iff.1 h5).1
      generalize hux : a.eval x = ux at hx'
      cases hx' with
      | nil => simp at hlt
      | lst f hne hc hbb hxx hz hcell hrep =>
        next b off c =>
        refine ⟨_, .pointer (some ⟨b, off + n.toNat * z, none⟩), h6, ⟨b, off + n.toNat * z, (List.range cs.length).map (f n.toNat), rfl, hbb, fun hm => hxx (.inl hm), All2.of (by simp) fun j d v hd hv => ?_, fun j v hv => ?_⟩, fun w' _ => ?_⟩
        · rw [List.getElem?_map] at hv
          have hj : j < cs.length := (List.getElem?_eq_some_iff.1 hd).1
          rw [List.getElem?_range hj] at hv
          simp only [Option.map_some, Option.some.injEq] at hv
          subst hv
          exact hrep n.toNat j d (by simp [at2, h5, hd])
        · rw [List.getElem?_map] at hv
          rcases Nat.lt_or_ge j cs.length with hj | hj
          · rw [List.getElem?_range hj] at hv
            simp only [Option.map_some, Option.some.injEq] at hv
            subst hv
            exact hcell n.toNat j cs[j] (by simp [at2, h5, List.getElem?_eq_getElem hj])
          · rw [List.getElem?_eq_none (by simpa using hj)] at hv
            cases hv
        · have hb2 : 0 ≤ n ∧ n < (es.length : Int) := ⟨h0, by omega⟩
          simp only [execOp, hux, hi', Instr.indexAt, Sem.run_bind, asIntOf, Sem.run_pure, Result.andThen_ok, run_underlying h2, hb2, and_self, if_true, run_sizeOf h3, h4, add_none]
    · next t' e' z es k n hb hn =>
      rw [hb] at hx
      rw [hn] at hi
      have hi' := hi.int_inv
      obtain ⟨e, ie, h1, h2, h3, h4, -⟩ := elem_sound (P := P) hT h
      simp only [idx_iff] at h1
      obtain ⟨h0, cs, h5, h6⟩ := h1
      have hlt : n.toNat < es.length := (List.getElem?_eq_some_iff.1 h5).1
      obtain ⟨hG, css, ho, hA⟩ := (hx : RC w0.heap.size G w (.own t' e' z es) (a.eval x))
      obtain ⟨hl, hl'⟩ := OwnRep.lens hA
      generalize hux : a.eval x = ux at *
      have ho' := ho
      rcases ho'.2 with ⟨_, h00⟩ | ⟨g, cap, cur, rfl, hg, hh, hc, hm, hsz, ht⟩
      · omega
      · have hcz : cs.length = z := hl' cs (List.mem_of_getElem? h5)
        obtain ⟨us, k1, k2, k3⟩ := hA.get h5
        have hus : us.length = z := hl us (List.mem_of_getElem? k1)
        refine ⟨_, .pointer (some ⟨g, n.toNat * z, none⟩), h6, ⟨g, es.length, cap, e', cur, us, hG, by rw [hcz]; rfl, hlt, hh, by rw [hcz, hsz]; exact Nat.mul_le_mul_right _ hc, k3, fun j v hv => ?_⟩, fun w' _ => ?_⟩
        · have hf := flatten_at hl k1 hv
          rw [hcz, ho.cellAt _ (by have := (List.getElem?_eq_some_iff.1 hf).1; rw [ho.1] at this; exact this), hf]
        · have hb2 : 0 ≤ n ∧ n < (es.length : Int) := ⟨h0, by omega⟩
          simp only [execOp, hux, hi', Instr.indexAt, Sem.run_bind, asIntOf, Sem.run_pure, Result.andThen_ok, run_underlying h2, hb2, and_self, if_true, run_sizeOf h3, h4, add_none, Nat.zero_add]
    · exact h.elim
  case index t x i =>
    simp only [aval] at h
    have hx := S.eval x
    have hi := S.eval i
    split at h
    · next b k n hb hn =>
      rw [hb] at hx
      rw [hn] at hi
      split at h
      · next hk =>
        rw [Bool.and_eq_true] at hk
        obtain ⟨i', d, hi2, hd, -, -, -, -, -, -, -, -, hs, -⟩ := ty_at hT hk.1
        obtain rfl := strD_eq (hs ▸ hk.2)
        simp only [byteAt_iff] at h
        obtain ⟨h0, c, h1, h2⟩ := h
        exact ⟨_, .int .u8 _, h2, .int _ _, fun w' _ => by simp only [execOp, hx.str_inv, hi.int_inv, Instr.index, Sem.run_bind, asIntOf, Sem.run_pure, Result.andThen_ok, run_underlying hd, h0, if_true, h1]⟩
      · exact h.elim
    · exact h.elim
  case extract x i =>
    simp only [aval] at h
    have hx := S.eval x
    split at h
    · next vs hb =>
      rw [hb] at hx
      obtain ⟨us, hu, hA⟩ := hx
      split at h
      · next v hv =>
        obtain ⟨u, h1, h2⟩ := hA.get hv
        exact ⟨v, u, h, h2.ra, fun w' _ => by simp [execOp, hu, Instr.extract, h1]⟩
      · exact h.elim
    · exact h.elim
  case nilCheck x =>
    simp only [aval] at h
    have hx := S.eval x
    split at h
    · next t off hb =>
      rw [hb] at hx
      obtain ⟨b, h1, hu⟩ := hx
      exact ⟨_, _, h, ⟨b, h1, rfl⟩, fun w' _ => by simp [execOp, hu]⟩
    · next t i off cs hb =>
      rw [hb] at hx
      obtain ⟨g, n, c, e, cur, us, k1, hu, k3⟩ := hx
      exact ⟨_, _, h, ⟨g, n, c, e, cur, us, k1, rfl, k3⟩, fun w' _ => by simp [execOp, hu]⟩
    · next cs hb =>
      rw [hb] at hx
      obtain ⟨b, o, us, hu, k⟩ := hx
      exact ⟨_, _, h, ⟨b, o, us, rfl, k⟩, fun w' _ => by simp [execOp, hu]⟩
    · next hb =>
      rw [hb] at hx
      obtain ⟨p, k, hu⟩ := hx
      exact ⟨_, _, h, ⟨p, k, rfl⟩, fun w' _ => by simp [execOp, hu]⟩
    · exact h.elim
  case build t parts =>
    obtain ⟨v, u, h1, h2, h3⟩ := build_sound hT S h
    exact ⟨v, u, h1, h2, fun w' _ => by simp only [execOp, Sem.run_bind, h3 w', Result.andThen_ok, Sem.run_pure]⟩
  case makeFunc f first cap =>
    simp only [aval] at h
    split at h
    · next f =>
      split at h
      · next hf =>
        split at h
        · next hp =>
          refine ⟨_, .func (.func f) #[] (cap.toList.map a.eval).toArray, h, ⟨_, rfl, allP_sound hp (S.evals cap.toList)⟩, fun w' _ => ?_⟩
          have e1 : first = #[] := by cases first; simpa using hf
          have e2 : (cap.toList.map a.eval).toArray = cap.map a.eval := by cases cap; simp
          simp [execOp, Instr.makeFunc, e1, e2]
        · exact h.elim
      · exact h.elim
    · exact h.elim
  case slice t x lo hi mx =>
    simp only [aval] at h
    have hx := S.eval x
    split at h
    · split at h
      · next z es hb =>
        rw [hb] at hx
        have hx' : RepV w (GX G) (.lst z es) (a.eval x) := hx
        obtain ⟨A, c, hu⟩ := hx'.lst_inv
        rw [hu] at hx'
        obtain ⟨e, ie, h1, h2, h3, h4, -⟩ := elem_sound (P := P) hT h
        obtain ⟨l, h5, hl⟩ := opt_sound S h1
        obtain ⟨hh, h6, hhi⟩ := opt_sound S h5
        simp only [sub_iff] at h6
        obtain ⟨⟨b1, b2, b3⟩, h7⟩ := h6
        have hcap : es.length ≤ c := by
          cases hx' with
          | nil => exact Nat.zero_le _
          | lst f hne hc => exact hc
        have key := rep_sub hx' (l := l.toNat) (h := hh.toNat) (by omega) (by omega)
        refine ⟨_, _, h7, key, fun w' _ => ?_⟩
        have r1 : (match hi.map a.eval with | some v => Instr.sliceBound v c .sliceAcap | none => pure es.length : Sem Nat).run P w' = .ok hh.toNat w' := by
          rcases hhi with ⟨rfl, rfl⟩ | ⟨y, k, rfl, hy⟩
          · simp
          · simp only [Option.map_some, hy]; exact run_bound (by omega) (by omega) w'
        have r2 : (match lo.map a.eval with | some v => Instr.sliceBound v hh.toNat .sliceB | none => pure 0 : Sem Nat).run P w' = .ok l.toNat w' := by
          rcases hl with ⟨rfl, rfl⟩ | ⟨y, k, rfl, hy⟩
          · simp
          · simp only [Option.map_some, hy]; exact run_bound (by omega) (by omega) w'
        have r0 : (Instr.sliceBounds true es.length c (lo.map a.eval) (hi.map a.eval) none).run P w' = .ok (l.toNat, hh.toNat, c) w' := by
          rcases hhi with ⟨rfl, rfl⟩ | ⟨y, k, rfl, hy⟩ <;> rcases hl with ⟨rfl, rfl⟩ | ⟨y', k', rfl, hy'⟩
          · simp [Instr.sliceBounds]
          · simp only [Option.map_some, Option.map_none, Int.toNat_natCast] at r2 ⊢
            simp [Instr.sliceBounds, r2]
          · simp only [Option.map_some, Option.map_none] at r1 ⊢
            simp [Instr.sliceBounds, r1]
          · simp only [Option.map_some] at r1 r2 ⊢
            simp [Instr.sliceBounds, r1, r2]
        simp only [execOp, hu, Instr.sliceAt, Instr.slice, Sem.run_bind, run_underlying h2, Result.andThen_ok, Option.map_none, r0, run_sizeOf h3, h4, Sem.run_pure]
      · exact h.elim
    · exact h.elim
  case call c =>
    simp only [aval] at h
    have hA := S.evals c.args.toList
    have eargs : c.args.map a.eval = (c.args.toList.map a.eval).toArray := by cases c.args; simp
    split at h
    · next hc =>
      split at h
      · next z es t he ht =>
        rw [he] at hA
        obtain ⟨u, us, hu, h1, h2⟩ := hA.cons_inv
        obtain rfl := h2.nil_inv
        split at h
        · next hk =>
          rw [Bool.and_eq_true] at hk
          obtain ⟨i, d, hi, hd, -, -, -, hel, -⟩ := ty_at hT hk.1
          obtain ⟨e, he'⟩ := Option.isSome_iff_exists.1 hk.2
          obtain rfl := elemD_eq (hel ▸ he')
          obtain ⟨A, cap, rfl⟩ := (show RepV w (GX G) (.lst z es) u from h1).lst_inv
          exact ⟨_, .int .i64 _, h, .int _ _, fun w' _ => by simp [execOp, resolve, invoke, builtin, hc, eargs, hu, Builtin.len_, arr_one ht, run_underlying hd, goInt]⟩
        · exact h.elim
      · next t' e' z es t he ht =>
        rw [he] at hA
        obtain ⟨u, us, hu, h1, h2⟩ := hA.cons_inv
        obtain rfl := h2.nil_inv
        split at h
        · next hk =>
          rw [Bool.and_eq_true] at hk
          obtain ⟨i, d, hi, hd, -, -, -, hel, -⟩ := ty_at hT hk.1
          obtain ⟨e, he'⟩ := Option.isSome_iff_exists.1 hk.2
          obtain rfl := elemD_eq (hel ▸ he')
          obtain ⟨A, cap, rfl⟩ := (show RC w0.heap.size G w (.own t' e' z es) u from h1).2.inv
          exact ⟨_, .int .i64 _, h, .int _ _, fun w' _ => by simp [execOp, resolve, invoke, builtin, hc, eargs, hu, Builtin.len_, arr_one ht, run_underlying hd, goInt]⟩
        · exact h.elim
      · next t he ht =>
        rw [he] at hA
        obtain ⟨u, us, hu, h1, h2⟩ := hA.cons_inv
        obtain rfl := h2.nil_inv
        split at h
        · next hk =>
          rw [Bool.and_eq_true] at hk
          obtain ⟨i, d, hi, hd, -, -, -, hel, -⟩ := ty_at hT hk.1
          obtain ⟨e, he'⟩ := Option.isSome_iff_exists.1 hk.2
          obtain rfl := elemD_eq (hel ▸ he')
          obtain rfl := h1.nil_inv
          exact ⟨_, .int .i64 _, h, .int _ _, fun w' _ => by simp [execOp, resolve, invoke, builtin, hc, eargs, hu, Builtin.len_, arr_one ht, run_underlying hd, goInt]⟩
        · exact h.elim
      · next b t he ht =>
        rw [he] at hA
        obtain ⟨u, us, hu, h1, h2⟩ := hA.cons_inv
        obtain rfl := h2.nil_inv
        split at h
        · next hk =>
          rw [Bool.and_eq_true] at hk
          obtain ⟨i, d, hi, hd, -, -, -, -, -, -, -, -, hs, -⟩ := ty_at hT hk.1
          obtain rfl := strD_eq (hs ▸ hk.2)
          obtain rfl := h1.str_inv
          exact ⟨_, .int .i64 _, h, .int _ _, fun w' _ => by simp [execOp, resolve, invoke, builtin, hc, eargs, hu, Builtin.len_, arr_one ht, run_underlying hd, goInt]⟩
        · exact h.elim
      · exact h.elim
    · next hc =>
      split at h
      · next k x k' y he =>
        rw [he] at hA
        obtain ⟨u, us, hu, h1, h2⟩ := hA.cons_inv
        obtain ⟨u', us', rfl, h3, h4⟩ := h2.cons_inv
        obtain rfl := h4.nil_inv
        obtain rfl := h1.int_inv
        obtain rfl := h3.int_inv
        exact ⟨_, .int k _, h, .int _ _, fun w' _ => by simp [execOp, resolve, invoke, builtin, hc, eargs, hu, Builtin.min_, Builtin.min2]⟩
      · exact h.elim
    · next hc =>
      split at h
      · next k x k' y he =>
        rw [he] at hA
        obtain ⟨u, us, hu, h1, h2⟩ := hA.cons_inv
        obtain ⟨u', us', rfl, h3, h4⟩ := h2.cons_inv
        obtain rfl := h4.nil_inv
        obtain rfl := h1.int_inv
        obtain rfl := h3.int_inv
        exact ⟨_, .int k _, h, .int _ _, fun w' _ => by simp [execOp, resolve, invoke, builtin, hc, eargs, hu, Builtin.max_, Builtin.max2]⟩
      · exact h.elim
    · exact h.elim
  all_goals exact h.elim
end
end Go.Proofs.Ytlminbeepaacjaa
