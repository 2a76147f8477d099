/- A plain interpreter, part 14b: maps of the function's own, from numbers to Bools. -/
import Derived.Test.YtlminbeepaacjaaFw14
namespace Go.Proofs.Ytlminbeepaacjaa
set_option linter.unusedVariables false
set_option linter.unusedSimpArgs false
set_option linter.unnecessarySimpa false
set_option linter.unusedSectionVars false
open Go.RowKit

section
variable {P : Program} {T : Nat → Ty} {tt : Nat} {w0 : En} {w w' : World} {G : Gh} {s : St} {a : Act} {B : Nat} {Q : Exit → Act → World → Prop}
def valF : Option (Nat × Bool) → Option (Nat × Value)
  | some (i, b) => some (i, .bool b)
  | none => none
theorem find_now {n : Int} : ∀ {es : List MapEntry} {kvs : List (Int × Bool)} {i : Nat}, es.map (fun e => (e.key, e.val)) = kvs.map (fun p => (Value.int .i64 p.1, Value.bool p.2)) → Instr.findNow (.int .i64) (.int .i64 n) es i = some (valF (mfind n kvs i))
  | [], [], i, _ => rfl
  | [], _ :: _, i, h => by simp at h
  | _ :: _, [], i, h => by simp at h
  | e :: es, (k, v) :: kvs, i, h => by
    simp only [List.map_cons, List.cons.injEq, Prod.mk.injEq] at h
    obtain ⟨⟨h1, h2⟩, h3⟩ := h
    have ih := find_now (n := n) (i := i + 1) h3
    simp only [Instr.findNow, h1, h2, Instr.sameNow, if_true, mfind]
    cases hc : n == k with
    | true => rfl
    | false => exact ih
theorem run_find {kt : Nat} {n : Int} {es : List MapEntry} {kvs : List (Int × Bool)} (hk : P.underlying kt = some (.int .i64)) (h : es.map (fun e => (e.key, e.val)) = kvs.map (fun p => (Value.int .i64 p.1, Value.bool p.2))) (w : World) :
    (Instr.findKey kt (.int .i64 n) es).run P w = .ok (valF (mfind n kvs 0)) w := by
  simp only [Instr.findKey, Sem.run_bind, run_underlying hk, Result.andThen_ok, find_now h, Sem.run_pure]
theorem run_key {kt : Nat} {n : Int} {b : Bool} (hk : P.underlying kt = some (.int .i64)) (w : World) : (Instr.checkKey b 10000 kt (.int .i64 n)).run P w = .ok () w := by
  show (Instr.checkKey b (9999 + 1) kt (.int .i64 n)).run P w = _
  unfold Instr.checkKey
  simp only [Sem.run_bind, run_underlying hk, Result.andThen_ok, Sem.run_pure]
theorem run_obj {b c : Nat} {es : Array MapEntry} (h : w.heap[b]? = some (.map es c)) : (getObj b).run P w = .ok (.map es c) w := by
  simp only [getObj, Sem.run, h]
theorem run_set {b c : Nat} {es : Array MapEntry} {o : Obj} (h : w.heap[b]? = some (.map es c)) : (setObj b o).run P w = .ok () { w with heap := w.heap.setIfInBounds b o } := by
  simp only [setObj, Sem.run, h]
theorem mfind_get {n : Int} : ∀ {kvs : List (Int × Bool)} {i : Nat}, (mfind n kvs i).map (·.2) = mget n kvs
  | [], _ => rfl
  | (k, v) :: kvs, i => by
    simp only [mfind, mget]
    cases n == k with
    | true => rfl
    | false => exact mfind_get
theorem mfind_at {n : Int} : ∀ {kvs : List (Int × Bool)} {i j : Nat} {v : Bool}, mfind n kvs i = some (j, v) → i ≤ j ∧ kvs[j - i]? = some (n, v)
  | [], _, _, _, h => by simp [mfind] at h
  | (k, v) :: kvs, i, j, b, h => by
    simp only [mfind] at h
    cases hc : n == k with
    | true =>
      rw [hc] at h
      simp only [cond_true, Option.some.injEq, Prod.mk.injEq] at h
      obtain ⟨rfl, rfl⟩ := h
      have : n = k := by simpa using hc
      subst this
      simp
    | false =>
      rw [hc] at h
      obtain ⟨h1, h2⟩ := mfind_at (i := i + 1) h
      refine ⟨by omega, ?_⟩
      rw [show j - i = (j - (i + 1)) + 1 by omega, List.getElem?_cons_succ]
      exact h2
theorem run_lookup {t kt et b c : Nat} {n : Int} {es : Array MapEntry} {kvs : List (Int × Bool)} {ok : Bool} (ht : P.underlying t = some (.map kt et)) (hk : P.underlying kt = some (.int .i64)) (hz : ∀ w, (zeroValue et).run P w = .ok (.bool false) w)
    (hb : w.heap[b]? = some (.map es c)) (h : es.toList.map (fun e => (e.key, e.val)) = kvs.map (fun p => (Value.int .i64 p.1, Value.bool p.2))) :
    (Instr.lookup t (.map (some b)) (.int .i64 n) ok).run P w = .ok (bif ok then .tuple #[.bool ((mget n kvs).getD false), .bool (mget n kvs).isSome] else .bool ((mget n kvs).getD false)) w := by
  have hf := run_find (P := P) (n := n) hk h w
  have hg := mfind_get (n := n) (kvs := kvs) (i := 0)
  simp only [Instr.lookup, Sem.run_bind, run_underlying ht, Result.andThen_ok, run_obj hb, Sem.run_pure, run_key hk, hf]
  cases hm : mfind n kvs 0 with
  | none =>
    rw [hm] at hg
    simp only [Option.map_none] at hg
    simp only [valF, Sem.run_bind, hz, Result.andThen_ok, Sem.run_pure, ← hg, Option.getD_none, Option.isSome_none]
    cases ok <;> rfl
  | some p =>
    obtain ⟨j, v⟩ := p
    rw [hm] at hg
    simp only [Option.map_some] at hg
    simp only [valF, Sem.run_bind, Result.andThen_ok, Sem.run_pure, ← hg, Option.getD_some, Option.isSome_some]
    cases ok <;> rfl
theorem run_update {t kt et b c : Nat} {n : Int} {v : Bool} {es : Array MapEntry} {kvs : List (Int × Bool)} (ht : P.underlying t = some (.map kt et)) (hk : P.underlying kt = some (.int .i64))
    (hb : w.heap[b]? = some (.map es c)) (h : es.toList.map (fun e => (e.key, e.val)) = kvs.map (fun p => (Value.int .i64 p.1, Value.bool p.2))) :
    ∃ es' c', (Instr.mapUpdate t (.map (some b)) (.int .i64 n) (.bool v)).run P w = .ok () { w with heap := w.heap.setIfInBounds b (.map es' c') } ∧ es'.toList.map (fun e => (e.key, e.val)) = (mput n v kvs).map (fun p => (Value.int .i64 p.1, Value.bool p.2)) := by
  have hf := run_find (P := P) (n := n) hk h w
  simp only [Instr.mapUpdate, Sem.run_bind, run_underlying ht, Result.andThen_ok, run_obj hb, run_key hk, hf]
  cases hm : mfind n kvs 0 with
  | none =>
    refine ⟨es.push { key := .int .i64 n, val := .bool v, born := c }, c + 1, ?_, ?_⟩
    · simp only [valF]
      exact run_set hb
    · simp only [mput, hm, Array.toList_push, List.map_append, h, List.map_cons, List.map_nil]
  | some p =>
    obtain ⟨j, v'⟩ := p
    obtain ⟨-, hj⟩ := mfind_at hm
    rw [Nat.sub_zero] at hj
    have hkey : (es[j]?).map (·.key) = some (.int .i64 n) := by
      have h1 := congrArg (·[j]?) h
      simp only [List.getElem?_map, hj, Option.map_some, Array.getElem?_toList] at h1
      cases hx : es[j]? with
      | none => rw [hx] at h1; simp at h1
      | some e =>
        rw [hx] at h1
        simp only [Option.map_some, Option.some.injEq, Prod.mk.injEq] at h1
        simp [h1.1]
    have hst : ∀ w : World, (Instr.keyThatStays (.int .i64 n) (.int .i64 n)).run P w = .ok (.int .i64 n) w := fun w => by
      simp [Instr.keyThatStays, Instr.sameBits]
    refine ⟨es.modify j fun e => { e with key := .int .i64 n, val := .bool v }, c, ?_, ?_⟩
    · simp only [valF, hkey, Option.getD_some, Sem.run_bind, hst, Result.andThen_ok]
      exact run_set hb
    · simp only [mput, hm]
      apply List.ext_getElem?
      intro q
      have h1 := congrArg (·[q]?) h
      simp only [List.getElem?_map, Array.getElem?_toList, Array.getElem?_modify, List.getElem?_set] at h1 ⊢
      by_cases hq : j = q
      · subst hq
        have hlt : j < kvs.length := (List.getElem?_eq_some_iff.1 hj).1
        cases hx : es[j]? with
        | none => rw [hx, hj] at h1; simp at h1
        | some e => simp [hlt]
      · simpa [hq] using h1
theorem vals_sound : ∀ {cs : List AV} {K : List Value → Prop}, valsK cs K → ∃ vs, K vs ∧ ∀ us, All2 (RC B G w) cs us → us = vs
  | [], K, h => ⟨[], h, fun us hA => hA.nil_inv⟩
  | c :: cs, K, h => by
    cases c
    case int k n =>
      obtain ⟨vs, h1, h2⟩ := vals_sound (cs := cs) h
      refine ⟨_, h1, fun us hA => ?_⟩
      obtain ⟨u, us', rfl, k1, k2⟩ := hA.cons_inv
      obtain rfl := (RC.ra k1).int_inv
      rw [h2 us' k2]
    case bool b =>
      obtain ⟨vs, h1, h2⟩ := vals_sound (cs := cs) h
      refine ⟨_, h1, fun us hA => ?_⟩
      obtain ⟨u, us', rfl, k1, k2⟩ := hA.cons_inv
      obtain rfl := (RC.ra k1).bool_inv
      rw [h2 us' k2]
    case str b =>
      obtain ⟨vs, h1, h2⟩ := vals_sound (cs := cs) h
      refine ⟨_, h1, fun us hA => ?_⟩
      obtain ⟨u, us', rfl, k1, k2⟩ := hA.cons_inv
      obtain rfl := (RC.ra k1).str_inv
      rw [h2 us' k2]
    all_goals exact h.elim
theorem sound_binOp (hT : TabOk P T) (S : Sim tt w0 G s a w) (o : Oper) (hd : ∀ x, o.dst = some x → x < a.tmps.size) {K : St → Prop} {op : BinOp} {t yt : Nat} {x y : Operand} (ho : o.op = .binOp op t x y yt) (h : aop P T tt o K s) : o.wp P a w (Nxt tt w0 a.tmps.size (some G) K) Q := by
  simp only [aop, ho] at h
  have hx := S.eval x
  have hy := S.eval y
  split at h
  · next cs ds hcs hds =>
    rw [hcs] at hx
    rw [hds] at hy
    obtain ⟨us1, e1, A1⟩ := hx
    obtain ⟨us2, e2, A2⟩ := hy
    split at h
    · obtain ⟨vs, h1, k1⟩ := vals_sound (B := w0.heap.size) (G := G) (w := w) h
      obtain ⟨us, h2, k2⟩ := vals_sound (B := w0.heap.size) (G := G) (w := w) h1
      obtain ⟨hg, b, hr, h3⟩ := eqS_iff.1 h2
      rw [k1 us1 A1] at e1
      rw [k2 us2 A2] at e2
      refine val_wp (u := .bool b) (w' := w) ?_ (put_sound S hd (v := .bool b) (RepV.bool b) (Kp.refl G) h3)
      simp only [execOp, ho, e1, e2, Sem.run_bind, run_eqGuard_agg w _ _ _ _ _ _ hg, Result.andThen_ok, run_eql_struct, hr, Sem.run_pure]
    · obtain ⟨vs, h1, k1⟩ := vals_sound (B := w0.heap.size) (G := G) (w := w) h
      obtain ⟨us, h2, k2⟩ := vals_sound (B := w0.heap.size) (G := G) (w := w) h1
      obtain ⟨hg, b, hr, h3⟩ := eqS_iff.1 h2
      rw [k1 us1 A1] at e1
      rw [k2 us2 A2] at e2
      refine val_wp (u := .bool (!b)) (w' := w) ?_ (put_sound S hd (v := .bool (!b)) (RepV.bool _) (Kp.refl G) h3)
      simp only [execOp, ho, e1, e2, Sem.run_bind, run_eqGuard_agg w _ _ _ _ _ _ hg, Result.andThen_ok, run_neq_struct, hr, Sem.run_pure]
    · exact h.elim
  · exact aval_wp hT S o hd (Kp.refl G) (by rw [ho]; exact h)
theorem sound_makeMap (S : Sim tt w0 G s a w) (o : Oper) (hd : ∀ x, o.dst = some x → x < a.tmps.size) {K : St → Prop} {t : Nat} {r : Option Operand} (ho : o.op = .makeMap t r) (h : aop P T tt o K s) : o.wp P a w (Nxt tt w0 a.tmps.size (some G) K) Q := by
  simp only [aop, ho] at h
  split at h
  · next d hdd =>
    have hb : ∀ b, b < w.heap.size → (w.alloc (.map #[] 0)).heap[b]? = w.heap[b]? := fun b hb => Below.heap_alloc _ _ _ hb
    have S1 := S.setOwn (w' := w.alloc (.map #[] 0)) d (.slice (some ⟨w.heap.size, 0, none⟩) 0 0) (by simp) (fun b h _ => hb b h) (fun b h => by
      simp only [Value.ownBlock, Option.some.injEq] at h
      exact .inr ⟨by omega, by simp; omega⟩) (S.chg.alloc _)
    refine val_wp (u := .map (some w.heap.size)) (w' := w.alloc (.map #[] 0)) ?_ ?_
    · simp only [execOp, ho, Option.map_none, Instr.makeMap, newObj, Sem.run_bind, Sem.run, Result.andThen_ok, Sem.run_pure]
      rfl
    · rw [hdd]
      exact ⟨_, _, S1.put (v := .mp d []) (hd d hdd) ⟨w.heap.size, #[], 0, upd_same, rfl, heap_alloc_new w _, rfl⟩, size_put, h, (Kp.refl G).of rfl rfl⟩
  · exact h.elim
theorem sound_lookup (S : Sim tt w0 G s a w) (o : Oper) (hd : ∀ x, o.dst = some x → x < a.tmps.size) {K : St → Prop} {t : Nat} {x k : Operand} {ok : Bool} (ho : o.op = .lookup t x k ok) (h : aop P T tt o K s) : o.wp P a w (Nxt tt w0 a.tmps.size (some G) K) Q := by
  simp only [aop, ho] at h
  have hx := S.eval x
  have hk := S.eval k
  split at h
  · next tg kvs n hxe hke =>
    rw [hxe] at hx
    rw [hke] at hk
    rw [mapTy_iff] at h
    obtain ⟨⟨kt, et, h1, h2, h3⟩, h4⟩ := h
    obtain ⟨b, es, c, m1, m2, m3, m4⟩ := (show MpRep G w tg kvs (a.eval x) from hx)
    have hr := run_lookup (P := P) (n := n) (ok := ok) h1 h2 h3 m3 m4
    refine val_wp (u := bif ok then .tuple #[.bool ((mget n kvs).getD false), .bool (mget n kvs).isSome] else .bool ((mget n kvs).getD false)) (w' := w) ?_ ?_
    · simp only [execOp, ho, m2, hk.int_inv, Sem.run_bind, hr, Result.andThen_ok, Sem.run_pure]
    · refine put_sound S hd (v := bif ok then .tup [.bool ((mget n kvs).getD false), .bool (mget n kvs).isSome] else .bool ((mget n kvs).getD false)) ?_ (Kp.refl G) h4
      cases ok with
      | true => exact ⟨[.bool _, .bool _], rfl, RepV.bool _, RepV.bool _, trivial⟩
      | false => exact RepV.bool _
  · exact h.elim
theorem sound_update (S : Sim tt w0 G s a w) (o : Oper) {K : St → Prop} {t : Nat} {x k y : Operand} (ho : o.op = .mapUpdate t x k y) (h : aop P T tt o K s) : o.wp P a w (Nxt tt w0 a.tmps.size (some G) K) Q := by
  simp only [aop, ho] at h
  have hx := S.eval x
  have hk := S.eval k
  have hy := S.eval y
  split at h
  · next tg kvs n v hxe hke hye hdd =>
    rw [hxe] at hx
    rw [hke] at hk
    rw [hye] at hy
    rw [mapTy_iff] at h
    obtain ⟨⟨kt, et, h1, h2, h3⟩, h4⟩ := h
    obtain ⟨b, es, c, m1, m2, m3, m4⟩ := (show MpRep G w tg kvs (a.eval x) from hx)
    obtain ⟨es', c', r1, r2⟩ := run_update (P := P) (n := n) (v := v) h1 h2 m3 m4
    have hlt : b < w.heap.size := (Array.getElem?_eq_some_iff.1 m3).1
    have hne : ∀ b', b' ≠ b → ({ w with heap := w.heap.setIfInBounds b (.map es' c') } : World).heap[b']? = w.heap[b']? := fun b' hb' => by
      simp only [Array.getElem?_setIfInBounds]
      rw [if_neg (fun e => hb' e.symm)]
    have hbn : w0.heap.size ≤ b := (S.ownLt tg _ b m1 rfl).1
    have hchg : Chg (fun b => G.tape = some b) w0 { w with heap := w.heap.setIfInBounds b (.map es' c') } :=
      ⟨S.chg.os, S.chg.tape, S.chg.output, by simpa using S.chg.size, fun b' hb' hX => (hne b' (by omega)).trans (S.chg.block b' hb' hX)⟩
    have S1 := S.storeMap (es := es') (c := c') (kvs := mput n v kvs) m1 hne (by simp [hlt]) (by simp) r2 hchg
    refine skip_wp hdd (w' := { w with heap := w.heap.setIfInBounds b (.map es' c') }) ?_ ⟨_, _, S1, rfl, h4, (Kp.refl G).of rfl rfl⟩
    simp only [execOp, ho, m2, hk.int_inv, hy.bool_inv, Sem.run_bind, r1, Result.andThen_ok, Sem.run_pure]
  · exact h.elim
end
end Go.Proofs.Ytlminbeepaacjaa
