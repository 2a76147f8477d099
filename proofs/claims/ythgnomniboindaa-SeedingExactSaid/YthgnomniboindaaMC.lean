/- A plain interpreter over Go's data, joined (FwMap, Fw15, Fw16, Fw17, Fw18, Fw19, Fw20). -/
import Derived.Test.YthgnomniboindaaMB
import Derived.Laws.BytesString
/- A plain interpreter, part 14b: maps of the function's own, from numbers to Bools. -/
section
namespace Go.Proofs.Ythgnomniboindaa
set_option linter.unusedVariables false
set_option linter.unusedSimpArgs false
set_option linter.unnecessarySimpa false
set_option linter.unusedSectionVars false
open Go.RowKit

section
variable {P : Program} {T : Nat → Ty} {tt : Nat} {w0 : En} {w w' : World} {G : Gh} {s : St} {a : Act} {B : Nat} {Q : Exit → Act → World → Prop}
def valF {α : Type} (g : α → Value) : Option (Nat × α) → Option (Nat × Value)
  | some (i, b) => some (i, g b)
  | none => none
theorem find_now {α : Type} {g : α → Value} {n : Int} : ∀ {es : List MapEntry} {kvs : List (Int × α)} {i : Nat}, es.map (fun e => (e.key, e.val)) = kvs.map (fun p => (Value.int .i64 p.1, g p.2)) → Instr.findNow (.int .i64) (.int .i64 n) es i = some (valF g (mfind n kvs i))
  | [], [], i, _ => rfl
  | [], _ :: _, i, h => by simp at h
  | _ :: _, [], i, h => by simp at h
  | e :: es, (k, v) :: kvs, i, h => by
    simp only [List.map_cons, List.cons.injEq, Prod.mk.injEq] at h
    obtain ⟨⟨h1, h2⟩, h3⟩ := h
    have ih := find_now (n := n) (i := i + 1) h3
    simp only [Instr.findNow, h1, h2, Instr.sameNow, if_true, mfind]
    cases hc : n == k with
    | true => rfl
    | false => exact ih
theorem run_find {α : Type} {g : α → Value} {kt : Nat} {n : Int} {es : List MapEntry} {kvs : List (Int × α)} (hk : P.underlying kt = some (.int .i64)) (h : es.map (fun e => (e.key, e.val)) = kvs.map (fun p => (Value.int .i64 p.1, g p.2))) (w : World) :
    (Instr.findKey kt (.int .i64 n) es).run P w = .ok (valF g (mfind n kvs 0)) w := by
  simp only [Instr.findKey, Sem.run_bind, run_underlying hk, Result.andThen_ok, find_now h, Sem.run_pure]
theorem run_key {kt : Nat} {n : Int} {b : Bool} (hk : P.underlying kt = some (.int .i64)) (w : World) : (Instr.checkKey b 10000 kt (.int .i64 n)).run P w = .ok () w := by
  show (Instr.checkKey b (9999 + 1) kt (.int .i64 n)).run P w = _
  unfold Instr.checkKey
  simp only [Sem.run_bind, run_underlying hk, Result.andThen_ok, Sem.run_pure]
theorem run_obj {b c : Nat} {es : Array MapEntry} (h : w.heap[b]? = some (.map es c)) : (getObj b).run P w = .ok (.map es c) w := by
  simp only [getObj, Sem.run, h]
theorem run_set {b c : Nat} {es : Array MapEntry} {o : Obj} (h : w.heap[b]? = some (.map es c)) : (setObj b o).run P w = .ok () { w with heap := w.heap.setIfInBounds b o } := by
  simp only [setObj, Sem.run, h]
theorem mfind_get {α : Type} {n : Int} : ∀ {kvs : List (Int × α)} {i : Nat}, (mfind n kvs i).map (·.2) = mget n kvs
  | [], _ => rfl
  | (k, v) :: kvs, i => by
    simp only [mfind, mget]
    cases n == k with
    | true => rfl
    | false => exact mfind_get
theorem mfind_at {α : Type} {n : Int} : ∀ {kvs : List (Int × α)} {i j : Nat} {v : α}, mfind n kvs i = some (j, v) → i ≤ j ∧ kvs[j - i]? = some (n, v)
  | [], _, _, _, h => by simp [mfind] at h
  | (k, v) :: kvs, i, j, b, h => by
    simp only [mfind] at h
    cases hc : n == k with
    | true =>
      rw [hc] at h
      simp only [cond_true, Option.some.injEq, Prod.mk.injEq] at h
      obtain ⟨rfl, rfl⟩ := h
      have : n = k := by simpa using hc
      subst this
      simp
    | false =>
      rw [hc] at h
      obtain ⟨h1, h2⟩ := mfind_at (i := i + 1) h
      refine ⟨by omega, ?_⟩
      rw [show j - i = (j - (i + 1)) + 1 by omega, List.getElem?_cons_succ]
      exact h2
theorem run_lookup {α : Type} {g : α → Value} {t kt et b c : Nat} {n : Int} {z : α} {es : Array MapEntry} {kvs : List (Int × α)} {ok : Bool} (ht : P.underlying t = some (.map kt et)) (hk : P.underlying kt = some (.int .i64)) (hz : ∀ w, (zeroValue et).run P w = .ok (g z) w)
    (hb : w.heap[b]? = some (.map es c)) (h : es.toList.map (fun e => (e.key, e.val)) = kvs.map (fun p => (Value.int .i64 p.1, g p.2))) :
    (Instr.lookup t (.map (some b)) (.int .i64 n) ok).run P w = .ok (bif ok then .tuple #[g ((mget n kvs).getD z), .bool (mget n kvs).isSome] else g ((mget n kvs).getD z)) w := by
  have hf := run_find (P := P) (g := g) (n := n) hk h w
  have hg := mfind_get (n := n) (kvs := kvs) (i := 0)
  simp only [Instr.lookup, Sem.run_bind, run_underlying ht, Result.andThen_ok, run_obj hb, Sem.run_pure, run_key hk, hf]
  cases hm : mfind n kvs 0 with
  | none =>
    rw [hm] at hg
    simp only [Option.map_none] at hg
    simp only [valF, Sem.run_bind, hz, Result.andThen_ok, Sem.run_pure, ← hg, Option.getD_none, Option.isSome_none]
    cases ok <;> rfl
  | some p =>
    obtain ⟨j, v⟩ := p
    rw [hm] at hg
    simp only [Option.map_some] at hg
    simp only [valF, Sem.run_bind, Result.andThen_ok, Sem.run_pure, ← hg, Option.getD_some, Option.isSome_some]
    cases ok <;> rfl
theorem run_update {α : Type} {g : α → Value} {t kt et b c : Nat} {n : Int} {v : α} {es : Array MapEntry} {kvs : List (Int × α)} (ht : P.underlying t = some (.map kt et)) (hk : P.underlying kt = some (.int .i64))
    (hb : w.heap[b]? = some (.map es c)) (h : es.toList.map (fun e => (e.key, e.val)) = kvs.map (fun p => (Value.int .i64 p.1, g p.2))) :
    ∃ es' c', (Instr.mapUpdate t (.map (some b)) (.int .i64 n) (g v)).run P w = .ok () { w with heap := w.heap.setIfInBounds b (.map es' c') } ∧ es'.toList.map (fun e => (e.key, e.val)) = (mput n v kvs).map (fun p => (Value.int .i64 p.1, g p.2)) := by
  have hf := run_find (P := P) (g := g) (n := n) hk h w
  simp only [Instr.mapUpdate, Sem.run_bind, run_underlying ht, Result.andThen_ok, run_obj hb, run_key hk, hf]
  cases hm : mfind n kvs 0 with
  | none =>
    refine ⟨es.push { key := .int .i64 n, val := g v, born := c }, c + 1, ?_, ?_⟩
    · simp only [valF]
      exact run_set hb
    · simp only [mput, hm, Array.toList_push, List.map_append, h, List.map_cons, List.map_nil]
  | some p =>
    obtain ⟨j, v'⟩ := p
    obtain ⟨-, hj⟩ := mfind_at hm
    rw [Nat.sub_zero] at hj
    have hkey : (es[j]?).map (·.key) = some (.int .i64 n) := by
      have h1 := congrArg (·[j]?) h
      simp only [List.getElem?_map, hj, Option.map_some, Array.getElem?_toList] at h1
      cases hx : es[j]? with
      | none => rw [hx] at h1; simp at h1
      | some e =>
        rw [hx] at h1
        simp only [Option.map_some, Option.some.injEq, Prod.mk.injEq] at h1
        simp [h1.1]
    have hst : ∀ w : World, (Instr.keyThatStays (.int .i64 n) (.int .i64 n)).run P w = .ok (.int .i64 n) w := fun w => by
      simp [Instr.keyThatStays, Instr.sameBits]
    refine ⟨es.modify j fun e => { e with key := .int .i64 n, val := g v }, c, ?_, ?_⟩
    · simp only [valF, hkey, Option.getD_some, Sem.run_bind, hst, Result.andThen_ok]
      exact run_set hb
    · simp only [mput, hm]
      apply List.ext_getElem?
      intro q
      have h1 := congrArg (·[q]?) h
      simp only [List.getElem?_map, Array.getElem?_toList, Array.getElem?_modify, List.getElem?_set] at h1 ⊢
      by_cases hq : j = q
      · subst hq
        have hlt : j < kvs.length := (List.getElem?_eq_some_iff.1 hj).1
        cases hx : es[j]? with
        | none => rw [hx, hj] at h1; simp at h1
        | some e => simp [hlt]
      · simpa [hq] using h1
theorem vals_sound : ∀ {cs : List AV} {K : List Value → Prop}, valsK cs K → ∃ vs, K vs ∧ ∀ us, All2 (RC B G w) cs us → us = vs
  | [], K, h => ⟨[], h, fun us hA => hA.nil_inv⟩
  | c :: cs, K, h => by
    cases c
    case int k n =>
      obtain ⟨vs, h1, h2⟩ := vals_sound (cs := cs) h
      refine ⟨_, h1, fun us hA => ?_⟩
      obtain ⟨u, us', rfl, k1, k2⟩ := hA.cons_inv
      obtain rfl := (RC.ra k1).int_inv
      rw [h2 us' k2]
    case bool b =>
      obtain ⟨vs, h1, h2⟩ := vals_sound (cs := cs) h
      refine ⟨_, h1, fun us hA => ?_⟩
      obtain ⟨u, us', rfl, k1, k2⟩ := hA.cons_inv
      obtain rfl := (RC.ra k1).bool_inv
      rw [h2 us' k2]
    case str b =>
      obtain ⟨vs, h1, h2⟩ := vals_sound (cs := cs) h
      refine ⟨_, h1, fun us hA => ?_⟩
      obtain ⟨u, us', rfl, k1, k2⟩ := hA.cons_inv
      obtain rfl := (RC.ra k1).str_inv
      rw [h2 us' k2]
    all_goals exact h.elim
theorem sound_binOp (hT : TabOk P T) (S : Sim tt w0 G s a w) (o : Oper) (hd : ∀ x, o.dst = some x → x < a.tmps.size) {K : St → Prop} {op : BinOp} {t yt : Nat} {x y : Operand} (ho : o.op = .binOp op t x y yt) (h : aop P T tt o K s) : o.wp P a w (Nxt tt w0 a.tmps.size (some G) K) Q := by
  simp only [aop, ho] at h
  have hx := S.eval x
  have hy := S.eval y
  split at h
  · next cs ds hcs hds =>
    rw [hcs] at hx
    rw [hds] at hy
    obtain ⟨us1, e1, A1⟩ := hx
    obtain ⟨us2, e2, A2⟩ := hy
    split at h
    · obtain ⟨vs, h1, k1⟩ := vals_sound (B := w0.B) (G := G) (w := w) h
      obtain ⟨us, h2, k2⟩ := vals_sound (B := w0.B) (G := G) (w := w) h1
      obtain ⟨hg, b, hr, h3⟩ := eqS_iff.1 h2
      rw [k1 us1 A1] at e1
      rw [k2 us2 A2] at e2
      refine val_wp (u := .bool b) (w' := w) ?_ (put_sound S hd (v := .bool b) (RepV.bool b) (Kp.refl G) h3)
      simp only [execOp, ho, e1, e2, Sem.run_bind, run_eqGuard_agg w _ _ _ _ _ _ hg, Result.andThen_ok, run_eql_struct, hr, Sem.run_pure]
    · obtain ⟨vs, h1, k1⟩ := vals_sound (B := w0.B) (G := G) (w := w) h
      obtain ⟨us, h2, k2⟩ := vals_sound (B := w0.B) (G := G) (w := w) h1
      obtain ⟨hg, b, hr, h3⟩ := eqS_iff.1 h2
      rw [k1 us1 A1] at e1
      rw [k2 us2 A2] at e2
      refine val_wp (u := .bool (!b)) (w' := w) ?_ (put_sound S hd (v := .bool (!b)) (RepV.bool _) (Kp.refl G) h3)
      simp only [execOp, ho, e1, e2, Sem.run_bind, run_eqGuard_agg w _ _ _ _ _ _ hg, Result.andThen_ok, run_neq_struct, hr, Sem.run_pure]
    · exact h.elim
  · exact aval_wp hT S o hd (Kp.refl G) (by rw [ho]; exact h)
theorem sound_makeMap (S : Sim tt w0 G s a w) (o : Oper) (hd : ∀ x, o.dst = some x → x < a.tmps.size) {K : St → Prop} {t : Nat} {r : Option Operand} (ho : o.op = .makeMap t r) (h : aop P T tt o K s) : o.wp P a w (Nxt tt w0 a.tmps.size (some G) K) Q := by
  simp only [aop, ho] at h
  split at h
  · next d hdd =>
    have hb : ∀ b, b < w.heap.size → (w.alloc (.map #[] 0)).heap[b]? = w.heap[b]? := fun b hb => Below.heap_alloc _ _ _ hb
    have S1 := S.setOwn (w' := w.alloc (.map #[] 0)) d (.slice (some ⟨w.heap.size, 0, none⟩) 0 0) (by simp) (fun b h _ => hb b h) (fun b h => by
      simp only [Value.ownBlock, Option.some.injEq] at h
      exact .inr ⟨by omega, by simp; omega⟩) (S.chg.alloc _)
    refine val_wp (u := .map (some w.heap.size)) (w' := w.alloc (.map #[] 0)) ?_ ?_
    · simp only [execOp, ho, Option.map_none, Instr.makeMap, newObj, Sem.run_bind, Sem.run, Result.andThen_ok, Sem.run_pure]
      rfl
    · rw [hdd]
      rcases mkMapS_iff.1 h with h | h
      · exact ⟨_, _, S1.put (v := .mp d (.b [])) (hd d hdd) ⟨w.heap.size, #[], 0, upd_same, rfl, heap_alloc_new w _, rfl⟩, size_put, h, (Kp.refl G).of rfl rfl⟩
      · exact ⟨_, _, S1.put (v := .mp d (.i [])) (hd d hdd) ⟨w.heap.size, #[], 0, upd_same, rfl, heap_alloc_new w _, rfl⟩, size_put, h, (Kp.refl G).of rfl rfl⟩
  · exact h.elim
theorem sound_lookup (S : Sim tt w0 G s a w) (o : Oper) (hd : ∀ x, o.dst = some x → x < a.tmps.size) {K : St → Prop} {t : Nat} {x k : Operand} {ok : Bool} (ho : o.op = .lookup t x k ok) (h : aop P T tt o K s) : o.wp P a w (Nxt tt w0 a.tmps.size (some G) K) Q := by
  simp only [aop, ho] at h
  have hx := S.eval x
  have hk := S.eval k
  split at h
  · next tg kvs n hxe hke =>
    rw [hxe] at hx
    rw [hke] at hk
    rw [mapTy_iff] at h
    obtain ⟨⟨kt, et, h1, h2, h3⟩, h4⟩ := h
    obtain ⟨b, es, c, m1, m2, m3, m4⟩ := (show MpRep G w tg (.b kvs) (a.eval x) from hx)
    have hr := run_lookup (P := P) (g := Value.bool) (z := false) (n := n) (ok := ok) h1 h2 h3 m3 m4
    refine val_wp (u := bif ok then .tuple #[.bool ((mget n kvs).getD false), .bool (mget n kvs).isSome] else .bool ((mget n kvs).getD false)) (w' := w) ?_ ?_
    · simp only [execOp, ho, m2, hk.int_inv, Sem.run_bind, hr, Result.andThen_ok, Sem.run_pure]
    · refine put_sound S hd (v := bif ok then .tup [.bool ((mget n kvs).getD false), .bool (mget n kvs).isSome] else .bool ((mget n kvs).getD false)) ?_ (Kp.refl G) h4
      cases ok with
      | true => exact ⟨[.bool _, .bool _], rfl, RepV.bool _, RepV.bool _, trivial⟩
      | false => exact RepV.bool _
  · next tg kvs n hxe hke =>
    rw [hxe] at hx
    rw [hke] at hk
    rw [mapTy_iff] at h
    obtain ⟨⟨kt, et, h1, h2, h3⟩, h4⟩ := h
    obtain ⟨b, es, c, m1, m2, m3, m4⟩ := (show MpRep G w tg (.i kvs) (a.eval x) from hx)
    have hr := run_lookup (P := P) (g := Value.int .i64) (z := 0) (n := n) (ok := ok) h1 h2 h3 m3 m4
    refine val_wp (u := bif ok then .tuple #[.int .i64 ((mget n kvs).getD 0), .bool (mget n kvs).isSome] else .int .i64 ((mget n kvs).getD 0)) (w' := w) ?_ ?_
    · simp only [execOp, ho, m2, hk.int_inv, Sem.run_bind, hr, Result.andThen_ok, Sem.run_pure]
    · refine put_sound S hd (v := bif ok then .tup [.int .i64 ((mget n kvs).getD 0), .bool (mget n kvs).isSome] else .int .i64 ((mget n kvs).getD 0)) ?_ (Kp.refl G) h4
      cases ok with
      | true => exact ⟨[.int .i64 _, .bool _], rfl, RepV.int _ _, RepV.bool _, trivial⟩
      | false => exact RepV.int _ _
  · exact h.elim
theorem upd_map (S : Sim tt w0 G s a w) (o : Oper) {K : St → Prop} {t : Nat} {x k y : Operand} (ho : o.op = .mapUpdate t x k y) {α : Type} {g : α → Value} {mk : List (Int × α) → Kv} (hmk : ∀ l, (mk l).vals = l.map fun p => (Value.int .i64 p.1, g p.2)) {tg : Nat} {kvs : List (Int × α)} {n : Int} {v : α} {z : Value}
    (hxe : s.eval x = .mp tg (mk kvs)) (hkn : a.eval k = .int .i64 n) (hyv : a.eval y = g v) (hdd : o.dst = none) (h : mapTy P t z (K (s.map (mapF tg (mk (mput n v kvs)))))) : o.wp P a w (Nxt tt w0 a.tmps.size (some G) K) Q := by
  have hx := S.eval x
  rw [hxe] at hx
  rw [mapTy_iff] at h
  obtain ⟨⟨kt, et, h1, h2, h3⟩, h4⟩ := h
  obtain ⟨b, es, c, m1, m2, m3, m4⟩ := (show MpRep G w tg (mk kvs) (a.eval x) from hx)
  rw [hmk] at m4
  obtain ⟨es', c', r1, r2⟩ := run_update (P := P) (g := g) (n := n) (v := v) h1 h2 m3 m4
  have hlt : b < w.heap.size := (Array.getElem?_eq_some_iff.1 m3).1
  have hne : ∀ b', b' ≠ b → ({ w with heap := w.heap.setIfInBounds b (.map es' c') } : World).heap[b']? = w.heap[b']? := fun b' hb' => by
    simp only [Array.getElem?_setIfInBounds]
    rw [if_neg (fun e => hb' e.symm)]
  have hbn : Nw w0 b := (S.ownLt tg _ b m1 rfl).1
  have hchg : Chg (CX w0 G) w0 { w with heap := w.heap.setIfInBounds b (.map es' c') } :=
    ⟨S.chg.os, S.chg.tape, S.chg.output, by simpa using S.chg.size, fun b' hb' hX => (hne b' (fun e => hbn.elim (fun h => by omega) fun h => hX (.inr (e ▸ h)))).trans (S.chg.block b' hb' hX)⟩
  have S1 := S.storeMap (es := es') (c := c') (kvs := mk (mput n v kvs)) m1 hne (by simp [hlt]) (by simp) (by rw [hmk]; exact r2) hchg
  refine skip_wp hdd (w' := { w with heap := w.heap.setIfInBounds b (.map es' c') }) ?_ ⟨_, _, S1, rfl, h4, (Kp.refl G).of rfl rfl⟩
  simp only [execOp, ho, m2, hkn, hyv, Sem.run_bind, r1, Result.andThen_ok, Sem.run_pure]
theorem sound_update (S : Sim tt w0 G s a w) (o : Oper) {K : St → Prop} {t : Nat} {x k y : Operand} (ho : o.op = .mapUpdate t x k y) (h : aop P T tt o K s) : o.wp P a w (Nxt tt w0 a.tmps.size (some G) K) Q := by
  simp only [aop, ho] at h
  have hk := S.eval k
  have hy := S.eval y
  split at h
  · next tg kvs n v hxe hke hye hdd =>
    rw [hke] at hk
    rw [hye] at hy
    exact upd_map S o ho (g := Value.bool) (mk := Kv.b) (fun l => rfl) hxe hk.int_inv hy.bool_inv hdd h
  · next tg kvs n v hxe hke hye hdd =>
    rw [hke] at hk
    rw [hye] at hy
    exact upd_map S o ho (g := Value.int .i64) (mk := Kv.i) (fun l => rfl) hxe hk.int_inv hy.int_inv hdd h
  · exact h.elim
theorem sound_lenMap (S : Sim tt w0 G s a w) (o : Oper) (hd : ∀ x, o.dst = some x → x < a.tmps.size) {K : St → Prop} {c : Call} (ho : o.op = .call c) (hc : c.callee = .builtin .len) {t t' : Nat} {kvs : Kv} (he : evals s c.args.toList = [.mp t kvs]) (ht : c.argTypes.toList = [t']) (h : mapTy P t' kvs.zero (putK s o.dst (.int .i64 kvs.size) K)) : o.wp P a w (Nxt tt w0 a.tmps.size (some G) K) Q := by
  have hA := S.evals c.args.toList
  rw [he] at hA
  obtain ⟨u, us, hu, h1, h2⟩ := hA.cons_inv
  obtain rfl := h2.nil_inv
  obtain ⟨b, es, n, m1, rfl, m3, m4⟩ := (show MpRep G w t kvs u from h1)
  have eargs : c.args.map a.eval = (c.args.toList.map a.eval).toArray := by cases c.args; simp
  obtain ⟨⟨kt, et, k1, k2, k3⟩, h4⟩ := mapTy_iff.1 h
  have hl : es.size = kvs.size := by
    have := congrArg List.length m4
    cases kvs <;> simpa [Kv.vals, Kv.size] using this
  refine val_wp (u := .int .i64 (kvs.size : Int)) (w' := w) ?_ (put_sound S hd (v := .int .i64 kvs.size) (RepV.int _ _) (Kp.refl G) h4)
  simp [execOp, ho, resolve, invoke, builtin, hc, eargs, hu, Builtin.len_, arr_one ht, run_underlying k1, run_obj m3, goInt, hl, Sem.run_bind]
end
end Go.Proofs.Ythgnomniboindaa
end

/- A plain interpreter, part 15: operations, regions and code: the model does what the interpreter says. -/
section
namespace Go.Proofs.Ythgnomniboindaa
set_option linter.unusedVariables false
set_option linter.unusedSimpArgs false
set_option linter.unnecessarySimpa false
set_option linter.unusedSectionVars false
open Go.RowKit

section
variable {P : Program} {T : Nat → Ty} {tt : Nat} {w0 : En} {w w' : World} {G : Gh} {s : St} {a : Act} {B : Nat} {Q : Exit → Act → World → Prop}
def kp (o : Oper) (G : Gh) : Option Gh := match o.op with | .store _ _ _ => none | _ => some G
theorem aop_sound (hT : TabOk P T) (S : Sim tt w0 G s a w) (o : Oper) (hd : ∀ x, o.dst = some x → x < a.tmps.size) {K : St → Prop} (h : aop P T tt o K s) : o.wp P a w (Nxt tt w0 a.tmps.size (kp o G) K) Q := by
  unfold kp
  cases ho : o.op
  case box t x => exact sound_box (T := T) S o hd ho h
  case alloc t => exact sound_alloc hT S o hd ho h
  case store t x y => exact Oper.wp_mono (fun _ _ h => h.weaken) (sound_store hT S o ho h)
  case load t x => exact sound_load hT S o hd ho h
  case buildSlice t n parts => exact sound_buildSlice hT S o hd ho h
  case makeSlice t l c => exact sound_makeSlice hT S o hd ho h
  case slice t x lo hi mx => exact sound_slice hT S o hd ho h
  case binOp op t x y yt => exact sound_binOp hT S o hd ho h
  case makeMap t r => exact sound_makeMap (T := T) S o hd ho h
  case lookup t x k ok => exact sound_lookup (T := T) S o hd ho h
  case mapUpdate t x k y => exact sound_update (T := T) S o ho h
  case call c =>
    cases hc : c.callee
    case value f => exact sound_call (T := T) S o hd ho hc h
    case invoke r m => exact aval_wp hT S o hd (Kp.refl G) (by simp only [aop, ho, hc] at h; rw [ho]; exact h)
    case builtin b =>
      cases b
      case append => exact sound_append hT S o hd ho hc h
      case copy => exact sound_copy hT S o hd ho hc h
      case len =>
        simp only [aop, ho, hc] at h
        split at h
        · next t kvs t' he ht => exact sound_lenMap S o hd ho hc he ht h
        · exact aval_wp hT S o hd (Kp.refl G) (by rw [ho]; exact h)
      all_goals exact aval_wp hT S o hd (Kp.refl G) (by simp only [aop, ho, hc] at h; rw [ho]; exact h)
  all_goals exact aval_wp hT S o hd (Kp.refl G) (by simp only [aop, ho] at h; rw [ho]; exact h)
theorem aopE_sound (hT : TabOk P T) {ops : Array Oper} (S : Sim tt w0 G s a w) (o : Oper) {K : St → Prop} (h : aopE P T tt ops o K s) :
    Region.wanted o (yielded ops a.tmps) = true ∧ o.wp P a w (Nxt tt w0 a.tmps.size (some G) K) Q := by
  unfold aopE at h
  split at h
  · next hg =>
    refine ⟨by simp [Region.wanted, hg], ?_⟩
    have he := h.1
    unfold isElem at he
    split at he
    · next t x y ho =>
      have key := sound_store (Q := Q) hT S o ho h.2
      split at he
      · next hb => rwa [show kpS s x G = some G by simp only [kpS, hb]] at key
      · next hb => rwa [show kpS s x G = some G by simp only [kpS, hb]] at key
      · exact he.elim
    · exact he.elim
  · exact h.elim
theorem aopG_sound (hT : TabOk P T) {ops : Array Oper} (S : Sim tt w0 G s a w) (o : Oper) (hd : ∀ x, o.dst = some x → x < a.tmps.size) {K : St → Prop} (h : aopG P T tt ops o K s) :
    if Region.wanted o (yielded ops a.tmps) = true then o.wp P a w (Nxt tt w0 a.tmps.size (kp o G) K) Q else Nxt tt w0 a.tmps.size (some G) K (a.put o.dst undef) w := by
  unfold aopG guardOf at h
  split at h
  · next hg =>
    have hw : Region.wanted o (yielded ops a.tmps) = true := by simp [Region.wanted, hg]
    rw [if_pos hw]
    exact aop_sound hT S o hd h
  · next j want hg =>
    split at h
    · next oj hj =>
      split at h
      · next d hdj =>
        split at h
        · next b hb =>
          have hr := S.eval (.tmp d)
          rw [hb] at hr
          have hu : a.tmps.getD d undef = .bool b := hr.bool_inv
          have hy : yielded ops a.tmps j = some b := by
            have : a.tmps[d]? = some (.bool b) := by
              simp only [Array.getD_eq_getD_getElem?] at hu
              cases hx : a.tmps[d]? with
              | none => rw [hx] at hu; simp [undef] at hu
              | some v => rw [hx] at hu; simpa using hu
            simp [yielded, hj, hdj, this]
          have hw : Region.wanted o (yielded ops a.tmps) = (b == want) := by
            simp only [Region.wanted, hg, hy]
            cases b <;> cases want <;> rfl
          simp only [branch_iff] at h
          cases b with
          | true =>
            have h1 := h.1 rfl
            have S1 := S.know' (d := d) hb hr
            cases want with
            | true => rw [if_pos (by rw [hw]; rfl)]; exact aop_sound hT S1 o hd h1
            | false => rw [if_neg (by rw [hw]; decide)]; exact put_sound S1 hd (v := .tup []) ⟨[], rfl, trivial⟩ (Kp.refl G) h1
          | false =>
            have h1 := h.2 rfl
            have S1 := S.know' (d := d) hb hr
            cases want with
            | true => rw [if_neg (by rw [hw]; decide)]; exact put_sound S1 hd (v := .tup []) ⟨[], rfl, trivial⟩ (Kp.refl G) h1
            | false => rw [if_pos (by rw [hw]; rfl)]; exact aop_sound hT S1 o hd h1
        · next vs hb =>
          have hr := S.eval (.tmp d)
          rw [hb] at hr
          obtain ⟨us, hu0, _⟩ := hr
          have hu : a.tmps.getD d undef = .tuple us.toArray := hu0
          have hy : yielded ops a.tmps j = none := by
            simp only [Array.getD_eq_getD_getElem?] at hu
            cases hx : a.tmps[d]? with
            | none => simp [yielded, hj, hdj, hx]
            | some v =>
              rw [hx] at hu
              simp only [Option.getD_some] at hu
              subst hu
              simp [yielded, hj, hdj, hx]
          have hw : Region.wanted o (yielded ops a.tmps) = false := by simp [Region.wanted, hg, hy]
          rw [if_neg (by rw [hw]; decide)]
          exact put_sound S hd (v := .tup []) ⟨[], rfl, trivial⟩ (Kp.refl G) h
        · exact h.elim
      · exact h.elim
    · exact h.elim

theorem bytes_flat {X : Nat → Prop} : ∀ {ns : List Int} {dss : List (List Value)}, All2 (fun ds cs => ds.length = 1 ∧ All2 (RepV w X) ds cs) (ns.map fun n => [AV.int .u8 n]) dss → dss.flatten = ns.map (Value.int .u8)
  | [], dss, h => by
    obtain rfl := h.nil_inv
    rfl
  | n :: ns, dss, h => by
    obtain ⟨c, cs, rfl, ⟨-, h1⟩, h2⟩ := h.cons_inv
    obtain ⟨u, us, rfl, h3, h4⟩ := h1.cons_inv
    obtain rfl := h4.nil_inv
    cases h3
    simp [bytes_flat h2]
theorem sound_toStr (hT : TabOk P T) (S : Sim tt w0 G s a w) (o : Oper) (hd : ∀ x, o.dst = some x → x < a.tmps.size) {K : St → Prop} {src dst e : Nat} {x : Operand} (ho : o.op = .convert src dst x) (he : (T src).elem = some e)
    (hk : ((T dst).isStr && (T src).ok && (T dst).ok && (T e).ok && isU8 (T e).kind) = true) (h : srcK 1 (s.eval x) fun es => toStr es fun b => putK s o.dst (.str b) K) : o.wp P a w (Nxt tt w0 a.tmps.size none K) Q := by
  simp only [Bool.and_eq_true] at hk
  obtain ⟨⟨⟨⟨k1, k2⟩, k3⟩, k4⟩, k5⟩ := hk
  obtain ⟨es, A, c, dss, m1, hu, m3, m4, m5⟩ := src_sound h (S.eval x)
  obtain ⟨ns, rfl, hK⟩ := m1.out
  have hf := bytes_flat m3
  obtain ⟨i1, d1, q1, q2, -, -, -, q3, -⟩ := ty_at hT k2
  obtain ⟨i2, d2, r1, r2, -, -, -, -, -, -, -, -, r3, -⟩ := ty_at hT k3
  obtain ⟨i3, d3, t1, t2, -, -, -, -, -, -, t3, -⟩ := ty_at hT k4
  have e1 : d1 = .slice e := by
    rw [q3] at he
    cases d1 <;> simp [elemD] at he
    rw [he]
  have e2 : d2 = .string := by
    rw [r3] at k1
    cases d2 <;> simp [strD] at k1
    rfl
  have e3 : d3 = .int .u8 := by
    rw [t3] at k5
    cases d3 <;> simp [kindD, isU8] at k5
    next k => cases k <;> simp at k5 <;> rfl
  subst e1 e2 e3
  have hrun : (execOp a.eval o).run P w = .ok (.value (.string (strOf ns))) w := by
    have hc := run_convert_bytes_string (P := P) w src dst e A (ns.map fun n => [AV.int .u8 n]).length c q2 t2 r2
    have hb : (Conv.bytesToString (.slice A (ns.map fun n => [AV.int .u8 n]).length c)).run P w = .ok (.string (strOf ns)) w := by
      cases A with
      | none =>
        have h0 := m4 rfl
        have : ns = [] := by simpa using h0
        subst this
        simp [Conv.bytesToString, strOf, Sem.run_pure]
      | some ad =>
        refine run_bytesToString w ad _ c ns ?_
        have := run_loadCellsFrom (P := P) ad w (ns.map fun n => [AV.int .u8 n]).length 0 (ns.map (Value.int .u8)) #[] (by simp) (fun j v hv => by rw [Nat.zero_add]; exact m5 ad rfl j v (by rw [hf]; exact hv))
        simpa [loadCells] using this
    simp only [execOp, ho, hu, Sem.run_bind, hc, hb, Result.andThen_ok, Sem.run_pure]
  refine val_wp hrun ?_
  exact put_sound S hd (v := .str (strOf ns)) (.str _) Kp.none hK
theorem aopX_sound (hT : TabOk P T) (S : Sim tt w0 G s a w) (o : Oper) (hd : ∀ x, o.dst = some x → x < a.tmps.size) {K : St → Prop} (h : aopX P T tt o K s) : o.wp P a w (Nxt tt w0 a.tmps.size none K) Q := by
  have plain : aop P T tt o K s → o.wp P a w (Nxt tt w0 a.tmps.size none K) Q := fun h => Oper.wp_mono (fun _ _ h => h.weaken) (aop_sound hT S o hd h)
  unfold aopX at h
  split at h
  · next c ho =>
    split at h
    · next f hc =>
      split at h
      · rcases callS_iff.1 h with h | h
        · exact plain h
        · exact sound_mcall S o hd ho hc h
      · by_cases hm : mcall P tt f c.args.toList o.dst K s
        · exact sound_mcall S o hd ho hc hm
        · rw [eq_false hm] at h
          refine plain ?_
          simp only [aop, ho, hc]
          exact h
    · exact plain h
  · next src dst x ho =>
    split at h
    · next e he =>
      split at h
      · next hk => exact sound_toStr hT S o hd ho he hk h
      · exact plain h
    · exact plain h
  · exact plain h
theorem aopXG_sound (hT : TabOk P T) {ops : Array Oper} (S : Sim tt w0 G s a w) (o : Oper) (hd : ∀ x, o.dst = some x → x < a.tmps.size) {K : St → Prop} (h : aopXG P T tt ops o K s) :
    if Region.wanted o (yielded ops a.tmps) = true then o.wp P a w (Nxt tt w0 a.tmps.size none K) Q else Nxt tt w0 a.tmps.size none K (a.put o.dst undef) w := by
  unfold aopXG guardOf at h
  split at h
  · next hg =>
    have hw : Region.wanted o (yielded ops a.tmps) = true := by simp [Region.wanted, hg]
    rw [if_pos hw]
    exact aopX_sound hT S o hd h
  · next j want hg =>
    split at h
    · next oj hj =>
      split at h
      · next d hdj =>
        split at h
        · next b hb =>
          have hr := S.eval (.tmp d)
          rw [hb] at hr
          have hu : a.tmps.getD d undef = .bool b := hr.bool_inv
          have hy : yielded ops a.tmps j = some b := by
            have : a.tmps[d]? = some (.bool b) := by
              simp only [Array.getD_eq_getD_getElem?] at hu
              cases hx : a.tmps[d]? with
              | none => rw [hx] at hu; simp [undef] at hu
              | some v => rw [hx] at hu; simpa using hu
            simp [yielded, hj, hdj, this]
          have hw : Region.wanted o (yielded ops a.tmps) = (b == want) := by
            simp only [Region.wanted, hg, hy]
            cases b <;> cases want <;> rfl
          simp only [branch_iff] at h
          cases b with
          | true =>
            have h1 := h.1 rfl
            have S1 := S.know' (d := d) hb hr
            cases want with
            | true => rw [if_pos (by rw [hw]; rfl)]; exact aopX_sound hT S1 o hd h1
            | false => rw [if_neg (by rw [hw]; decide)]; exact put_sound S1 hd (v := .tup []) ⟨[], rfl, trivial⟩ Kp.none h1
          | false =>
            have h1 := h.2 rfl
            have S1 := S.know' (d := d) hb hr
            cases want with
            | true => rw [if_neg (by rw [hw]; decide)]; exact put_sound S1 hd (v := .tup []) ⟨[], rfl, trivial⟩ Kp.none h1
            | false => rw [if_pos (by rw [hw]; rfl)]; exact aopX_sound hT S1 o hd h1
        · next vs hb =>
          have hr := S.eval (.tmp d)
          rw [hb] at hr
          obtain ⟨us, hu0, _⟩ := hr
          have hu : a.tmps.getD d undef = .tuple us.toArray := hu0
          have hy : yielded ops a.tmps j = none := by
            simp only [Array.getD_eq_getD_getElem?] at hu
            cases hx : a.tmps[d]? with
            | none => simp [yielded, hj, hdj, hx]
            | some v =>
              rw [hx] at hu
              simp only [Option.getD_some] at hu
              subst hu
              simp [yielded, hj, hdj, hx]
          have hw : Region.wanted o (yielded ops a.tmps) = false := by simp [Region.wanted, hg, hy]
          rw [if_neg (by rw [hw]; decide)]
          exact put_sound S hd (v := .tup []) ⟨[], rfl, trivial⟩ Kp.none h
        · exact h.elim
      · exact h.elim
    · exact h.elim

/-- What is to be shown of code: where it comes out, a state stands for what is there. -/
def Out (tt : Nat) (w0 : En) (n : Nat) (Q : Ex → St → Prop) : Exit → Act → World → Prop
  | .normal, a, w => Nxt tt w0 n none (Q .norm) a w
  | .exit i, a, w => Nxt tt w0 n none (Q (.exit i)) a w
  | .ret, a, w => Nxt tt w0 n none (Q .ret) a w
  | _, _, _ => False
def dstOk (n : Nat) (o : Oper) : Bool := match o.dst with | some d => Nat.blt d n | none => true
def opsOk (n : Nat) : List Oper → Bool
  | [] => true
  | o :: os => dstOk n o && opsOk n os
theorem opsOk_at {n : Nat} : ∀ {os : List Oper} {i : Nat} {o : Oper}, opsOk n os = true → os[i]? = some o → ∀ x, o.dst = some x → x < n
  | [], i, o, _, h, x, hx => by simp at h
  | o' :: os, 0, o, hk, h, x, hx => by
    simp only [opsOk, Bool.and_eq_true] at hk
    simp only [List.getElem?_cons_zero, Option.some.injEq] at h
    subst h
    have := hk.1
    simp only [dstOk, hx] at this
    simpa using this
  | o' :: os, i + 1, o, hk, h, x, hx => by
    simp only [opsOk, Bool.and_eq_true] at hk
    exact opsOk_at hk.2 (by simpa using h) x hx
theorem aops_sound (hT : TabOk P T) {ops : Array Oper} {n : Nat} (hok : opsOk n ops.toList = true) {K : St → Prop} : ∀ (m k : Nat), k + m = ops.size → ∀ (G : Gh) (s : St) (a : Act) (w : World), a.tmps.size = n → Sim tt w0 G s a w → aops P T tt ops (ops.toList.drop k) K s →
    wpOps P ops (fun e a w => match e with | .normal => Nxt tt w0 n none K a w | _ => False) (List.range' k m) a w
  | 0, k, hk, G, s, a, w, hn, S, h => by
    rw [List.drop_of_length_le (by simp; omega)] at h
    exact ⟨G, s, S, hn, h, Kp.none⟩
  | m + 1, k, hk, G, s, a, w, hn, S, h => by
    have hlt : k < ops.size := by omega
    rw [List.drop_eq_getElem_cons (by simpa using hlt)] at h
    simp only [aops] at h
    rw [List.range'_succ, wpOps_cons]
    have ho : ops[k]? = some ops[k] := Array.getElem?_eq_getElem hlt
    unfold wpOp
    simp only [ho]
    have hd := opsOk_at hok (show ops.toList[k]? = some ops[k] by simpa using ho)
    have key := aopXG_sound (P := P) (Q := fun e a w => match e with | .normal => Nxt tt w0 n none K a w | _ => False) hT S ops[k] (by rw [hn]; exact hd) h
    have nx : ∀ F a' w', Nxt tt w0 a.tmps.size F (fun s' => aops P T tt ops (ops.toList.drop (k + 1)) K s') a' w' → wpOps P ops (fun e a w => match e with | .normal => Nxt tt w0 n none K a w | _ => False) (List.range' (k + 1) m) a' w' := fun F a' w' ⟨G', s', S', hn', h', _⟩ =>
      aops_sound hT hok m (k + 1) (by omega) G' s' a' w' (hn'.trans hn) S' h'
    split
    · next hw =>
      rw [if_pos hw] at key
      exact .inl (Oper.wp_mono (nx _) key)
    · next hw =>
      rw [if_neg hw] at key
      exact nx _ _ _ key
end
end Go.Proofs.Ythgnomniboindaa
end

/- A plain interpreter, part 16: regions that draw their order. -/
section
namespace Go.Proofs.Ythgnomniboindaa
set_option linter.unusedVariables false
set_option linter.unusedSimpArgs false
set_option linter.unnecessarySimpa false
set_option linter.unusedSectionVars false
open Go.RowKit

section
variable {P : Program} {ops : Array Oper} {Q : Exit → Act → World → Prop} {S : World → Prop} {m : Nat}
/-- Whatever order is picked, and S holds behind every operation below m. -/
def wpD (P : Program) (ops : Array Oper) (Q : Exit → Act → World → Prop) (S : World → Prop) (m : Nat) : Nat → Array Bool → Act → World → Prop
  | 0, l, a, w => Region.ready .any ops l = [] ∧ Q .normal a w
  | fuel + 1, l, a, w => (Region.ready .any ops l = [] → Q .normal a w) ∧ ∀ i ∈ Region.ready .any ops l, wpOp P ops Q i (fun a' w' => (i < m → S w') ∧ wpD P ops Q S m fuel (l.setIfInBounds i true) a' w') a w
theorem wpAny_of_D : ∀ (fuel : Nat) (l : Array Bool) (a : Act) (w : World), wpD P ops Q S m fuel l a w → wpAny P .any ops Q fuel l a w
  | 0, _, _, _, h => h
  | fuel + 1, _, _, _, h => ⟨h.1, fun i hi => wpOp_mono (fun a' w' h' => wpAny_of_D fuel _ a' w' h'.2) (h.2 i hi)⟩
theorem D_first {i : Nat} {oi : Oper} {v : Value} {Y : World → Prop} (hi : ops[i]? = some oi) (hsel : ∀ (j : Nat) (o : Oper) cs b, ops[j]? = some o → o.op ≠ .select cs b)
    (hQ : ∀ c a w, Q (.panic c) (a.put oi.dst v) w → Q (.panic c) a w)
    (hm : i < m → ∀ (j : Nat) (oj : Oper), ops[j]? = some oj → (∀ e ∈ oj.after, Region.binds .any e = true → e.on ≠ i) → j < m) (hY : (∀ w, Y w) ∨ (i < m ∧ ∀ w, S w → Y w)) :
    ∀ (fuel : Nat) (l : Array Bool) (a : Act) (w : World),
      (∀ j oj, ops[j]? = some oj → j ≠ i → l.getD j true = false → (∀ e ∈ oj.after, Region.binds .any e = true → e.on ≠ i) → oi.apart ops oj = true) →
      i ∈ Region.ready .any ops l → YieldsIf P ops Y oi v a → Y w → (i < m → S w) → wpD P ops Q S m fuel (l.setIfInBounds i true) (a.put oi.dst v) w → wpD P ops Q S m (fuel + 1) l a w := by
  intro fuel
  induction fuel with
  | zero =>
    intro l a w _ hr hy hYw hS H
    refine ⟨fun h => (by rw [h] at hr; cases hr), fun j hj => ?_⟩
    by_cases hji : j = i
    · subst hji; exact hy.wpOp hi hYw ⟨hS, H⟩
    · have := ready_mono hj hji
      rw [H.1] at this
      cases this
  | succ fuel ih =>
    intro l a w hfree hr hy hYw hS H
    refine ⟨fun h => (by rw [h] at hr; cases hr), fun j hj => ?_⟩
    by_cases hji : j = i
    · subst hji; exact hy.wpOp hi hYw ⟨hS, H⟩
    · have h1 := H.2 j (ready_mono hj hji)
      obtain ⟨hjun, oj, hoj, hall⟩ := mem_ready.1 hj
      have hnot : ∀ e ∈ oj.after, Region.binds .any e = true → e.on ≠ i := fun e he hb heq => by
        have h1 := hall e he hb
        have h0 := (mem_ready.1 hr).1
        rw [heq] at h1
        rcases Nat.lt_or_ge i l.size with h' | h'
        · simp [h'] at h0 h1; rw [h0] at h1; cases h1
        · simp [Array.getElem?_eq_none h'] at h1
      have h2 := wpOp_putIf hoj (hfree j oj hoj hji hjun hnot) (fun cs b => hsel i oi cs b hi) (fun cs b => hsel j oj cs b hoj) hQ hy h1
      have hfree' : ∀ k ok, ops[k]? = some ok → k ≠ i → (l.setIfInBounds j true).getD k true = false →
          (∀ e ∈ ok.after, Region.binds .any e = true → e.on ≠ i) → oi.apart ops ok = true := fun k ok hk hki hun hno => by
        refine hfree k ok hk hki ?_ hno
        by_cases hjk : j = k
        · subst hjk; exact hjun
        · rw [getD_set_ne true hjk] at hun; exact hun
      refine wpOp_mono (fun a' w' h3 => ⟨h3.2.1, ih (l.setIfInBounds j true) a' w' hfree' (ready_mono hr (Ne.symm hji)) h3.1 ?_ (fun h => h3.2.1 (hm h j oj hoj hnot)) ?_⟩) h2
      · rcases hY with h | ⟨h, h'⟩
        · exact h w'
        · exact h' w' (h3.2.1 (hm h j oj hoj hnot))
      · rw [Array.setIfInBounds_comm _ _ hji]
        exact h3.2.2
theorem D_done {l : Array Bool} {a : Act} {w : World} (hr : Region.ready .any ops l = []) (h : Q .normal a w) : ∀ fuel, wpD P ops Q S m fuel l a w
  | 0 => ⟨hr, h⟩
  | _ + 1 => ⟨fun _ => h, by rw [hr]; simp⟩
def Q1 {α : Type} (w : World) (r : Result α) : Prop := (∃ u, r = .ok u w) ∨ ∃ h w', r = .halt h w'
theorem Q1.bind {α β : Type} {x : Sem α} {f : α → Sem β} {w : World} (h : Q1 w (x.run P w)) (k : ∀ u, Q1 w ((f u).run P w)) : Q1 w ((x >>= f).run P w) := by
  rw [Sem.run_bind]
  rcases h with ⟨u, h⟩ | ⟨e, w', h⟩
  · rw [h]; exact k u
  · rw [h]; exact .inr ⟨e, w', rfl⟩
theorem q1_pure {α : Type} {a : α} {w : World} : Q1 w ((pure a : Sem α).run P w) := .inl ⟨a, rfl⟩
theorem q1_load {a : Addr} {w : World} : Q1 w ((load a).run P w) := by
  rw [run_load]
  split
  · exact .inl ⟨_, rfl⟩
  · split
    · exact .inl ⟨_, rfl⟩
    · exact .inr ⟨_, _, rfl⟩
theorem q1_under {t : TypeId} {w : World} : Q1 w ((underlying t).run P w) := by
  unfold underlying
  refine Q1.bind (.inl ⟨P, rfl⟩) fun u => ?_
  split
  · exact q1_pure
  · exact .inr ⟨_, _, rfl⟩
theorem q1_cells {a : Addr} {w : World} : ∀ {n i : Nat} {acc : Array Value}, Q1 w ((loadCellsFrom a i n acc).run P w)
  | 0, i, acc => q1_pure
  | n + 1, i, acc => Q1.bind q1_load fun u => q1_cells
theorem q1_size {t : TypeId} {w : World} : Q1 w ((sizeOf t).run P w) := by
  unfold sizeOf typeInfo
  refine Q1.bind ?_ fun u => q1_pure
  refine Q1.bind (.inl ⟨P, rfl⟩) fun u => ?_
  split
  · exact q1_pure
  · exact .inr ⟨_, _, rfl⟩
theorem q1_agg {t : TypeId} {w : World} : Q1 w ((isAgg t).run P w) := by
  unfold isAgg
  refine Q1.bind q1_under fun u => ?_
  split <;> exact q1_pure
theorem q1_loadAt {t : TypeId} {v : Value} {w : World} : Q1 w ((Instr.loadAt t v).run P w) := by
  unfold Instr.loadAt
  refine Q1.bind ?_ fun u => ?_
  · unfold Instr.sureAddr
    split
    · exact q1_pure
    · exact .inr ⟨_, _, rfl⟩
  · unfold loadVar
    refine Q1.bind q1_agg fun b => ?_
    split
    · exact Q1.bind q1_size fun n => Q1.bind q1_cells fun c => q1_pure
    · exact q1_load
theorem wpOp_same {j : Nat} {oj : Oper} (hj : ops[j]? = some oj) (hl : isLoad oj.op = true) {K : Act → World → Prop} {a : Act} {w : World} (h : wpOp P ops Q j K a w) : wpOp P ops Q j (fun a' w' => w' = w ∧ K a' w') a w := by
  obtain ⟨dst, op, type, pos, after, guard⟩ := oj
  cases op <;> simp only [isLoad, Bool.false_eq_true] at hl
  next t x =>
  unfold wpOp at h ⊢
  simp only [hj] at h ⊢
  split
  · next hw =>
    rw [if_pos hw] at h
    rcases h with h | h
    · left
      unfold Oper.wp at h ⊢
      have hq : Q1 w ((execOp a.eval { dst := dst, op := .load t x, type := type, pos := pos, after := after, guard := guard }).run P w) := Q1.bind q1_loadAt fun u => q1_pure
      have hv : ∀ u w', (execOp a.eval { dst := dst, op := .load t x, type := type, pos := pos, after := after, guard := guard }).run P w = .ok u w' → ∃ v, u = .value v := fun u w' e => by
        simp only [execOp, Sem.run_bind, Sem.run_pure] at e
        cases hr : (Instr.loadAt t (a.eval x)).run P w with
        | ok v w'' => rw [hr] at e; simp only [Result.andThen_ok] at e; injection e with e1 e2; exact ⟨v, e1.symm⟩
        | halt e' w'' => rw [hr] at e; simp [Result.andThen] at e
      rcases hq with ⟨u, hu⟩ | ⟨e, w', hu⟩
      · obtain ⟨v, rfl⟩ := hv u w hu
        rw [hu] at h ⊢
        exact ⟨rfl, h⟩
      · rw [hu] at h ⊢
        cases e <;> exact h
    · exact .inr h
  · next hw =>
    rw [if_neg hw] at h
    exact ⟨trivial, h⟩
/-- A load may be taken first where all that may come up before it are loads. -/
theorem D_quiet {i : Nat} {oi : Oper} {v : Value} (hi : ops[i]? = some oi) (hsel : ∀ (j : Nat) (o : Oper) cs b, ops[j]? = some o → o.op ≠ .select cs b)
    (hQ : ∀ c a w, Q (.panic c) (a.put oi.dst v) w → Q (.panic c) a w) {D : List Nat} :
    ∀ (fuel : Nat) (l : Array Bool) (a : Act) (w : World),
      (∀ j oj, ops[j]? = some oj → j ≠ i → l.getD j true = false → (∀ e ∈ oj.after, Region.binds .any e = true → e.on ≠ i) → oi.apart ops oj = true) →
      (∀ j oj, ops[j]? = some oj → j ≠ i → l.getD j true = false → j ∉ D → isLoad oj.op = true) →
      (∀ j ∈ D, l.getD j true = false ∧ ∃ oj, ops[j]? = some oj ∧ ∃ e ∈ oj.after, Region.binds .any e = true ∧ (e.on = i ∨ e.on ∈ D)) →
      i ∈ Region.ready .any ops l → YieldsIf P ops (fun x => x = w) oi v a → (i < m → S w) → wpD P ops Q S m fuel (l.setIfInBounds i true) (a.put oi.dst v) w → wpD P ops Q S m (fuel + 1) l a w := by
  intro fuel
  induction fuel with
  | zero =>
    intro l a w _ _ _ hr hy hS H
    refine ⟨fun h => (by rw [h] at hr; cases hr), fun j hj => ?_⟩
    by_cases hji : j = i
    · subst hji; exact hy.wpOp hi rfl ⟨hS, H⟩
    · have := ready_mono hj hji
      rw [H.1] at this
      cases this
  | succ fuel ih =>
    intro l a w hfree hq1 hq2 hr hy hS H
    refine ⟨fun h => (by rw [h] at hr; cases hr), fun j hj => ?_⟩
    by_cases hji : j = i
    · subst hji; exact hy.wpOp hi rfl ⟨hS, H⟩
    · have h1 := H.2 j (ready_mono hj hji)
      obtain ⟨hjun, oj, hoj, hall⟩ := mem_ready.1 hj
      have hlisted : ∀ e ∈ oj.after, Region.binds .any e = true → l.getD e.on true = false → False := fun e he hb h0 => by
        have h1 := hall e he hb
        simp only [Array.getD_eq_getD_getElem?] at h0 h1
        cases hx : l[e.on]? with
        | none => rw [hx] at h0; simp at h0
        | some b => rw [hx] at h0 h1; simp at h0 h1; rw [h0] at h1; cases h1
      have hiun := (mem_ready.1 hr).1
      have hnot : ∀ e ∈ oj.after, Region.binds .any e = true → e.on ≠ i := fun e he hb heq => hlisted e he hb (by rw [heq]; exact hiun)
      have hjD : j ∉ D := fun hD => by
        obtain ⟨_, oj', hoj', e, he, hb, h⟩ := hq2 j hD
        rw [hoj] at hoj'
        injection hoj' with hoj'
        subst hoj'
        rcases h with h | h
        · exact hnot e he hb h
        · exact hlisted e he hb (hq2 _ h).1
      have h2 := wpOp_putIf hoj (hfree j oj hoj hji hjun hnot) (fun cs b => hsel i oi cs b hi) (fun cs b => hsel j oj cs b hoj) hQ hy h1
      have h4 := wpOp_same hoj (hq1 j oj hoj hji hjun hjD) h2
      have hset : ∀ k, (l.setIfInBounds j true).getD k true = false → l.getD k true = false := fun k hun => by
        by_cases hjk : j = k
        · subst hjk; exact hjun
        · rw [getD_set_ne true hjk] at hun; exact hun
      refine wpOp_mono (fun a' w' h3 => ?_) h4
      obtain ⟨rfl, h5, h6, h7⟩ := h3
      refine ⟨h6, ih (l.setIfInBounds j true) a' w' (fun k ok hk hki hun hno => hfree k ok hk hki (hset k hun) hno) (fun k ok hk hki hun hD => hq1 k ok hk hki (hset k hun) hD) (fun k hk => ?_) (ready_mono hr (Ne.symm hji)) h5 hS ?_⟩
      · obtain ⟨q1, q2⟩ := hq2 k hk
        refine ⟨?_, q2⟩
        rw [getD_set_ne true (show j ≠ k from fun e => hjD (by rw [e]; exact hk))]
        exact q1
      · rw [Array.setIfInBounds_comm _ _ hji]
        exact h7
theorem quiet_spec {l : Array Bool} {i : Nat} {D : List Nat} (h : quietOk ops l i D = true) :
    (∀ j oj, ops[j]? = some oj → j ≠ i → l.getD j true = false → j ∉ D → isLoad oj.op = true) ∧ (∀ j ∈ D, l.getD j true = false ∧ ∃ oj, ops[j]? = some oj ∧ ∃ e ∈ oj.after, Region.binds .any e = true ∧ (e.on = i ∨ e.on ∈ D)) := by
  unfold quietOk at h
  rw [Bool.and_eq_true, List.all_eq_true, List.all_eq_true] at h
  obtain ⟨h1, h2⟩ := h
  refine ⟨fun j oj hj hji hl hD => ?_, fun j hj => ?_⟩
  · have hlt : j < ops.size := (Array.getElem?_eq_some_iff.1 hj).1
    have := h1 j (List.mem_range.2 hlt)
    rw [hl, hj] at this
    simpa [hji, hD] using this
  · have := h2 j hj
    unfold waitsFor at this
    rw [Bool.and_eq_true] at this
    obtain ⟨a1, a2⟩ := this
    refine ⟨by simpa using a1, ?_⟩
    cases hj : ops[j]? with
    | none => rw [hj] at a2; cases a2
    | some o =>
      rw [hj] at a2
      refine ⟨o, rfl, ?_⟩
      simp only [Array.any_eq_true] at a2
      obtain ⟨k, hk, he⟩ := a2
      refine ⟨o.after[k], Array.getElem_mem hk, ?_⟩
      simpa using he
theorem late_at {i : Nat} {o : Oper} (h : lateOk ops m i = true) (ho : ops[i]? = some o) (hm : i < m) : ∀ t x y, o.op ≠ .store t x y := by
  intro t x y he
  simp only [lateOk, ho, he, Bool.or_eq_true, decide_eq_true_eq] at h
  rcases h with h | h
  · omega
  · cases h
theorem phase_at (h : phaseOk ops m = true) {j : Nat} {o : Oper} (ho : ops[j]? = some o) : m ≤ j → ∀ i, i < m → ∃ e ∈ o.after, Region.binds .any e = true ∧ e.on = i := by
  have hj : j < ops.size := (Array.getElem?_eq_some_iff.1 ho).1
  have := List.all_eq_true.1 h j (List.mem_range.2 hj)
  simp only [ho] at this
  intro hm i hi
  rw [if_pos hm] at this
  have := List.all_eq_true.1 this i (List.mem_range.2 hi)
  rw [Array.any_eq_true] at this
  obtain ⟨k, hk, he⟩ := this
  simp only [Bool.and_eq_true, beq_iff_eq] at he
  exact ⟨_, Array.getElem_mem hk, he.1, he.2⟩
end
section
variable {P : Program} {T : Nat → Ty} {tt : Nat} {w0 : En} {w w' : World} {G : Gh} {s : St} {a : Act} {ops : Array Oper} {m n : Nat}
theorem put_same (S : Sim tt w0 G s a w) {d : Option Nat} (hd : ∀ x, d = some x → x < a.tmps.size) {v : AV} {u : Value} (hr : RA w0.B G w v u) {K : St → Prop} (h : putK s d v K) : ∃ s1, Sim tt w0 G s1 (a.put d u) w ∧ K s1 := by
  cases d with
  | none => exact ⟨s, S, h⟩
  | some d =>
    simp only [putK, force_eq] at h
    exact ⟨_, S.put (hd d rfl) hr, h⟩
theorem take_sound (hT : TabOk P T) (S : Sim tt w0 G s a w) (o : Oper) (hd : ∀ x, o.dst = some x → x < a.tmps.size) {K : St → Prop} (h : atakeG T ops o K s) :
    ∃ u s1, Sim tt w0 G s1 (a.put o.dst u) w ∧ K s1 ∧ ∀ Y : World → Prop, (isLoad o.op = true → ∀ w', Y w' → Agr G w w') → YieldsIf P ops Y o u a := by
  have yes : ∀ s, Sim tt w0 G s a w → Region.wanted o (yielded ops a.tmps) = true → (aval T s o.op fun v => putK s o.dst v K) → ∃ u s1, Sim tt w0 G s1 (a.put o.dst u) w ∧ K s1 ∧ ∀ Y : World → Prop, (isLoad o.op = true → ∀ w', Y w' → Agr G w w') → YieldsIf P ops Y o u a := fun s S hw h => by
    obtain ⟨v, u, h1, h2, h3⟩ := aval_sound hT S o h
    obtain ⟨s1, k1, k2⟩ := put_same S hd h2 h1
    exact ⟨u, s1, k1, k2, fun Y hY => .inl ⟨hw, fun w' hw' => h3 w' fun hl => hY hl w' hw'⟩⟩
  have no : ∀ s, Sim tt w0 G s a w → Region.wanted o (yielded ops a.tmps) = false → putK s o.dst (.tup []) K → ∃ u s1, Sim tt w0 G s1 (a.put o.dst u) w ∧ K s1 ∧ ∀ Y : World → Prop, (isLoad o.op = true → ∀ w', Y w' → Agr G w w') → YieldsIf P ops Y o u a := fun s S hw h => by
    obtain ⟨s1, k1, k2⟩ := put_same S hd (v := .tup []) (u := undef) ⟨[], rfl, trivial⟩ h
    exact ⟨undef, s1, k1, k2, fun Y hY => .inr ⟨hw, rfl⟩⟩
  unfold atakeG guardOf at h
  split at h
  · next hg => exact yes s S (by simp [Region.wanted, hg]) h
  · next j want hg =>
    split at h
    · next oj hj =>
      split at h
      · next d hdj =>
        split at h
        · next b hb =>
          have hr := S.eval (.tmp d)
          rw [hb] at hr
          have hu : a.tmps.getD d undef = .bool b := hr.bool_inv
          have hy : yielded ops a.tmps j = some b := by
            have : a.tmps[d]? = some (.bool b) := by
              simp only [Array.getD_eq_getD_getElem?] at hu
              cases hx : a.tmps[d]? with
              | none => rw [hx] at hu; simp [undef] at hu
              | some v => rw [hx] at hu; simpa using hu
            simp [yielded, hj, hdj, this]
          have hw : Region.wanted o (yielded ops a.tmps) = (b == want) := by
            simp only [Region.wanted, hg, hy]
            cases b <;> cases want <;> rfl
          simp only [branch_iff] at h
          cases b with
          | true =>
            have S1 := S.know' (d := d) hb hr
            cases want with
            | true => exact yes _ S1 (by rw [hw]; rfl) (h.1 rfl)
            | false => exact no _ S1 (by rw [hw]; rfl) (h.1 rfl)
          | false =>
            have S1 := S.know' (d := d) hb hr
            cases want with
            | true => exact no _ S1 (by rw [hw]; rfl) (h.2 rfl)
            | false => exact yes _ S1 (by rw [hw]; rfl) (h.2 rfl)
        · next vs hb =>
          have hr := S.eval (.tmp d)
          rw [hb] at hr
          obtain ⟨us, hu0, _⟩ := hr
          have hu : a.tmps.getD d undef = .tuple us.toArray := hu0
          have hy : yielded ops a.tmps j = none := by
            simp only [Array.getD_eq_getD_getElem?] at hu
            cases hx : a.tmps[d]? with
            | none => simp [yielded, hj, hdj, hx]
            | some v =>
              rw [hx] at hu
              simp only [Option.getD_some] at hu
              subst hu
              simp [yielded, hj, hdj, hx]
          exact no s S (by simp [Region.wanted, hg, hy]) h
        · exact h.elim
      · exact h.elim
    · exact h.elim
theorem loadQ_sound (hT : TabOk P T) (S : Sim tt w0 G s a w) (o : Oper) (hd : ∀ x, o.dst = some x → x < a.tmps.size) {K : St → Prop} (h : aloadQ T ops o K s) :
    ∃ u s1, Sim tt w0 G s1 (a.put o.dst u) w ∧ K s1 ∧ YieldsIf P ops (fun x => x = w) o u a := by
  have no : ∀ s, Sim tt w0 G s a w → Region.wanted o (yielded ops a.tmps) = false → putK s o.dst (.tup []) K → ∃ u s1, Sim tt w0 G s1 (a.put o.dst u) w ∧ K s1 ∧ YieldsIf P ops (fun x => x = w) o u a := fun s S hw h => by
    obtain ⟨s1, k1, k2⟩ := put_same S hd (v := .tup []) (u := undef) ⟨[], rfl, trivial⟩ h
    exact ⟨undef, s1, k1, k2, .inr ⟨hw, rfl⟩⟩
  have yes : ∀ s, Sim tt w0 G s a w → Region.wanted o (yielded ops a.tmps) = true → aloadN T o K s → ∃ u s1, Sim tt w0 G s1 (a.put o.dst u) w ∧ K s1 ∧ YieldsIf P ops (fun x => x = w) o u a := fun s S hw h => by
    unfold aloadN at h
    split at h
    · next t x ho =>
      split at h
      · next t' i off cs hb =>
        have hx := S.eval x
        rw [hb] at hx
        obtain ⟨g, n, c, e, cur, us, k1, hu, k3, k4, k4', k5, k6⟩ := hx
        obtain ⟨v, u, h1, h2, h3⟩ := load_sound (P := P) (b := g) (o := i * cs.length + off) hT h ((k5.mono fun _ _ h => (RepU.rc h : RC w0.B G w _ _)).drop off)
        obtain ⟨s1, m1, m2⟩ := put_same S hd (RC.of_load h2) h1
        refine ⟨u, s1, m1, m2, .inl ⟨hw, fun w' e => ?_⟩⟩
        subst e
        have := h3 w' (fun j v hv => by rw [List.getElem?_drop] at hv; rw [Nat.add_assoc]; exact k6 _ v hv)
        simp only [execOp, ho, hu, Sem.run_bind, this, Result.andThen_ok, Sem.run_pure]
      · next t' i e2 z2 es hb =>
        have hx := S.eval x
        rw [hb] at hx
        obtain ⟨g, n, c, e, cur, k1, hu, k3, k4, k5, k6⟩ := hx
        obtain ⟨hh, q1, q2, q3⟩ := k6 es rfl
        have hA : All2 (RC w0.B G w) [.own (.r t' i) e2 z2 es] [hh] := ⟨⟨q2, q3⟩, trivial⟩
        obtain ⟨v, u, h1, h2, h3⟩ := load_sound (P := P) (b := g) (o := i) hT h hA
        obtain ⟨s1, m1, m2⟩ := put_same S hd (RC.of_load h2) h1
        refine ⟨u, s1, m1, m2, .inl ⟨hw, fun w' e => ?_⟩⟩
        subst e
        have := h3 w' (fun j v hv => by
          cases j with
          | zero =>
            simp only [List.getElem?_cons_zero, Option.some.injEq] at hv
            subst hv
            rw [Nat.add_zero, (show Blk w' g e cur from k4).cell, ← Array.getElem?_toList]
            exact q1
          | succ j => simp at hv)
        simp only [execOp, ho, hu, Sem.run_bind, this, Result.andThen_ok, Sem.run_pure]
      · obtain ⟨v, u, h1, h2, h3⟩ := aval_sound hT S o (by rw [ho]; exact h)
        obtain ⟨s1, m1, m2⟩ := put_same S hd h2 h1
        exact ⟨u, s1, m1, m2, .inl ⟨hw, fun w' e => h3 w' fun _ => by rw [e]; exact Agr.refl _ _⟩⟩
    · exact h.elim
  unfold aloadQ guardOf at h
  split at h
  · next hg => exact yes s S (by simp [Region.wanted, hg]) h
  · next j want hg =>
    split at h
    · next oj hj =>
      split at h
      · next d hdj =>
        split at h
        · next b hb =>
          have hr := S.eval (.tmp d)
          rw [hb] at hr
          have hu : a.tmps.getD d undef = .bool b := hr.bool_inv
          have hy : yielded ops a.tmps j = some b := by
            have : a.tmps[d]? = some (.bool b) := by
              simp only [Array.getD_eq_getD_getElem?] at hu
              cases hx : a.tmps[d]? with
              | none => rw [hx] at hu; simp [undef] at hu
              | some v => rw [hx] at hu; simpa using hu
            simp [yielded, hj, hdj, this]
          have hw : Region.wanted o (yielded ops a.tmps) = (b == want) := by
            simp only [Region.wanted, hg, hy]
            cases b <;> cases want <;> rfl
          simp only [branch_iff] at h
          cases b with
          | true =>
            have S1 := S.know' (d := d) hb hr
            cases want with
            | true => exact yes _ S1 (by rw [hw]; rfl) (h.1 rfl)
            | false => exact no _ S1 (by rw [hw]; rfl) (h.1 rfl)
          | false =>
            have S1 := S.know' (d := d) hb hr
            cases want with
            | true => exact no _ S1 (by rw [hw]; rfl) (h.2 rfl)
            | false => exact yes _ S1 (by rw [hw]; rfl) (h.2 rfl)
        · next vs hb =>
          have hr := S.eval (.tmp d)
          rw [hb] at hr
          obtain ⟨us, hu0, _⟩ := hr
          have hu : a.tmps.getD d undef = .tuple us.toArray := hu0
          have hy : yielded ops a.tmps j = none := by
            simp only [Array.getD_eq_getD_getElem?] at hu
            cases hx : a.tmps[d]? with
            | none => simp [yielded, hj, hdj, hx]
            | some v =>
              rw [hx] at hu
              simp only [Option.getD_some] at hu
              subst hu
              simp [yielded, hj, hdj, hx]
          exact no s S (by simp [Region.wanted, hg, hy]) h
        · exact h.elim
      · exact h.elim
    · exact h.elim
def Fin (tt : Nat) (w0 : En) (n : Nat) (K : St → Prop) : Exit → Act → World → Prop := fun e a w => match e with | .normal => Nxt tt w0 n none K a w | _ => False
def Held (F : Gh) (w' : World) : Prop := ∀ b, F.fz b → w'.heap[b]? = F.fw.heap[b]?
theorem run_sound (hT : TabOk P T) (hok : opsOk n ops.toList = true) (hns : Region.noSelect ops = true) (hph : phaseOk ops m = true) {K0 : St → Prop} (F : Gh) : ∀ (p : Plan) (K : St → Prop) (E : Array Bool → Bool) (d0 : Nat), (∀ l fuel G s a w, E l = true → d0 ≤ fuel → K s → Sim tt w0 G s a w → a.tmps.size = n → ((∀ i, i < m → l.getD i true = true) ∨ (G.fz = F.fz ∧ G.fw = F.fw)) → wpD P ops (Fin tt w0 n K0) (Held F) m fuel l a w) →
    (∀ pre l fuel G s a w, chk ops m E pre false p l = true → depth p + d0 ≤ fuel → arun P T tt ops p K s → Sim tt w0 G s a w → a.tmps.size = n → ((∀ i, i < m → l.getD i true = true) ∨ (G.fz = F.fz ∧ G.fw = F.fw)) → (pre = true → ∀ w', Held F w' → Agr G w w') → wpD P ops (Fin tt w0 n K0) (Held F) m fuel l a w) ∧
    (∀ l fuel G s a w, chk ops m E false true p l = true → depth p + d0 ≤ fuel + 1 → arun P T tt ops p K s → Sim tt w0 G s a w → a.tmps.size = n → ((∀ i, i < m → l.getD i true = true) ∨ (G.fz = F.fz ∧ G.fw = F.fw)) → ∀ i ∈ altIdx p, i ∈ Region.ready .any ops l → wpOp P ops (Fin tt w0 n K0) i (fun a' w' => (i < m → Held F w') ∧ wpD P ops (Fin tt w0 n K0) (Held F) m fuel (l.setIfInBounds i true) a' w') a w) := by
  have listed : ∀ {l : Array Bool} {i : Nat}, (∀ k, k < m → l.getD k true = true) → ∀ k, k < m → (l.setIfInBounds i true).getD k true = true := fun {l i} h k hk => by
    by_cases e : i = k
    · subst e
      simp only [Array.getD_eq_getD_getElem?, Array.getElem?_setIfInBounds]
      by_cases hlt : i < l.size <;> simp [hlt]
    · rw [getD_set_ne true e]; exact h k hk
  have late : ∀ {l : Array Bool} {i : Nat}, i ∈ Region.ready .any ops l → m ≤ i → ∀ k, k < m → l.getD k true = true := fun {l i} hr hm k hk => by
    obtain ⟨_, o, ho, hall⟩ := mem_ready.1 hr
    obtain ⟨e, he, hb, rfl⟩ := phase_at hph ho hm k hk
    have := hall e he hb
    simp only [Array.getD_eq_getD_getElem?] at this ⊢
    cases hx : l[e.on]? with
    | none => rw [hx] at this; simp at this
    | some v => rw [hx] at this; simpa using this
  have held : ∀ {G : Gh} {s : St} {a : Act} {w : World}, Sim tt w0 G s a w → G.fz = F.fz ∧ G.fw = F.fw → Held F w := fun {G s a w} S h b hb => by
    have := (S.fz1 b (h.1 ▸ hb)).2
    rw [h.2] at this
    exact this
  have step : ∀ (K : St → Prop) (E : Array Bool → Bool) (d0 : Nat) (p : Plan), (∀ pre l fuel G s a w, chk ops m E pre false p l = true → depth p + d0 ≤ fuel → arun P T tt ops p K s → Sim tt w0 G s a w → a.tmps.size = n → ((∀ i, i < m → l.getD i true = true) ∨ (G.fz = F.fz ∧ G.fw = F.fw)) → (pre = true → ∀ w', Held F w' → Agr G w w') → wpD P ops (Fin tt w0 n K0) (Held F) m fuel l a w) →
      ∀ (i fuel : Nat) (l : Array Bool) (G : Gh) (s : St) (a : Act) (w : World), chk ops m E false false p (l.setIfInBounds i true) = true → depth p + d0 ≤ fuel → ((lateOk ops m i = true ∧ match ops[i]? with | some o => aopG P T tt ops o (arun P T tt ops p K) s | none => False) ∨ (match ops[i]? with | some o => aopE P T tt ops o (arun P T tt ops p K) s | none => False) ∨ (m ≤ i ∧ match ops[i]? with | some o => aopXG P T tt ops o (arun P T tt ops p K) s | none => False)) → Sim tt w0 G s a w → a.tmps.size = n → ((∀ i, i < m → l.getD i true = true) ∨ (G.fz = F.fz ∧ G.fw = F.fw)) → i ∈ Region.ready .any ops l →
      wpOp P ops (Fin tt w0 n K0) i (fun a' w' => (i < m → Held F w') ∧ wpD P ops (Fin tt w0 n K0) (Held F) m fuel (l.setIfInBounds i true) a' w') a w := by
    intro K E d0 p ih i fuel l G s a w hc hdp h S hn hI hr
    obtain ⟨hun, o, ho, hall⟩ := mem_ready.1 hr
    simp only [ho] at h
    have hd := opsOk_at hok (show ops.toList[i]? = some o by simpa using ho)
    have nx : ∀ F' a' w', (i < m → F' = some G) → Nxt tt w0 a.tmps.size F' (arun P T tt ops p K) a' w' → (i < m → Held F w') ∧ wpD P ops (Fin tt w0 n K0) (Held F) m fuel (l.setIfInBounds i true) a' w' := fun F' a' w' hF ⟨G', s', S', hn', h', hk⟩ => by
      rcases Nat.lt_or_ge i m with him | him
      · have hkk := hk G (hF him)
        have hG : G.fz = F.fz ∧ G.fw = F.fw := by
          rcases hI with hI | hI
          · have := hI i him; rw [hun] at this; cases this
          · exact hI
        have hG' : G'.fz = F.fz ∧ G'.fw = F.fw := ⟨hkk.1.trans hG.1, hkk.2.trans hG.2⟩
        exact ⟨fun _ => held S' hG', ih false _ fuel G' s' a' w' hc hdp h' S' (hn'.trans hn) (.inr hG') (by nofun)⟩
      · exact ⟨fun h => by omega, ih false _ fuel G' s' a' w' hc hdp h' S' (hn'.trans hn) (.inl (listed (late hr him))) (by nofun)⟩
    rcases h with ⟨hlate, h⟩ | h | ⟨hmi, h⟩
    rotate_left 2
    · have key := aopXG_sound (P := P) (Q := Fin tt w0 n K0) hT S o (by rw [hn]; exact hd) h
      unfold wpOp
      simp only [ho]
      split
      · next hw =>
        rw [if_pos hw] at key
        exact .inl (Oper.wp_mono (fun a' w' => nx _ a' w' fun h => by omega) key)
      · next hw =>
        rw [if_neg hw] at key
        exact nx _ _ _ (fun h => by omega) key
    rotate_left 1
    · obtain ⟨hw, key⟩ := aopE_sound (P := P) (ops := ops) (Q := Fin tt w0 n K0) hT S o h
      unfold wpOp
      simp only [ho]
      rw [if_pos hw]
      exact .inl (Oper.wp_mono (fun a' w' => nx _ a' w' fun _ => rfl) key)
    have key := aopG_sound (P := P) (Q := Fin tt w0 n K0) hT S o (by rw [hn]; exact hd) h
    have hkp : i < m → kp o G = some G := fun him => by
      unfold kp
      split
      · next t x y e => exact absurd e (late_at hlate ho him t x y)
      · rfl
    unfold wpOp
    simp only [ho]
    split
    · next hw =>
      rw [if_pos hw] at key
      exact .inl (Oper.wp_mono (fun a' w' => nx _ a' w' hkp) key)
    · next hw =>
      rw [if_neg hw] at key
      exact nx _ _ _ (fun _ => rfl) key
  intro p
  induction p with
  | done =>
    intro K E d0 hE
    refine ⟨fun pre l fuel G s a w hc hdp h S hn hI hp => hE l fuel G s a w (by simpa [chk] using hc) (by simp only [depth] at hdp; omega) h S hn hI, fun l fuel G s a w hc hdp h S hn hI i hi => by simp [altIdx] at hi⟩
  | stop =>
    intro K E d0 hE
    exact ⟨fun pre l fuel G s a w hc => by simp [chk] at hc, fun l fuel G s a w hc hdp h S hn hI i hi => by simp [altIdx] at hi⟩
  | take i p ih =>
    intro K E d0 hE
    refine ⟨fun pre l fuel G s a w hc hdp h S hn hI hp => ?_, fun l fuel G s a w hc => by simp [chk] at hc⟩
    simp only [chk, Bool.and_eq_true] at hc
    obtain ⟨⟨⟨c1, c2⟩, c3⟩, c4⟩ := hc
    cases fuel with
    | zero => simp only [depth] at hdp; omega
    | succ fuel =>
      simp only [arun] at h
      cases ho : ops[i]? with
      | none => simp only [ho] at h
      | some o =>
        simp only [ho] at h c3
        have hd := opsOk_at hok (show ops.toList[i]? = some o by simpa using ho)
        obtain ⟨u, s1, S1, h1, hy⟩ := take_sound hT S o (by rw [hn]; exact hd) h
        have hr : i ∈ Region.ready .any ops l := by simpa using c1
        have hmm : i < m → ∀ (j : Nat) (oj : Oper), ops[j]? = some oj → (∀ e ∈ oj.after, Region.binds .any e = true → e.on ≠ i) → j < m := fun him j oj hoj hno => by
          rcases Nat.lt_or_ge j m with h | h
          · exact h
          · obtain ⟨e, he, hb, hei⟩ := phase_at hph hoj h i him
            exact absurd hei (hno e he hb)
        have hIm : i < m → G.fz = F.fz ∧ G.fw = F.fw := fun him => by
          rcases hI with hI | hI
          · have := hI i him; rw [(mem_ready.1 hr).1] at this; cases this
          · exact hI
        have rest := (ih K E d0 hE).1 pre (l.setIfInBounds i true) fuel G s1 (a.put o.dst u) w c4 (by simp only [depth] at hdp; omega) h1 S1 (size_put.trans hn) (hI.imp listed id) hp
        simp only [Bool.or_eq_true] at c3
        rcases c3 with c3 | c3
        · have hl : isLoad o.op ≠ true := fun e => by
            cases hop : o.op <;> simp [hop, isLoad, valueOp] at e c3
          exact D_first (Y := fun _ => True) ho (Region.noSelect_spec hns) (fun _ _ _ h => h) hmm (.inl fun _ => trivial) fuel l a w (Region.free_spec ho c2) hr (hy _ fun e => absurd e hl) trivial (fun h => held S (hIm h)) rest
        · simp only [Bool.and_eq_true, decide_eq_true_eq] at c3
          exact D_first (Y := Held F) ho (Region.noSelect_spec hns) (fun _ _ _ h => h) hmm (.inr ⟨c3.2, fun _ h => h⟩) fuel l a w (Region.free_spec ho c2) hr (hy _ fun _ => hp c3.1.1) (held S (hIm c3.2)) (fun h => held S (hIm h)) rest
  | takeQ i p ih =>
    intro K E d0 hE
    refine ⟨fun pre l fuel G s a w hc hdp h S hn hI hp => ?_, fun l fuel G s a w hc => by simp [chk] at hc⟩
    simp only [chk, Bool.and_eq_true] at hc
    obtain ⟨⟨⟨c1, c2⟩, c3⟩, c4⟩ := hc
    cases fuel with
    | zero => simp only [depth] at hdp; omega
    | succ fuel =>
      simp only [arun] at h
      cases ho : ops[i]? with
      | none => simp only [ho] at h
      | some o =>
        simp only [ho] at h
        have hd := opsOk_at hok (show ops.toList[i]? = some o by simpa using ho)
        obtain ⟨u, s1, S1, h1, hy⟩ := loadQ_sound (ops := ops) hT S o (by rw [hn]; exact hd) h
        have hr : i ∈ Region.ready .any ops l := by simpa using c1
        have hIm : i < m → G.fz = F.fz ∧ G.fw = F.fw := fun him => by
          rcases hI with hI | hI
          · have := hI i him; rw [(mem_ready.1 hr).1] at this; cases this
          · exact hI
        have rest := (ih K E d0 hE).1 pre (l.setIfInBounds i true) fuel G s1 (a.put o.dst u) w c4 (by simp only [depth] at hdp; omega) h1 S1 (size_put.trans hn) (hI.imp listed id) hp
        obtain ⟨q1, q2⟩ := quiet_spec c3
        exact D_quiet ho (Region.noSelect_spec hns) (fun _ _ _ h => h) fuel l a w (Region.free_spec ho c2) q1 q2 hr hy (fun h => held S (hIm h)) rest
  | alt i p rest ih1 ih2 =>
    intro K E d0 hE
    refine ⟨fun pre l fuel G s a w hc hdp h S hn hI hp => ?_, fun l fuel G s a w hc hdp h S hn hI k hk hr => ?_⟩
    · simp only [chk, Bool.and_eq_true, beq_iff_eq] at hc
      obtain ⟨⟨⟨c1, c0⟩, c2⟩, c3⟩ := hc
      cases fuel with
      | zero => simp only [depth] at hdp; omega
      | succ fuel =>
        refine ⟨fun hr => (by rw [← c1] at hr; cases hr), fun k hk => ?_⟩
        have hk' := hk
        rw [← c1] at hk'
        rcases List.mem_cons.1 hk' with rfl | hk'
        · exact step K E d0 p (ih1 K E d0 hE).1 k fuel l G s a w c2 (by simp only [depth] at hdp; omega) (.inl ⟨c0, h.1⟩) S hn hI hk
        · exact (ih2 K E d0 hE).2 l fuel G s a w c3 (by simp only [depth] at hdp; omega) h.2 S hn hI k hk' hk
    · simp only [chk, Bool.and_eq_true] at hc
      rcases List.mem_cons.1 hk with rfl | hk'
      · exact step K E d0 p (ih1 K E d0 hE).1 k fuel l G s a w hc.1.2 (by simp only [depth] at hdp; omega) (.inl ⟨hc.1.1, h.1⟩) S hn hI hr
      · exact (ih2 K E d0 hE).2 l fuel G s a w hc.2 (by simp only [depth] at hdp; omega) h.2 S hn hI k hk' hr
  | altE i p rest ih1 ih2 =>
    intro K E d0 hE
    refine ⟨fun pre l fuel G s a w hc hdp h S hn hI hp => ?_, fun l fuel G s a w hc hdp h S hn hI k hk hr => ?_⟩
    · simp only [chk, Bool.and_eq_true, beq_iff_eq] at hc
      obtain ⟨⟨c1, c2⟩, c3⟩ := hc
      cases fuel with
      | zero => simp only [depth] at hdp; omega
      | succ fuel =>
        refine ⟨fun hr => (by rw [← c1] at hr; cases hr), fun k hk => ?_⟩
        have hk' := hk
        rw [← c1] at hk'
        rcases List.mem_cons.1 hk' with rfl | hk'
        · exact step K E d0 p (ih1 K E d0 hE).1 k fuel l G s a w c2 (by simp only [depth] at hdp; omega) (.inr (.inl h.1)) S hn hI hk
        · exact (ih2 K E d0 hE).2 l fuel G s a w c3 (by simp only [depth] at hdp; omega) h.2 S hn hI k hk' hk
    · simp only [chk, Bool.and_eq_true] at hc
      rcases List.mem_cons.1 hk with rfl | hk'
      · exact step K E d0 p (ih1 K E d0 hE).1 k fuel l G s a w hc.1 (by simp only [depth] at hdp; omega) (.inr (.inl h.1)) S hn hI hr
      · exact (ih2 K E d0 hE).2 l fuel G s a w hc.2 (by simp only [depth] at hdp; omega) h.2 S hn hI k hk' hr
  | altM i p rest ih1 ih2 =>
    intro K E d0 hE
    refine ⟨fun pre l fuel G s a w hc hdp h S hn hI hp => ?_, fun l fuel G s a w hc hdp h S hn hI k hk hr => ?_⟩
    · simp only [chk, Bool.and_eq_true, beq_iff_eq] at hc
      obtain ⟨⟨⟨c1, c0⟩, c2⟩, c3⟩ := hc
      cases fuel with
      | zero => simp only [depth] at hdp; omega
      | succ fuel =>
        refine ⟨fun hr => (by rw [← c1] at hr; cases hr), fun k hk => ?_⟩
        have hk' := hk
        rw [← c1] at hk'
        rcases List.mem_cons.1 hk' with rfl | hk'
        · exact step K E d0 p (ih1 K E d0 hE).1 k fuel l G s a w c2 (by simp only [depth] at hdp; omega) (.inr (.inr ⟨by simpa using c0, h.1⟩)) S hn hI hk
        · exact (ih2 K E d0 hE).2 l fuel G s a w c3 (by simp only [depth] at hdp; omega) h.2 S hn hI k hk' hk
    · simp only [chk, Bool.and_eq_true] at hc
      rcases List.mem_cons.1 hk with rfl | hk'
      · exact step K E d0 p (ih1 K E d0 hE).1 k fuel l G s a w hc.1.2 (by simp only [depth] at hdp; omega) (.inr (.inr ⟨by simpa using hc.1.1, h.1⟩)) S hn hI hr
      · exact (ih2 K E d0 hE).2 l fuel G s a w hc.2 (by simp only [depth] at hdp; omega) h.2 S hn hI k hk' hr
  | cut L p q ih1 ih2 =>
    intro K E d0 hE
    refine ⟨fun pre l fuel G s a w hc hdp h S hn hI hp => ?_, fun l fuel G s a w hc => by simp [chk] at hc⟩
    simp only [chk, Bool.and_eq_true] at hc
    obtain ⟨⟨cm, c1⟩, c2⟩ := hc
    have cm0 : m = 0 := Nat.eq_of_beq_eq_true cm
    simp only [arun] at h
    obtain ⟨s', h1, h2⟩ := h.out
    refine (ih1 (leS tt s') (fun l => l == maskL ops.size L) (depth q + d0) ?_).1 pre l fuel G s a w c1 (by simp only [depth] at hdp; omega) h1 S hn hI hp
    intro l' fuel' G1 s1 a1 w1 hl hf hle S1 hn1 hI1
    have hl' : l' = maskL ops.size L := by simpa using hl
    subst hl'
    obtain ⟨G2, S2⟩ := hle.out w0 G1 a1 w1 S1
    exact (ih2 K E d0 hE).1 false _ fuel' G2 s' a1 w1 c2 (by omega) h2 S2 hn1 (.inl fun i hi => by omega) (by nofun)
theorem Sim.freeze (S : Sim tt w0 G s a w) : Sim tt w0 { G with fz := fun b => b < w.heap.size ∧ (¬ GM G b ∨ ∃ t, G.box t = some b), fw := w } s a w :=
  { S with
    slot := S.slot
    box := S.box
    tape := S.tape
    noTape := S.noTape
    fz1 := fun b h => ⟨h.1, rfl⟩
    fz2 := fun t v b h h' hz => hz.2.elim (fun k => k (.inr (.inl ⟨t, v, h, h'⟩))) fun ⟨t', k⟩ => S.boxOwn t' t v b k h h'
    fz3 := fun b h hz => hz.2.elim (fun k => k (.inr (.inr h))) fun ⟨t', k⟩ => S.tapeBox t' b h k }
theorem draw_sound (hmx : P.follows .mixedOrders = true) (hT : TabOk P T) {id : Nat} (hok : opsOk n ops.toList = true) {K : St → Prop} (S : Sim tt w0 G s a w) (hn : a.tmps.size = n) (h : adraw P T tt ops K s) : (Code.region id ops true).wp P (Fin tt w0 n K) a w := by
  simp only [adraw_iff] at h
  obtain ⟨m, p, hp, h⟩ := h
  simp only [planOk, Bool.and_eq_true, decide_eq_true_eq] at hp
  obtain ⟨⟨⟨p1, p2⟩, p3⟩, p4⟩ := hp
  have S1 := (S.drew (n := w.drawn + 1)).freeze
  exact wp_region_any hmx (wpAny_of_D _ _ _ _ ((run_sound hT hok p1 p2 _ p K _ 0 (fun l fuel G s a w hl _ hk S hn _ => D_done (by simpa using hl) ⟨G, s, S, hn, hk, Kp.none⟩ fuel)).1 true _ ops.size _ s a _ p4 p3 h S1 hn (.inr ⟨rfl, rfl⟩) fun _ w' hw' b hb hx => hw' b ⟨hb, hx⟩))
end
end Go.Proofs.Ythgnomniboindaa
end

/- A plain interpreter, part 17: code; functions; from the interpreter to contracts. -/
section
namespace Go.Proofs.Ythgnomniboindaa
set_option linter.unusedVariables false
set_option linter.unusedSimpArgs false
set_option linter.unnecessarySimpa false
set_option linter.unusedSectionVars false
open Go.RowKit

/-- Code. -/
def acode (P : Program) (T : Nat → Ty) (tt : Nat) (cuts : Nat → Bool) : Code → (Ex → St → Prop) → St → Prop
  | .skip, Q, s => Q .norm s
  | .region id ops draw, Q, s => match cuts id with
    | false => match draw with
      | false => aops P T tt ops ops.toList (Q .norm) s
      | true => adraw P T tt ops (Q .norm) s
    | true => rest tt (fun s => match draw with
      | false => aops P T tt ops ops.toList (Q .norm) s
      | true => adraw P T tt ops (Q .norm) s) s
  | .seq x y, Q, s => acode P T tt cuts x (fun e s' => match e with | .norm => acode P T tt cuts y Q s' | .exit i => Q (.exit i) s' | .ret => Q .ret s') s
  | .cond c x y, Q, s => match s.eval c with | .bool v => branch v (acode P T tt cuts x Q s) (acode P T tt cuts y Q s) | _ => False
  | .block id body, Q, s => acode P T tt cuts body (fun e s' => match e with | .exit i => (match Nat.beq i id with | true => Q .norm s' | false => Q (.exit i) s') | .norm => Q .norm s' | .ret => Q .ret s') s
  | .loop body, Q, s => aloop tt (acode P T tt cuts body) Q s
  | .exit id, Q, s => Q (.exit id) s
  | .ret, Q, s => Q .ret s
  | _, _, _ => False
/-- All slots that are written lie in the frame. -/
def wf (n : Nat) : Code → Bool
  | .region _ ops _ => opsOk n ops.toList
  | .seq x y => wf n x && wf n y
  | .cond _ x y => wf n x && wf n y
  | .block _ x => wf n x
  | .loop x => wf n x
  | _ => true
section
variable {P : Program} {T : Nat → Ty} {tt : Nat} {w0 : En} {w w' : World} {G : Gh} {s : St} {a : Act} {n : Nat} {cuts : Nat → Bool}
theorem out_fin {Q : Ex → St → Prop} {e : Exit} {a : Act} {w : World} (h : Fin tt w0 n (Q .norm) e a w) : Out tt w0 n Q e a w := by cases e <;> first | exact h | exact h.elim
theorem code_sound (hmx : P.follows .mixedOrders = true) (hT : TabOk P T) : ∀ (c : Code) (Q : Ex → St → Prop) (G : Gh) (s : St) (a : Act) (w : World), wf n c = true → acode P T tt cuts c Q s → Sim tt w0 G s a w → a.tmps.size = n → c.wp P (Out tt w0 n Q) a w := by
  intro c
  induction c with
  | skip => exact fun Q G s a w _ h S hn => wp_skip ⟨G, s, S, hn, h, Kp.none⟩
  | region id ops draw =>
    have key : ∀ (Q : Ex → St → Prop) (G : Gh) (s : St) (a : Act) (w : World), wf n (.region id ops draw) = true → (match draw with | false => aops P T tt ops ops.toList (Q .norm) s | true => adraw P T tt ops (Q .norm) s) → Sim tt w0 G s a w → a.tmps.size = n → (Code.region id ops draw).wp P (Out tt w0 n Q) a w := by
      intro Q G s a w hw h S hn
      cases draw with
      | false =>
        refine wp_mono (wp_region ?_) fun e a w h => out_fin (Q := Q) h
        have := aops_sound (P := P) (w0 := w0) (tt := tt) hT (ops := ops) (n := n) hw (K := Q .norm) ops.size 0 (by omega) G s a w hn S (by simpa using h)
        rw [List.range_eq_range']
        exact this
      | true => exact wp_mono (draw_sound hmx hT (id := id) hw S hn h) fun e a w h => out_fin h
    intro Q G s a w hw h S hn
    simp only [acode] at h
    split at h
    · exact key Q G s a w hw h S hn
    · obtain ⟨s', hle, h'⟩ := rest_iff.1 h
      obtain ⟨G', S'⟩ := hle w0 G a w S
      exact key Q G' s' a w hw h' S' hn
  | seq x y ihx ihy =>
    intro Q G s a w hw h S hn
    simp only [wf, Bool.and_eq_true] at hw
    simp only [acode] at h
    refine wp_seq (wp_mono (ihx _ G s a w hw.1 h S hn) fun e a' w' ho => ?_)
    cases e with
    | normal =>
      obtain ⟨G', s', S', hn', h', _⟩ := ho
      exact ihy Q G' s' a' w' hw.2 h' S' hn'
    | exit i => exact ho
    | ret => exact ho
    | goto l => exact ho.elim
    | panic c => exact ho.elim
    | outgrown => exact ho.elim
  | cond c x y ihx ihy =>
    intro Q G s a w hw h S hn
    simp only [wf, Bool.and_eq_true] at hw
    simp only [acode] at h
    split at h
    · next b hb =>
      have hr := S.eval c
      rw [hb] at hr
      simp only [branch_iff] at h
      cases b with
      | true => exact wp_cond_true hr.bool_inv (ihx Q G s a w hw.1 (h.1 rfl) S hn)
      | false => exact wp_cond_false hr.bool_inv (ihy Q G s a w hw.2 (h.2 rfl) S hn)
    · exact h.elim
  | block id x ih =>
    intro Q G s a w hw h S hn
    simp only [acode] at h
    refine wp_block (wp_mono (ih _ G s a w hw h S hn) fun e a' w' ho => ?_)
    cases e with
    | normal => exact ho
    | exit i =>
      simp only [Exit.inBlock]
      obtain ⟨G', s', S', hn', h', hk⟩ := ho
      by_cases e : i = id
      · subst e
        rw [if_pos rfl]
        simp only [beq_self] at h'
        exact ⟨G', s', S', hn', h', hk⟩
      · rw [if_neg e]
        simp only [beq_ne e] at h'
        exact ⟨G', s', S', hn', h', hk⟩
    | ret => exact ho
    | goto l => exact ho.elim
    | panic c => exact ho.elim
    | outgrown => exact ho.elim
  | loop x ih =>
    intro Q G s a w hw h S hn
    simp only [acode, aloop_iff] at h
    obtain ⟨α, I, st, μ, x0, hI, hle, hstep⟩ := h
    obtain ⟨G', S'⟩ := hle w0 G a w S
    classical
    let J : Act → World → Nat → Prop := fun a w k => ∃ G x, Sim tt w0 G (st x) a w ∧ a.tmps.size = n ∧ I x ∧ μ x = k
    have hJ : ∀ a w, (∃ k, J a w k) → ∃ k, J a w k ∧ ∀ j, J a w j → k ≤ j := fun a w ⟨k, hk⟩ => by
      induction k using Nat.strongRecOn with
      | _ k ih =>
        by_cases hex : ∃ j, j < k ∧ J a w j
        · obtain ⟨j, hj, hJj⟩ := hex
          exact ih j hj hJj
        · exact ⟨k, hk, fun j hj => Nat.le_of_not_lt fun hlt => hex ⟨j, hlt, hj⟩⟩
    let μ' : Act → World → Nat := fun a w => if h : ∃ k, J a w k then (hJ a w h).choose else 0
    have hμ : ∀ a w (h : ∃ k, J a w k), J a w (μ' a w) ∧ ∀ j, J a w j → μ' a w ≤ j := fun a w h => by
      simp only [μ', h, dite_true]
      exact (hJ a w h).choose_spec
    refine wp_loop (fun a w => ∃ k, J a w k) μ' ⟨μ x0, G', x0, S', hn, hI, rfl⟩ fun a w hI' => ?_
    obtain ⟨⟨G1, s1, S1, hn1, hI1, hm1⟩, _⟩ := hμ a w hI'
    refine wp_mono (ih _ G1 (st s1) a w hw (hstep s1 hI1) S1 hn1) fun e a' w' ho => ?_
    cases e with
    | normal =>
      obtain ⟨G2, s2, S2, hn2, ⟨s3, hI3, hle, hlt⟩, _⟩ := ho
      obtain ⟨G3, S3⟩ := hle w0 G2 a' w' S2
      have hj : J a' w' (μ s3) := ⟨G3, s3, S3, hn2, hI3, rfl⟩
      exact ⟨⟨_, hj⟩, by have := (hμ a' w' ⟨_, hj⟩).2 _ hj; omega⟩
    | exit i => exact ho
    | ret => exact ho
    | goto l => exact ho.elim
    | panic c => exact ho.elim
    | outgrown => exact ho.elim
  | exit id => exact fun Q G s a w _ h S hn => wp_exit ⟨G, s, S, hn, h, Kp.none⟩
  | ret => exact fun Q G s a w _ h S hn => wp_ret ⟨G, s, S, hn, h, Kp.none⟩
  | _ => intro Q G s a w _ h; exact h.elim
end
end Go.Proofs.Ythgnomniboindaa
end

/- A plain interpreter, part 18: from a function's text to its contract; what a state may be weakened to. -/
section
namespace Go.Proofs.Ythgnomniboindaa
set_option linter.unusedVariables false
set_option linter.unusedSimpArgs false
set_option linter.unnecessarySimpa false
set_option linter.unusedSectionVars false
open Go.RowKit

def ares (T : Nat → Ty) (s : St) : List ResultVar → (List AV → Prop) → Prop
  | [], K => K []
  | .tmp t :: rs, K => force (s.eval (.tmp t)) fun v => ares T s rs fun vs => K (v :: vs)
  | .cell b t :: rs, K => match s.eval (.tmp b) with
    | .ptr b' off => match s.box b' with
      | some cs => loadAs (T t) (cs.drop off) fun v => force v fun v => ares T s rs fun vs => K (v :: vs)
      | none => False
    | _ => False
/-- As what a value may be returned. -/
def RetC (v r : AV) : Prop := (r = v ∧ plainC v = true) ∨ (∃ t e z es, v = .own t e z es ∧ r = .lst z es) ∨ (v = .nil ∧ ∃ z, r = .lst z [])
def RetG (v r : AV) : Prop := RetC v r ∨ ∃ cs cs', v = .agg cs ∧ r = .agg cs' ∧ All2 RetC cs cs'
def RetV (v r : AV) : Prop := RetG v r ∨ (∃ t e z es, v = .own t e z es ∧ r = .own 0 e z es) ∨ (v = .nil ∧ ∃ e z, r = .own 0 e z []) ∨ ∃ vs rs, v = .tup vs ∧ r = .tup rs ∧ All2 RetG vs rs
structure aret (v : AV) (R : AV → Prop) : Prop where
  out : ∃ r, RetV v r ∧ R r
theorem aret_iff {v : AV} {R : AV → Prop} : aret v R ↔ (∃ r, RetV v r ∧ R r) := ⟨fun h => h.out, fun h => ⟨h⟩⟩
def afin (T : Nat → Ty) (rs : List ResultVar) (R : AV → Prop) (s : St) : Prop := ares T s rs fun vs => match vs with
  | [v] => aret v R
  | vs => aret (.tup vs) R
def init (b : Bool) (args : List AV) : St := ⟨fun i => args.getD i .undef, fun _ => none, b⟩
def abody (P : Program) (T : Nat → Ty) (tt : Nat) (cuts : Nat → Bool) (c : Code) (rs : List ResultVar) (b : Bool) (args : List AV) (R : AV → Prop) : Prop :=
  acode P T tt cuts c (fun e s => match e with | .norm => afin T rs R s | .ret => afin T rs R s | .exit _ => False) (init b args)
section
variable {P : Program} {T : Nat → Ty} {tt : Nat} {w0 : En} {w w' : World} {G : Gh} {s : St} {a : Act} {n : Nat}
def resSem (tmps : Array Value) : ResultVar → Sem Value
  | .tmp t => pure (tmps.getD t undef)
  | .cell b t => do loadVar t (← asAddr (tmps.getD b undef))
theorem results_eq (fn : Func) (tmps : Array Value) : results fn tmps = (do
    let vs ← fn.results.mapM (resSem tmps)
    pure (if h : vs.size = 1 then vs[0] else .tuple vs)) := by
  unfold results
  congr 1
theorem ares_sound (hT : TabOk P T) (S : Sim tt w0 G s a w) : ∀ {rs : List ResultVar} {K : List AV → Prop}, ares T s rs K → ∃ vs us, K vs ∧ All2 (RA w0.B G w) vs us ∧
    (rs.mapM (resSem a.tmps)).run P w = .ok us w
  | [], K, h => ⟨[], [], h, trivial, by simp⟩
  | .tmp t :: rs, K, h => by
    simp only [ares, force_eq] at h
    obtain ⟨vs, us, h1, h2, h3⟩ := ares_sound hT S h
    exact ⟨_, a.tmps.getD t undef :: us, h1, ⟨S.eval (.tmp t), h2⟩, by simp only [List.mapM_cons, resSem, Sem.run_bind, Sem.run_pure, Result.andThen_ok, h3]⟩
  | .cell b t :: rs, K, h => by
    simp only [ares] at h
    have hb := S.eval (.tmp b)
    split at h
    · next b' off he =>
      rw [he] at hb
      obtain ⟨bb, hbb, hu0⟩ := hb
      have hu : a.tmps.getD b undef = .pointer (some ⟨bb, off, none⟩) := hu0
      split at h
      · next cs hcs =>
        obtain ⟨b2, e, us0, k1, k2, k3⟩ := S.box b' cs hcs
        rw [hbb] at k1
        injection k1 with k1
        subst k1
        obtain ⟨v, u, m1, m2, m3⟩ := load_sound (P := P) (b := bb) (o := off) hT h (k3.drop off)
        rw [force_eq] at m1
        obtain ⟨vs, us, h1, h2, h3⟩ := ares_sound hT S m1
        refine ⟨_, u :: us, h1, ⟨RC.of_load m2, h2⟩, ?_⟩
        have := m3 w (fun j v hv => by rw [k2.cell]; rw [List.getElem?_drop] at hv; simpa using hv)
        simp only [Instr.loadAt, Instr.sureAddr, Sem.run_bind, Sem.run_pure, Result.andThen_ok] at this
        simp only [List.mapM_cons, resSem, Sem.run_bind, hu, asAddr, Sem.run_pure, Result.andThen_ok, this, h3]
      · exact h.elim
    · exact h.elim
theorem retc_sound {X : Nat → Prop} {tp : Option Nat} (S : Sim tt w0 G s a w) (hX : w0.X = X) (htp : w0.tp = tp) {v r : AV} {u : Value} (h : RetC v r) (hr : RC w0.B G w v u) : RC w0.B (G0 tp X (none, 0, 0)) w r u := by
  have hgx : ∀ b, GX (G0 tp X (none, 0, 0)) b → GX G b := fun b hb => by
    rcases hb with (⟨t, ht⟩ | ⟨t, v, ht, _⟩ | ht) | hb
    · cases ht
    · cases ht
    · exact .inl (.inr (.inr (S.tape0 b (htp.trans ht)).1))
    · exact .inr (by rw [S.ext0, hX]; exact hb)
  rcases h with ⟨rfl, hp⟩ | ⟨t, e, z, es, rfl, rfl⟩ | ⟨rfl, z, rfl⟩
  · cases r
    case nil => exact hr
    case int => exact RepV.move hr (fun _ _ _ => rfl) fun b _ => hgx b
    case bool => exact RepV.move hr (fun _ _ _ => rfl) fun b _ => hgx b
    case str => exact RepV.move hr (fun _ _ _ => rfl) fun b _ => hgx b
    case lst => exact RepV.move hr (fun _ _ _ => rfl) fun b _ => hgx b
    all_goals simp [plainC] at hp
  · refine hr.2.rep (fun b _ => hgx b) fun b hb hx => ?_
    rcases hx with (⟨t, ht⟩ | ⟨t, v, ht, _⟩ | ht) | hx
    · cases ht
    · cases ht
    · exact S.tapeOwn _ _ b (S.tape0 b (htp.trans ht)).1 hr.1 hb
    · exact S.newX (S.ownLt _ _ b hr.1 hb).1 (by rw [S.ext0, hX]; exact hx)
  · have : u = .slice none 0 0 := hr
    subst this
    exact RepV.nil z _ _
theorem retg_sound {X : Nat → Prop} {tp : Option Nat} (S : Sim tt w0 G s a w) (hX : w0.X = X) (htp : w0.tp = tp) {v r : AV} {u : Value} (h : RetG v r) (hr : RG w0.B G w v u) : RG w0.B (G0 tp X (none, 0, 0)) w r u := by
  rcases h with h | ⟨cs, cs', rfl, rfl, hA⟩
  · have : RC w0.B G w v u := by
      rcases h with ⟨rfl, hp⟩ | ⟨t, e, z, es, rfl, rfl⟩ | ⟨rfl, z, rfl⟩
      · cases r <;> first | exact hr | (simp [plainC] at hp)
      · exact hr
      · exact hr
    exact (retc_sound S hX htp h this).rp.rg
  · obtain ⟨us, rfl, hc⟩ := hr
    refine ⟨us, rfl, All2.of (hA.len.symm.trans hc.len) fun j c u h1 h2 => ?_⟩
    obtain ⟨c0, k1, k2⟩ := hA.get' h1
    obtain ⟨u0, k3, k4⟩ := hc.get k1
    rw [h2] at k3
    injection k3 with k3
    subst k3
    exact retc_sound S hX htp k2 k4
theorem RG.notOwn {B : Nat} {tp : Option Nat} {X : Nat → Prop} {h : Option Addr × Nat × Nat} {t e z : Nat} {es : List (List AV)} {u : Value} (hr : RG B (G0 tp X h) w (.own t e z es) u) : False := by
  have := (show RC B (G0 tp X h) w (.own t e z es) u from hr).1
  simp [G0] at this
theorem ret_sound {X : Nat → Prop} {tp : Option Nat} (S : Sim tt w0 G s a w) (hBs : w0.B = w0.heap.size) (hX : w0.X = X) (htp : w0.tp = tp) {v r : AV} {u : Value} (h : RetV v r) (hr : RA w0.B G w v u) : RetR tt tp X w0 w r u := by
  rcases h with h | ⟨t, e, z, es, rfl, rfl⟩ | ⟨rfl, e, z, rfl⟩ | ⟨vs, rs, rfl, rfl, hA⟩
  · have hg : RG w0.B G w v u := by
      rcases h with (⟨rfl, hp⟩ | ⟨t, e, z, es, rfl, rfl⟩ | ⟨rfl, z, rfl⟩) | ⟨cs, cs', rfl, rfl, hA⟩
      · cases r <;> first | exact hr | (simp [plainC] at hp)
      · exact hr
      · exact hr
      · exact hr
    have := retg_sound S hX htp h hg
    rw [hBs] at this
    have hr' : r ≠ .tape ∧ ∀ t e z es, r ≠ .own t e z es := by
      rcases h with (⟨rfl, hp⟩ | ⟨t, e, z, es, rfl, rfl⟩ | ⟨rfl, z, rfl⟩) | ⟨cs, cs', rfl, rfl, hA⟩
      · cases r <;> first | (simp [plainC] at hp; done) | exact ⟨by simp, by simp⟩
      · exact ⟨by simp, by simp⟩
      · exact ⟨by simp, by simp⟩
      · exact ⟨by simp, by simp⟩
    cases r
    case tape => exact absurd rfl hr'.1
    case own => exact absurd rfl (hr'.2 _ _ _ _)
    all_goals exact this.ra
  · obtain ⟨hG, css, h1, h2⟩ := (show RC w0.B G w (.own t e z es) u from hr)
    rw [hBs] at h1
    refine ⟨css, h1, h2.mono fun _ _ h => ⟨h.1, h.2.mono fun _ _ hr => hr.move (fun _ _ _ => rfl) fun b _ hb => ?_⟩⟩
    rcases hb with hb | hb | hb
    · exact .inr (by rw [S.ext0, hX]; exact hb)
    · exact .inl (.inr (.inr (S.tape0 b (htp.trans hb)).1))
    · exact .inl (.inr (.inl ⟨t, u, hG, hb⟩))
  · obtain rfl := hr.nil_inv
    exact ⟨[], World.ownsRow_nil w w0.heap.size e z, trivial⟩
  · obtain ⟨us, rfl, hc⟩ := hr
    refine ⟨us, rfl, All2.of (hA.len.symm.trans hc.len) fun j c u h1 h2 => ?_⟩
    obtain ⟨c0, k1, k2⟩ := hA.get' h1
    obtain ⟨u0, k3, k4⟩ := hc.get k1
    rw [h2] at k3
    injection k3 with k3
    subst k3
    have := retg_sound S hX htp k2 k4
    rw [hBs] at this
    exact this
/-- From the interpreter to a contract. -/
theorem good_of_c (cuts : Nat → Bool) (hmx : P.follows .mixedOrders = true) (hT : TabOk P T) {f : Nat} {fn : Func} {c : Code} {rs : List ResultVar} {b : Bool} {args : List AV} {R : AV → Prop} (hf : P.funcs[f]? = some fn) (hbd : fn.body = some c) (hname : (fn.name == "runtime.NumGoroutine") = false)
    (hn : fn.ntmps = n) (hrs : fn.results = rs.toArray) (hlen : (Nat.ble args.length n && Nat.ble n 1000) = true) (hw : wf n c = true) (h : abody P T tt cuts c rs b args R) : Good P tt b f args R := by
  refine ⟨⟨fn, c, hf, hname, hbd⟩, fun w X tp us hd hX htp hA hta => ?_⟩
  rw [Bool.and_eq_true] at hlen
  have hlen' : args.length ≤ n := Nat.le_of_ble_eq_true hlen.1
  have hn1 : n ≤ 1000 := Nat.le_of_ble_eq_true hlen.2
  have hl := hA.len
  have hsz : (us.toArray ++ Array.replicate (fn.ntmps - us.toArray.size) undef).size = n := by simp; omega
  have S : Sim tt ⟨w, X, tp, hd, w.heap.size, fun _ => False, fun _ => none, fun _ => undef⟩ (G0 tp X hd) (init b args) { tmps := us.toArray ++ Array.replicate (fn.ntmps - us.toArray.size) undef, defers := [] } w :=
    { slot := fun i => by
        show RA w.heap.size (G0 tp X hd) w (args.getD i .undef) _
        rcases Nat.lt_or_ge i us.length with hi | hi
        · rw [at_lt (by omega)]
          obtain ⟨v, k1, k2⟩ := hA.get' (List.getElem?_eq_getElem hi)
          have e1 : (us.toArray ++ Array.replicate (fn.ntmps - us.toArray.size) undef).getD i undef = us[i] := by
            simp [Array.getD_eq_getD_getElem?, Array.getElem?_append, hi]
          simp only [e1, List.getD_eq_getElem?_getD, k1, Option.getD_some]
          exact k2
        · have : args[i]? = none := List.getElem?_eq_none (by omega)
          simp only [List.getD_eq_getElem?_getD, this, Option.getD_none]
          trivial
      box := fun t cs h => by cases h
      defers := rfl
      chg := Chg.refl _ _
      boxLt := fun t b h => by cases h
      ownLt := fun t v b h => by cases h
      boxInj := fun t t' b h => by cases h
      ownInj := fun t t' v v' b h => by cases h
      boxOwn := fun t t' v b h => by cases h
      tapeBox := fun t b _ h => by cases h
      tapeOwn := fun t v b _ h => by cases h
      tape := fun h => by
        have hb : b = true := h
        rw [hb] at htp
        obtain ⟨p, rfl⟩ := Option.isSome_iff_exists.1 htp
        refine ⟨p, rfl, (hta p rfl).move rfl (fun _ _ _ => rfl) fun b _ hb => ?_⟩
        rcases hb with ⟨t, ht⟩ | ⟨t, v, ht, _⟩ | hb
        · cases ht
        · cases ht
        · exact hb
      noTape := fun h => by
        have hb : b = false := h
        rw [hb] at htp
        show tp = none
        exact Option.not_isSome_iff_eq_none.1 (by rw [htp]; nofun)
      ext := fun b h => hX b h
      fz1 := fun b h => h.elim
      fz2 := fun t v b h => by cases h
      fz3 := fun b _ h => h.elim
      ext0 := rfl
      tape0 := fun p h => ⟨h, rfl⟩
      tapeNew := fun b h _ => h
      hB := Nat.le_refl _
      hM := fun b h => h.elim
      size := by rw [hsz]; exact hn1
      box0 := fun t b h => by cases h }
  refine calls_of_wp hf hbd (wp_mono (code_sound hmx hT c _ _ _ _ _ hw h S hsz) fun e a' w' ho => ?_)
  have key : ∀ Q, Nxt tt ⟨w, X, tp, hd, w.heap.size, fun _ => False, fun _ => none, fun _ => undef⟩ n none Q a' w' → (∀ s, Q s → afin T rs R s) → a'.defers = [] ∧ ∃ v, (results fn a'.tmps).run P w' = .ok v w' ∧ ∃ u r, Ending.returned v = .returned u ∧ R r ∧ RetR tt tp X w w' r u ∧ Chg (fun b => tp = some b) w w' ∧ ∀ p, tp = some p → TapeAt tt (fun b => tp = some b) hd.1 hd.2.1 hd.2.2 w' p := fun Q ⟨G, s, S', _, hq, _⟩ hQ => by
    refine ⟨S'.defers, ?_⟩
    obtain ⟨vs, us', k1, k2, k3⟩ := ares_sound hT S' (hQ s hq)
    have hrun : (results fn a'.tmps).run P w' = .ok (if h : us'.toArray.size = 1 then us'.toArray[0] else .tuple us'.toArray) w' := by
      rw [results_eq, hrs, Array.mapM_eq_mapM_toList]
      simp only [Sem.run_bind, Sem.run_map, k3, Result.andThen_ok, Sem.run_pure]
    have hchg : Chg (fun b => tp = some b) w w' := S'.chg.mono fun b hb h => h.elim (fun h => S'.tapeNew b h hb) fun h => h.elim
    have htape : ∀ p, tp = some p → TapeAt tt (fun b => tp = some b) hd.1 hd.2.1 hd.2.2 w' p := fun p hp => by
      obtain ⟨g1, g2⟩ := S'.tape0 p hp
      have hs : s.tp = true := by
        cases h : s.tp with
        | true => rfl
        | false => rw [S'.noTape h] at g1; cases g1
      obtain ⟨p', m1, m2⟩ := S'.tape hs
      rw [g1] at m1
      injection m1 with m1
      subst m1
      rw [g2] at m2
      exact m2.move rfl (fun _ _ _ => rfl) fun b _ hb => .inr (.inr (S'.tape0 b hb).1)
    refine ⟨_, hrun, ?_⟩
    split at k1
    · next v =>
      obtain ⟨u, us2, rfl, m1, m2⟩ := k2.cons_inv
      obtain rfl := m2.nil_inv
      simp only [aret_iff] at k1
      obtain ⟨r, q1, q2⟩ := k1
      exact ⟨u, r, rfl, q2, ret_sound S' rfl rfl rfl q1 m1, hchg, htape⟩
    · next hvs =>
      simp only [aret_iff] at k1
      obtain ⟨r, q1, q2⟩ := k1
      have hone : ¬ us'.toArray.size = 1 := fun h => by
        have hl : vs.length = 1 := by rw [k2.len]; simpa using h
        obtain ⟨v, rfl⟩ := List.length_eq_one_iff.1 hl
        exact hvs v rfl
      rw [dif_neg hone]
      refine ⟨_, r, rfl, q2, ret_sound (v := .tup vs) S' rfl rfl rfl q1 ⟨us', rfl, ?_⟩, hchg, htape⟩
      refine All2.of k2.len fun j v u h1 h2 => ?_
      obtain ⟨u', k5, k6⟩ := k2.get h1
      rw [h2] at k5
      injection k5 with k5
      subst k5
      -- a component of a tuple is no tuple
      rcases q1 with q | ⟨t, e, z, es, q, _⟩ | ⟨q, _⟩ | ⟨vs', rs', q, _, qA⟩
      · rcases q with (⟨_, hp⟩ | ⟨_, _, _, _, q, _⟩ | ⟨q, _⟩) | ⟨_, _, q, _⟩ <;> first | (cases q; done) | (simp [plainC] at hp)
      · cases q
      · cases q
      · injection q with q
        subst q
        obtain ⟨r0, g1, g2⟩ := qA.get h1
        rcases g2 with (⟨_, hp⟩ | ⟨_, _, _, _, rfl, _⟩ | ⟨rfl, _⟩) | ⟨_, _, rfl, _⟩
        · cases v <;> first | exact k6 | (simp [plainC] at hp)
        · exact k6
        · exact k6
        · exact k6
  cases e with
  | normal => exact key _ ho fun s h => h
  | ret => exact key _ ho fun s h => h
  | exit i => obtain ⟨_, _, _, _, h, _⟩ := ho; exact h.elim
  | goto l => exact ho.elim
  | panic c => exact ho.elim
  | outgrown => exact ho.elim
theorem good_of (hmx : P.follows .mixedOrders = true) (hT : TabOk P T) {f : Nat} {fn : Func} {c : Code} {rs : List ResultVar} {b : Bool} {args : List AV} {R : AV → Prop} (hf : P.funcs[f]? = some fn) (hbd : fn.body = some c) (hname : (fn.name == "runtime.NumGoroutine") = false)
    (hn : fn.ntmps = n) (hrs : fn.results = rs.toArray) (hlen : (Nat.ble args.length n && Nat.ble n 1000) = true) (hw : wf n c = true) (h : abody P T tt (fun _ => false) c rs b args R) : Good P tt b f args R := good_of_c (fun _ => false) hmx hT hf hbd hname hn hrs hlen hw h
/-! functions that change what they are handed -/
def initM (b : Bool) (args : List AV) (bx : List (Nat × List AV)) : St := ⟨fun i => bif Nat.blt i 1000 then args.getD i .undef else lk (ovOf 1000 args) i, lkB bx, b⟩
structure aretM (tt : Nat) (b : Bool) (v : AV) (R : AV → List (Nat × AV) → List (Nat × List AV) → Prop) (s : St) : Prop where
  out : s.tp = b ∧ ∃ r ov bx, Le tt (s.put 0 v) (mkSt ((0, r) :: ov) bx b) ∧ ovGe ov = true ∧ R r ov bx
/-- No value of a slot is a tuple within a tuple. -/
def noTup : List AV → Bool
  | [] => true
  | .tup _ :: _ => false
  | _ :: vs => noTup vs
def afinM (T : Nat → Ty) (tt : Nat) (b : Bool) (rs : List ResultVar) (R : AV → List (Nat × AV) → List (Nat × List AV) → Prop) (s : St) : Prop := ares T s rs fun vs => match vs with
  | [v] => aretM tt b v R s
  | vs => match noTup vs with
    | true => aretM tt b (.tup vs) R s
    | false => False
def abodyM (P : Program) (T : Nat → Ty) (tt : Nat) (cuts : Nat → Bool) (c : Code) (rs : List ResultVar) (b : Bool) (args : List AV) (bx : List (Nat × List AV)) (R : AV → List (Nat × AV) → List (Nat × List AV) → Prop) : Prop :=
  acode P T tt cuts c (fun e s => match e with | .norm => afinM T tt b rs R s | .ret => afinM T tt b rs R s | .exit _ => False) (initM b args bx)
theorem noTup_rg : ∀ {vs : List AV} {us : List Value}, noTup vs = true → All2 (RA w0.B G w) vs us → All2 (RG w0.B G w) vs us
  | [], [], _, _ => trivial
  | v :: vs, u :: us, h, hA => by
    cases v
    case tup => simp [noTup] at h
    all_goals exact ⟨hA.1, noTup_rg h hA.2⟩
  | [], _ :: _, _, hA => hA.elim
  | _ :: _, [], _, hA => hA.elim
theorem good_of_m (cuts : Nat → Bool) (hmx : P.follows .mixedOrders = true) (hT : TabOk P T) {f : Nat} {fn : Func} {c : Code} {rs : List ResultVar} {b : Bool} {args : List AV} {bx : List (Nat × List AV)} {R : AV → List (Nat × AV) → List (Nat × List AV) → Prop} (hf : P.funcs[f]? = some fn) (hbd : fn.body = some c) (hname : (fn.name == "runtime.NumGoroutine") = false)
    (hn : fn.ntmps = n) (hrs : fn.results = rs.toArray) (hlen : (Nat.ble args.length n && Nat.ble n 1000 && Nat.ble 1 n) = true) (hw : wf n c = true) (h : abodyM P T tt cuts c rs b args bx R) : GoodM P tt b f args bx R := by
  refine ⟨⟨fn, c, hf, hname, hbd⟩, fun w0 G us S0 hA => ?_⟩
  simp only [Bool.and_eq_true] at hlen
  have hlen' : args.length ≤ n := Nat.le_of_ble_eq_true hlen.1.1
  have hn1 : n ≤ 1000 := Nat.le_of_ble_eq_true hlen.1.2
  have hn0 : 1 ≤ n := Nat.le_of_ble_eq_true hlen.2
  have hl := hA.len
  have hsz : (us.toArray ++ Array.replicate (fn.ntmps - us.toArray.size) undef).size = n := by simp; omega
  have S : Sim tt w0 G (initM b args bx) { tmps := us.toArray ++ Array.replicate (fn.ntmps - us.toArray.size) undef, defers := [] } w0.toWorld :=
    { S0 with
      slot := fun i => by
        show RA w0.B G w0.toWorld (bif Nat.blt i 1000 then args.getD i .undef else lk (ovOf 1000 args) i) _
        by_cases hi1 : i < 1000
        · have e0 : Nat.blt i 1000 = true := by simpa using hi1
          rw [e0, at_lt hi1]
          simp only [cond_true]
          rcases Nat.lt_or_ge i us.length with hi | hi
          · obtain ⟨v, k1, k2⟩ := hA.get' (List.getElem?_eq_getElem hi)
            have e1 : (us.toArray ++ Array.replicate (fn.ntmps - us.toArray.size) undef).getD i undef = us[i] := by
              simp [Array.getD_eq_getD_getElem?, Array.getElem?_append, hi]
            simp only [e1, List.getD_eq_getElem?_getD, k1, Option.getD_some]
            exact k2
          · have : args[i]? = none := List.getElem?_eq_none (by omega)
            simp only [List.getD_eq_getElem?_getD, this, Option.getD_none]
            trivial
        · have e0 : Nat.blt i 1000 = false := by rw [← Bool.not_eq_true, Nat.blt_eq]; exact hi1
          rw [e0, at_ge hi1]
          simp only [cond_false]
          have := S0.slot i
          rw [at_ge hi1] at this
          exact this
      box := S0.box
      defers := rfl
      tape := S0.tape
      noTape := S0.noTape
      size := by rw [hsz]; exact hn1 }
  refine calls_of_wp hf hbd (wp_mono (code_sound hmx hT c _ _ _ _ _ hw h S hsz) fun e a' w' ho => ?_)
  have key : ∀ Q, Nxt tt w0 n none Q a' w' → (∀ s, Q s → afinM T tt b rs R s) → a'.defers = [] ∧ ∃ v, (results fn a'.tmps).run P w' = .ok v w' ∧ ∃ u r ov bx' G', Ending.returned v = .returned u ∧ R r ov bx' ∧ Sim tt w0 G' (mkSt ov bx' b) a0 w' ∧ RA w0.B G' w' r u := fun Q ⟨G, s, S', hsz', hq, _⟩ hQ => by
    refine ⟨S'.defers, ?_⟩
    obtain ⟨vs, us', k1, k2, k3⟩ := ares_sound hT S' (hQ s hq)
    have hrun : (results fn a'.tmps).run P w' = .ok (if h : us'.toArray.size = 1 then us'.toArray[0] else .tuple us'.toArray) w' := by
      rw [results_eq, hrs, Array.mapM_eq_mapM_toList]
      simp only [Sem.run_bind, Sem.run_map, k3, Result.andThen_ok, Sem.run_pure]
    refine ⟨_, hrun, ?_⟩
    have fin : ∀ v u, aretM tt b v R s → RA w0.B G w' v u → ∃ r ov bx' G', R r ov bx' ∧ Sim tt w0 G' (mkSt ov bx' b) a0 w' ∧ RA w0.B G' w' r u := fun v u hret hr => by
      obtain ⟨htp, r, ov, bx', hle, hge, hR⟩ := hret.out
      have S1 := S'.put (d := 0) (v := v) (u := u) (by omega) hr
      obtain ⟨G', S2⟩ := hle w0 G _ w' S1
      refine ⟨r, ov, bx', G', hR, ?_, ?_⟩
      · exact { S2 with
          slot := fun i => by
            show RA w0.B G' w' (lk ov i) _
            by_cases hi : i < 1000
            · rw [ovGe_at hge hi]; trivial
            · have := S2.slot i
              rw [at_ge hi] at this ⊢
              have e : (mkSt ((0, r) :: ov) bx' b).slot i = lk ov i := by
                show lk ((0, r) :: ov) i = _
                simp only [lk, beq_ne (show i ≠ 0 by omega), cond_false]
              rw [e] at this
              exact this
          box := S2.box
          defers := rfl
          tape := S2.tape
          noTape := S2.noTape
          size := by simp [a0] }
      · have := S2.slot 0
        rw [at_lt (by omega)] at this
        have e : (a'.put (some 0) u).tmps.getD 0 undef = u := by
          show (a'.tmps.setIfInBounds 0 u).getD 0 undef = u
          rw [getD_put (by omega)]
          simp
        rw [e] at this
        exact this
    split at k1
    · next v =>
      obtain ⟨u, us2, rfl, m1, m2⟩ := k2.cons_inv
      obtain rfl := m2.nil_inv
      obtain ⟨r, ov, bx', G', h1, h2, h3⟩ := fin v u k1 m1
      exact ⟨u, r, ov, bx', G', rfl, h1, h2, h3⟩
    · next hvs =>
      have hone : ¬ us'.toArray.size = 1 := fun h => by
        have hl : vs.length = 1 := by rw [k2.len]; simpa using h
        obtain ⟨v, rfl⟩ := List.length_eq_one_iff.1 hl
        exact hvs v rfl
      rw [dif_neg hone]
      split at k1
      · next hnt =>
        obtain ⟨r, ov, bx', G', h1, h2, h3⟩ := fin (.tup vs) (.tuple us'.toArray) k1 ⟨us', rfl, noTup_rg hnt k2⟩
        exact ⟨_, r, ov, bx', G', rfl, h1, h2, h3⟩
      · exact k1.elim
  cases e with
  | normal => exact key _ ho fun s h => h
  | ret => exact key _ ho fun s h => h
  | exit i => obtain ⟨_, _, _, _, h, _⟩ := ho; exact h.elim
  | goto l => exact ho.elim
  | panic c => exact ho.elim
  | outgrown => exact ho.elim
end
end Go.Proofs.Ythgnomniboindaa
end

/- A plain interpreter, part 19: the moves of a proof. -/
section
namespace Go.Proofs.Ythgnomniboindaa
set_option linter.unusedVariables false
set_option linter.unusedSimpArgs false
set_option linter.unnecessarySimpa false
set_option linter.unusedSectionVars false
open Go.RowKit

section
variable {P : Program} {T : Nat → Ty} {tt : Nat} {K : AV → Prop}
theorem branch_i {b : Bool} {A B : Prop} (h : b = true → A) (h' : b = false → B) : branch b A B := by exact ⟨⟨h, h'⟩⟩
theorem branch_t {b : Bool} {A B : Prop} (hb : b = true) (h : A) : branch b A B := by subst hb; exact ⟨⟨fun _ => h, nofun⟩⟩
theorem branch_f {b : Bool} {A B : Prop} (hb : b = false) (h : B) : branch b A B := by subst hb; exact ⟨⟨nofun, fun _ => h⟩⟩
theorem branch_tt {A B : Prop} (h : A) : branch true A B := branch_t rfl h
theorem branch_ff {A B : Prop} (h : B) : branch false A B := branch_f rfl h
theorem branch_d {p : Prop} [Decidable p] {A B : Prop} (h : p → A) (h' : ¬ p → B) : branch (decide p) A B := by exact ⟨⟨fun k => h (of_decide_eq_true k), fun k => h' (of_decide_eq_false k)⟩⟩
theorem branch_e {x y : Int} {A B : Prop} (h : x = y → A) (h' : x ≠ y → B) : branch (x == y) A B := by exact ⟨⟨fun k => h (by simpa using k), fun k => h' (by simpa using k)⟩⟩
theorem branch_n {x y : Int} {A B : Prop} (h : x ≠ y → A) (h' : x = y → B) : branch (x != y) A B := by exact ⟨⟨fun k => h (by simpa using k), fun k => h' (by simpa using k)⟩⟩
theorem branch_not {b : Bool} {A B : Prop} (h : branch b B A) : branch (!b) A B := by rw [branch_iff] at *; cases b <;> simp_all
theorem need_i {p A : Prop} (h : p) (k : A) : need p A := by exact ⟨⟨h, k⟩⟩
theorem slc_e {A B C : Prop} (h : A) : slc A B C := ⟨.inl h⟩
theorem callS_a {A B : Prop} (h : A) : callS A B := ⟨.inl h⟩
theorem callS_b {A B : Prop} (h : B) : callS A B := ⟨.inr h⟩
theorem own_e {A B : Prop} (h : A) : admO A B := ⟨.inl h⟩
theorem own_k {A B C : Prop} (h : B) (k : C) : admO A (B ∧ C) := ⟨.inr ⟨h, k⟩⟩
theorem slc_w {A B C : Prop} (h : B) : slc A B C := ⟨.inr (.inl h)⟩
theorem slc_o {A B C : Prop} (h : C) : slc A B C := ⟨.inr (.inr h)⟩
theorem nils_i {cs : List AV} {K : List AV → Prop} (cs' : List AV) (h : All2 PresC cs cs') (k : K cs') : nils cs K := by exact ⟨⟨cs', h, k⟩⟩
theorem pc {c : AV} {c' : AV} (h : PresC c c') : PresC c c' := h
theorem nil_i {es : List (List AV)} {K : Bool → Prop} (h0 : es = [] → K true) (h1 : K false) : nilTest es K := by
  exact ⟨fun b hb => by cases b; exact h1; exact h0 (hb rfl)⟩
theorem eq_i {t : Nat} {vs us : List Value} {K : Bool → Prop} {b : Bool} (h1 : P.eqGuardType P.depth t = false) (h2 : ∀ w, (Op.equalIn 10000 t (.agg vs.toArray) (.agg us.toArray)).run P w = .ok b w) (h : K b) : eqS P t vs us K := by exact ⟨⟨h1, b, h2, h⟩⟩
theorem mkmap_b {A B : Prop} (h : A) : mkMapS A B := ⟨.inl h⟩
theorem mkmap_n {A B : Prop} (h : B) : mkMapS A B := ⟨.inr h⟩
theorem map_i {t k e : Nat} {z : Value} {A : Prop} (h1 : P.underlying t = some (.map k e)) (h2 : P.underlying k = some (.int .i64)) (h3 : ∀ w, (zeroValue e).run P w = .ok z w) (h : A) : mapTy P t z A := by exact ⟨⟨⟨k, e, h1, h2, h3⟩, h⟩⟩
theorem arith_i {n : Int} (h : -9223372036854775808 ≤ n ∧ n ≤ 9223372036854775807) (k : K (.int .i64 n)) : arith .i64 n K := by
  rw [arith_iff]
  have : IntKind.i64.wrap n = n := by rw [IntKind.wrap_i64]; omega
  rw [this]; exact k
theorem arith_u {n : Int} (h : 0 ≤ n ∧ n ≤ 9223372036854775807) (k : K (.int .u64 n)) : arith .u64 n K := by
  rw [arith_iff]
  have : IntKind.u64.wrap n = n := by simp [IntKind.wrap, IntKind.bits, IntKind.signed]; omega
  rw [this]; exact k
theorem arith_8 {n : Int} (h : 0 ≤ n ∧ n ≤ 255) (k : K (.int .u8 n)) : arith .u8 n K := by
  rw [arith_iff]
  have : IntKind.u8.wrap n = n := by simp [IntKind.wrap, IntKind.bits, IntKind.signed]; omega
  rw [this]; exact k
theorem toStr_i {es : List (List AV)} {K : ByteArray → Prop} (ns : List Int) (h : es = ns.map fun n => [AV.int .u8 n]) (k : K (strOf ns)) : toStr es K := by exact ⟨⟨ns, h, k⟩⟩
theorem arith_w {k : IntKind} {n : Int} (h : K (.int k (k.wrap n))) : arith k n K := by exact ⟨h⟩
theorem aget_i {cs : List AV} {z len : Nat} {n : Int} {K : List AV → Prop} (k : Nat) (h : n = k) (hk : k < len) (h3 : K ((cs.drop (k * z)).take z)) : agetS cs z len n K := ⟨⟨k, h, hk, h3⟩⟩
/-- An element of an array of one cell each, all of one form. -/
theorem aget_f {cs : List AV} {len : Nat} {n : Int} {K : List AV → Prop} (f : Nat → AV) (h0 : 0 ≤ n) (h : n < len) (hf : ∀ k, k < len → cs[k]? = some (f k)) (h3 : K [f n.toNat]) : agetS cs 1 len n K := by
  refine ⟨⟨n.toNat, by omega, by omega, ?_⟩⟩
  have := hf n.toNat (by omega)
  have e : (cs.drop (n.toNat * 1)).take 1 = [f n.toNat] := by
    rw [Nat.mul_one, List.take_one, List.head?_drop, this]; rfl
  rw [e]; exact h3
theorem aidx_i {len : Nat} {n : Int} {K : Nat → Prop} (k : Nat) (h : n = k) (hk : k < len) (h3 : K k) : aidx len n K := by exact ⟨⟨k, h, hk, h3⟩⟩
theorem idx_i {es : List (List AV)} {n : Int} {K : List AV → Prop} {cs : List AV} (h0 : 0 ≤ n) (h : es[n.toNat]? = some cs) (k : K cs) : idx es n K := by exact ⟨⟨h0, cs, h, k⟩⟩
/-- An element of a list of data. -/
theorem idx_m {α : Type} {enc : α → List AV} {xs : List α} {n : Int} {K : List AV → Prop} (h0 : 0 ≤ n) (h1 : n < xs.length) (k : ∀ x, xs[n.toNat]? = some x → K (enc x)) : idx (xs.map enc) n K := by
  have hlt : n.toNat < xs.length := by omega
  exact idx_i h0 (by rw [List.getElem?_map, List.getElem?_eq_getElem hlt]; rfl) (k _ (List.getElem?_eq_getElem hlt))
theorem sub_i {es : List (List AV)} {lo hi : Int} {K : List (List AV) → Prop} (h : 0 ≤ lo ∧ lo ≤ hi ∧ hi ≤ es.length) (k : K ((es.take hi.toNat).drop lo.toNat)) : sub es lo hi K := by exact ⟨⟨h, k⟩⟩
theorem byte_i {s : ByteArray} {n : Int} {K : Int → Prop} {b : UInt8} (h0 : 0 ≤ n) (h : s[n.toNat]? = some b) (k : K b.toNat) : byteAt s n K := by exact ⟨⟨h0, b, h, k⟩⟩
theorem wk_refl : ∀ {vs : List AV}, All2 Wk vs vs
  | [] => trivial
  | v :: vs => ⟨.inl (.inl rfl), wk_refl⟩
theorem call_i {alt : Prop} {b : Bool} {f : Nat} {args : List AV} {R : AV → Prop} (hG : Good P tt b f args R) (h : ∀ r, R r → K r) : acall P tt b f args K alt := by exact ⟨.inl ⟨args, R, wk_refl, hG, h⟩⟩
theorem call_e {alt : Prop} {b : Bool} {f : Nat} {args : List AV} {v : AV} (hG : Good P tt b f args (· = v)) (h : K v) : acall P tt b f args K alt := by exact ⟨.inl ⟨args, _, wk_refl, hG, fun r e => e ▸ h⟩⟩
theorem call_w {alt : Prop} {b : Bool} {f : Nat} {args args' : List AV} {R : AV → Prop} (hw : All2 Wk args args') (hG : Good P tt b f args' R) (h : ∀ r, R r → K r) : acall P tt b f args K alt := by exact ⟨.inl ⟨args', R, hw, hG, h⟩⟩
theorem Good.mono {b : Bool} {f : Nat} {args : List AV} {R R' : AV → Prop} (h : Good P tt b f args R) (hR : ∀ r, R r → R' r) : Good P tt b f args R' :=
  ⟨h.1, fun w X tp us hd k1 k2 k3 k4 => Calls.mono (h.2 w X tp us hd k1 k2 k3 k4) fun e w' ⟨u, r, e1, e2, e3⟩ => ⟨u, r, e1, hR r e2, e3⟩⟩
theorem ret_p {v : AV} {R : AV → Prop} (hp : plainC v = true) (h : R v) : aret v R := by exact ⟨⟨v, .inl (.inl (.inl ⟨rfl, hp⟩)), h⟩⟩
theorem ret_o {t : Tg} {e z : Nat} {es : List (List AV)} {R : AV → Prop} (h : R (.own 0 e z es)) : aret (.own t e z es) R := by exact ⟨⟨_, .inr (.inl ⟨t, e, z, es, rfl, rfl⟩), h⟩⟩
theorem ret_ol {t : Tg} {e z : Nat} {es : List (List AV)} {R : AV → Prop} (h : R (.lst z es)) : aret (.own t e z es) R := by exact ⟨⟨_, .inl (.inl (.inr (.inl ⟨t, e, z, es, rfl, rfl⟩))), h⟩⟩
theorem ret_n {e z : Nat} {R : AV → Prop} (h : R (.own 0 e z [])) : aret .nil R := by exact ⟨⟨_, .inr (.inr (.inl ⟨rfl, e, z, rfl⟩)), h⟩⟩
theorem ret_nl {z : Nat} {R : AV → Prop} (h : R (.lst z [])) : aret .nil R := by exact ⟨⟨_, .inl (.inl (.inr (.inr ⟨rfl, z, rfl⟩))), h⟩⟩
theorem ret_a {cs cs' : List AV} {R : AV → Prop} (hA : All2 RetC cs cs') (h : R (.agg cs')) : aret (.agg cs) R := by exact ⟨⟨_, .inl (.inr ⟨cs, cs', rfl, rfl, hA⟩), h⟩⟩
theorem ret_t {vs rs : List AV} {R : AV → Prop} (hA : All2 RetG vs rs) (h : R (.tup rs)) : aret (.tup vs) R := by exact ⟨⟨_, .inr (.inr (.inr ⟨vs, rs, rfl, rfl, hA⟩)), h⟩⟩
theorem rc_p {v : AV} (hp : plainC v = true) : RetC v v := .inl ⟨rfl, hp⟩
theorem rc_o {t : Tg} {e z : Nat} {es : List (List AV)} : RetC (.own t e z es) (.lst z es) := .inr (.inl ⟨t, e, z, es, rfl, rfl⟩)
theorem rc_n {z : Nat} : RetC .nil (.lst z []) := .inr (.inr ⟨rfl, z, rfl⟩)
theorem RetC.g {v r : AV} (h : RetC v r) : RetG v r := .inl h
theorem cut_i {p : (St → Prop) → Prop} {q : St → Prop} (s' : St) (h1 : p (leS tt s')) (h2 : q s') : acut tt p q := ⟨⟨s', h1, h2⟩⟩
theorem draw_i (m : Nat) (p : Plan) {ops : Array Oper} {K : St → Prop} {s : St} (hp : planOk ops m p = true) (h : arun P T tt ops p K s) : adraw P T tt ops K s := by exact ⟨⟨m, p, hp, h⟩⟩
/-! states -/
def Slots : List (Nat × AV) → St → Prop
  | [], _ => True
  | (j, v) :: l, s => s.slot j = v ∧ Slots l s
def Boxes : List (Nat × List AV) → St → Prop
  | [], _ => True
  | (j, v) :: l, s => s.box j = some v ∧ Boxes l s
variable {s s1 s2 : St}
theorem Le.refl : Le tt s s := fun w0 G a w S => ⟨G, S⟩
theorem Le.trans (h : Le tt s s1) (k : Le tt s1 s2) : Le tt s s2 := fun w0 G a w S => by
  obtain ⟨G', S'⟩ := h w0 G a w S
  exact k w0 G' a w S'
theorem lk_slot {sl : List (Nat × AV)} (h : Slots sl s) (i : Nat) : lk sl i = .undef ∨ lk sl i = s.slot i := by
  induction sl with
  | nil => exact .inl rfl
  | cons p l ih =>
    obtain ⟨j, v⟩ := p
    by_cases e : i = j
    · subst e; right; simp only [lk, beq_self, cond_true]; exact h.1.symm
    · simp only [lk, beq_ne e, cond_false]; exact ih h.2
theorem lk_box {bx : List (Nat × List AV)} (h : Boxes bx s) (i : Nat) (cs : List AV) (hc : lkB bx i = some cs) : s.box i = some cs := by
  induction bx with
  | nil => cases hc
  | cons p l ih =>
    obtain ⟨j, v⟩ := p
    by_cases e : i = j
    · subst e; simp only [lkB, beq_self, cond_true] at hc; rw [← hc]; exact h.1
    · simp only [lkB, beq_ne e, cond_false] at hc; exact ih h.2 hc
/-- Only these slots and variables are kept. -/
theorem le_mk {sl : List (Nat × AV)} {bx : List (Nat × List AV)} {tp : Bool} (h : Slots sl s) (hb : Boxes bx s) (htp : s.tp = tp) : Le tt s (mkSt sl bx tp) := fun w0 G a w S =>
  ⟨G, { S with
    slot := fun i => by
      rcases lk_slot h i with e | e
      · show RA _ _ _ (lk sl i) _; rw [e]; trivial
      · show RA _ _ _ (lk sl i) _; rw [e]; exact S.slot i
    box := fun t cs hc => S.box t cs (lk_box hb t cs hc)
    tape := fun h => S.tape (htp.trans h)
    noTape := fun h => S.noTape (htp.trans h) }⟩
theorem le_erase (t : Nat) : Le tt s (s.map (eraseF t)) := fun w0 G a w S => ⟨_, (S.erase t).1⟩
/-- A nil slice is a slice of the function's own. -/
theorem le_adopt (i t e z : Nat) (h : s.slot i = .nil) : Le tt s ((s.map (killF t)).put i (.own t e z [])) := fun w0 G a w S => by
  have S1 := S.setOwn (w' := w) t (.slice none 0 0) (Nat.le_refl _) (fun _ _ _ => rfl) (fun b hb => by cases hb) S.chg
  have hu := S.slot i
  rw [h] at hu
  have hu' : Act.at w0 a i = .slice none 0 0 := hu
  refine ⟨_, S1.know (v := .own t e z []) ?_⟩
  rw [hu']
  exact ⟨upd_same, [], World.ownsRow_nil w w0.B e z, trivial⟩
/-- The same, in a variable. -/
theorem le_adoptBox (b j t e z : Nat) {cs : List AV} (hb : s.box b = some cs) (h : cs[j]? = some .nil) : Le tt s ((s.map (killF t)).setBox b ((cs.map (killF t)).set j (.own t e z []))) := fun w0 G a w S => by
  have S1 := S.setOwn (w' := w) t (.slice none 0 0) (Nat.le_refl _) (fun _ _ _ => rfl) (fun b hb => by cases hb) S.chg
  obtain ⟨bb, ee, us, k1, k2, k3⟩ := S1.box b (cs.map (killF t)) (by simp [St.map, hb])
  obtain ⟨bb', ee', us', q1, q2, q3⟩ := S.box b cs hb
  obtain ⟨u, hu, hr⟩ := q3.get h
  have hu' : u = .slice none 0 0 := hr
  have e1 : us = us' := by
    have : bb = bb' := by
      have := k1
      rw [show ({ G with own := upd G.own t (some (.slice none 0 0)) } : Gh).box b = G.box b from rfl, q1] at this
      injection this with this
      exact this.symm
    subst this
    have a1 : w.heap[bb]? = some (.cells us.toArray ee (0, 0)) := k2
    have a2 : w.heap[bb]? = some (.cells us'.toArray ee' (0, 0)) := q2
    rw [a1] at a2
    simp only [Option.some.injEq, Obj.cells.injEq] at a2
    have := congrArg Array.toList a2.1
    simpa using this
  subst e1
  refine ⟨_, S1.setBox k1 k2 ?_⟩
  have hset := k3.set j (a := .own t e z []) (b := u) ⟨by rw [hu']; exact upd_same, by rw [hu']; exact ⟨[], World.ownsRow_nil w w0.B e z, trivial⟩⟩
  have : us.set j u = us := by
    apply List.ext_getElem?
    intro k
    rw [List.getElem?_set]
    split
    · next e => subst e; rw [hu]; simp [(List.getElem?_eq_some_iff.1 hu).1]
    · rfl
  rwa [this] at hset
theorem le_nilBox (b j z : Nat) {cs : List AV} (hb : s.box b = some cs) (h : cs[j]? = some .nil) : Le tt s (s.setBox b (cs.set j (.lst z []))) := fun w0 G a w S => by
  obtain ⟨bb, e, us, k1, k2, k3⟩ := S.box b cs hb
  refine ⟨G, S.setBox k1 k2 ?_⟩
  obtain ⟨u, hu, hr⟩ := k3.get h
  have hu' : u = .slice none 0 0 := hr
  have hset := k3.set j (a := .lst z []) (b := u) (by rw [hu']; exact RepV.nil z _ _)
  have : us.set j u = us := by
    refine List.ext_getElem? fun i => ?_
    rw [List.getElem?_set]
    split
    · next e => subst e; rw [hu]; simp [(List.getElem?_eq_some_iff.1 hu).1]
    · rfl
  rwa [this] at hset
/-- The state is weakened before a region. -/
theorem rest_i {K : St → Prop} (s' : St) (hle : Le tt s s') (h : K s') : rest tt K s := by exact ⟨⟨s', hle, h⟩⟩
/-- A loop: the states at its head are a family. -/
theorem loop_i {α : Type} (I : α → Prop) (st : α → St) (μ : α → Nat) {body : (Ex → St → Prop) → St → Prop} {Q : Ex → St → Prop} (x0 : α) (h0 : I x0) (hle : Le tt s (st x0))
    (hstep : ∀ x, I x → body (fun e s' => match e with | .norm => ∃ x', I x' ∧ Le tt s' (st x') ∧ μ x' < μ x | .exit i => Q (.exit i) s' | .ret => Q .ret s') (st x)) : aloop tt body Q s := by
  exact ⟨⟨α, I, st, μ, x0, h0, hle, hstep⟩⟩
/-! calls that change what they are handed -/
theorem plainC_ren {β ρ : List (Nat × Nat)} {v : AV} (h : plainC v = true) : renL β ρ v = v := by cases v <;> first | rfl | simp [plainC] at h
theorem plainCs_ren {β ρ : List (Nat × Nat)} : ∀ {cs : List AV}, plainCs cs = true → cs.map (renL β ρ) = cs
  | [], _ => rfl
  | c :: cs, h => by
    simp only [plainCs, Bool.and_eq_true] at h
    rw [List.map_cons, plainC_ren h.1, plainCs_ren h.2]
theorem plainG_ren {β ρ : List (Nat × Nat)} {v : AV} (h : plainG v = true) : v.mapG (renL β ρ) = v := by
  cases v
  case agg cs => simp only [AV.mapG, plainCs_ren h]
  all_goals first | rfl | (simp [plainG, plainC] at h)
theorem plainGs_ren {β ρ : List (Nat × Nat)} : ∀ {cs : List AV}, plainGs cs = true → cs.map (AV.mapG (renL β ρ)) = cs
  | [], _ => rfl
  | c :: cs, h => by
    simp only [plainGs, Bool.and_eq_true] at h
    rw [List.map_cons, plainG_ren h.1, plainGs_ren h.2]
theorem plainR_ren {β ρ : List (Nat × Nat)} {v : AV} (h : plainR v = true) : v.mapT (renL β ρ) = v := by
  cases v
  case tup cs => simp only [AV.mapT, plainGs_ren h]
  case agg cs => exact congrArg AV.agg (plainCs_ren h)
  all_goals first | rfl | (simp [plainR, plainG, plainC] at h)
theorem okN_nil {β ρ : List (Nat × Nat)} (h : okM β ρ = true) : okN β ρ [] [] = true := by
  simp only [okM, Bool.and_eq_true] at h
  simp only [okN, List.append_nil, h.1.1.1.1, h.1.1.1.2, h.1.1.2, h.1.2, Bool.and_self, Bool.true_and]
  rfl
/-- A call that brings variables (ν: the callee's name, the caller's) and slices (σ) of its own. -/
theorem rcall_i (β ρ ν σ : List (Nat × Nat)) {f : Operand} {xs : List Operand} {d : Option Nat} {K : St → Prop} {A : Prop} {g : Nat} {cap args : List AV} {bx : List (Nat × List AV)} {R : AV → List (Nat × AV) → List (Nat × List AV) → Prop} (s1 : St) (hle : Le tt s s1)
    (hG : GoodM P tt (hasTape args) g args bx R) (hf : s1.eval f = .fn g cap) (hargs : evals s1 xs ++ cap = args.map (ren β ρ)) (hk : (okM β ρ && okAs β ρ args && keysIn bx (fsts β)) = true) (hn : okN β ρ ν σ = true) (hbx : BoxesM s1 β ρ bx)
    (h : ∀ r ov bx', R r ov bx' → ovGe ov = true ∧ backK (β ++ ν) (ρ ++ σ) bx' (β ++ ν) (fun s => putK s d (r.mapT (renL (β ++ ν) (ρ ++ σ))) K) (s1.map (afterF ν (ρ ++ σ) (ovOf 1000 args) ov))) : callS A (mcall P tt f xs d K s) :=
  ⟨.inr ⟨s1, g, cap, β, ρ, ν, σ, args, bx, R, hle, hf, hargs, hk, hn, hbx, hG, h⟩⟩
theorem mcall_i (β ρ : List (Nat × Nat)) {f : Operand} {xs : List Operand} {d : Option Nat} {K : St → Prop} {A : Prop} {g : Nat} {cap args : List AV} {bx : List (Nat × List AV)} {R : AV → List (Nat × AV) → List (Nat × List AV) → Prop} (s1 : St) (hle : Le tt s s1)
    (hG : GoodM P tt (hasTape args) g args bx R) (hf : s1.eval f = .fn g cap) (hargs : evals s1 xs ++ cap = args.map (ren β ρ)) (hk : (okM β ρ && okAs β ρ args && keysIn bx (fsts β)) = true) (hbx : BoxesM s1 β ρ bx)
    (h : ∀ r ov bx', R r ov bx' → (plainR r && ovGe ov) = true ∧ backK β ρ bx' β (fun s => putK s d r K) (s1.map (afterF [] ρ (ovOf 1000 args) ov))) : callS A (mcall P tt f xs d K s) :=
  rcall_i β ρ [] [] s1 hle hG hf hargs hk (okN_nil (by simp only [Bool.and_eq_true] at hk; exact hk.1.1)) hbx fun r ov bx' hr => by
    obtain ⟨h1, h2⟩ := h r ov bx' hr
    rw [Bool.and_eq_true] at h1
    refine ⟨h1.2, ?_⟩
    simp only [List.append_nil, plainR_ren h1.1]
    exact h2
/-- What is left is known. -/
theorem mcall_e (β ρ : List (Nat × Nat)) {f : Operand} {xs : List Operand} {d : Option Nat} {K : St → Prop} {A : Prop} {g : Nat} {cap args : List AV} {bx : List (Nat × List AV)} {r0 : AV} {ov0 : List (Nat × AV)} {bx0 : List (Nat × List AV)}
    (hG : GoodM P tt (hasTape args) g args bx (fun r ov bx' => r = r0 ∧ ov = ov0 ∧ bx' = bx0)) (hf : s.eval f = .fn g cap) (hargs : evals s xs ++ cap = args.map (ren β ρ)) (hk : (okM β ρ && okAs β ρ args && keysIn bx (fsts β)) = true) (hbx : BoxesM s β ρ bx) (hp : (plainR r0 && ovGe ov0) = true)
    (h : backK β ρ bx0 β (fun s => putK s d r0 K) (s.map (afterF [] ρ (ovOf 1000 args) ov0))) : callS A (mcall P tt f xs d K s) :=
  mcall_i β ρ s Le.refl hG hf hargs hk hbx fun r ov bx' ⟨e1, e2, e3⟩ => by subst e1 e2 e3; exact ⟨hp, h⟩
/-- The same where the call is handed nothing that could change. -/
theorem acall_m {alt : Prop} {b : Bool} {f : Nat} {args : List AV} (h : callS False alt) : acall P tt b f args K alt := ⟨.inr (.inr (h.out.resolve_left id))⟩
theorem call_x {alt : Prop} {b : Bool} {f : Nat} {args : List AV} (ns rs : List (IntKind × Int)) (h1 : args = numV ns) (hG : Ext P f ns rs) (h : K (.tup (numV rs))) : acall P tt b f args K alt := ⟨.inr (.inl ⟨ns, rs, h1, hG, h⟩)⟩
/-- The same, where it brings variables and slices. -/
theorem rcall_e (β ρ ν σ : List (Nat × Nat)) {f : Operand} {xs : List Operand} {d : Option Nat} {K : St → Prop} {A : Prop} {g : Nat} {cap args : List AV} {bx : List (Nat × List AV)} {r0 : AV} {ov0 : List (Nat × AV)} {bx0 : List (Nat × List AV)}
    (hG : GoodM P tt (hasTape args) g args bx (fun r ov bx' => r = r0 ∧ ov = ov0 ∧ bx' = bx0)) (hf : s.eval f = .fn g cap) (hargs : evals s xs ++ cap = args.map (ren β ρ)) (hk : (okM β ρ && okAs β ρ args && keysIn bx (fsts β)) = true) (hn : okN β ρ ν σ = true) (hbx : BoxesM s β ρ bx) (hp : ovGe ov0 = true)
    (h : backK (β ++ ν) (ρ ++ σ) bx0 (β ++ ν) (fun s => putK s d (r0.mapT (renL (β ++ ν) (ρ ++ σ))) K) (s.map (afterF ν (ρ ++ σ) (ovOf 1000 args) ov0))) : callS A (mcall P tt f xs d K s) :=
  rcall_i β ρ ν σ s Le.refl hG hf hargs hk hn hbx fun r ov bx' ⟨e1, e2, e3⟩ => by subst e1 e2 e3; exact ⟨hp, h⟩
theorem retM_i {b : Bool} {v : AV} {R : AV → List (Nat × AV) → List (Nat × List AV) → Prop} (r : AV) (ov : List (Nat × AV)) (bx : List (Nat × List AV)) (htp : s.tp = b) (hle : Le tt (s.put 0 v) (mkSt ((0, r) :: ov) bx b)) (hge : ovGe ov = true) (h : R r ov bx) : aretM tt b v R s := ⟨⟨htp, r, ov, bx, hle, hge, h⟩⟩
theorem GoodM.mono {b : Bool} {f : Nat} {args : List AV} {bx : List (Nat × List AV)} {R R' : AV → List (Nat × AV) → List (Nat × List AV) → Prop} (h : GoodM P tt b f args bx R) (hR : ∀ r ov bx', R r ov bx' → R' r ov bx') : GoodM P tt b f args bx R' :=
  ⟨h.1, fun w0 G us S hA => (h.2 w0 G us S hA).mono fun e w' ⟨u, r, ov, bx', G', h1, h2, h3, h4⟩ => ⟨u, r, ov, bx', G', h1, hR r ov bx' h2, h3, h4⟩⟩
end
end Go.Proofs.Ythgnomniboindaa
end

/- A plain interpreter, part 20: more moves. -/
section
namespace Go.Proofs.Ythgnomniboindaa
set_option linter.unusedVariables false

theorem pc_nil (z : Nat) : PresC .nil (.lst z []) := .inr ⟨z, rfl⟩
theorem pc_nil0 : PresC .nil .nil := .inl rfl
theorem ridx_i {rows : List (Option (List (List AV)))} {n : Int} {K : Option (List (List AV)) → Prop} {o : Option (List (List AV))} (h0 : 0 ≤ n) (h : rows[n.toNat]? = some o) (k : K o) : ridx rows n K := ⟨⟨h0, o, h, k⟩⟩
theorem bld_a {A B : Prop} (h : A) : bldS A B := ⟨.inl h⟩
theorem bld_m {A B : Prop} (h : B) : bldS A B := ⟨.inr h⟩
section
variable {tt : Nat} {s : St}
/-- A new slice of nil slices: its rows are the function's own. -/
theorem le_toMat (i t e e2 z2 n : Nat) (h : s.slot i = .own (.s t) e 1 (List.replicate n [.nil])) : Le tt s ((s.map (killM t)).put i (.mat t e e2 z2 (List.replicate n (some [])))) := fun w0 G a w S => by
  let G' : Gh := { G with own := fun tg => match tg with | .s a => G.own (.s a) | .r a j => if a = t then (if j < n then some (.slice none 0 0) else none) else G.own (.r a j) }
  have old : ∀ tg v b, G'.own tg = some v → v.ownBlock = some b → G.own tg = some v := fun tg v b h hb => by
    cases tg with
    | s a => exact h
    | r a j =>
      simp only [G'] at h
      split at h
      · split at h
        · injection h with h; subst h; cases hb
        · cases h
      · exact h
  have H : Shift (fun tg => tg.base ≠ t) (fun _ => True) G G' w w := ⟨fun _ _ _ => rfl, fun b _ hx => by
      rcases hx with h | ⟨tg, v, h, hb⟩ | h
      · exact .inl h
      · exact .inr (.inl ⟨tg, v, old tg v b h hb, hb⟩)
      · exact .inr (.inr h), fun _ h => h, fun tg v h hk => ⟨by
        cases tg with
        | s a => exact h
        | r a j => simp only [G']; rw [if_neg (show ¬ a = t from hk)]; exact h, fun _ _ => rfl⟩, fun _ _ h _ => h, fun _ h => h, fun _ _ => rfl, fun _ h => h, rfl, fun _ _ => rfl, rfl⟩
  have S1 : Sim tt w0 G' (s.map (killM t)) a w := S.shift (f := killM t) H (fun v u h => by
      rcases killM_ok (t := t) (v := v) with e | ⟨e, hk⟩
      · rw [e]; trivial
      · rw [e]; exact H.rp hk h) (fun v u h => by
      rcases killM_ok (t := t) (v := v) with e | ⟨e, hk⟩
      · rw [e]; trivial
      · rw [e]; exact H.rc hk h) (fun t b h _ => ⟨b, h, rfl, rfl⟩) S.chg (Nat.le_refl _) S.boxLt
    (fun t v b h hb => S.ownLt t v b (old t v b h hb) hb) S.boxInj (fun t t' v v' b h h' k k' => S.ownInj t t' v v' b (old t v b h k) (old t' v' b h' k') k k')
    (fun t t' v b h h' k => S.boxOwn t t' v b h (old t' v b h' k) k) S.tapeBox (fun t v b h h' k => S.tapeOwn t v b h (old t v b h' k) k)
    (S.tapeShift H rfl (fun _ _ => rfl) rfl) S.noTape (fun t v b h k hz => S.fz2 t v b (old t v b h k) k hz) S.fz3 S.tapeNew
  have hu := S.slot i
  rw [h] at hu
  obtain ⟨hT, css, ho, hA⟩ := (show RC w0.B G w (.own (.s t) e 1 (List.replicate n [.nil])) (Act.at w0 a i) from hu)
  refine ⟨G', S1.know (v := .mat t e e2 z2 (List.replicate n (some []))) ⟨hT, css.flatten, by simpa using ho, fun j es hj => ?_⟩⟩
  rw [List.getElem?_replicate] at hj
  split at hj
  · next hjn =>
    simp only [Option.some.injEq] at hj
    subst hj
    obtain ⟨c, q1, q2, q3⟩ := hA.get (show (List.replicate n [AV.nil])[j]? = some [.nil] by rw [List.getElem?_replicate, if_pos hjn])
    obtain ⟨u, us, rfl, q4, q5⟩ := q3.cons_inv
    obtain rfl := q5.nil_inv
    have hu0 : u = .slice none 0 0 := by cases q4; rfl
    subst hu0
    refine ⟨_, ?_, by simp [G', hjn], [], World.ownsRow_nil w w0.B e2 z2, trivial⟩
    have := flatten_at (OwnRep.lens hA).1 q1 (show [Value.slice none 0 0][0]? = some (.slice none 0 0) from rfl)
    simpa using this
  · cases hj
/-- nil becomes a slice of slices without a row. -/
theorem le_adoptMat (i t e e2 z2 : Nat) (h : s.slot i = .nil) : Le tt s ((((s.map (killF t)).put i (.own t e 1 [])).map (killM t)).put i (.mat t e e2 z2 [])) :=
  (le_adopt i t e 1 h).trans (le_toMat i t e e2 z2 0 (by simp [St.put]))
/-- The same in a variable: a slice without an element becomes a slice of slices. -/
theorem le_toMatBox (b j t e e2 z2 : Nat) {cs : List AV} (hb : s.box b = some cs) (h : cs[j]? = some (.own (.s t) e 1 [])) : Le tt s (s.setBox b (cs.set j (.mat t e e2 z2 []))) := fun w0 G a w S => by
  obtain ⟨bb, ee, us, k1, k2, k3⟩ := S.box b cs hb
  refine ⟨G, S.setBox k1 k2 ?_⟩
  obtain ⟨u, hu, hr⟩ := k3.get h
  obtain ⟨hT, css, ho, hA⟩ := (show RC w0.B G w (.own (.s t) e 1 []) u from hr)
  have hset := k3.set j (a := .mat t e e2 z2 []) (b := u) ⟨hT, css.flatten, by simpa using ho, fun i es hi => by simp at hi⟩
  have : us.set j u = us := by
    refine List.ext_getElem? fun i => ?_
    rw [List.getElem?_set]
    split
    · next e => subst e; rw [hu]; simp [(List.getElem?_eq_some_iff.1 hu).1]
    · rfl
  rwa [this] at hset
/-- A cell of a variable is forgotten. -/
theorem le_undefBox (b j : Nat) {cs : List AV} {v : AV} (hb : s.box b = some cs) (h : cs[j]? = some v) : Le tt s (s.setBox b (cs.set j .undef)) := fun w0 G a w S => by
  obtain ⟨bb, ee, us, k1, k2, k3⟩ := S.box b cs hb
  refine ⟨G, S.setBox k1 k2 ?_⟩
  obtain ⟨u, hu, hr⟩ := k3.get h
  have hset := k3.set j (a := .undef) (b := u) (show RC w0.B G w .undef u from trivial)
  have : us.set j u = us := by
    refine List.ext_getElem? fun i => ?_
    rw [List.getElem?_set]
    split
    · next e => subst e; rw [hu]; simp [(List.getElem?_eq_some_iff.1 hu).1]
    · rfl
  rwa [this] at hset
/-- A slice of slices is given away. -/
theorem le_matErase (i t : Nat) {e e2 z2 : Nat} {R : List (List (List AV))} (h : s.slot i = .mat t e e2 z2 (R.map some)) : Le tt s ((s.map (killM t)).put i (.lst 1 (R.map fun es => [.lst z2 es]))) := fun w0 G a w S => by
  have hu := S.slot i
  rw [h] at hu
  obtain ⟨hT, hs, ho, hA⟩ := (show RC w0.B G w (.mat t e e2 z2 (R.map some)) (Act.at w0 a i) from hu)
  have H : Shift (fun tg => (if tg.base = t then none else some tg) = some tg) (fun _ => True) G (GhP G fun tg => if tg.base = t then none else some tg) w w := ghP_shift
  have ok : ∀ v, OkTag (fun tg => tg.base ≠ t) (fun _ => True) v → OkTag (fun tg => (if tg.base = t then none else some tg) = some tg) (fun _ => True) v := fun v h => h.mono fun tg h => if_neg h
  have S1 := S.perm (fun tg => if tg.base = t then none else some tg) (fun x y q hx hy => by
      split at hx
      · cases hx
      · split at hy
        · cases hy
        · injection hx with hx; injection hy with hy; exact hx.trans hy.symm) (killM t) (fun v u h => by
      rcases killM_ok (t := t) (v := v) with e | ⟨e, hk⟩
      · rw [e]; trivial
      · rw [e]; exact H.rp (ok v hk) h) (fun v u h => by
      rcases killM_ok (t := t) (v := v) with e | ⟨e, hk⟩
      · rw [e]; trivial
      · rw [e]; exact H.rc (ok v hk) h)
  have gone : ∀ tg v b, tg.base = t → G.own tg = some v → v.ownBlock = some b → ¬ GX (GhP G fun tg => if tg.base = t then none else some tg) b := fun tg v b hb h1 h2 hx => by
    rcases hx with (⟨t', ht⟩ | ⟨t', v2, h, h'⟩ | ht) | hx
    · exact S.boxOwn t' tg v b ht h1 h2
    · obtain ⟨t0, p0, h0⟩ := ghP_own h
      split at p0
      · cases p0
      · next hne =>
        injection p0 with p0
        subst p0
        exact hne (by rw [S.ownInj _ _ v2 v b h0 h1 h' h2]; exact hb)
    · exact S.tapeOwn tg v b ht h1 h2
    · exact S.newX (S.ownLt tg v b h1 h2).1 hx
  have sub : ∀ b, GX (GhP G fun tg => if tg.base = t then none else some tg) b → GX G b := fun b hx => hx.elim (fun h => .inl (ghP_gm h)) .inr
  have hl := ho.1
  rw [List.length_map, Nat.mul_one] at hl
  have hrows : All2 (fun ds cs => ds.length = 1 ∧ All2 (RepV w (GX (GhP G fun tg => if tg.base = t then none else some tg))) ds cs) (R.map fun es => [AV.lst z2 es]) (hs.map fun x => [x]) := All2.of (by simp [hl]) fun j ds cs hj hj' => by
    simp only [List.getElem?_map, Option.map_eq_some_iff] at hj hj'
    obtain ⟨es, h1, rfl⟩ := hj
    obtain ⟨x, h2, rfl⟩ := hj'
    obtain ⟨x', k1, k2, k3⟩ := hA j es (by rw [List.getElem?_map, h1]; rfl)
    rw [h2] at k1
    injection k1 with k1
    subst k1
    exact ⟨rfl, k3.rep (fun b _ => sub b) (fun b hb => gone (.r t j) x b rfl k2 hb), trivial⟩
  have fl : (hs.map fun x => [x]).flatten = hs := by
    clear hrows hl ho hA
    induction hs with
    | nil => rfl
    | cons x hs ih => simp [ih]
  refine ⟨_, S1.know (v := .lst 1 (R.map fun es => [.lst z2 es])) (RepV.rc ?_).ra⟩
  generalize hux : Act.at w0 a i = ux at *
  rcases ho.2 with ⟨rfl, h0⟩ | ⟨g, cap, cur, rfl, hg, hh, hc, hm, hsz, ht⟩
  · have : R = [] := List.eq_nil_of_length_eq_zero (by simpa using h0)
    subst this
    exact .nil 1 _ _
  · have := rep_of_cells (w := w) (A := some ⟨g, 0, none⟩) (c := cap) (fun _ => ⟨g, 0, rfl, (Array.getElem?_eq_some_iff.1 hh).1, gone (.s t) _ g rfl hT rfl, fun j v hv => by
      rw [fl] at hv
      have hj : j < hs.length := (List.getElem?_eq_some_iff.1 hv).1
      rw [Nat.zero_add]
      have := ho.cellAt j (by rw [List.length_map]; omega)
      rw [this, hv]⟩) (by simpa using hc) hrows
    simpa using this
/-- A field whose slice a pointer knows: that slice is given away. -/
theorem le_unlink (p q t k i off : Nat) {e z e2 z2 : Nat} {es es2 : List (List AV)} (hp : s.slot p = .own (.s t) e z es) (hq : s.slot q = .mpt t k e2 z2 (some es2)) (hk : k = i * z + off) (ho : off < z) (hi : i < es.length) :
    Le tt s ((s.map (eraseF (.r t k))).put p (.own (.s t) e z (es.modify i (·.set off (.lst z2 es2))))) := fun w0 G a w S => by
  subst hk
  have hy := S.slot q
  rw [hq] at hy
  obtain ⟨g, n, c, e', cur, k1, hu, k3, k4, k5, k6⟩ := (show MptRep w0.B G w t (i * z + off) e2 z2 (some es2) (Act.at w0 a q) from hy)
  obtain ⟨h, q1, q2, q3⟩ := k6 es2 rfl
  have hx := S.slot p
  rw [hp] at hx
  have hx : RC w0.B G w (.own (.s t) e z es) (Act.at w0 a p) := hx
  generalize hux : Act.at w0 a p = u at hx
  have hT : G.own (.s t) = some u := hx.1
  rw [k1] at hT
  injection hT with hT
  subst hT
  obtain ⟨S1, hc⟩ := S.erase (.r t (i * z + off))
  have r1 : RC w0.B { G with own := upd G.own (.r t (i * z + off)) none } w (.own (.s t) e z es) (.slice (some ⟨g, 0, none⟩) n c) := hc _ _ hx
  have r2 : RC w0.B { G with own := upd G.own (.r t (i * z + off)) none } w (.lst z2 es2) h := by
    have := hc (.own (.r t (i * z + off)) e2 z2 es2) h ⟨q2, q3⟩
    simpa only [eraseF, Tg.eqb_self, cond_true] using this
  have r3 : RepV w (GX { G with own := upd G.own (.r t (i * z + off)) none }) (.lst z2 es2) h := r2
  obtain ⟨hT1, css, ho1, hA⟩ := r1
  refine ⟨_, S1.know (v := .own (.s t) e z (es.modify i (·.set off (.lst z2 es2)))) ?_⟩
  rw [hux]
  refine ⟨hT1, css, by rw [List.length_modify]; exact ho1, All2.of (by rw [List.length_modify]; exact hA.len) fun j ds cs hj hj' => ?_⟩
  rw [List.getElem?_modify] at hj
  by_cases hij : i = j
  · subst hij
    obtain ⟨ds0, hds0⟩ : ∃ ds0, es[i]? = some ds0 := ⟨_, List.getElem?_eq_getElem hi⟩
    rw [hds0] at hj
    simp only [if_true, Option.map_eq_map, Option.map_some, Option.some.injEq] at hj
    subst hj
    obtain ⟨cs0, hcs0, hd1, hd2⟩ := hA.get hds0
    rw [hj'] at hcs0
    injection hcs0 with hcs0
    subst hcs0
    have hl := hd2.len
    obtain ⟨v, hv⟩ : ∃ v, cs[off]? = some v := ⟨_, List.getElem?_eq_getElem (by omega)⟩
    have hfl := flatten_at (OwnRep.lens hA).1 hj' hv
    have hlt : i * z + off < es.length * z := by
      have : (i + 1) * z ≤ es.length * z := Nat.mul_le_mul_right _ hi
      rw [Nat.add_mul] at this
      omega
    have hn : n = es.length := by
      rcases ho1.2 with ⟨e1, _⟩ | ⟨g', cap, cur', e1, _⟩
      · cases e1
      · injection e1
    subst hn
    have hcell := ho1.cellAt (i * z + off) hlt
    rw [hfl, (show Blk w g e' cur from k4).cell, ← Array.getElem?_toList, q1] at hcell
    injection hcell with hcell
    subst hcell
    refine ⟨by simpa using hd1, ?_⟩
    have := hd2.set off r3
    rwa [show cs.set off h = cs by
      refine List.ext_getElem? fun m => ?_
      rw [List.getElem?_set]
      split
      · next e9 => subst e9; rw [hv, if_pos (List.getElem?_eq_some_iff.1 hv).1]
      · rfl] at this
  · have hj : es[j]? = some ds := by simpa [hij] using hj
    obtain ⟨cs0, hcs0, hd1, hd2⟩ := hA.get hj
    rw [hj'] at hcs0
    injection hcs0 with hcs0
    subst hcs0
    exact ⟨hd1, hd2⟩
theorem lnk_a {A B : Prop} (h : A) : lnkS A B := ⟨.inl h⟩
theorem lnk_r {A B : Prop} (h : B) : lnkS A B := ⟨.inr h⟩
theorem lk_i {t' : Tg} {k t e2 z2 : Nat} {es : List (List AV)} {K : AV → Prop} (j : Nat) (h : s.slot j = .mpt t k e2 z2 (some es)) (ht : t' = .s t) (hk : K (.own (.r t k) e2 z2 es)) : lkS s t' k K := ⟨⟨j, t, e2, z2, es, ht, h, hk⟩⟩
end
end Go.Proofs.Ythgnomniboindaa
end
