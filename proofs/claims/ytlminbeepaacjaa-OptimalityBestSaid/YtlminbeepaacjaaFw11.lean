/- A plain interpreter, part 11: new slices, append. -/
import Derived.Test.YtlminbeepaacjaaFw10
namespace Go.Proofs.Ytlminbeepaacjaa
set_option linter.unusedVariables false
set_option linter.unusedSimpArgs false
set_option linter.unnecessarySimpa false
set_option linter.unusedSectionVars false
open Go.RowKit

section
variable {P : Program} {T : Nat → Ty} {tt : Nat} {w0 : En} {w w' : World} {G : Gh} {s : St} {a : Act} {B : Nat} {Q : Exit → Act → World → Prop}
theorem sound_load (hT : TabOk P T) (S : Sim tt w0 G s a w) (o : Oper) (hd : ∀ x, o.dst = some x → x < a.tmps.size) {K : St → Prop} {t : Nat} {x : Operand} (ho : o.op = .load t x) (h : aop P T tt o K s) : o.wp P a w (Nxt tt w0 a.tmps.size (some G) K) Q := by
  simp only [aop, ho] at h
  split at h
  · next t' i off cs hb =>
    have hx := S.eval x
    rw [hb] at hx
    obtain ⟨g, n, c, e, cur, us, k1, hu, k3, k4, k4', k5, k6⟩ := hx
    obtain ⟨v, u, h1, h2, h3⟩ := load_sound (P := P) (b := g) (o := i * cs.length + off) hT h ((k5.mono fun _ _ h => (RepV.rc h : RC w0.heap.size G w _ _)).drop off)
    refine val_wp (u := u) (w' := w) ?_ (put_sound S hd (RC.of_load h2) (Kp.refl G) h1)
    have := h3 w (fun j v hv => by rw [List.getElem?_drop] at hv; rw [Nat.add_assoc]; exact k6 _ v hv)
    simp only [execOp, ho, hu, Sem.run_bind, this, Result.andThen_ok, Sem.run_pure]
  · exact aval_wp hT S o hd (Kp.refl G) (by rw [ho]; exact h)
theorem flat_len {css : List (List Value)} {z : Nat} (hl : ∀ c ∈ css, c.length = z) : css.flatten.length = css.length * z := by
  induction css with
  | nil => simp
  | cons c css ih =>
    rw [List.flatten_cons, List.length_append, hl c (by simp), ih (fun c hc => hl c (by simp [hc])), List.length_cons, Nat.add_mul]
    omega
theorem fill_size {pl : Nat → Option (Nat × Nat)} : ∀ {parts : List (Nat × Value)} {cells r : Array Value}, Instr.fill pl cells parts = some r → r.size = cells.size
  | [], cells, r, h => by simp only [Instr.fill, Option.some.injEq] at h; rw [h]
  | (i, v) :: rest, cells, r, h => by
    simp only [Instr.fill] at h
    split at h
    · cases h
    · split at h
      · cases h
      · rw [fill_size h]
        clear h
        rename_i hcc
        clear hcc
        generalize v.cells.zipIdx = l
        rw [← Array.foldl_toList]
        generalize l.toList = l
        induction l generalizing cells with
        | nil => rfl
        | cons p l ih => rw [List.foldl_cons, ih]; simp
theorem newOwn (S : Sim tt w0 G s a w) {d : Nat} (hd : d < a.tmps.size) (e z n : Nat) {es : List (List AV)} {css : List (List Value)} (hn : es.length = n) (hA : All2 (fun ds cs => ds.length = z ∧ All2 (RepV w (GX G)) ds cs) es css) (hm : n ≤ maxLen) {K : St → Prop} {F : Option Gh} (hF : Kp F G)
    (h : K ((s.map (killF d)).put d (.own d e z es))) : Nxt tt w0 a.tmps.size F K (a.put (some d) (.slice (some ⟨w.heap.size, 0, none⟩) n n)) (w.alloc (.cells css.flatten.toArray e)) := by
  have hb : ∀ b, b < w.heap.size → (w.alloc (.cells css.flatten.toArray e)).heap[b]? = w.heap[b]? := fun b hb => Below.heap_alloc _ _ _ hb
  have S1 := S.setOwn (w' := w.alloc (.cells css.flatten.toArray e)) d (.slice (some ⟨w.heap.size, 0, none⟩) n n) (by simp) (fun b h _ => hb b h) (fun b h => by
    simp only [Value.ownBlock, Option.some.injEq] at h
    exact .inr ⟨by omega, by simp; omega⟩) (S.chg.alloc _)
  refine ⟨_, _, S1.put (v := .own d e z es) hd ⟨upd_same, css, ?_, ?_⟩, size_put, h, hF.of rfl rfl⟩
  · obtain ⟨hl, hl'⟩ := OwnRep.lens hA
    have hlen : css.flatten.length = n * z := by
      rw [flat_len hl, ← hA.len, hn]
    exact ⟨by rw [hn]; exact hlen, .inr ⟨w.heap.size, n, css.flatten.toArray, by rw [hn], S.chg.size, heap_alloc_new w _, by rw [hn]; exact Nat.le_refl _, hm, by simp [hlen], by rw [hn, ← hlen]; exact List.take_of_length_le (Nat.le_refl _)⟩⟩
  · refine hA.mono fun ds cs h => ⟨h.1, h.2.mono fun v u hr => hr.move (fun b hlt _ => hb b hlt) fun b hlt hx => ?_⟩
    rcases hx with (⟨t, ht⟩ | ⟨t, v, h, h'⟩ | h) | h
    · exact .inl (.inl ⟨t, ht⟩)
    · rcases upd_cases h with ⟨_, e⟩ | ⟨_, e⟩
      · injection e with e; subst e; simp only [Value.ownBlock, Option.some.injEq] at h'; omega
      · exact .inl (.inr (.inl ⟨t, v, e, h'⟩))
    · exact .inl (.inr (.inr h))
    · exact .inr h
theorem setRange_len : ∀ {vs cells : List AV} {off : Nat}, (setRange cells off vs).length = cells.length
  | [], cells, off => rfl
  | v :: vs, cells, off => by rw [setRange, setRange_len]; simp
theorem sound_buildSlice (hT : TabOk P T) (S : Sim tt w0 G s a w) (o : Oper) (hd : ∀ x, o.dst = some x → x < a.tmps.size) {K : St → Prop} {t n : Nat} {parts : Array (Nat × Operand)} (ho : o.op = .buildSlice t n parts) (h : aop P T tt o K s) : o.wp P a w (Nxt tt w0 a.tmps.size (some G) K) Q := by
  simp only [aop, ho] at h
  split at h
  · next d hdd =>
    obtain ⟨e, i, zv, h1, h2, h3, h4, h5, h6, h7⟩ := elemZ_sound hT h
    split at h1
    · next hle =>
      have hle' : n * i.size ≤ 1000000 := Nat.le_of_ble_eq_true hle
      have hz := zeros_sound (B := w0.heap.size) (G := G) (w := w) (zv := zv) (n := n) (by omega)
      obtain ⟨cells', cs', k1, k2, k3⟩ := fill_sound S h1 hz
      rw [forceL_eq, tagsK_eq] at k1
      obtain ⟨G', S', hc, hx, -, -, -, -, hf1, hf2⟩ := erases S (ownTags cells')
      obtain ⟨cs2, m1, m2⟩ := pres_sound hc (fun _ h => h) k1 k2
      rw [chunkK_eq] at m1
      have hk3 := fill_place (pl' := fun j => some (j * i.size, i.size)) (fun j p hj => by rw [range_at hj]; simp) k3
      have hlen : cs'.length = n * i.size := by
        have e1 := fill_size hk3
        simpa [h5] using e1
      refine val_wp (u := .slice (some ⟨w.heap.size, 0, none⟩) n n) (w' := w.alloc (.cells cs'.toArray e)) ?_ ?_
      · have hbig : ¬ n * i.size > 2 ^ 24 := by
          have : (2 : Nat) ^ 24 = 16777216 := by decide
          omega
        by_cases hz0 : n * i.size = 0
        · have hcs : cs' = [] := List.eq_nil_of_length_eq_zero (by omega)
          have hk4 : Instr.fill (fun j => some (j * i.size, i.size)) #[] (List.map (fun p => (p.1, a.eval p.2)) parts.toList) = some #[] := by
            have := hk3
            rw [hcs, h5, hz0] at this
            simpa using this
          have hp : (parts.map fun x => (x.1, a.eval x.2)).toList = List.map (fun p => (p.1, a.eval p.2)) parts.toList := by simp
          simp only [execOp, ho, Instr.buildSlice, Sem.run_bind, run_underlying h2, Result.andThen_ok, run_sizeOf h3, hz0, if_true, Sem.run_pure, hcs]
          have e0 : Array.map (fun x => (#[] : Array Value)[x % (#[] : Array Value).size]!) (Array.range 0) = #[] := by simp
          have hz1 : ¬ 0 > 2 ^ 24 := by simp
          simp only [hz1, if_false, Sem.run_pure, Result.andThen_ok, Sem.run_bind, e0, hp, hk4, newRow, newObj, Sem.run]
          rfl
        · have hp : (parts.map fun x => (x.1, a.eval x.2)).toList = List.map (fun p => (p.1, a.eval p.2)) parts.toList := by simp
          have hk4 : Instr.fill (fun j => some (j * i.size, i.size)) ((Array.range (n * i.size)).map (zv.cells[· % zv.cells.size]!)) (parts.map fun x => (x.1, a.eval x.2)).toList = some cs'.toArray := by
            have := hk3
            rw [Array.toArray_toList, h5] at this
            rw [hp, h5]
            exact this
          simp only [execOp, ho, Instr.buildSlice, Sem.run_bind, run_underlying h2, Result.andThen_ok, run_sizeOf h3, hbig, if_false, hz0, zeroValue, typeInfo, program, Sem.run, h3, h4, Sem.run_pure, hk4, newRow, newObj]
          rfl
      · rw [hdd]
        have hfl := chunk_flat (z := i.size) (n := n) (us := cs') hlen
        have := newOwn S' (hd d hdd) e i.size n (es := chunk i.size n cs2) (css := chunk i.size n cs') chunk_len (chunk_all (by rw [m2.len]; exact hlen) m2) (by simp only [maxLen]; have := Nat.le_mul_of_pos_right n h6; omega) ((Kp.refl G).of hf1 hf2) m1
        rwa [hfl] at this
    · exact h1.elim
  · exact h.elim

theorem made_flat {zs : List Value} (hz : 0 < zs.length) (n : Nat) : (madeCells zs.toArray (n * zs.length)).toList = (List.replicate n zs).flatten := by
  apply List.ext_getElem?
  intro j
  have hl : (List.replicate n zs).flatten.length = n * zs.length := by rw [flat_len (z := zs.length) (fun c hc => by rw [List.eq_of_mem_replicate hc])]; simp
  rcases Nat.lt_or_ge j (n * zs.length) with hj | hj
  · have hm : j % zs.length < zs.length := Nat.mod_lt _ hz
    have hd : j / zs.length < n := Nat.div_lt_of_lt_mul (by rw [Nat.mul_comm]; exact hj)
    have e1 : j = j / zs.length * zs.length + j % zs.length := by have := Nat.div_add_mod j zs.length; rw [Nat.mul_comm]; omega
    have e2 := flatten_at (css := List.replicate n zs) (k := zs.length) (fun c hc => by rw [List.eq_of_mem_replicate hc]) (i := j / zs.length) (j := j % zs.length) (c := zs) (u := zs[j % zs.length]) (by simp [hd]) (by simp [hm])
    rw [← e1] at e2
    rw [e2]
    simp only [madeCells, Array.getElem?_toList, Array.getElem?_map, Array.getElem?_range, hj, if_true, Option.map_some, Option.some.injEq]
    rw [getElem!_pos zs.toArray _ (by simpa using hm)]
    simp
  · rw [List.getElem?_eq_none (l := (madeCells zs.toArray (n * zs.length)).toList) (by simp [madeCells]; exact hj), List.getElem?_eq_none (by rw [hl]; exact hj)]
theorem sound_makeSlice (hT : TabOk P T) (S : Sim tt w0 G s a w) (o : Oper) (hd : ∀ x, o.dst = some x → x < a.tmps.size) {K : St → Prop} {t : Nat} {l c : Operand} (ho : o.op = .makeSlice t l c) (h : aop P T tt o K s) : o.wp P a w (Nxt tt w0 a.tmps.size (some G) K) Q := by
  simp only [aop, ho] at h
  have hl := S.eval l
  have hc := S.eval c
  split at h
  · next d k n k' m hdd hln hcm =>
    rw [hln] at hl
    rw [hcm] at hc
    obtain ⟨e, i, zv, h1, h2, h3, h4, h5, h6, h7⟩ := elemZ_sound hT h
    simp only [need_iff] at h1
    obtain ⟨⟨b1, rfl, b2⟩, h1⟩ := h1
    obtain ⟨zero', m1, m2⟩ := pres_sound (G := G) (G' := G) (B := w0.heap.size) (w := w) (ts := ownTags (zv.cells.toList.map ofValue)) (fun v u hr => by
      have e0 : ownTags (zv.cells.toList.map ofValue) = [] := by
        generalize zv.cells.toList = vs
        induction vs with
        | nil => rfl
        | cons v vs ih =>
          rw [List.map_cons]
          unfold ofValue
          split <;> exact ih
      rw [e0]; exact hr) (fun _ h => h) h1 (zero_sound zv.cells.toList)
    have hrun := run_make (P := P) w t e i zv h2 h3 h4 k k' m m b1 (Int.le_refl _) (by
      have : (i.bytes : Int) * m ≤ 8192 * 1000000 := Int.mul_le_mul (by omega) b2 b1 (by omega)
      omega) (by omega)
    have hzl : zv.cells.toList.length = i.size := by simpa using h5
    have hfl : madeCells zv.cells (m.toNat * i.size) = (List.replicate m.toNat zv.cells.toList).flatten.toArray := by
      have := made_flat (zs := zv.cells.toList) (by omega) m.toNat
      rw [hzl] at this
      rw [← this]
    rw [hfl] at hrun
    refine val_wp (u := .slice (some ⟨w.heap.size, 0, none⟩) m.toNat m.toNat) (w' := w.alloc (.cells (List.replicate m.toNat zv.cells.toList).flatten.toArray e)) ?_ ?_
    · simp only [execOp, ho, hl.int_inv, hc.int_inv, Sem.run_bind, hrun, Result.andThen_ok, Sem.run_pure]
    · rw [hdd]
      refine newOwn S (hd d hdd) e i.size m.toNat (es := List.replicate m.toNat zero') (css := List.replicate m.toNat zv.cells.toList) (by simp) (All2.of (by simp) fun j x y hx hy => ?_) (by simp only [maxLen]; omega) (Kp.refl G) m1
      obtain rfl := List.eq_of_mem_replicate (List.mem_of_getElem? hx)
      obtain rfl := List.eq_of_mem_replicate (List.mem_of_getElem? hy)
      exact ⟨by rw [m2.len, hzl], m2⟩
  · exact h.elim
theorem cut_args (hT : TabOk P T) (S : Sim tt w0 G s a w) {t z : Nat} {es : List (List AV)} {lo hi : Option Operand} {K : Int → List (List AV) → Prop} (h : elemOf T t z fun _ => optInt s 0 lo fun l => optInt s es.length hi fun h => sub es l h fun es' => K l es') :
    ∃ e ie, ∃ l hh : Int, P.underlying t = some (.slice e) ∧ P.info? e = some ie ∧ ie.size = z ∧ 0 ≤ l ∧ l ≤ hh ∧ hh ≤ es.length ∧ ((lo = none ∧ l = 0) ∨ ∃ y k, lo = some y ∧ a.eval y = .int k l) ∧ ((hi = none ∧ hh = es.length) ∨ ∃ y k, hi = some y ∧ a.eval y = .int k hh) ∧ K l ((es.take hh.toNat).drop l.toNat) := by
  obtain ⟨e, ie, h1, h2, h3, h4, -⟩ := elem_sound (P := P) hT h
  obtain ⟨l, h5, hl⟩ := opt_sound S h1
  obtain ⟨hh, h6, hhi⟩ := opt_sound S h5
  simp only [sub_iff] at h6
  exact ⟨e, ie, l, hh, h2, h3, h4, h6.1.1, h6.1.2.1, h6.1.2.2, hl, hhi, h6.2⟩
theorem run_cut {o : Oper} {t z e n c : Nat} {ie : TypeInfo} {x : Operand} {lo hi : Option Operand} {A : Option Addr} {l hh : Int} (ho : o.op = .slice t x lo hi none) (h2 : P.underlying t = some (.slice e)) (h3 : P.info? e = some ie) (h4 : ie.size = z) (b1 : 0 ≤ l) (b2 : l ≤ hh) (b3 : hh ≤ n) (hc : n ≤ c) (hu : a.eval x = .slice A n c)
    (hl : (lo = none ∧ l = 0) ∨ ∃ y k, lo = some y ∧ a.eval y = .int k l) (hhi : (hi = none ∧ hh = n) ∨ ∃ y k, hi = some y ∧ a.eval y = .int k hh) : (execOp a.eval o).run P w' = .ok (.value (.slice (if c = l.toNat then A else A.map (·.add (l.toNat * ie.size))) (hh.toNat - l.toNat) (c - l.toNat))) w' := by
  have r1 : (match hi.map a.eval with | some v => Instr.sliceBound v c .sliceAcap | none => pure n : Sem Nat).run P w' = .ok hh.toNat w' := by
    rcases hhi with ⟨rfl, rfl⟩ | ⟨y, k, rfl, hy⟩
    · simp
    · simp only [Option.map_some, hy]; exact run_bound (by omega) (by omega) w'
  have r2 : (match lo.map a.eval with | some v => Instr.sliceBound v hh.toNat .sliceB | none => pure 0 : Sem Nat).run P w' = .ok l.toNat w' := by
    rcases hl with ⟨rfl, rfl⟩ | ⟨y, k, rfl, hy⟩
    · simp
    · simp only [Option.map_some, hy]; exact run_bound (by omega) (by omega) w'
  have r0 : (Instr.sliceBounds true n c (lo.map a.eval) (hi.map a.eval) none).run P w' = .ok (l.toNat, hh.toNat, c) w' := by
    rcases hhi with ⟨rfl, rfl⟩ | ⟨y, k, rfl, hy⟩ <;> rcases hl with ⟨rfl, rfl⟩ | ⟨y', k', rfl, hy'⟩
    · simp [Instr.sliceBounds]
    · simp only [Option.map_some, Option.map_none, Int.toNat_natCast] at r2 ⊢
      simp [Instr.sliceBounds, r2]
    · simp only [Option.map_some, Option.map_none] at r1 ⊢
      simp [Instr.sliceBounds, r1]
    · simp only [Option.map_some] at r1 r2 ⊢
      simp [Instr.sliceBounds, r1, r2]
  simp only [execOp, ho, hu, Instr.sliceAt, Instr.slice, Sem.run_bind, run_underlying h2, Result.andThen_ok, Option.map_none, r0, run_sizeOf h3, h4, Sem.run_pure]
theorem sound_slice (hT : TabOk P T) (S : Sim tt w0 G s a w) (o : Oper) (hd : ∀ x, o.dst = some x → x < a.tmps.size) {K : St → Prop} {t : Nat} {x : Operand} {lo hi mx : Option Operand} (ho : o.op = .slice t x lo hi mx) (h : aop P T tt o K s) : o.wp P a w (Nxt tt w0 a.tmps.size (some G) K) Q := by
  simp only [aop, ho] at h
  split at h
  · next t' e z es hb =>
    rw [slc_iff] at h
    rcases h with h | h | h
    · obtain ⟨S1, -⟩ := S.erase t'
      exact aval_wp hT S1 o hd ((Kp.refl G).of rfl rfl) (by rw [ho]; exact h)
    · split at h
      · next d hdd =>
        have hx := S.eval x
        rw [hb] at hx
        obtain ⟨hG, css, hown, hA⟩ := (show RC w0.heap.size G w (.own t' e z es) (a.eval x) from hx)
        obtain ⟨e', ie, l, hh, h2, h3, h4, b1, b2, b3, hl, hhi, h7⟩ := cut_args hT S h
        simp only [need_iff] at h7
        obtain ⟨hpos, hK⟩ := h7
        rcases hown.2 with ⟨_, h0⟩ | ⟨g, cap, cur, hu, k1, k2, k3, k4, k5, k6⟩
        · omega
        · have hrun := run_cut (P := P) (w' := w) (a := a) (x := x) (n := es.length) (o := o) (ho := ho) h2 h3 h4 (by omega : 0 ≤ l) b2 b3 k3 hu hl hhi
          refine val_wp hrun ?_
          rw [hdd]
          obtain ⟨hcl, hel⟩ := OwnRep.lens hA
          have hlen : ((es.take hh.toNat).drop l.toNat).length = hh.toNat - l.toNat := by simp; omega
          refine ⟨_, _, S.put (v := .win t' l.toNat z ((es.take hh.toNat).drop l.toNat)) (hd d hdd) ?_, size_put, hK, Kp.refl G⟩
          refine ⟨g, es.length, cap, e, cur, (css.take hh.toNat).drop l.toNat, _, cap - l.toNat, by rw [hG, hu], by rw [hlen]; omega, by rw [hlen], fun hne => ?_, by rw [hlen]; omega, k2, by rw [k5]; exact Nat.mul_le_mul_right _ k3, (hA.take _).drop _, fun j v hv => ?_⟩
          · have : 0 < ((es.take hh.toNat).drop l.toNat).length := List.length_pos_iff.2 hne
            have hcl' : ¬ cap = l.toNat := by omega
            simp [hcl', add_none, h4]
          · rw [flat_drop (fun c hc => hcl c (List.mem_of_mem_take hc)), flat_take hcl, List.getElem?_drop, List.getElem?_take] at hv
            split at hv
            · next hj =>
              rw [← Nat.zero_add (l.toNat * z + j), ← Nat.zero_add (l.toNat * z + j)]
              have hlt := (List.getElem?_eq_some_iff.1 hv).1
              rw [hu] at hown
              rw [Nat.zero_add, Nat.zero_add, hown.cellAt _ (by rw [hown.1] at hlt; exact hlt), hv]
            · cases hv
      · exact h.elim
    · split at h
      · next d hdd =>
        have hx := S.eval x
        rw [hb] at hx
        obtain ⟨hG, css, hown, hA⟩ := (show RC w0.heap.size G w (.own t' e z es) (a.eval x) from hx)
        obtain ⟨e', ie, l, hh, h2, h3, h4, b1, b2, b3, hl, hhi, h7⟩ := cut_args (lo := none) (hi := hi) (es := es) (t := t) (z := z) (K := fun _ es' => need (0 < es.length) (K ((s.map (killF t')).put d (.own t' e z es')))) hT S h
        simp only [need_iff] at h7
        obtain ⟨hpos, hK⟩ := h7
        have hl0 : l = 0 := by
          rcases hl with ⟨_, e1⟩ | ⟨y, k, e1, _⟩
          · exact e1
          · cases e1
        subst hl0
        rcases hown.2 with ⟨_, h0⟩ | ⟨g, cap, cur, hu, k1, k2, k3, k4, k5, k6⟩
        · omega
        · have hrun := run_cut (P := P) (w' := w) (a := a) (x := x) (n := es.length) (o := o) (ho := ho) h2 h3 h4 (by omega : (0 : Int) ≤ 0) b2 b3 k3 hu hl hhi
          refine val_wp hrun ?_
          rw [hdd]
          obtain ⟨hcl, hel⟩ := OwnRep.lens hA
          have hval : (Value.slice (if cap = (0 : Int).toNat then some (⟨g, 0, none⟩ : Addr) else (some (⟨g, 0, none⟩ : Addr)).map (·.add ((0 : Int).toNat * ie.size))) (hh.toNat - (0 : Int).toNat) (cap - (0 : Int).toNat)) = .slice (some ⟨g, 0, none⟩) hh.toNat cap := by
            simp [add_none]
          rw [hval]
          have S1 := S.setOwn t' (.slice (some ⟨g, 0, none⟩) hh.toNat cap) (Nat.le_refl _) (fun _ _ _ => rfl) (fun b hb' => .inl ⟨_, hG, by rw [hu]; exact hb'⟩) S.chg
          have hlen : ((es.take hh.toNat).drop (0 : Int).toNat).length = hh.toNat := by simp; omega
          refine ⟨_, _, S1.put (v := .own t' e z ((es.take hh.toNat).drop (0 : Int).toNat)) (hd d hdd) ?_, size_put, hK, (Kp.refl G).of rfl rfl⟩
          refine ⟨upd_same, css.take hh.toNat, ⟨?_, .inr ⟨g, cap, cur, by rw [hlen], k1, k2, by rw [hlen]; omega, k4, k5, ?_⟩⟩, ?_⟩
          · rw [hlen, flat_take hcl, List.length_take, hown.1]
            exact Nat.min_eq_left (Nat.mul_le_mul_right _ (by omega))
          · rw [hlen, flat_take hcl, ← k6, List.take_take, Nat.min_eq_left (Nat.mul_le_mul_right _ (by omega))]
          · have e0 : (es.take hh.toNat).drop (0 : Int).toNat = es.take hh.toNat := by simp
            rw [e0]
            refine (hA.take _).mono fun _ _ h => ⟨h.1, h.2.mono fun x u hr => hr.move (fun _ _ _ => rfl) fun b hb' hx => ?_⟩
            rcases hx with (⟨t, ht⟩ | ⟨t, v2, h, h'⟩ | h) | h
            · exact .inl (.inl ⟨t, ht⟩)
            · rcases upd_cases h with ⟨_, e⟩ | ⟨_, e⟩
              · injection e with e
                subst e
                exact .inl (.inr (.inl ⟨t', _, hG, by rw [hu]; exact h'⟩))
              · exact .inl (.inr (.inl ⟨t, v2, e, h'⟩))
            · exact .inl (.inr (.inr h))
            · exact .inr h
      · exact h.elim
  · exact aval_wp hT S o hd (Kp.refl G) (by rw [ho]; exact h)

/-- The cells of a list that is read. -/
theorem rep_cells {X : Nat → Prop} {z : Nat} {es : List (List AV)} {u : Value} (h : RepV w X (.lst z es) u) : ∃ A c dss, u = .slice A es.length c ∧ All2 (fun ds cs => ds.length = z ∧ All2 (RepV w X) ds cs) es dss ∧ (A = none → es = []) ∧ ∀ ad, A = some ad → ∀ j v, dss.flatten[j]? = some v → w.cell? (ad.add j) = some v := by
  cases h with
  | nil z A c => exact ⟨A, c, [], rfl, trivial, fun _ => rfl, fun ad _ j v hv => by simp at hv⟩
  | lst f hne hc hb hx hz hcell hrep =>
    next b off c =>
    let dss : List (List Value) := (List.range es.length).map fun i => (List.range z).map (f i)
    have hd : ∀ i, i < es.length → dss[i]? = some ((List.range z).map (f i)) := fun i hi => by simp [dss, hi]
    have hlen : ∀ c ∈ dss, c.length = z := fun c hc => by
      obtain ⟨i, _, rfl⟩ := List.mem_map.1 hc
      simp
    refine ⟨_, c, dss, rfl, All2.of (by simp [dss]) fun i ds cs h1 h2 => ?_, (fun h => by cases h), fun ad had j v hv => ?_⟩
    · have hi : i < es.length := (List.getElem?_eq_some_iff.1 h1).1
      rw [hd i hi] at h2
      injection h2 with h2
      subst h2
      have hdz := hz ds (List.mem_of_getElem? h1)
      refine ⟨hdz, All2.of (by simp [hdz]) fun j d v h3 h4 => ?_⟩
      have hj : j < z := by rw [← hdz]; exact (List.getElem?_eq_some_iff.1 h3).1
      simp only [List.getElem?_map, List.getElem?_range hj, Option.map_some, Option.some.injEq] at h4
      subst h4
      exact hrep i j d (by simp [at2, h1, h3])
    · injection had with had
      subst had
      obtain ⟨i, t, cc, h1, h2, rfl⟩ := flatten_inv hlen hv
      have hi : i < es.length := by have := (List.getElem?_eq_some_iff.1 h1).1; simpa [dss] using this
      rw [hd i hi] at h1
      injection h1 with h1
      subst h1
      have ht : t < z := by have := (List.getElem?_eq_some_iff.1 h2).1; simpa using this
      simp only [List.getElem?_map, List.getElem?_range ht, Option.map_some, Option.some.injEq] at h2
      subst h2
      rw [add_none, ← Nat.add_assoc]
      have hds := hz es[i] (List.getElem_mem hi)
      exact hcell i t (es[i][t]'(by omega)) (by simp [at2, List.getElem?_eq_getElem hi, List.getElem?_eq_getElem (show t < es[i].length by omega)])
theorem src_sound {z : Nat} {y : AV} {u : Value} {K : List (List AV) → Prop} (h : srcK z y K) (hr : RA B G w y u) : ∃ es A c dss, K es ∧ u = .slice A es.length c ∧ All2 (fun ds cs => ds.length = z ∧ All2 (RepV w (GX G)) ds cs) es dss ∧ (A = none → es = []) ∧ ∀ ad, A = some ad → ∀ j v, dss.flatten[j]? = some v → w.cell? (ad.add j) = some v := by
  cases y
  case lst z' es =>
    simp only [srcK] at h
    split at h
    · next hz =>
      have : z' = z := by simpa using hz
      subst this
      obtain ⟨A, c, dss, h1, h2, h3, h4⟩ := rep_cells (show RepV w (GX G) (.lst z' es) u from hr)
      exact ⟨es, A, c, dss, h, h1, h2, h3, h4⟩
    · exact h.elim
  case own t e z' es =>
    simp only [srcK] at h
    split at h
    · next hz =>
      have : z' = z := by simpa using hz
      subst this
      obtain ⟨-, css, ho, hA⟩ := (show RC B G w (.own t e z' es) u from hr)
      have ho' := ho
      rcases ho'.2 with ⟨rfl, h0⟩ | ⟨g, cap, cur, rfl, -⟩
      · obtain rfl : es = [] := List.eq_nil_of_length_eq_zero h0
        exact ⟨[], none, 0, [], h, rfl, trivial, fun _ => rfl, fun ad h => by cases h⟩
      · refine ⟨es, _, cap, css, h, rfl, hA, (fun h => by cases h), fun ad had j v hv => ?_⟩
        injection had with had
        subst had
        rw [add_none, Nat.zero_add, ho.cellAt j (by have := (List.getElem?_eq_some_iff.1 hv).1; rw [ho.1] at this; exact this), hv]
    · exact h.elim
  case win t lo z' es =>
    simp only [srcK] at h
    split at h
    · next hz =>
      have : z' = z := by simpa using hz
      subst this
      obtain ⟨g, n, c, e, cur, css, A, c', h1, h2, rfl, h4, h5, h6, h7, h8, h9⟩ := (show WinRep G w t lo z' es u from hr)
      by_cases hes : es = []
      · subst hes
        obtain rfl := h8.nil_inv
        exact ⟨[], A, c', [], h, rfl, trivial, fun _ => rfl, fun ad _ j v hv => by simp at hv⟩
      · obtain rfl := h4 hes
        refine ⟨es, _, c', css, h, rfl, h8, (fun h => by cases h), fun ad had j v hv => ?_⟩
        injection had with had
        subst had
        rw [add_none]
        exact h9 j v hv
    · exact h.elim
  case nil =>
    obtain rfl := hr.nil_inv
    exact ⟨[], none, 0, [], h, rfl, trivial, fun _ => rfl, fun ad h => by cases h⟩
  all_goals exact h.elim
end
end Go.Proofs.Ytlminbeepaacjaa
