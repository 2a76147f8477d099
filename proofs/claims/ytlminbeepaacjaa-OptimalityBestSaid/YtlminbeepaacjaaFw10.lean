/- A plain interpreter, part 10: variables, stores, new slices. -/
import Derived.Test.YtlminbeepaacjaaFw9
import Derived.Laws.MakeOwn
namespace Go.Proofs.Ytlminbeepaacjaa
set_option linter.unusedVariables false
set_option linter.unusedSimpArgs false
set_option linter.unnecessarySimpa false
set_option linter.unusedSectionVars false
open Go.RowKit

section
variable {P : Program} {T : Nat → Ty} {tt : Nat} {w0 : En} {w w' : World} {G : Gh} {s : St} {a : Act} {B : Nat} {Q : Exit → Act → World → Prop}
theorem val_wp {o : Oper} {K : Act → World → Prop} {u : Value} (hr : (execOp a.eval o).run P w = .ok (.value u) w') (h : K (a.put o.dst u) w') : o.wp P a w K Q := by
  unfold Oper.wp
  rw [hr]
  exact h
theorem skip_wp {o : Oper} {K : Act → World → Prop} (hd : o.dst = none) (hr : (execOp a.eval o).run P w = .ok .skip w') (h : K a w') : o.wp P a w K Q := by
  unfold Oper.wp
  rw [hr]
  simp only [Oper.upon, hd, Act.put]
  exact h
theorem aval_wp (hT : TabOk P T) (S : Sim tt w0 G s a w) (o : Oper) (hd : ∀ x, o.dst = some x → x < a.tmps.size) {K : St → Prop} {F : Option Gh} (hF : Kp F G) (h : aval T s o.op fun v => putK s o.dst v K) : o.wp P a w (Nxt tt w0 a.tmps.size F K) Q := by
  obtain ⟨v, u, h1, h2, h3⟩ := aval_sound hT S o h
  exact val_wp (h3 w fun _ => Agr.refl _ _) (put_sound S hd h2 hF h1)
theorem run_newVar (t : Nat) (v : Value) (w : World) : (newVar t v).run P w = .ok ⟨w.heap.size, 0, none⟩ (w.alloc (.cells v.cells t)) := by
  simp only [newVar, newRow, newObj, Sem.run_bind, Sem.run, Result.andThen_ok, Sem.run_pure]
  rfl
theorem newBox (S : Sim tt w0 G s a w) {d : Nat} (hd : d < a.tmps.size) (e : Nat) {cs : List AV} {us : List Value} (hA : All2 (RC w0.heap.size G w) cs us) {K : St → Prop} (h : K (((s.map (killPtrF d)).setBox d cs).put d (.ptr d 0))) :
    Nxt tt w0 a.tmps.size (some G) K (a.put (some d) (.pointer (some ⟨w.heap.size, 0, none⟩))) (w.alloc (.cells us.toArray e)) := by
  have S1 := S.allocBox d e hA
  rw [map_killPtr hA] at S1
  exact ⟨_, _, S1.put (v := .ptr d 0) hd ⟨w.heap.size, upd_same, rfl⟩, size_put, h, (Kp.refl G).of rfl rfl⟩
theorem sound_box (S : Sim tt w0 G s a w) (o : Oper) (hd : ∀ x, o.dst = some x → x < a.tmps.size) {K : St → Prop} {t : Nat} {x : Operand} (ho : o.op = .box t x) (h : aop P T tt o K s) : o.wp P a w (Nxt tt w0 a.tmps.size (some G) K) Q := by
  simp only [aop, ho] at h
  split at h
  · next d hdd =>
    obtain ⟨cs, us, h1, h2, h3⟩ := cells_sound h (S.eval x)
    rw [forceL_eq] at h1
    refine val_wp (u := .pointer (some ⟨w.heap.size, 0, none⟩)) (w' := w.alloc (.cells us.toArray t)) ?_ ?_
    · simp only [execOp, ho, Instr.box, Sem.run_bind, run_newVar, h2, Result.andThen_ok, Sem.run_pure]
    · rw [hdd]; exact newBox S (hd d hdd) t h3 h1
  · exact h.elim
theorem sound_alloc (hT : TabOk P T) (S : Sim tt w0 G s a w) (o : Oper) (hd : ∀ x, o.dst = some x → x < a.tmps.size) {K : St → Prop} {t : Nat} (ho : o.op = .alloc t) (h : aop P T tt o K s) : o.wp P a w (Nxt tt w0 a.tmps.size (some G) K) Q := by
  simp only [aop, ho] at h
  split at h
  · next d z zs hdd hok hz =>
    obtain ⟨i, dd, hi, hdd', -, -, -, -, hzz, -⟩ := ty_at hT hok
    cases hiz : i.zero with
    | none => rw [hzz, hiz] at hz; simp [zeroD] at hz
    | some zv =>
      rw [hzz, hiz] at hz
      have hA : All2 (RC w0.heap.size G w) (z :: zs) zv.cells.toList := by rw [← hz]; exact zero_sound _
      refine val_wp (u := .pointer (some ⟨w.heap.size, 0, none⟩)) (w' := w.alloc (.cells zv.cells.toList.toArray t)) ?_ ?_
      · simp only [execOp, ho, Instr.alloc, Sem.run_bind, zeroValue, typeInfo, program, Sem.run, hi, hiz, Result.andThen_ok, Sem.run_pure, run_newVar]
      · rw [hdd]; exact newBox S (hd d hdd) t hA h
  · exact h.elim
theorem storeCells_run {b e : Nat} : ∀ {us : List Value} {cur : List Value} {o i : Nat} {w : World}, Blk w b e cur.toArray → o + i + us.length ≤ cur.length → (∀ u ∈ us, u.oneCell' = true) →
    ∃ w', (storeCells ⟨b, o, none⟩ us i).run P w = .ok () w' ∧ Blk w' b e ((us.zipIdx i).foldl (fun cs (p : Value × Nat) => cs.set (o + p.2) p.1) cur).toArray ∧ w'.heap.size = w.heap.size ∧ (∀ b', b' ≠ b → w'.heap[b']? = w.heap[b']?) ∧ w'.os = w.os ∧ w'.tape = w.tape ∧ w'.output = w.output
  | [], cur, o, i, w, hB, _, _ => ⟨w, rfl, hB, rfl, fun _ _ => rfl, rfl, rfl, rfl⟩
  | u :: us, cur, o, i, w, hB, hl, h1 => by
    have hlt : o + i < cur.length := by simp at hl; omega
    have hcell : w.cell? ⟨b, o + i, none⟩ = some cur[o + i] := by rw [hB.cell]; simp [hlt]
    have hB' := hB.stored (o + i) u
    have e1 : cur.toArray.setIfInBounds (o + i) u = (cur.set (o + i) u).toArray := by simp
    rw [e1] at hB'
    obtain ⟨w', k1, k2, k3, k4, k5, k6, k7⟩ := storeCells_run (us := us) (cur := cur.set (o + i) u) (o := o) (i := i + 1) hB' (by simp at hl ⊢; omega) (fun v hv => h1 v (by simp [hv]))
    refine ⟨w', ?_, by simpa [List.zipIdx_cons] using k2, by rw [k3]; simp [World.setCell], fun b' hb' => (k4 b' hb').trans (Below.heap_setCell _ _ _ _ hb'), by rw [k5]; rfl, by rw [k6]; rfl, by rw [k7]; rfl⟩
    have hu := h1 u (by simp)
    simp only [storeCells, Sem.run_bind, store, add_none]
    have hrun : (Sem.store .plain ⟨b, o + i, none⟩ u (.pure ())).run P w = .ok () (w.setCell ⟨b, o + i, none⟩ u) := by
      cases u <;> first | (simp [Value.oneCell'] at hu; done) | (simp [Sem.run, hcell, hB.frozen])
    rw [hrun]
    simpa using k1
theorem RC.one {v : AV} {u : Value} (h : RC B G w v u) (hn : v ≠ .undef) : u.oneCell' = true := by
  cases v
  case undef => exact absurd rfl hn
  case nil => have : u = .slice none 0 0 := h; subst this; rfl
  case own t e z es =>
    obtain ⟨A, c, rfl⟩ := h.2.inv
    rfl
  all_goals exact RepV.one h
theorem noUndef_one : ∀ {cs : List AV} {us : List Value}, noUndef cs = true → All2 (RC B G w) cs us → ∀ u ∈ us, u.oneCell' = true
  | [], [], _, _, u, h => by simp at h
  | c :: cs, v :: us, hn, hA, u, h => by
    have hc : c ≠ .undef := fun e => by subst e; simp [noUndef] at hn
    have hn' : noUndef cs = true := by cases c <;> first | exact hn | (exact absurd rfl hc)
    rcases List.mem_cons.1 h with rfl | h
    · exact hA.1.one hc
    · exact noUndef_one hn' hA.2 u h
  | [], _ :: _, _, hA, _, _ => hA.elim
  | _ :: _, [], _, hA, _, _ => hA.elim
theorem RepV.notUndef {X : Nat → Prop} {v : AV} {u : Value} (h : RepV w X v u) : v ≠ .undef := by cases h <;> simp
def kpS (s : St) (x : Operand) (G : Gh) : Option Gh := match s.eval x with | .ept _ _ _ _ => some G | _ => none
theorem sound_store (hT : TabOk P T) (S : Sim tt w0 G s a w) (o : Oper) {K : St → Prop} {t : Nat} {x y : Operand} (ho : o.op = .store t x y) (h : aop P T tt o K s) : o.wp P a w (Nxt tt w0 a.tmps.size (kpS s x G) K) Q := by
  simp only [aop, ho] at h
  have hx := S.eval x
  split at h
  · next b off hb hk =>
    rw [show kpS s x G = none by simp only [kpS, hb]]
    rw [Bool.and_eq_true] at hk
    obtain ⟨i, d, hi, hd, -, hs, -⟩ := ty_at hT hk.1
    have hdst : o.dst = none := by simpa using hk.2
    rw [hb] at hx
    obtain ⟨bb, hbb, hu⟩ := hx
    split at h
    · next cs hcs =>
      obtain ⟨vs, us, h1, h2, h3⟩ := cells_sound h (S.eval y)
      split at h1
      · next hc =>
        simp only [Bool.and_eq_true] at hc
        obtain ⟨⟨c1, c2⟩, c3⟩ := hc
        have e1 : vs.length = (T t).size := by simpa using c1
        have e2 : off + vs.length ≤ cs.length := Nat.le_of_ble_eq_true c2
        rw [forceL_eq] at h1
        obtain ⟨b', e, cur, k1, k2, k3⟩ := S.box b cs hcs
        rw [hbb] at k1
        injection k1 with k1
        subst k1
        have l3 := h3.len
        have lk := k3.len
        obtain ⟨w', r1, r2, r3, r4, r5, r6, r7⟩ := storeCells_run (P := P) (us := us) (o := off) (i := 0) k2 (by omega) (noUndef_one c3 h3)
        have hset := setRange_sound (R := RC w0.heap.size G w) off 0 h3 k3
        rw [Nat.add_zero] at hset
        refine skip_wp (w' := w') hdst ?_ ⟨_, _, S.storeBox hbb r2 r3 r4 ?_ hset, rfl, h1, Kp.none⟩
        · have hsz : ¬ us.toArray.size ≠ i.size := by simp; omega
          simp only [execOp, ho, Instr.storeAt, Instr.sureAddr, hu, storeVar, h2, Sem.run_bind, Sem.run_pure, Result.andThen_ok, run_sizeOf hi, hsz, if_false, r1]
        · exact S.chg.andThen (Y := fun b2 => b2 = bb) ⟨r5, r6, r7, by omega, fun b2 hb2 hx2 => r4 b2 hx2⟩ fun b2 hb2 e => by have := (S.boxLt b bb hbb).1; omega
      · exact h1.elim
    · exact h.elim
  · next t' i off cs hb hk =>
    rw [show kpS s x G = some G by simp only [kpS, hb]]
    rw [Bool.and_eq_true] at hk
    obtain ⟨ii, d, hi, hd, -, hs, -⟩ := ty_at hT hk.1
    have hdst : o.dst = none := by simpa using hk.2
    rw [hb] at hx
    obtain ⟨g, n, c, e, cur, us, k1, hu, k3, k4, k4', k5, k6⟩ := hx
    obtain ⟨vs, ws, h1, h2, h3⟩ := cells_sound h (S.eval y)
    split at h1
    · next hts =>
      obtain ⟨vs', h4, h5⟩ := pres_sound (G := G) (G' := G) (B := w0.heap.size) (w := w) (ts := []) (fun _ _ h => h) (fun t ht => by rw [hts] at ht; exact ht) h1 h3
      split at h4
      · next v hk2 =>
        rw [Bool.and_eq_true] at hk2
        have hsz : (T t).size = 1 := by simpa using hk2.1
        have hoff : off < cs.length := by simpa using hk2.2
        obtain ⟨u, ws', rfl, h6, h7⟩ := h5.cons_inv
        obtain rfl := h7.nil_inv
        have hone := h6.one
        · have hin : i * cs.length + off < cur.size := by
            have : (i + 1) * cs.length ≤ n * cs.length := Nat.mul_le_mul_right _ k3
            rw [Nat.add_mul] at this
            omega
          have hB : Blk w g e cur := k4
          refine skip_wp (w' := w.setCell ⟨g, i * cs.length + off, none⟩ u) hdst ?_ ⟨G, _, S.storeOwn k1 k3 hoff h6, rfl, h4, Kp.refl G⟩
          have hcell : w.cell? ⟨g, i * cs.length + off, none⟩ = some cur[i * cs.length + off] := by rw [hB.cell]; simp [hin]
          have hrun : (Sem.store .plain ⟨g, i * cs.length + off, none⟩ u (.pure ())).run P w = .ok () (w.setCell ⟨g, i * cs.length + off, none⟩ u) := by
            cases u <;> first | (simp [Value.oneCell'] at hone; done) | (simp [Sem.run, hcell, hB.frozen])
          have hs1 : ii.size = 1 := by omega
          simp only [execOp, ho, Instr.storeAt, Instr.sureAddr, hu, storeVar, h2, Sem.run_bind, Sem.run_pure, Result.andThen_ok, run_sizeOf hi, hs1, List.size_toArray, List.length_singleton, ne_eq, not_true_eq_false, if_false, storeCells, store, add_none, Nat.add_zero, hrun]
      · exact h4.elim
    · next tg hts =>
      split at h1
      · next htt =>
        have hne : t' ≠ tg := fun e => by subst e; simp at htt
        obtain ⟨S', hc⟩ := S.erase tg
        have k1' : upd G.own tg none t' = some (.slice (some ⟨g, 0, none⟩) n c) := (upd_ne hne).trans k1
        obtain ⟨vs', h4, h5⟩ := pres_sound (G := G) (G' := { G with own := upd G.own tg none }) (B := w0.heap.size) (w := w) (ts := [tg]) hc (fun t ht => by rw [hts] at ht; exact ht) h1 h3
        split at h4
        · next v hk2 =>
          rw [Bool.and_eq_true] at hk2
          have hsz : (T t).size = 1 := by simpa using hk2.1
          have hoff : off < cs.length := by simpa using hk2.2
          obtain ⟨u, ws', rfl, h6, h7⟩ := h5.cons_inv
          obtain rfl := h7.nil_inv
          have hone := h6.one
          have hin : i * cs.length + off < cur.size := by
            have : (i + 1) * cs.length ≤ n * cs.length := Nat.mul_le_mul_right _ k3
            rw [Nat.add_mul] at this
            omega
          have hB : Blk w g e cur := k4
          refine skip_wp (w' := w.setCell ⟨g, i * cs.length + off, none⟩ u) hdst ?_ ⟨_, _, S'.storeOwn k1' k3 hoff h6, rfl, h4, (Kp.refl G).of rfl rfl⟩
          have hcell : w.cell? ⟨g, i * cs.length + off, none⟩ = some cur[i * cs.length + off] := by rw [hB.cell]; simp [hin]
          have hrun : (Sem.store .plain ⟨g, i * cs.length + off, none⟩ u (.pure ())).run P w = .ok () (w.setCell ⟨g, i * cs.length + off, none⟩ u) := by
            cases u <;> first | (simp [Value.oneCell'] at hone; done) | (simp [Sem.run, hcell, hB.frozen])
          have hs1 : ii.size = 1 := by omega
          simp only [execOp, ho, Instr.storeAt, Instr.sureAddr, hu, storeVar, h2, Sem.run_bind, Sem.run_pure, Result.andThen_ok, run_sizeOf hi, hs1, List.size_toArray, List.length_singleton, ne_eq, not_true_eq_false, if_false, storeCells, store, add_none, Nat.add_zero, hrun]
        · exact h4.elim
      · exact h1.elim
    · exact h1.elim
  · exact h.elim
end
end Go.Proofs.Ytlminbeepaacjaa
