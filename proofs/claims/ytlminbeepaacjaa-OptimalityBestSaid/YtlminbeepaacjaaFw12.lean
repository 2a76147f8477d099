/- A plain interpreter, part 12: append; calls. -/
import Derived.Test.YtlminbeepaacjaaFw11
import Derived.Laws.IdiomCopy
namespace Go.Proofs.Ytlminbeepaacjaa
set_option linter.unusedVariables false
set_option linter.unusedSimpArgs false
set_option linter.unnecessarySimpa false
set_option linter.unusedSectionVars false
open Go.RowKit

section
variable {P : Program} {T : Nat → Ty} {tt : Nat} {w0 : En} {w w' : World} {G : Gh} {s : St} {a : Act} {B : Nat} {Q : Exit → Act → World → Prop}
/-- append, the run: onto a row of the function's own (or nil), from whatever list. -/
theorem run_app (S : Sim tt w0 G s a w) {t ty e : Nat} {i : TypeInfo} {zv : Value} (h2 : P.underlying t = some (.slice e)) (h3 : P.info? e = some i) (h4 : i.zero = some zv) (h5 : zv.cells.size = i.size) (h6 : 0 < i.size) (h7 : i.bytes ≤ 8192)
    {v : Value} {es es' : List (List AV)} {css dss : List (List Value)} (ho : w.ownsRow w0.heap.size e i.size v es.length css.flatten) (hA : All2 (fun ds cs => ds.length = i.size ∧ All2 (RepV w (GX G)) ds cs) es css)
    {A : Option Addr} {c : Nat} (hA' : All2 (fun ds cs => ds.length = i.size ∧ All2 (RepV w (GX G)) ds cs) es' dss) (hn : A = none → es' = []) (hc : ∀ ad, A = some ad → ∀ j v, dss.flatten[j]? = some v → w.cell? (ad.add j) = some v)
    (hl : es.length + es'.length ≤ 1000000) :
    ∃ v' w', (Builtin.append_ #[t, t] ty #[v, .slice A es'.length c]).run P w = .ok v' w' ∧ w'.ownsRow w0.heap.size e i.size v' (es ++ es').length (css ++ dss).flatten ∧ w.grownBy w' v.ownBlock ∧ (v'.ownBlock = v.ownBlock ∨ v'.ownBlock = some w.heap.size) := by
  have hone : ∀ u ∈ dss.flatten, u.oneCell' = true := by
    intro u hu
    obtain ⟨d, hd, hu⟩ := List.mem_flatten.1 hu
    obtain ⟨j, hj, rfl⟩ := List.mem_iff_getElem.1 hd
    obtain ⟨ds, _, _, k⟩ := hA'.get' (List.getElem?_eq_getElem hj)
    obtain ⟨m, hm, rfl⟩ := List.mem_iff_getElem.1 hu
    obtain ⟨x, _, hx⟩ := k.get' (List.getElem?_eq_getElem hm)
    exact hx.one
  have hdl : dss.flatten.length = es'.length * i.size := by rw [flat_len (OwnRep.lens hA').1, hA'.len]
  cases A with
  | none =>
    obtain rfl := hn rfl
    obtain rfl := hA'.nil_inv
    exact ⟨v, w, run_append_nothing w w0.heap.size t ty e i i.size h2 h3 v _ _ ho c, by simpa using ho, World.grownBy.refl w _, .inl rfl⟩
  | some ad =>
    obtain ⟨v', w', hrun, k2, k3, _, k5⟩ := run_append_own_at (P := P) w w0.heap.size t ty e i zv i.size i.bytes h2 h3 h4 rfl rfl h5 h6 v es.length css.flatten ho ad es'.length c dss.flatten hdl (hc ad rfl) hone
      (by simp only [maxLen]; omega) (Nat.le_trans (Nat.mul_le_mul hl h7) (by omega)) S.chg.size
    exact ⟨v', w', hrun, by simpa using k2, k3, k5⟩
/-- append: the state behind it. -/
theorem app_sim (S : Sim tt w0 G s a w) {d tg e z : Nat} (hd : d < a.tmps.size) {v v' : Value} {es es' : List (List AV)} {css dss : List (List Value)} (hv : ∀ b, v.ownBlock = some b → ∃ v0, G.own tg = some v0 ∧ v0.ownBlock = some b)
    (hA : All2 (fun ds cs => ds.length = z ∧ All2 (RepV w (GX G)) ds cs) es css) (hA' : All2 (fun ds cs => ds.length = z ∧ All2 (RepV w (GX G)) ds cs) es' dss)
    (ho : w'.ownsRow w0.heap.size e z v' (es ++ es').length (css ++ dss).flatten) (hg : w.grownBy w' v.ownBlock) (hb : v'.ownBlock = v.ownBlock ∨ v'.ownBlock = some w.heap.size) {K : St → Prop}
    (h : K ((s.map (killF tg)).put d (.own tg e z (es ++ es')))) : Nxt tt w0 a.tmps.size (some G) K (a.put (some d) v') w' := by
  have hlt : ∀ b, v'.ownBlock = some b → b < w'.heap.size := fun b hb => by
    rcases ho.2 with ⟨rfl, _⟩ | ⟨g, cap, cur, rfl, _, hh, _⟩
    · cases hb
    · simp only [Value.ownBlock, Option.some.injEq] at hb
      subst hb
      exact (Array.getElem?_eq_some_iff.1 hh).1
  have hblk : ∀ b, v'.ownBlock = some b → (∃ v0, G.own tg = some v0 ∧ v0.ownBlock = some b) ∨ (w.heap.size ≤ b ∧ b < w'.heap.size) := fun b hb' => by
    rcases hb with e | e
    · exact .inl (hv b (e ▸ hb'))
    · rw [e] at hb'; injection hb' with hb'; subst hb'; exact .inr ⟨Nat.le_refl _, hlt _ e⟩
  have hne : ∀ b, b < w.heap.size → (∀ v0, G.own tg = some v0 → v0.ownBlock ≠ some b) → w'.heap[b]? = w.heap[b]? := fun b hb' hn => hg.block b hb' fun e => by
    obtain ⟨v0, k1, k2⟩ := hv b e.symm
    exact hn v0 k1 k2
  have S1 := S.setOwn tg v' hg.size hne hblk (S.chg.grown hg fun k hk => by
    obtain ⟨v0, k1, k2⟩ := hv k hk
    exact .inr (S.ownLt tg v0 k k1 k2).1)
  have mv : ∀ x u, RepV w (GX G) x u → RepV w' (GX { G with own := upd G.own tg (some v') }) x u := fun x u hr => hr.move (fun b hb' hx => hne b hb' fun v0 k1 k2 => hx (.inl (.inr (.inl ⟨tg, v0, k1, k2⟩)))) fun b hb' hx => by
    rcases hx with (⟨t, ht⟩ | ⟨t, v2, h, h'⟩ | h) | h
    · exact .inl (.inl ⟨t, ht⟩)
    · rcases upd_cases h with ⟨_, e⟩ | ⟨_, e⟩
      · injection e with e
        subst e
        rcases hblk b h' with ⟨v0, k1, k2⟩ | k
        · exact .inl (.inr (.inl ⟨tg, v0, k1, k2⟩))
        · omega
      · exact .inl (.inr (.inl ⟨t, v2, e, h'⟩))
    · exact .inl (.inr (.inr h))
    · exact .inr h
  exact ⟨_, _, S1.put (v := .own tg e z (es ++ es')) hd ⟨upd_same, css ++ dss, ho, All2.append (hA.mono fun _ _ h => ⟨h.1, h.2.mono mv⟩) (hA'.mono fun _ _ h => ⟨h.1, h.2.mono mv⟩)⟩, size_put, h, (Kp.refl G).of rfl rfl⟩
theorem sound_append (hT : TabOk P T) (S : Sim tt w0 G s a w) (o : Oper) (hd : ∀ x, o.dst = some x → x < a.tmps.size) {K : St → Prop} {c : Call} (ho : o.op = .call c) (hc : c.callee = .builtin .append) (h : aop P T tt o K s) : o.wp P a w (Nxt tt w0 a.tmps.size (some G) K) Q := by
  simp only [aop, ho, hc] at h
  have hA := S.evals c.args.toList
  have eargs : c.args.map a.eval = (c.args.toList.map a.eval).toArray := by cases c.args; simp
  split at h
  · next x y t t' d he ht hdd =>
    rw [he] at hA
    obtain ⟨ux, us, hu, hx, h2⟩ := hA.cons_inv
    obtain ⟨uy, us', rfl, hy, h4⟩ := h2.cons_inv
    obtain rfl := h4.nil_inv
    have hts : c.argTypes = #[t, t'] := by cases hct : c.argTypes; rw [hct] at ht; simpa using ht
    split at h
    · next htt =>
      have : t = t' := by simpa using htt
      subst this
      obtain ⟨e, i, zv, h1, k2, k3, k4, k5, k6, k7⟩ := elemZ_sound hT h
      obtain ⟨es', A, cc, dss, m1, rfl, m3, m4, m5⟩ := src_sound h1 hy
      split at m1
      · next tg e' z' es =>
        split at m1
        · next hk =>
          rw [Bool.and_eq_true] at hk
          have e1 : e' = e := by simpa using hk.1
          have e2 : z' = i.size := by simpa using hk.2
          subst e1 e2
          simp only [need_iff] at m1
          obtain ⟨hG, css, hown, hcss⟩ := (show RC w0.heap.size G w (.own tg e' i.size es) ux from hx)
          obtain ⟨v', w', r1, r2, r3, r4⟩ := run_app S (ty := o.type) (c := cc) k2 k3 k4 k5 k6 k7 hown hcss m3 m4 m5 m1.1
          refine val_wp (u := v') (w' := w') ?_ ?_
          · simp only [execOp, ho, resolve, hc, Sem.run_bind, Sem.run_pure, Result.andThen_ok, invoke, builtin, eargs, hu, hts, r1]
          · rw [hdd]; exact app_sim S (hd d hdd) (fun b hb => ⟨ux, hG, hb⟩) hcss m3 r2 r3 r4 m1.2
        · exact m1.elim
      · simp only [need_iff] at m1
        obtain rfl := hx.nil_inv
        obtain ⟨v', w', r1, r2, r3, r4⟩ := run_app S (ty := o.type) (c := cc) (es := []) (css := []) k2 k3 k4 k5 k6 k7 (World.ownsRow_nil w w0.heap.size e i.size) trivial m3 m4 m5 (by simpa using m1.1)
        refine val_wp (u := v') (w' := w') ?_ ?_
        · simp only [execOp, ho, resolve, hc, Sem.run_bind, Sem.run_pure, Result.andThen_ok, invoke, builtin, eargs, hu, hts, r1]
        · rw [hdd]; exact app_sim (es := []) (css := []) S (hd d hdd) (fun b hb => by cases hb) trivial m3 r2 r3 r4 m1.2
      · exact m1.elim
    · exact h.elim
  · exact h.elim
theorem sound_copy (hT : TabOk P T) (S : Sim tt w0 G s a w) (o : Oper) (hd : ∀ x, o.dst = some x → x < a.tmps.size) {K : St → Prop} {c : Call} (ho : o.op = .call c) (hc : c.callee = .builtin .copy) (h : aop P T tt o K s) : o.wp P a w (Nxt tt w0 a.tmps.size (some G) K) Q := by
  simp only [aop, ho, hc] at h
  have hA := S.evals c.args.toList
  have eargs : c.args.map a.eval = (c.args.toList.map a.eval).toArray := by cases c.args; simp
  split at h
  · next x y t t' d he ht hdd =>
    rw [he] at hA
    obtain ⟨ux, us, hu, hx, h2⟩ := hA.cons_inv
    obtain ⟨uy, us', rfl, hy, h4⟩ := h2.cons_inv
    obtain rfl := h4.nil_inv
    have hts : c.argTypes = #[t, t'] := by cases hct : c.argTypes; rw [hct] at ht; simpa using ht
    obtain ⟨e, i, zv, h1, k2, k3, k4, k5, k6, k7⟩ := elemZ_sound hT h
    split at h1
    · next hz1 =>
      have hz : i.size = 1 := by simpa using hz1
      obtain ⟨src, A, cc, dss, m1, rfl, m3, m4, m5⟩ := src_sound h1 hy
      have fin : ∀ (tg lo : Nat) (es : List (List AV)) (g n cap e0 dc : Nat) (cur : Array Value), G.own tg = some (.slice (some ⟨g, 0, none⟩) n cap) → w.heap[g]? = some (.cells cur e0 (0, 0)) → lo + es.length ≤ n → n * i.size ≤ cur.size → ux = .slice (some ⟨g, lo * i.size, none⟩) es.length dc → 0 < es.length ∧ 0 < src.length →
          K ((s.map (copyF tg i.size lo (src.take es.length))).put d (.int .i64 (min src.length es.length : Nat))) → o.wp P a w (Nxt tt w0 a.tmps.size (some G) K) Q := fun tg lo es g n cap e0 dc cur q1 q2 q3 q4 q5 q6 q7 => by
        subst q5
        cases A with
        | none => have := m4 rfl; rw [this] at q6; simp at q6
        | some ad =>
          obtain ⟨hdl, hsl⟩ := OwnRep.lens m3
          have hll := m3.len
          have efl : (dss.take es.length).flatten = dss.flatten.take (es.length * i.size) := flat_take hdl _
          have hfl := flat_len0 hdl
          have hcl : (dss.take es.length).flatten.length = min src.length es.length := by
            rw [efl, List.length_take, hfl, hz, hll]; omega
          have hone : ∀ u ∈ (dss.take es.length).flatten, u.oneCell' = true := by
            intro u hu
            obtain ⟨d, hd, hu⟩ := List.mem_flatten.1 hu
            obtain ⟨j, hj, rfl⟩ := List.mem_iff_getElem.1 (List.mem_of_mem_take hd)
            obtain ⟨ds, _, _, k⟩ := m3.get' (List.getElem?_eq_getElem hj)
            obtain ⟨m, hm, rfl⟩ := List.mem_iff_getElem.1 hu
            obtain ⟨x, _, hx⟩ := k.get' (List.getElem?_eq_getElem hm)
            exact hx.one
          have hrun := run_copy_row P w t t' o.type e g (lo * i.size) es.length dc ad src.length cc cur e0 (dss.take es.length).flatten k2 (by simp [k3, hz]) q2 hcl (fun j v hv => m5 ad rfl j v (by
              rw [efl, List.getElem?_take] at hv
              split at hv
              · exact hv
              · cases hv)) (by rw [hcl, hz]; rw [hz] at q4; omega) hone
          refine val_wp (u := goInt (dss.take es.length).flatten.length) (w' := w.setRow g (cur.toList.take (lo * i.size) ++ (dss.take es.length).flatten ++ cur.toList.drop (lo * i.size + (dss.take es.length).flatten.length)).toArray) ?_ ?_
          · simp only [execOp, ho, resolve, hc, Sem.run_bind, Sem.run_pure, Result.andThen_ok, invoke, builtin, eargs, hu, hts, hrun]
          · rw [hdd]
            have S1 := S.copyOwn q1 q2 (lo := lo) (src := src.take es.length) (dss := dss.take es.length) (by rw [List.length_take]; omega) q4 (m3.take es.length)
            exact ⟨_, _, S1.put (v := .int .i64 (min src.length es.length : Nat)) (hd d hdd) (by rw [hcl]; exact RepV.int _ _), size_put, q7, Kp.refl G⟩
      have non : ∀ (A' : Option Addr) (n c' : Nat), ux = .slice A' n c' → ¬ (0 < n ∧ 0 < src.length) → K (s.put d (.int .i64 0)) → o.wp P a w (Nxt tt w0 a.tmps.size (some G) K) Q := fun A' n c' q1 q2 q3 => by
        subst q1
        have hrun := run_copy_none (P := P) w t t' o.type e A' A n c' src.length cc k2 (by simp [k3, hz]) (show min src.length n = 0 by omega)
        refine val_wp (u := goInt 0) (w' := w) ?_ ?_
        · simp only [execOp, ho, resolve, hc, Sem.run_bind, Sem.run_pure, Result.andThen_ok, invoke, builtin, eargs, hu, hts, hrun]
        · rw [hdd]
          exact ⟨_, _, S.put (v := .int .i64 0) (hd d hdd) (RepV.int _ _), size_put, q3, Kp.refl G⟩
      split at m1
      · next tg e' z' es =>
        split at m1
        · next hk =>
          have e2 : z' = i.size := by simpa using hk
          subst e2
          rw [branch_iff, decide_eq_true_iff, decide_eq_false_iff_not] at m1
          obtain ⟨hG, css, hown, hcss⟩ := (show RC w0.heap.size G w (.own tg e' i.size es) ux from hx)
          by_cases hpos : 0 < es.length ∧ 0 < src.length
          rotate_left 1
          · obtain ⟨A', c', hux⟩ := OwnRep.inv ⟨css, hown, hcss⟩
            exact non A' es.length c' hux hpos (m1.2 hpos)
          replace m1 := And.intro hpos (m1.1 hpos)
          rcases hown.2 with ⟨_, h0⟩ | ⟨g, cap, cur, hux, b1, b2, b3, b4, b5, b6⟩
          · omega
          · exact fin tg 0 es g es.length cap e' cap cur (by rw [hG, hux]) b2 (by omega) (by rw [b5]; exact Nat.mul_le_mul_right _ b3) (by rw [hux, Nat.zero_mul]) m1.1 m1.2
        · exact m1.elim
      · next tg lo z' es =>
        split at m1
        · next hk =>
          have e2 : z' = i.size := by simpa using hk
          subst e2
          rw [branch_iff, decide_eq_true_iff, decide_eq_false_iff_not] at m1
          obtain ⟨g, n, cap, e0, cur, css, A', c', q1, q2, q3, q4, q5, q6, q7, q8, q9⟩ := (show WinRep G w tg lo i.size es ux from hx)
          by_cases hpos : 0 < es.length ∧ 0 < src.length
          rotate_left 1
          · exact non A' es.length c' q3 hpos (m1.2 hpos)
          replace m1 := And.intro hpos (m1.1 hpos)
          exact fin tg lo es g n cap e0 c' cur q1 q6 q2 q7 (by rw [q3, q4 (List.length_pos_iff.1 m1.1.1)]) m1.1 m1.2
        · exact m1.elim
      · exact m1.elim
    · exact h1.elim
  · exact h.elim
end
end Go.Proofs.Ytlminbeepaacjaa
