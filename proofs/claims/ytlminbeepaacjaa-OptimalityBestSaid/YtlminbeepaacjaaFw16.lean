/- A plain interpreter, part 16: regions that draw their order. -/
import Derived.Test.YtlminbeepaacjaaFw15
namespace Go.Proofs.Ytlminbeepaacjaa
set_option linter.unusedVariables false
set_option linter.unusedSimpArgs false
set_option linter.unnecessarySimpa false
set_option linter.unusedSectionVars false
open Go.RowKit

section
variable {P : Program} {ops : Array Oper} {Q : Exit → Act → World → Prop} {S : World → Prop} {m : Nat}
/-- Whatever order is picked, and S holds behind every operation below m. -/
def wpD (P : Program) (ops : Array Oper) (Q : Exit → Act → World → Prop) (S : World → Prop) (m : Nat) : Nat → Array Bool → Act → World → Prop
  | 0, l, a, w => Region.ready .any ops l = [] ∧ Q .normal a w
  | fuel + 1, l, a, w => (Region.ready .any ops l = [] → Q .normal a w) ∧ ∀ i ∈ Region.ready .any ops l, wpOp P ops Q i (fun a' w' => (i < m → S w') ∧ wpD P ops Q S m fuel (l.setIfInBounds i true) a' w') a w
theorem wpAny_of_D : ∀ (fuel : Nat) (l : Array Bool) (a : Act) (w : World), wpD P ops Q S m fuel l a w → wpAny P .any ops Q fuel l a w
  | 0, _, _, _, h => h
  | fuel + 1, _, _, _, h => ⟨h.1, fun i hi => wpOp_mono (fun a' w' h' => wpAny_of_D fuel _ a' w' h'.2) (h.2 i hi)⟩
theorem D_first {i : Nat} {oi : Oper} {v : Value} {Y : World → Prop} (hi : ops[i]? = some oi) (hsel : ∀ (j : Nat) (o : Oper) cs b, ops[j]? = some o → o.op ≠ .select cs b)
    (hQ : ∀ c a w, Q (.panic c) (a.put oi.dst v) w → Q (.panic c) a w)
    (hm : i < m → ∀ (j : Nat) (oj : Oper), ops[j]? = some oj → (∀ e ∈ oj.after, Region.binds .any e = true → e.on ≠ i) → j < m) (hY : (∀ w, Y w) ∨ (i < m ∧ ∀ w, S w → Y w)) :
    ∀ (fuel : Nat) (l : Array Bool) (a : Act) (w : World),
      (∀ j oj, ops[j]? = some oj → j ≠ i → l.getD j true = false → (∀ e ∈ oj.after, Region.binds .any e = true → e.on ≠ i) → oi.apart ops oj = true) →
      i ∈ Region.ready .any ops l → YieldsIf P ops Y oi v a → Y w → (i < m → S w) → wpD P ops Q S m fuel (l.setIfInBounds i true) (a.put oi.dst v) w → wpD P ops Q S m (fuel + 1) l a w := by
  intro fuel
  induction fuel with
  | zero =>
    intro l a w _ hr hy hYw hS H
    refine ⟨fun h => (by rw [h] at hr; cases hr), fun j hj => ?_⟩
    by_cases hji : j = i
    · subst hji; exact hy.wpOp hi hYw ⟨hS, H⟩
    · have := ready_mono hj hji
      rw [H.1] at this
      cases this
  | succ fuel ih =>
    intro l a w hfree hr hy hYw hS H
    refine ⟨fun h => (by rw [h] at hr; cases hr), fun j hj => ?_⟩
    by_cases hji : j = i
    · subst hji; exact hy.wpOp hi hYw ⟨hS, H⟩
    · have h1 := H.2 j (ready_mono hj hji)
      obtain ⟨hjun, oj, hoj, hall⟩ := mem_ready.1 hj
      have hnot : ∀ e ∈ oj.after, Region.binds .any e = true → e.on ≠ i := fun e he hb heq => by
        have h1 := hall e he hb
        have h0 := (mem_ready.1 hr).1
        rw [heq] at h1
        rcases Nat.lt_or_ge i l.size with h' | h'
        · simp [h'] at h0 h1; rw [h0] at h1; cases h1
        · simp [Array.getElem?_eq_none h'] at h1
      have h2 := wpOp_putIf hoj (hfree j oj hoj hji hjun hnot) (fun cs b => hsel i oi cs b hi) (fun cs b => hsel j oj cs b hoj) hQ hy h1
      have hfree' : ∀ k ok, ops[k]? = some ok → k ≠ i → (l.setIfInBounds j true).getD k true = false →
          (∀ e ∈ ok.after, Region.binds .any e = true → e.on ≠ i) → oi.apart ops ok = true := fun k ok hk hki hun hno => by
        refine hfree k ok hk hki ?_ hno
        by_cases hjk : j = k
        · subst hjk; exact hjun
        · rw [getD_set_ne true hjk] at hun; exact hun
      refine wpOp_mono (fun a' w' h3 => ⟨h3.2.1, ih (l.setIfInBounds j true) a' w' hfree' (ready_mono hr (Ne.symm hji)) h3.1 ?_ (fun h => h3.2.1 (hm h j oj hoj hnot)) ?_⟩) h2
      · rcases hY with h | ⟨h, h'⟩
        · exact h w'
        · exact h' w' (h3.2.1 (hm h j oj hoj hnot))
      · rw [Array.setIfInBounds_comm _ _ hji]
        exact h3.2.2
theorem D_done {l : Array Bool} {a : Act} {w : World} (hr : Region.ready .any ops l = []) (h : Q .normal a w) : ∀ fuel, wpD P ops Q S m fuel l a w
  | 0 => ⟨hr, h⟩
  | _ + 1 => ⟨fun _ => h, by rw [hr]; simp⟩
theorem late_at {i : Nat} {o : Oper} (h : lateOk ops m i = true) (ho : ops[i]? = some o) (hm : i < m) : ∀ t x y, o.op ≠ .store t x y := by
  intro t x y he
  simp only [lateOk, ho, he, Bool.or_eq_true, decide_eq_true_eq] at h
  rcases h with h | h
  · omega
  · cases h
theorem phase_at (h : phaseOk ops m = true) {j : Nat} {o : Oper} (ho : ops[j]? = some o) : m ≤ j → ∀ i, i < m → ∃ e ∈ o.after, Region.binds .any e = true ∧ e.on = i := by
  have hj : j < ops.size := (Array.getElem?_eq_some_iff.1 ho).1
  have := List.all_eq_true.1 h j (List.mem_range.2 hj)
  simp only [ho] at this
  intro hm i hi
  rw [if_pos hm] at this
  have := List.all_eq_true.1 this i (List.mem_range.2 hi)
  rw [Array.any_eq_true] at this
  obtain ⟨k, hk, he⟩ := this
  simp only [Bool.and_eq_true, beq_iff_eq] at he
  exact ⟨_, Array.getElem_mem hk, he.1, he.2⟩
end
section
variable {P : Program} {T : Nat → Ty} {tt : Nat} {w0 : En} {w w' : World} {G : Gh} {s : St} {a : Act} {ops : Array Oper} {m n : Nat}
theorem put_same (S : Sim tt w0 G s a w) {d : Option Nat} (hd : ∀ x, d = some x → x < a.tmps.size) {v : AV} {u : Value} (hr : RA w0.heap.size G w v u) {K : St → Prop} (h : putK s d v K) : ∃ s1, Sim tt w0 G s1 (a.put d u) w ∧ K s1 := by
  cases d with
  | none => exact ⟨s, S, h⟩
  | some d =>
    simp only [putK, force_eq] at h
    exact ⟨_, S.put (hd d rfl) hr, h⟩
theorem take_sound (hT : TabOk P T) (S : Sim tt w0 G s a w) (o : Oper) (hd : ∀ x, o.dst = some x → x < a.tmps.size) {K : St → Prop} (h : atakeG T ops o K s) :
    ∃ u s1, Sim tt w0 G s1 (a.put o.dst u) w ∧ K s1 ∧ ∀ Y : World → Prop, (isLoad o.op = true → ∀ w', Y w' → Agr G w w') → YieldsIf P ops Y o u a := by
  have yes : ∀ s, Sim tt w0 G s a w → Region.wanted o (yielded ops a.tmps) = true → (aval T s o.op fun v => putK s o.dst v K) → ∃ u s1, Sim tt w0 G s1 (a.put o.dst u) w ∧ K s1 ∧ ∀ Y : World → Prop, (isLoad o.op = true → ∀ w', Y w' → Agr G w w') → YieldsIf P ops Y o u a := fun s S hw h => by
    obtain ⟨v, u, h1, h2, h3⟩ := aval_sound hT S o h
    obtain ⟨s1, k1, k2⟩ := put_same S hd h2 h1
    exact ⟨u, s1, k1, k2, fun Y hY => .inl ⟨hw, fun w' hw' => h3 w' fun hl => hY hl w' hw'⟩⟩
  have no : ∀ s, Sim tt w0 G s a w → Region.wanted o (yielded ops a.tmps) = false → putK s o.dst (.tup []) K → ∃ u s1, Sim tt w0 G s1 (a.put o.dst u) w ∧ K s1 ∧ ∀ Y : World → Prop, (isLoad o.op = true → ∀ w', Y w' → Agr G w w') → YieldsIf P ops Y o u a := fun s S hw h => by
    obtain ⟨s1, k1, k2⟩ := put_same S hd (v := .tup []) (u := undef) ⟨[], rfl, trivial⟩ h
    exact ⟨undef, s1, k1, k2, fun Y hY => .inr ⟨hw, rfl⟩⟩
  unfold atakeG guardOf at h
  split at h
  · next hg => exact yes s S (by simp [Region.wanted, hg]) h
  · next j want hg =>
    split at h
    · next oj hj =>
      split at h
      · next d hdj =>
        split at h
        · next b hb =>
          have hr := S.slot d
          rw [hb] at hr
          have hu := hr.bool_inv
          have hy : yielded ops a.tmps j = some b := by
            have : a.tmps[d]? = some (.bool b) := by
              simp only [Array.getD_eq_getD_getElem?] at hu
              cases hx : a.tmps[d]? with
              | none => rw [hx] at hu; simp [undef] at hu
              | some v => rw [hx] at hu; simpa using hu
            simp [yielded, hj, hdj, this]
          have hw : Region.wanted o (yielded ops a.tmps) = (b == want) := by
            simp only [Region.wanted, hg, hy]
            cases b <;> cases want <;> rfl
          simp only [branch_iff] at h
          cases b with
          | true =>
            have S1 := S.know (d := d) (v := .bool true) hr
            cases want with
            | true => exact yes _ S1 (by rw [hw]; rfl) (h.1 rfl)
            | false => exact no _ S1 (by rw [hw]; rfl) (h.1 rfl)
          | false =>
            have S1 := S.know (d := d) (v := .bool false) hr
            cases want with
            | true => exact no _ S1 (by rw [hw]; rfl) (h.2 rfl)
            | false => exact yes _ S1 (by rw [hw]; rfl) (h.2 rfl)
        · next vs hb =>
          have hr := S.slot d
          rw [hb] at hr
          obtain ⟨us, hu, _⟩ := hr
          have hy : yielded ops a.tmps j = none := by
            simp only [Array.getD_eq_getD_getElem?] at hu
            cases hx : a.tmps[d]? with
            | none => simp [yielded, hj, hdj, hx]
            | some v =>
              rw [hx] at hu
              simp only [Option.getD_some] at hu
              subst hu
              simp [yielded, hj, hdj, hx]
          exact no s S (by simp [Region.wanted, hg, hy]) h
        · exact h.elim
      · exact h.elim
    · exact h.elim
def Fin (tt : Nat) (w0 : En) (n : Nat) (K : St → Prop) : Exit → Act → World → Prop := fun e a w => match e with | .normal => Nxt tt w0 n none K a w | _ => False
def Held (F : Gh) (w' : World) : Prop := ∀ b, F.fz b → w'.heap[b]? = F.fw.heap[b]?
theorem run_sound (hT : TabOk P T) (hok : opsOk n ops.toList = true) (hns : Region.noSelect ops = true) (hph : phaseOk ops m = true) {K : St → Prop} (F : Gh) : ∀ p : Plan,
    (∀ pre l fuel G s a w, chk ops m pre false p l = true → depth p ≤ fuel → arun P T tt ops p K s → Sim tt w0 G s a w → a.tmps.size = n → ((∀ i, i < m → l.getD i true = true) ∨ (G.fz = F.fz ∧ G.fw = F.fw)) → (pre = true → ∀ w', Held F w' → Agr G w w') → wpD P ops (Fin tt w0 n K) (Held F) m fuel l a w) ∧
    (∀ l fuel G s a w, chk ops m false true p l = true → depth p ≤ fuel + 1 → arun P T tt ops p K s → Sim tt w0 G s a w → a.tmps.size = n → ((∀ i, i < m → l.getD i true = true) ∨ (G.fz = F.fz ∧ G.fw = F.fw)) → ∀ i ∈ altIdx p, i ∈ Region.ready .any ops l → wpOp P ops (Fin tt w0 n K) i (fun a' w' => (i < m → Held F w') ∧ wpD P ops (Fin tt w0 n K) (Held F) m fuel (l.setIfInBounds i true) a' w') a w) := by
  have listed : ∀ {l : Array Bool} {i : Nat}, (∀ k, k < m → l.getD k true = true) → ∀ k, k < m → (l.setIfInBounds i true).getD k true = true := fun {l i} h k hk => by
    by_cases e : i = k
    · subst e
      simp only [Array.getD_eq_getD_getElem?, Array.getElem?_setIfInBounds]
      by_cases hlt : i < l.size <;> simp [hlt]
    · rw [getD_set_ne true e]; exact h k hk
  have late : ∀ {l : Array Bool} {i : Nat}, i ∈ Region.ready .any ops l → m ≤ i → ∀ k, k < m → l.getD k true = true := fun {l i} hr hm k hk => by
    obtain ⟨_, o, ho, hall⟩ := mem_ready.1 hr
    obtain ⟨e, he, hb, rfl⟩ := phase_at hph ho hm k hk
    have := hall e he hb
    simp only [Array.getD_eq_getD_getElem?] at this ⊢
    cases hx : l[e.on]? with
    | none => rw [hx] at this; simp at this
    | some v => rw [hx] at this; simpa using this
  have held : ∀ {G : Gh} {s : St} {a : Act} {w : World}, Sim tt w0 G s a w → G.fz = F.fz ∧ G.fw = F.fw → Held F w := fun {G s a w} S h b hb => by
    have := (S.fz1 b (h.1 ▸ hb)).2
    rw [h.2] at this
    exact this
  have step : ∀ (p : Plan), (∀ pre l fuel G s a w, chk ops m pre false p l = true → depth p ≤ fuel → arun P T tt ops p K s → Sim tt w0 G s a w → a.tmps.size = n → ((∀ i, i < m → l.getD i true = true) ∨ (G.fz = F.fz ∧ G.fw = F.fw)) → (pre = true → ∀ w', Held F w' → Agr G w w') → wpD P ops (Fin tt w0 n K) (Held F) m fuel l a w) →
      ∀ (i fuel : Nat) (l : Array Bool) (G : Gh) (s : St) (a : Act) (w : World), chk ops m false false p (l.setIfInBounds i true) = true → depth p ≤ fuel → ((lateOk ops m i = true ∧ match ops[i]? with | some o => aopG P T tt ops o (arun P T tt ops p K) s | none => False) ∨ match ops[i]? with | some o => aopE P T tt ops o (arun P T tt ops p K) s | none => False) → Sim tt w0 G s a w → a.tmps.size = n → ((∀ i, i < m → l.getD i true = true) ∨ (G.fz = F.fz ∧ G.fw = F.fw)) → i ∈ Region.ready .any ops l →
      wpOp P ops (Fin tt w0 n K) i (fun a' w' => (i < m → Held F w') ∧ wpD P ops (Fin tt w0 n K) (Held F) m fuel (l.setIfInBounds i true) a' w') a w := by
    intro p ih i fuel l G s a w hc hdp h S hn hI hr
    obtain ⟨hun, o, ho, hall⟩ := mem_ready.1 hr
    simp only [ho] at h
    have hd := opsOk_at hok (show ops.toList[i]? = some o by simpa using ho)
    have nx : ∀ F' a' w', (i < m → F' = some G) → Nxt tt w0 a.tmps.size F' (arun P T tt ops p K) a' w' → (i < m → Held F w') ∧ wpD P ops (Fin tt w0 n K) (Held F) m fuel (l.setIfInBounds i true) a' w' := fun F' a' w' hF ⟨G', s', S', hn', h', hk⟩ => by
      rcases Nat.lt_or_ge i m with him | him
      · have hkk := hk G (hF him)
        have hG : G.fz = F.fz ∧ G.fw = F.fw := by
          rcases hI with hI | hI
          · have := hI i him; rw [hun] at this; cases this
          · exact hI
        have hG' : G'.fz = F.fz ∧ G'.fw = F.fw := ⟨hkk.1.trans hG.1, hkk.2.trans hG.2⟩
        exact ⟨fun _ => held S' hG', ih false _ fuel G' s' a' w' hc hdp h' S' (hn'.trans hn) (.inr hG') (by nofun)⟩
      · exact ⟨fun h => by omega, ih false _ fuel G' s' a' w' hc hdp h' S' (hn'.trans hn) (.inl (listed (late hr him))) (by nofun)⟩
    rcases h with ⟨hlate, h⟩ | h
    rotate_left 1
    · obtain ⟨hw, key⟩ := aopE_sound (P := P) (ops := ops) (Q := Fin tt w0 n K) hT S o h
      unfold wpOp
      simp only [ho]
      rw [if_pos hw]
      exact .inl (Oper.wp_mono (fun a' w' => nx _ a' w' fun _ => rfl) key)
    have key := aopG_sound (P := P) (Q := Fin tt w0 n K) hT S o (by rw [hn]; exact hd) h
    have hkp : i < m → kp o G = some G := fun him => by
      unfold kp
      split
      · next t x y e => exact absurd e (late_at hlate ho him t x y)
      · rfl
    unfold wpOp
    simp only [ho]
    split
    · next hw =>
      rw [if_pos hw] at key
      exact .inl (Oper.wp_mono (fun a' w' => nx _ a' w' hkp) key)
    · next hw =>
      rw [if_neg hw] at key
      exact nx _ _ _ (fun _ => rfl) key
  intro p
  induction p with
  | done =>
    refine ⟨fun pre l fuel G s a w hc hdp h S hn hI hp => D_done (by simpa [chk] using hc) ⟨G, s, S, hn, h, Kp.none⟩ fuel, fun l fuel G s a w hc hdp h S hn hI i hi => by simp [altIdx] at hi⟩
  | stop => exact ⟨fun pre l fuel G s a w hc => by simp [chk] at hc, fun l fuel G s a w hc hdp h S hn hI i hi => by simp [altIdx] at hi⟩
  | take i p ih =>
    refine ⟨fun pre l fuel G s a w hc hdp h S hn hI hp => ?_, fun l fuel G s a w hc => by simp [chk] at hc⟩
    simp only [chk, Bool.and_eq_true] at hc
    obtain ⟨⟨⟨c1, c2⟩, c3⟩, c4⟩ := hc
    cases fuel with
    | zero => simp [depth] at hdp
    | succ fuel =>
      simp only [arun] at h
      cases ho : ops[i]? with
      | none => simp only [ho] at h
      | some o =>
        simp only [ho] at h c3
        have hd := opsOk_at hok (show ops.toList[i]? = some o by simpa using ho)
        obtain ⟨u, s1, S1, h1, hy⟩ := take_sound hT S o (by rw [hn]; exact hd) h
        have hr : i ∈ Region.ready .any ops l := by simpa using c1
        have hmm : i < m → ∀ (j : Nat) (oj : Oper), ops[j]? = some oj → (∀ e ∈ oj.after, Region.binds .any e = true → e.on ≠ i) → j < m := fun him j oj hoj hno => by
          rcases Nat.lt_or_ge j m with h | h
          · exact h
          · obtain ⟨e, he, hb, hei⟩ := phase_at hph hoj h i him
            exact absurd hei (hno e he hb)
        have hIm : i < m → G.fz = F.fz ∧ G.fw = F.fw := fun him => by
          rcases hI with hI | hI
          · have := hI i him; rw [(mem_ready.1 hr).1] at this; cases this
          · exact hI
        have rest := ih.1 pre (l.setIfInBounds i true) fuel G s1 (a.put o.dst u) w c4 (by simp [depth] at hdp; omega) h1 S1 (size_put.trans hn) (hI.imp listed id) hp
        simp only [Bool.or_eq_true] at c3
        rcases c3 with c3 | c3
        · have hl : isLoad o.op ≠ true := fun e => by
            cases hop : o.op <;> simp [hop, isLoad, valueOp] at e c3
          exact D_first (Y := fun _ => True) ho (Region.noSelect_spec hns) (fun _ _ _ h => h) hmm (.inl fun _ => trivial) fuel l a w (Region.free_spec ho c2) hr (hy _ fun e => absurd e hl) trivial (fun h => held S (hIm h)) rest
        · simp only [Bool.and_eq_true, decide_eq_true_eq] at c3
          exact D_first (Y := Held F) ho (Region.noSelect_spec hns) (fun _ _ _ h => h) hmm (.inr ⟨c3.2, fun _ h => h⟩) fuel l a w (Region.free_spec ho c2) hr (hy _ fun _ => hp c3.1.1) (held S (hIm c3.2)) (fun h => held S (hIm h)) rest
  | alt i p rest ih1 ih2 =>
    refine ⟨fun pre l fuel G s a w hc hdp h S hn hI hp => ?_, fun l fuel G s a w hc hdp h S hn hI k hk hr => ?_⟩
    · simp only [chk, Bool.and_eq_true, beq_iff_eq] at hc
      obtain ⟨⟨⟨c1, c0⟩, c2⟩, c3⟩ := hc
      cases fuel with
      | zero => simp [depth] at hdp
      | succ fuel =>
        refine ⟨fun hr => (by rw [← c1] at hr; cases hr), fun k hk => ?_⟩
        have hk' := hk
        rw [← c1] at hk'
        rcases List.mem_cons.1 hk' with rfl | hk'
        · exact step p ih1.1 k fuel l G s a w c2 (by simp [depth] at hdp; omega) (.inl ⟨c0, h.1⟩) S hn hI hk
        · exact ih2.2 l fuel G s a w c3 (by simp [depth] at hdp; omega) h.2 S hn hI k hk' hk
    · simp only [chk, Bool.and_eq_true] at hc
      rcases List.mem_cons.1 hk with rfl | hk'
      · exact step p ih1.1 k fuel l G s a w hc.1.2 (by simp [depth] at hdp; omega) (.inl ⟨hc.1.1, h.1⟩) S hn hI hr
      · exact ih2.2 l fuel G s a w hc.2 (by simp [depth] at hdp; omega) h.2 S hn hI k hk' hr
  | altE i p rest ih1 ih2 =>
    refine ⟨fun pre l fuel G s a w hc hdp h S hn hI hp => ?_, fun l fuel G s a w hc hdp h S hn hI k hk hr => ?_⟩
    · simp only [chk, Bool.and_eq_true, beq_iff_eq] at hc
      obtain ⟨⟨c1, c2⟩, c3⟩ := hc
      cases fuel with
      | zero => simp [depth] at hdp
      | succ fuel =>
        refine ⟨fun hr => (by rw [← c1] at hr; cases hr), fun k hk => ?_⟩
        have hk' := hk
        rw [← c1] at hk'
        rcases List.mem_cons.1 hk' with rfl | hk'
        · exact step p ih1.1 k fuel l G s a w c2 (by simp [depth] at hdp; omega) (.inr h.1) S hn hI hk
        · exact ih2.2 l fuel G s a w c3 (by simp [depth] at hdp; omega) h.2 S hn hI k hk' hk
    · simp only [chk, Bool.and_eq_true] at hc
      rcases List.mem_cons.1 hk with rfl | hk'
      · exact step p ih1.1 k fuel l G s a w hc.1 (by simp [depth] at hdp; omega) (.inr h.1) S hn hI hr
      · exact ih2.2 l fuel G s a w hc.2 (by simp [depth] at hdp; omega) h.2 S hn hI k hk' hr
theorem Sim.freeze (S : Sim tt w0 G s a w) : Sim tt w0 { G with fz := fun b => b < w.heap.size ∧ (¬ GM G b ∨ ∃ t, G.box t = some b), fw := w } s a w :=
  { S with
    slot := S.slot
    box := S.box
    tape := S.tape
    noTape := S.noTape
    fz1 := fun b h => ⟨h.1, rfl⟩
    fz2 := fun t v b h h' hz => hz.2.elim (fun k => k (.inr (.inl ⟨t, v, h, h'⟩))) fun ⟨t', k⟩ => S.boxOwn t' t v b k h h'
    fz3 := fun b h hz => hz.2.elim (fun k => k (.inr (.inr h))) fun ⟨t', k⟩ => S.tapeBox t' b h k }
theorem draw_sound (hmx : P.follows .mixedOrders = true) (hT : TabOk P T) {id : Nat} (hok : opsOk n ops.toList = true) {K : St → Prop} (S : Sim tt w0 G s a w) (hn : a.tmps.size = n) (h : adraw P T tt ops K s) : (Code.region id ops true).wp P (Fin tt w0 n K) a w := by
  simp only [adraw_iff] at h
  obtain ⟨m, p, hp, h⟩ := h
  simp only [planOk, Bool.and_eq_true, decide_eq_true_eq] at hp
  obtain ⟨⟨⟨p1, p2⟩, p3⟩, p4⟩ := hp
  have S1 := (S.drew (n := w.drawn + 1)).freeze
  exact wp_region_any hmx (wpAny_of_D _ _ _ _ ((run_sound hT hok p1 p2 _ p).1 true _ ops.size _ s a _ p4 p3 h S1 hn (.inr ⟨rfl, rfl⟩) fun _ w' hw' b hb hx => hw' b ⟨hb, hx⟩))
end
end Go.Proofs.Ytlminbeepaacjaa
