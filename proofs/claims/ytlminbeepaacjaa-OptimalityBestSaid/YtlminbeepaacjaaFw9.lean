/- A plain interpreter, part 9: operations with an effect: the model does what the interpreter says. -/
import Derived.Test.YtlminbeepaacjaaFw8
import Derived.Test.YtlminbeepaacjaaAppend
namespace Go.Proofs.Ytlminbeepaacjaa
set_option linter.unusedVariables false
set_option linter.unusedSimpArgs false
set_option linter.unnecessarySimpa false
set_option linter.unusedSectionVars false
open Go.RowKit

section
variable {P : Program} {T : Nat → Ty} {tt : Nat} {w0 : En} {w w' : World} {G : Gh} {s : St} {a : Act} {B : Nat}
/-- What is to be shown behind an operation. -/
def Nxt (tt : Nat) (w0 : En) (n : Nat) (F : Option Gh) (K : St → Prop) (a : Act) (w : World) : Prop := ∃ G s, Sim tt w0 G s a w ∧ a.tmps.size = n ∧ K s ∧ ∀ g, F = some g → G.fz = g.fz ∧ G.fw = g.fw
def Kp (F : Option Gh) (G : Gh) : Prop := ∀ g, F = some g → G.fz = g.fz ∧ G.fw = g.fw
theorem Kp.refl (G : Gh) : Kp (some G) G := fun g e => by injection e with e; subst e; exact ⟨rfl, rfl⟩
theorem Kp.of {F : Option Gh} {G G' : Gh} (h : Kp F G) (h1 : G'.fz = G.fz) (h2 : G'.fw = G.fw) : Kp F G' := fun g e => ⟨h1.trans (h g e).1, h2.trans (h g e).2⟩
theorem Kp.none {G : Gh} : Kp Option.none G := fun g e => by cases e
theorem Nxt.weaken {n : Nat} {F : Option Gh} {K : St → Prop} (h : Nxt tt w0 n F K a w) : Nxt tt w0 n none K a w := by
  obtain ⟨G, s, h1, h2, h3, _⟩ := h
  exact ⟨G, s, h1, h2, h3, Kp.none⟩
theorem size_put {d : Option Nat} {u : Value} : (a.put d u).tmps.size = a.tmps.size := by cases d <;> simp [Act.put]
theorem put_sound (S : Sim tt w0 G s a w) {d : Option Nat} (hd : ∀ x, d = some x → x < a.tmps.size) {v : AV} {u : Value} (hr : RA w0.heap.size G w v u) {K : St → Prop} {F : Option Gh} (hF : Kp F G) (h : putK s d v K) : Nxt tt w0 a.tmps.size F K (a.put d u) w := by
  cases d with
  | none => exact ⟨G, s, S, rfl, h, hF⟩
  | some d =>
    simp only [putK, force_eq] at h
    exact ⟨G, _, S.put (hd d rfl) hr, size_put, h, hF⟩
theorem erases (S : Sim tt w0 G s a w) (ts : List Nat) : ∃ G', Sim tt w0 G' (eraseAll ts s) a w ∧ (∀ v u, RC w0.heap.size G w v u → RC w0.heap.size G' w (eraseV ts v) u) ∧
    (∀ b, GX G' b → GX G b ∧ ∀ t, t ∈ ts → ∀ v, G.own t = some v → v.ownBlock ≠ some b) ∧ G'.tape = G.tape ∧ G'.hdr = G.hdr ∧ (∀ t v, G'.own t = some v → G.own t = some v ∧ t ∉ ts) ∧ G'.box = G.box ∧ G'.fz = G.fz ∧ G'.fw = G.fw := by
  induction ts generalizing G s with
  | nil => exact ⟨G, S, fun v u h => h, fun b h => ⟨h, fun t ht => by simp at ht⟩, rfl, rfl, fun t v h => ⟨h, by simp⟩, rfl, rfl, rfl⟩
  | cons t ts ih =>
    obtain ⟨S1, hc⟩ := S.erase t
    obtain ⟨G', k1, k2, k3, k4, k5, k6, k7, k8⟩ := ih S1
    refine ⟨G', k1, fun v u h => k2 _ _ (hc v u h), fun b hb => ?_, k4, k5, fun t' v h => ?_, k7, k8⟩
    · obtain ⟨h1, h2⟩ := k3 b hb
      refine ⟨?_, fun t' ht' v hv hvb => ?_⟩
      · rcases h1 with (⟨t', ht⟩ | ⟨t', v, h, h'⟩ | h) | h
        · exact .inl (.inl ⟨t', ht⟩)
        · rcases upd_cases h with ⟨_, e⟩ | ⟨_, e⟩
          · cases e
          · exact .inl (.inr (.inl ⟨t', v, e, h'⟩))
        · exact .inl (.inr (.inr h))
        · exact .inr h
      · by_cases e : t' = t
        · subst e
          rcases h1 with (⟨t2, ht⟩ | ⟨t2, v2, h, h'⟩ | h) | h
          · exact S.boxOwn t2 t' v b ht hv hvb
          · rcases upd_cases h with ⟨_, e⟩ | ⟨hne, e⟩
            · cases e
            · exact hne (S.ownInj t2 t' v2 v b e hv h' hvb)
          · exact S.tapeOwn t' v b h hv hvb
          · have := S.ext b h; have := (S.ownLt t' v b hv hvb).1; omega
        · exact h2 t' (by simpa [e] using ht') v ((upd_ne e).trans hv) hvb
    · obtain ⟨h1, h2⟩ := k6 t' v h
      rcases upd_cases h1 with ⟨_, e⟩ | ⟨hne, e⟩
      · cases e
      · exact ⟨e, by simp [hne, h2]⟩
theorem eraseV_own {ts : List Nat} {t e z : Nat} {es : List (List AV)} (h : t ∈ ts) : eraseV ts (.own t e z es) = .lst z es := by
  have hl : ∀ ts : List Nat, eraseV ts (.lst z es) = .lst z es := fun ts => by
    induction ts with
    | nil => rfl
    | cons t ts ih => exact ih
  induction ts with
  | nil => simp at h
  | cons t' ts ih =>
    by_cases e' : t = t'
    · subst e'
      simp only [eraseV, eraseF, beq_self, cond_true]
      exact hl ts
    · simp only [eraseV, eraseF, beq_ne e', cond_false]
      exact ih (by simpa [e'] using h)
theorem eraseV_plain {ts : List Nat} {v : AV} (h1 : ∀ t e z es, v ≠ .own t e z es) (h2 : ∀ t i off cs, v ≠ .ept t i off cs) (h3 : ∀ t kvs, v ≠ .mp t kvs) (h4 : ∀ t lo z es, v ≠ .win t lo z es) : eraseV ts v = v := by
  induction ts with
  | nil => rfl
  | cons t ts ih =>
    have : eraseF t v = v := by cases v <;> first | rfl | (exact absurd rfl (h1 _ _ _ _)) | (exact absurd rfl (h2 _ _ _ _)) | (exact absurd rfl (h3 _ _)) | (exact absurd rfl (h4 _ _ _ _))
    rw [eraseV, this, ih]
theorem presN_ex : ∀ {cs : List AV} {K : List AV → Prop}, presN cs K → ∃ cs', All2 PresC cs cs' ∧ K cs'
  | [], K, h => ⟨[], trivial, h⟩
  | c :: cs, K, h => by
    cases c
    case int k n => obtain ⟨cs', h1, h2⟩ := presN_ex (cs := cs) h; exact ⟨.int k n :: cs', ⟨rfl, h1⟩, h2⟩
    case bool b => obtain ⟨cs', h1, h2⟩ := presN_ex (cs := cs) h; exact ⟨.bool b :: cs', ⟨rfl, h1⟩, h2⟩
    case str b => obtain ⟨cs', h1, h2⟩ := presN_ex (cs := cs) h; exact ⟨.str b :: cs', ⟨rfl, h1⟩, h2⟩
    case lst z es => obtain ⟨cs', h1, h2⟩ := presN_ex (cs := cs) h; exact ⟨.lst z es :: cs', ⟨rfl, h1⟩, h2⟩
    case own t e z es => obtain ⟨cs', h1, h2⟩ := presN_ex (cs := cs) h; exact ⟨.lst z es :: cs', ⟨rfl, h1⟩, h2⟩
    all_goals exact h.elim
theorem pres_ex {cs : List AV} {K : List AV → Prop} (h : presK cs K) : ∃ cs', All2 PresC cs cs' ∧ K cs' := by
  unfold presK at h
  split at h
  · exact nils_iff.1 h
  · exact presN_ex h
theorem pres_rel {G' : Gh} {ts : List Nat} (hc : ∀ v u, RC B G w v u → RC B G' w (eraseV ts v) u) : ∀ {cs cs' : List AV} {us : List Value}, (∀ t, t ∈ ownTags cs → t ∈ ts) → All2 PresC cs cs' → All2 (RC B G w) cs us → All2 (RepV w (GX G')) cs' us
  | [], [], [], _, _, _ => trivial
  | c :: cs, c' :: cs', u :: us, ht, h, hA => by
    have pl : (∀ t e z es, c ≠ .own t e z es) → (∀ t i off cs, c ≠ .ept t i off cs) → RC B G' w c u := fun h1 h2 => by
      have := hc c u hA.1
      rwa [eraseV_plain h1 h2 (fun t kvs e => by subst e; have h0 := hA.1; simp only [RC] at h0; cases h0) (fun t lo z es e => by subst e; have h0 := hA.1; simp only [RC] at h0; cases h0)] at this
    have ht' : ∀ t, t ∈ ownTags cs → t ∈ ts := fun t h' => ht t (by cases c <;> simp [ownTags, h'])
    refine ⟨?_, pres_rel hc ht' h.2 hA.2⟩
    have h1 := h.1
    cases c
    case int k n => obtain rfl := h1; exact pl (by simp) (by simp)
    case bool b => obtain rfl := h1; exact pl (by simp) (by simp)
    case str b => obtain rfl := h1; exact pl (by simp) (by simp)
    case lst z es => obtain rfl := h1; exact pl (by simp) (by simp)
    case own t e z es =>
      obtain rfl := h1
      have := hc _ u hA.1
      rwa [eraseV_own (ht t (by simp [ownTags]))] at this
    case nil =>
      obtain ⟨z, rfl⟩ := h1
      have : u = .slice none 0 0 := hA.1
      subst this
      exact .nil z _ _
    all_goals exact h1.elim
  | [], _ :: _, _, _, h, _ => h.elim
  | _ :: _, [], _, _, h, _ => h.elim
  | [], [], _ :: _, _, _, hA => hA.elim
  | _ :: _, _ :: _, [], _, _, hA => hA.elim
theorem pres_sound {G' : Gh} {ts : List Nat} (hc : ∀ v u, RC B G w v u → RC B G' w (eraseV ts v) u) : ∀ {cs : List AV} {us : List Value} {K : List AV → Prop}, (∀ t, t ∈ ownTags cs → t ∈ ts) → presK cs K → All2 (RC B G w) cs us → ∃ cs', K cs' ∧ All2 (RepV w (GX G')) cs' us := by
  intro cs us K ht h hA
  obtain ⟨cs', h1, h2⟩ := pres_ex h
  exact ⟨cs', h2, pres_rel hc ht h1 hA⟩
theorem chunk_flat {z : Nat} : ∀ {n : Nat} {us : List Value}, us.length = n * z → (chunk z n us).flatten = us
  | 0, us, h => by
    obtain rfl : us = [] := List.eq_nil_of_length_eq_zero (by simpa using h)
    rfl
  | n + 1, us, h => by
    simp only [chunk, List.flatten_cons]
    rw [chunk_flat (by simp [h, Nat.add_mul]), List.take_append_drop]
theorem chunk_len {α : Type} {z n : Nat} {us : List α} : (chunk z n us).length = n := by
  induction n generalizing us with
  | zero => rfl
  | succ n ih => simp [chunk, ih]
theorem chunk_all {R : AV → Value → Prop} {z : Nat} : ∀ {n : Nat} {cs : List AV} {us : List Value}, cs.length = n * z → All2 R cs us → All2 (fun ds cs => ds.length = z ∧ All2 R ds cs) (chunk z n cs) (chunk z n us)
  | 0, cs, us, _, _ => trivial
  | n + 1, cs, us, h, hA => by
    refine ⟨⟨?_, hA.take z⟩, chunk_all ?_ (hA.drop z)⟩
    · rw [List.length_take, h, Nat.add_mul]; omega
    · simp [h, Nat.add_mul]
theorem fill_place {pl pl' : Nat → Option (Nat × Nat)} (hp : ∀ i p, pl i = some p → pl' i = some p) : ∀ {parts : List (Nat × Value)} {cells r : Array Value}, Instr.fill pl cells parts = some r → Instr.fill pl' cells parts = some r
  | [], cells, r, h => h
  | (i, v) :: rest, cells, r, h => by
    simp only [Instr.fill] at h ⊢
    split at h
    · cases h
    · next off size he =>
      rw [hp i _ he]
      simp only
      split at h
      · cases h
      · next hc =>
        rw [if_neg hc]
        exact fill_place hp h
theorem range_at {z : Nat} : ∀ {n i k : Nat} {p : Nat × Nat}, (rangeOffs z i n)[k]? = some p → p = ((i + k) * z, z)
  | 0, i, k, p, h => by simp [rangeOffs] at h
  | n + 1, i, 0, p, h => by simp [rangeOffs] at h; exact h.symm
  | n + 1, i, k + 1, p, h => by
    have := range_at (n := n) (i := i + 1) (k := k) (by simpa [rangeOffs] using h)
    rw [this]
    congr 2
    omega
theorem repl_at {zs : List AV} : ∀ {n k : Nat}, k < n * zs.length → (repl n zs)[k]? = zs[k % zs.length]?
  | 0, k, h => by simp at h
  | n + 1, k, h => by
    simp only [repl]
    rcases Nat.lt_or_ge k zs.length with hk | hk
    · rw [List.getElem?_append_left hk, Nat.mod_eq_of_lt hk]
    · rw [List.getElem?_append_right hk, repl_at (by rw [Nat.add_mul] at h; omega), Nat.mod_eq_sub_mod hk]
theorem repl_len {n : Nat} {zs : List AV} : (repl n zs).length = n * zs.length := by
  induction n with
  | zero => simp [repl]
  | succ n ih => simp [repl, ih, Nat.add_mul]; omega
/-- The cells of a new row of zeros. -/
theorem zeros_sound {zv : Value} {n : Nat} (hz : 0 < zv.cells.size) : All2 (RC B G w) (repl n (zv.cells.toList.map ofValue)) ((Array.range (n * zv.cells.size)).map (zv.cells[· % zv.cells.size]!)).toList := by
  refine All2.of (by simp [repl_len]) fun j c v hc hv => ?_
  have hj : j < n * zv.cells.size := by
    have := (List.getElem?_eq_some_iff.1 hc).1
    rw [repl_len] at this
    simpa using this
  have hm : j % zv.cells.size < zv.cells.size := Nat.mod_lt _ hz
  rw [repl_at (by simpa using hj)] at hc
  simp only [List.length_map, Array.length_toList, List.getElem?_map, Array.getElem?_toList, Array.getElem?_eq_getElem hm, Option.map_some, Option.some.injEq] at hc
  subst hc
  simp only [Array.getElem?_toList, Array.getElem?_map, Array.getElem?_range, hj, if_true, Option.map_some, Option.some.injEq] at hv
  subst hv
  rw [getElem!_pos zv.cells _ hm]
  have := zero_sound (B := B) (G := G) (w := w) [zv.cells[j % zv.cells.size]]
  exact this.1
theorem elemZ_sound {t : Nat} {K : Nat → Nat → List AV → Prop} (hT : TabOk P T) (h : elemZ T t K) : ∃ e i zv, K e i.size (zv.cells.toList.map ofValue) ∧ P.underlying t = some (.slice e) ∧ P.info? e = some i ∧ i.zero = some zv ∧ zv.cells.size = i.size ∧ 0 < i.size ∧ i.bytes ≤ 8192 := by
  unfold elemZ at h
  split at h
  · next hok =>
    obtain ⟨i0, d, hi0, hd, -, -, -, hel, -⟩ := ty_at hT hok
    split at h
    · next e he =>
      rw [hel] at he
      obtain rfl := elemD_eq he
      split at h
      · next hk =>
        simp only [Bool.and_eq_true] at hk
        obtain ⟨⟨⟨k1, k2⟩, k3⟩, k4⟩ := hk
        obtain ⟨i, d', hi, hd', -, hs, hsm, -, hz, -⟩ := ty_at hT k1
        have h3 : 0 < i.size := by rw [← hs]; simpa using k3
        have h4 : (T e).zero.length = i.size := by rw [← hs]; simpa using k4
        cases hiz : i.zero with
        | none => rw [hz, hiz] at h4; simp [zeroD] at h4; omega
        | some zv =>
          rw [hz, hiz] at h4 h
          rw [hs] at h
          exact ⟨e, i, zv, h, hd, hi, hiz, by simpa [zeroD] using h4, h3, Nat.le_of_ble_eq_true (hsm ▸ k2)⟩
      · exact h.elim
    · exact h.elim
  · exact h.elim
end
end Go.Proofs.Ytlminbeepaacjaa
