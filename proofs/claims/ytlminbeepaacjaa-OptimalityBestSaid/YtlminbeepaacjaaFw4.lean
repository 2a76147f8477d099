/- A plain interpreter, part 4: a slice of the function's own is given away, or an element of it is stored; calls. -/
import Derived.Test.YtlminbeepaacjaaFw3
import Derived.Laws.CopyRow
namespace Go.Proofs.Ytlminbeepaacjaa
set_option linter.unusedVariables false
set_option linter.unusedSimpArgs false
set_option linter.unnecessarySimpa false
set_option linter.unusedSectionVars false
open Go.RowKit

theorem at2_some {es : List (List AV)} {i j : Nat} {d : AV} (h : at2 es i j = some d) : ∃ ds, es[i]? = some ds ∧ ds[j]? = some d := by
  simp only [at2, Option.bind_eq_some_iff] at h
  exact h
section
variable {tt : Nat} {w0 : En} {w w' : World} {G : Gh} {s : St} {a : Act} {B : Nat}
theorem OwnRep.lens {X : Nat → Prop} {z : Nat} {es : List (List AV)} {css : List (List Value)} (h : All2 (fun ds cs => ds.length = z ∧ All2 (RepV w X) ds cs) es css) : (∀ c ∈ css, c.length = z) ∧ (∀ d ∈ es, d.length = z) := by
  constructor
  · intro c hc
    obtain ⟨i, hi, rfl⟩ := List.mem_iff_getElem.1 hc
    obtain ⟨ds, _, h1, h2⟩ := h.get' (List.getElem?_eq_getElem hi)
    rw [← h2.len]; exact h1
  · intro d hd
    obtain ⟨i, hi, rfl⟩ := List.mem_iff_getElem.1 hd
    obtain ⟨cs, _, h1, h2⟩ := h.get (List.getElem?_eq_getElem hi)
    exact h1
theorem OwnRep.rep {X Y : Nat → Prop} {e z : Nat} {es : List (List AV)} {u : Value} (h : OwnRep B X w e z es u) (hY : ∀ b, b < w.heap.size → Y b → X b) (hu : ∀ b, u.ownBlock = some b → ¬ Y b) : RepV w Y (.lst z es) u := by
  obtain ⟨css, ho, hA⟩ := h
  obtain ⟨hl, hl'⟩ := OwnRep.lens hA
  have hlen := hA.len
  rcases ho.2 with ⟨rfl, h0⟩ | ⟨g, cap, cur, rfl, hg, hh, hc, hm, hsz, ht⟩
  · obtain rfl : es = [] := List.eq_nil_of_length_eq_zero h0
    exact .nil z _ _
  · by_cases hes : es = []
    · subst hes; exact .nil z _ _
    · refine .lst (off := 0) (fun i j => ((css[i]?).bind (·[j]?)).getD Go.undef) hes hc (Array.getElem?_eq_some_iff.1 hh).1 (hu g rfl) hl' (fun i j d hd => ?_) (fun i j d hd => ?_)
      · obtain ⟨ds, h1, h2⟩ := at2_some hd
        obtain ⟨cs, h3, h4, h5⟩ := hA.get h1
        obtain ⟨c, h6, h7⟩ := h5.get h2
        have hf := flatten_at hl h3 h6
        have hlt : i * z + j < es.length * z := by
          have := (List.getElem?_eq_some_iff.1 hf).1
          rw [ho.1] at this
          exact this
        rw [Nat.zero_add, ho.cellAt _ hlt, hf]
        simp [h3, h6]
      · obtain ⟨ds, h1, h2⟩ := at2_some hd
        obtain ⟨cs, h3, h4, h5⟩ := hA.get h1
        obtain ⟨c, h6, h7⟩ := h5.get h2
        simp only [h3, h6, Option.bind_some, Option.getD_some]
        exact h7.move (fun _ _ _ => rfl) hY

theorem rep_of_cells {Y : Nat → Prop} {z c : Nat} {es : List (List AV)} {css : List (List Value)} {A : Option Addr} (hA : es ≠ [] → ∃ g off, A = some ⟨g, off, none⟩ ∧ g < w.heap.size ∧ ¬ Y g ∧ ∀ j v, css.flatten[j]? = some v → w.cell? ⟨g, off + j, none⟩ = some v) (hc : es.length ≤ c)
    (h : All2 (fun ds cs => ds.length = z ∧ All2 (RepV w Y) ds cs) es css) : RepV w Y (.lst z es) (.slice A es.length c) := by
  by_cases hes : es = []
  · subst hes; exact .nil z _ _
  · obtain ⟨g, off, rfl, hg, hy, hcell⟩ := hA hes
    obtain ⟨hl, hl'⟩ := OwnRep.lens h
    refine .lst (fun i j => ((css[i]?).bind (·[j]?)).getD Go.undef) hes hc hg hy hl' (fun i j d hd => ?_) (fun i j d hd => ?_)
    · obtain ⟨ds, h1, h2⟩ := at2_some hd
      obtain ⟨cs, h3, h4, h5⟩ := h.get h1
      obtain ⟨c, h6, h7⟩ := h5.get h2
      rw [Nat.add_assoc, hcell _ _ (flatten_at hl h3 h6)]
      simp [h3, h6]
    · obtain ⟨ds, h1, h2⟩ := at2_some hd
      obtain ⟨cs, h3, h4, h5⟩ := h.get h1
      obtain ⟨c, h6, h7⟩ := h5.get h2
      simp only [h3, h6, Option.bind_some, Option.getD_some]
      exact h7

/-- A slice of the function's own is given away: from here on it is only read. -/
theorem Sim.erase (S : Sim tt w0 G s a w) (T : Nat) : Sim tt w0 { G with own := upd G.own T none } (s.map (eraseF T)) a w ∧ ∀ v u, RC w0.heap.size G w v u → RC w0.heap.size { G with own := upd G.own T none } w (eraseF T v) u := by
  have hgm : ∀ b, GM { G with own := upd G.own T none } b → GM G b := fun b hx => by
    rcases hx with ⟨t, ht⟩ | ⟨t, v, h, h'⟩ | h
    · exact .inl ⟨t, ht⟩
    · rcases upd_cases h with ⟨_, e⟩ | ⟨_, e⟩
      · cases e
      · exact .inr (.inl ⟨t, v, e, h'⟩)
    · exact .inr (.inr h)
  have H : Shift (· ≠ T) (fun _ => True) G { G with own := upd G.own T none } w w := ⟨fun b hlt hn => rfl, fun b _ hx => hgm b hx, fun b h => h, fun t v h hk => ⟨(upd_ne hk).trans h, fun b hv => rfl⟩, fun t b h _ => h, fun p h => h, fun b h => rfl, fun b h => h, rfl, fun _ _ => rfl, rfl⟩
  have hgx : ∀ b, GX { G with own := upd G.own T none } b → GX G b := fun b hx => hx.elim (fun h => .inl (hgm b h)) .inr
  have hout : ∀ v b, G.own T = some v → v.ownBlock = some b → ¬ GX { G with own := upd G.own T none } b := fun v b h h' hx => by
    rcases hx with (⟨t, ht⟩ | ⟨t, v2, h2, h2'⟩ | h2) | hx
    · exact S.boxOwn t T v b ht h h'
    · rcases upd_cases h2 with ⟨_, e⟩ | ⟨hne, e⟩
      · cases e
      · exact hne (S.ownInj t T v2 v b e h h2' h')
    · exact S.tapeOwn T v b h2 h h'
    · have := S.ext b hx; have := (S.ownLt T v b h h').1; omega
  have hc : ∀ v u, RC w0.heap.size G w v u → RC w0.heap.size { G with own := upd G.own T none } w (eraseF T v) u := fun v u h => by
    cases v
    case own t e z es =>
      by_cases ht : t = T
      · subst ht
        simp only [eraseF, beq_self, cond_true]
        exact h.2.rep (fun b _ => hgx b) (fun b => hout u b h.1)
      · simp only [eraseF, beq_ne ht, cond_false]
        exact H.rc (v := .own t e z es) ht h
    case ept => simp only [RC] at h; cases h
    case mp => simp only [RC] at h; cases h
    case win => simp only [RC] at h; cases h
    all_goals exact H.rc (by trivial) h
  have hp : ∀ v u, RP w0.heap.size G w v u → RP w0.heap.size { G with own := upd G.own T none } w (eraseF T v) u := fun v u h => by
    cases v
    case own t e z es => exact (hc (.own t e z es) u h).rp
    case ept t i off cs =>
      by_cases ht : t = T
      · subst ht
        simp only [eraseF, beq_self, cond_true]
        obtain ⟨g, n, c, e, cur, us, h1, rfl, h3, h4, h4', h5, h6⟩ := h
        refine ⟨g, _, us.drop off, rfl, (Array.getElem?_eq_some_iff.1 h4).1, fun hm => hout _ g h1 rfl (.inl hm), (h5.mono fun _ _ h => H.rep h).drop off, fun j v hv => ?_⟩
        rw [List.getElem?_drop] at hv
        rw [Nat.add_assoc]
        exact h6 _ v hv
      · simp only [eraseF, beq_ne ht, cond_false]
        exact H.rp (v := .ept t i off cs) ht h
    case mp t kvs =>
      by_cases ht : t = T
      · subst ht; simp only [eraseF, beq_self, cond_true]; trivial
      · simp only [eraseF, beq_ne ht, cond_false]; exact H.rp (v := .mp t kvs) ht h
    case win t lo z es =>
      by_cases ht : t = T
      · subst ht
        simp only [eraseF, beq_self, cond_true]
        obtain ⟨g, n, c, e, cur, css, A, c', h1, h2, rfl, h4, h5, h6, h7, h8, h9⟩ := h
        exact (rep_of_cells (fun hne => ⟨g, lo * z, h4 hne, (Array.getElem?_eq_some_iff.1 h6).1, hout _ g h1 rfl, h9⟩) h5 (h8.mono fun _ _ h => ⟨h.1, h.2.mono fun _ _ h => H.rep h⟩)).rc.rp
      · simp only [eraseF, beq_ne ht, cond_false]; exact H.rp (v := .win t lo z es) ht h
    all_goals exact H.rp (by trivial) h
  refine ⟨?_, hc⟩
  refine S.shift (f := eraseF T) H hp hc (fun t b h => ⟨b, h, fun _ => ⟨rfl, rfl⟩⟩) S.chg (Nat.le_refl _) S.boxLt ?ownLt S.boxInj ?ownInj ?boxOwn S.tapeBox ?tapeOwn (S.tapeShift H rfl (fun p hp => rfl) rfl) S.noTape ?ownFz S.fz3 S.tapeNew
  case ownLt =>
    intro t v b h h'
    rcases upd_cases h with ⟨_, e⟩ | ⟨_, e⟩
    · cases e
    · exact S.ownLt t v b e h'
  case ownInj =>
    intro t t' v1 v2 b h h' k k'
    rcases upd_cases h with ⟨e1, e⟩ | ⟨e1, e⟩
    · cases e
    · rcases upd_cases h' with ⟨e2, e'⟩ | ⟨e2, e'⟩
      · cases e'
      · exact S.ownInj t t' v1 v2 b e e' k k'
  case boxOwn =>
    intro t t' v b h h' h''
    rcases upd_cases h' with ⟨_, e⟩ | ⟨_, e⟩
    · cases e
    · exact S.boxOwn t t' v b h e h''
  case tapeOwn =>
    intro t v b h h' h''
    rcases upd_cases h' with ⟨_, e⟩ | ⟨_, e⟩
    · cases e
    · exact S.tapeOwn t v b h e h''
  case ownFz =>
    intro t v b h h' hz
    rcases upd_cases h with ⟨_, e⟩ | ⟨_, e⟩
    · cases e
    · exact S.fz2 t v b e h' hz

theorem flatten_set {css : List (List Value)} {k : Nat} (hs : ∀ c ∈ css, c.length = k) {i j : Nat} {u : Value} (hi : i < css.length) (hj : j < k) : (css.modify i (·.set j u)).flatten = css.flatten.set (i * k + j) u := by
  induction css generalizing i with
  | nil => simp at hi
  | cons d css ih =>
    have hd : d.length = k := hs d (by simp)
    cases i with
    | zero => simp [List.modify_zero_cons, List.set_append, hd, hj]
    | succ i =>
      have := ih (fun c hc => hs c (by simp [hc])) (i := i) (by simpa using hi)
      simp only [List.modify_succ_cons, List.flatten_cons, this, List.set_append]
      have h1 : ¬ (i + 1) * k + j < d.length := by rw [hd, Nat.add_mul]; omega
      rw [if_neg h1]
      congr 2
      rw [hd, Nat.add_mul]
      omega
theorem All2.modify {α β : Type} {R : α → β → Prop} {f : α → α} {g : β → β} (hfg : ∀ a b, R a b → R (f a) (g b)) : ∀ {as : List α} {bs : List β} (i : Nat), All2 R as bs → All2 R (as.modify i f) (bs.modify i g)
  | [], [], i, _ => by simp [All2]
  | a :: as, b :: bs, 0, h => by simpa [List.modify_zero_cons] using ⟨hfg a b h.1, h.2⟩
  | a :: as, b :: bs, i + 1, h => by simpa [List.modify_succ_cons] using ⟨h.1, All2.modify hfg i h.2⟩
  | [], _ :: _, _, h => h.elim
  | _ :: _, [], _, h => h.elim

/-- A store into an element of a slice of the function's own. -/
theorem Sim.storeOwn (S : Sim tt w0 G s a w) {T i off z g n c : Nat} {x : AV} {u : Value} (hT : G.own T = some (.slice (some ⟨g, 0, none⟩) n c)) (hi : i < n) (ho : off < z) (hx : RepV w (GX G) x u) :
    Sim tt w0 G (s.map (storeF T z i off x)) a (w.setCell ⟨g, i * z + off, none⟩ u) := by
  have hne : ∀ b, b ≠ g → (w.setCell ⟨g, i * z + off, none⟩ u).heap[b]? = w.heap[b]? := fun b hb => Below.heap_setCell _ _ _ _ hb
  have hg : GM G g := .inr (.inl ⟨T, _, hT, rfl⟩)
  have H : Shift (· ≠ T) (fun _ => True) G G w (w.setCell ⟨g, i * z + off, none⟩ u) := ⟨fun b _ hn => hne b fun e => hn (e ▸ hg), fun b _ h => h, fun b h => h, fun t v h hk => ⟨h, fun b hv => hne b fun e => hk (S.ownInj t T v _ g h hT (e ▸ hv) rfl)⟩, fun t b h _ => h, fun p h => h, fun b h => hne b fun e => S.fz2 T _ g hT rfl (e ▸ h), fun b h => h, rfl, fun _ _ => rfl, rfl⟩
  have hX := H.rep hx
  have hc : ∀ v u', RC w0.heap.size G w v u' → RC w0.heap.size G (w.setCell ⟨g, i * z + off, none⟩ u) (storeF T z i off x v) u' := fun v u' h => by
    cases v
    case own t e z' es =>
      by_cases ht : t = T
      · subst ht
        simp only [storeF, beq_self, cond_true]
        by_cases hz : z' = z
        · subst hz
          simp only [beq_self, cond_true]
          obtain ⟨h1, css, h2, h3⟩ := h
          rw [hT] at h1
          injection h1 with h1
          subst h1
          obtain ⟨hl, hl'⟩ := OwnRep.lens h3
          have hn : n = es.length := by
            rcases h2.2 with ⟨e1, _⟩ | ⟨g', cap, cur, e1, _⟩
            · cases e1
            · injection e1
          subst hn
          refine ⟨hT, css.modify i (·.set off u), ?_, ?_⟩
          · rw [flatten_set hl (by rw [← h3.len]; exact hi) ho, List.length_modify]
            exact (h2.stored _ u).1
          · exact All2.modify (fun ds cs hd => ⟨by simpa using hd.1, hd.2.set off hX⟩) i (h3.mono fun _ _ hd => ⟨hd.1, hd.2.mono fun _ _ h => H.rep h⟩)
        · simp only [beq_ne hz, cond_false]; trivial
      · simp only [storeF, beq_ne ht, cond_false]
        exact H.rc (v := .own t e z' es) ht h
    case ept => simp only [RC] at h; cases h
    case mp => simp only [RC] at h; cases h
    case win => simp only [RC] at h; cases h
    all_goals exact H.rc (by trivial) h
  have hp : ∀ v u', RP w0.heap.size G w v u' → RP w0.heap.size G (w.setCell ⟨g, i * z + off, none⟩ u) (storeF T z i off x v) u' := fun v u' h => by
    cases v
    case own t e z' es => exact (hc (.own t e z' es) u' h).rp
    case ept t i' off' cs =>
      by_cases ht : t = T
      · subst ht
        simp only [storeF, beq_self, cond_true]
        by_cases hz : cs.length = z
        · subst hz
          simp only [beq_self, cond_true]
          obtain ⟨g', n', c', e, cur, us, h1, rfl, h3, h4, h4', h5, h6⟩ := h
          rw [hT] at h1
          injection h1 with h1
          simp only [Value.slice.injEq, Option.some.injEq, Addr.mk.injEq, and_true] at h1
          obtain ⟨rfl, rfl, rfl⟩ := h1
          have hcell : ∀ k, (w.setCell ⟨g, i * cs.length + off, none⟩ u).cell? ⟨g, k, none⟩ = if i * cs.length + off = k then (if k < cur.size then some u else none) else w.cell? ⟨g, k, none⟩ := fun k => by
            have hB : Blk w g e cur := h4
            rw [(hB.stored _ u).cell, Array.getElem?_setIfInBounds, hB.cell]
            split
            · next e => subst e; rfl
            · rfl
          have hin : i * cs.length + off < cur.size := by
            have : (i + 1) * cs.length ≤ n * cs.length := Nat.mul_le_mul_right _ hi
            rw [Nat.add_mul] at this
            omega
          by_cases hii : i' = i
          · subst hii
            simp only [beq_self, cond_true]
            refine ⟨g, n, c, e, cur.setIfInBounds (i' * cs.length + off) u, us.set off u, hT, by simp, h3, by exact (show Blk w g e cur from h4).stored _ u, by simpa using h4', (h5.mono fun _ _ h => H.rep h).set off hX, fun j v hv => ?_⟩
            rw [List.length_set, hcell]
            rw [List.getElem?_set] at hv
            by_cases hj : off = j
            · subst hj
              simp only [if_true] at hv ⊢
              rw [if_pos hin]
              split at hv
              · exact hv
              · cases hv
            · rw [if_neg hj] at hv
              rw [if_neg (by omega)]
              exact h6 j v hv
          · simp only [beq_ne hii, cond_false]
            refine ⟨g, n, c, e, cur.setIfInBounds (i * cs.length + off) u, us, hT, rfl, h3, by exact (show Blk w g e cur from h4).stored _ u, by simpa using h4', h5.mono fun _ _ h => H.rep h, fun j v hv => ?_⟩
            have hj : j < cs.length := by rw [h5.len]; exact (List.getElem?_eq_some_iff.1 hv).1
            rw [hcell, if_neg ?_]
            · exact h6 j v hv
            · intro e'
              rcases Nat.lt_or_gt_of_ne hii with hlt | hlt
              · have := Nat.mul_le_mul_right cs.length (show i' + 1 ≤ i from hlt)
                rw [Nat.add_mul] at this
                omega
              · have := Nat.mul_le_mul_right cs.length (show i + 1 ≤ i' from hlt)
                rw [Nat.add_mul] at this
                omega
        · simp only [beq_ne hz, cond_false]; trivial
      · simp only [storeF, beq_ne ht, cond_false]
        exact H.rp (v := .ept t i' off' cs) ht h
    case mp t kvs =>
      by_cases ht : t = T
      · subst ht; simp only [storeF, beq_self, cond_true]; trivial
      · simp only [storeF, beq_ne ht, cond_false]; exact H.rp (v := .mp t kvs) ht h
    case win t lo z es =>
      by_cases ht : t = T
      · subst ht; simp only [storeF, beq_self, cond_true]; trivial
      · simp only [storeF, beq_ne ht, cond_false]; exact H.rp (v := .win t lo z es) ht h
    all_goals exact H.rp (by trivial) h
  have hsz : (w.setCell ⟨g, i * z + off, none⟩ u).heap.size = w.heap.size := by simp [World.setCell]
  have hlt := S.ownLt T _ g hT rfl
  refine S.shift (f := storeF T z i off x) H hp hc (fun t b h => ⟨b, h, fun _ => ⟨rfl, hne b fun e => S.boxOwn t T _ g (e ▸ h) hT rfl⟩⟩) (S.chg.setCell (.inr hlt.1) _) (by omega) (fun t b h => by rw [hsz]; exact S.boxLt t b h) (fun t v b h h' => by rw [hsz]; exact S.ownLt t v b h h') S.boxInj S.ownInj S.boxOwn S.tapeBox S.tapeOwn
    (S.tapeShift H rfl (fun p hp => hne p fun e => S.tapeOwn T _ g (e ▸ hp) hT rfl) rfl) S.noTape S.fz2 S.fz3 S.tapeNew

theorem flat_drop {α : Type} {z : Nat} : ∀ {css : List (List α)}, (∀ c ∈ css, c.length = z) → ∀ l, (css.drop l).flatten = css.flatten.drop (l * z)
  | css, _, 0 => by simp
  | [], _, l + 1 => by simp
  | d :: css, hs, l + 1 => by
    have hd : d.length = z := hs d (by simp)
    rw [List.drop_succ_cons, flat_drop (fun c hc => hs c (by simp [hc])) l, List.flatten_cons, List.drop_append, hd, List.drop_of_length_le (l := d) (by rw [hd, Nat.add_mul]; omega), List.nil_append]
    congr 1
    rw [Nat.add_mul]
    omega
theorem flat_take {α : Type} {z : Nat} : ∀ {css : List (List α)}, (∀ c ∈ css, c.length = z) → ∀ l, (css.take l).flatten = css.flatten.take (l * z)
  | css, _, 0 => by simp
  | [], _, l + 1 => by simp
  | d :: css, hs, l + 1 => by
    have hd : d.length = z := hs d (by simp)
    rw [List.take_succ_cons, List.flatten_cons, flat_take (fun c hc => hs c (by simp [hc])) l, List.flatten_cons, List.take_append, hd, List.take_of_length_le (l := d) (by rw [hd, Nat.add_mul]; omega)]
    congr 2
    rw [Nat.add_mul]
    omega
theorem flat_len0 {α : Type} {z : Nat} : ∀ {css : List (List α)}, (∀ c ∈ css, c.length = z) → css.flatten.length = css.length * z
  | [], _ => by simp
  | d :: css, hs => by
    have hd : d.length = z := hs d (by simp)
    rw [List.flatten_cons, List.length_append, flat_len0 fun c hc => hs c (by simp [hc]), hd, List.length_cons, Nat.add_mul]
    omega
theorem take_spl {α : Type} (C D : List α) (a N : Nat) (h : a + D.length ≤ N) (hN : N ≤ C.length) : (C.take a ++ D ++ C.drop (a + D.length)).take N = spl (C.take N) a D := by
  unfold spl
  rw [List.append_assoc, List.take_append, List.length_take, Nat.min_eq_left (by omega), List.take_of_length_le (by simp; omega), List.take_append, List.take_of_length_le (l := D) (by omega), List.take_take, Nat.min_eq_left (by omega), List.drop_take]
  congr 3
  omega
theorem All2.spl {α β : Type} {R : α → β → Prop} {as as' : List α} {bs bs' : List β} (h : All2 R as bs) (h' : All2 R as' bs') (n : Nat) : All2 R (Go.Proofs.Ytlminbeepaacjaa.spl as n as') (Go.Proofs.Ytlminbeepaacjaa.spl bs n bs') := by
  unfold Go.Proofs.Ytlminbeepaacjaa.spl
  rw [h'.len]
  exact (h.take n).append (h'.append (h.drop _))
/-- Elements are laid over a part of a slice of the function's own. -/
theorem Sim.copyOwn (S : Sim tt w0 G s a w) {T lo z g n c e0 : Nat} {cur : Array Value} {src : List (List AV)} {dss : List (List Value)} (hT : G.own T = some (.slice (some ⟨g, 0, none⟩) n c)) (hgc : w.heap[g]? = some (.cells cur e0 (0, 0))) (hfit : lo + src.length ≤ n) (hn : n * z ≤ cur.size)
    (hA : All2 (fun ds cs => ds.length = z ∧ All2 (RepV w (GX G)) ds cs) src dss) :
    Sim tt w0 G (s.map (copyF T z lo src)) a (w.setRow g (cur.toList.take (lo * z) ++ dss.flatten ++ cur.toList.drop (lo * z + dss.flatten.length)).toArray) := by
  generalize hw' : w.setRow g (cur.toList.take (lo * z) ++ dss.flatten ++ cur.toList.drop (lo * z + dss.flatten.length)).toArray = w'
  have hne : ∀ b, b ≠ g → w'.heap[b]? = w.heap[b]? := fun b hb => by rw [← hw']; exact setRow_other w g b _ hb
  have hsz : w'.heap.size = w.heap.size := by rw [← hw']; simp [World.setRow]
  have hnew : w'.heap[g]? = some (.cells (cur.toList.take (lo * z) ++ dss.flatten ++ cur.toList.drop (lo * z + dss.flatten.length)).toArray e0 (0, 0)) := by rw [← hw']; exact setRow_heap w g _ _ _ _ hgc
  have hg : GM G g := .inr (.inl ⟨T, _, hT, rfl⟩)
  have H : Shift (· ≠ T) (fun _ => True) G G w w' := ⟨fun b _ hn => hne b fun e => hn (e ▸ hg), fun b _ h => h, fun b h => h, fun t v h hk => ⟨h, fun b hv => hne b fun e => hk (S.ownInj t T v _ g h hT (e ▸ hv) rfl)⟩, fun t b h _ => h, fun p h => h, fun b h => hne b fun e => S.fz2 T _ g hT rfl (e ▸ h), fun b h => h, rfl, fun _ _ => rfl, rfl⟩
  obtain ⟨hdl, hsl⟩ := OwnRep.lens hA
  have hdf := flat_len0 hdl
  have hll := hA.len
  have hc : ∀ v u', RC w0.heap.size G w v u' → RC w0.heap.size G w' (copyF T z lo src v) u' := fun v u' h => by
    cases v
    case own t e z' es =>
      by_cases ht : t = T
      · subst ht
        simp only [copyF, beq_self, cond_true]
        by_cases hz : z' = z
        · subst hz
          simp only [beq_self, cond_true]
          obtain ⟨h1, css, h2, h3⟩ := h
          rw [hT] at h1
          injection h1 with h1
          subst h1
          obtain ⟨hl, hl'⟩ := OwnRep.lens h3
          have hlen := h3.len
          have h2f := h2.1
          rcases h2.2 with ⟨e1, _⟩ | ⟨g', cap, cur', e1, k1, k2, k3, k4, k5, k6⟩
          · cases e1
          · simp only [Value.slice.injEq, Option.some.injEq, Addr.mk.injEq, and_true] at e1
            obtain ⟨rfl, rfl, rfl⟩ := e1
            rw [hgc] at k2
            simp only [Option.some.injEq, Obj.cells.injEq, and_true] at k2
            obtain ⟨rfl, rfl⟩ := k2
            have hin : lo * z' + dss.flatten.length ≤ es.length * z' := by
              rw [hdf, ← hll, ← Nat.add_mul]
              exact Nat.mul_le_mul_right _ hfit
            have hsize : lo * z' + dss.flatten.length ≤ cur.size := by
              have := hn
              omega
            have hlsp : (spl es lo src).length = es.length := by simp [spl]; omega
            have efl : (spl css lo dss).flatten = spl css.flatten (lo * z') dss.flatten := by
              simp only [spl, List.flatten_append, flat_take hl, flat_drop hl, hdf, Nat.add_mul]
            refine ⟨hT, spl css lo dss, ⟨?_, .inr ⟨g, c, _, ?_, k1, hnew, ?_, k4, ?_, ?_⟩⟩, (h3.mono fun _ _ hd => ⟨hd.1, hd.2.mono fun _ _ h => H.rep h⟩).spl (hA.mono fun _ _ hd => ⟨hd.1, hd.2.mono fun _ _ h => H.rep h⟩) lo⟩
            · rw [hlsp, efl, ← h2f]
              simp only [spl, List.length_append, List.length_take, List.length_drop]
              omega
            · rw [hlsp]
            · rw [hlsp]; exact k3
            · rw [← k5]
              simp only [List.size_toArray, List.length_append, List.length_take, List.length_drop, Array.length_toList]
              omega
            · rw [hlsp, efl, ← k6]
              exact take_spl _ _ _ _ hin (by rw [Array.length_toList]; omega)
        · simp only [beq_ne hz, cond_false]; trivial
      · simp only [copyF, beq_ne ht, cond_false]
        exact H.rc (v := .own t e z' es) ht h
    case ept => simp only [RC] at h; cases h
    case mp => simp only [RC] at h; cases h
    case win => simp only [RC] at h; cases h
    all_goals exact H.rc (by trivial) h
  have hp : ∀ v u', RP w0.heap.size G w v u' → RP w0.heap.size G w' (copyF T z lo src v) u' := fun v u' h => by
    cases v
    case own t e z' es => exact (hc (.own t e z' es) u' h).rp
    case ept t i' off' cs =>
      by_cases ht : t = T
      · subst ht; simp only [copyF, beq_self, cond_true]; trivial
      · simp only [copyF, beq_ne ht, cond_false]; exact H.rp (v := .ept t i' off' cs) ht h
    case mp t kvs =>
      by_cases ht : t = T
      · subst ht; simp only [copyF, beq_self, cond_true]; trivial
      · simp only [copyF, beq_ne ht, cond_false]; exact H.rp (v := .mp t kvs) ht h
    case win t l z2 es =>
      by_cases ht : t = T
      · subst ht; simp only [copyF, beq_self, cond_true]; trivial
      · simp only [copyF, beq_ne ht, cond_false]; exact H.rp (v := .win t l z2 es) ht h
    all_goals exact H.rp (by trivial) h
  have hlt := S.ownLt T _ g hT rfl
  have hchg : Chg (fun b => G.tape = some b) w0 w' := by
    have c0 := S.chg
    refine ⟨?_, ?_, ?_, ?_, fun b hb hn => ?_⟩
    · rw [← hw']; exact c0.os
    · rw [← hw']; exact c0.tape
    · rw [← hw']; exact c0.output
    · rw [hsz]; exact c0.size
    · rw [hne b (by omega)]; exact c0.block b hb hn
  refine S.shift (f := copyF T z lo src) H hp hc (fun t b h => ⟨b, h, fun _ => ⟨rfl, hne b fun e => S.boxOwn t T _ g (e ▸ h) hT rfl⟩⟩) hchg (by omega) (fun t b h => by rw [hsz]; exact S.boxLt t b h) (fun t v b h h' => by rw [hsz]; exact S.ownLt t v b h h') S.boxInj S.ownInj S.boxOwn S.tapeBox S.tapeOwn
    (S.tapeShift H rfl (fun p hp => hne p fun e => S.tapeOwn T _ g (e ▸ hp) hT rfl) rfl) S.noTape S.fz2 S.fz3 S.tapeNew

/-- A map of the function's own gets new entries. -/
theorem Sim.storeMap (S : Sim tt w0 G s a w) {T b c : Nat} {es : Array MapEntry} {kvs : List (Int × Bool)} (hT : G.own T = some (.slice (some ⟨b, 0, none⟩) 0 0)) (hne : ∀ b', b' ≠ b → w'.heap[b']? = w.heap[b']?) (hb : w'.heap[b]? = some (.map es c)) (hsz : w'.heap.size = w.heap.size)
    (hkv : es.toList.map (fun e => (e.key, e.val)) = kvs.map fun p => (Value.int .i64 p.1, Value.bool p.2)) (hchg : Chg (fun b => G.tape = some b) w0 w') : Sim tt w0 G (s.map (mapF T kvs)) a w' := by
  have hg : GM G b := .inr (.inl ⟨T, _, hT, rfl⟩)
  have H : Shift (· ≠ T) (fun _ => True) G G w w' := ⟨fun b' _ hn => hne b' fun e => hn (e ▸ hg), fun b _ h => h, fun b h => h, fun t v h hk => ⟨h, fun b' hv => hne b' fun e => hk (S.ownInj t T v _ b h hT (e ▸ hv) rfl)⟩, fun t b h _ => h, fun p h => h, fun b' h => hne b' fun e => S.fz2 T _ b hT rfl (e ▸ h), fun b h => h, rfl, fun _ _ => rfl, rfl⟩
  have hc : ∀ v u', RC w0.heap.size G w v u' → RC w0.heap.size G w' (mapF T kvs v) u' := fun v u' h => by
    cases v
    case own t e z es =>
      by_cases ht : t = T
      · subst ht; simp only [mapF, beq_self, cond_true]; trivial
      · simp only [mapF, beq_ne ht, cond_false]; exact H.rc (v := .own t e z es) ht h
    case ept => simp only [RC] at h; cases h
    case mp => simp only [RC] at h; cases h
    case win => simp only [RC] at h; cases h
    all_goals exact H.rc (by trivial) h
  have hp : ∀ v u', RP w0.heap.size G w v u' → RP w0.heap.size G w' (mapF T kvs v) u' := fun v u' h => by
    cases v
    case own t e z es => exact (hc (.own t e z es) u' h).rp
    case ept t i off cs =>
      by_cases ht : t = T
      · subst ht; simp only [mapF, beq_self, cond_true]; trivial
      · simp only [mapF, beq_ne ht, cond_false]; exact H.rp (v := .ept t i off cs) ht h
    case mp t kvs' =>
      by_cases ht : t = T
      · subst ht
        simp only [mapF, beq_self, cond_true]
        obtain ⟨b', es', c', h1, rfl, h3, h4⟩ := h
        rw [hT] at h1
        simp only [Option.some.injEq, Value.slice.injEq, Addr.mk.injEq, and_true] at h1
        subst h1
        exact ⟨b, es, c, hT, rfl, hb, hkv⟩
      · simp only [mapF, beq_ne ht, cond_false]; exact H.rp (v := .mp t kvs') ht h
    case win t lo z es =>
      by_cases ht : t = T
      · subst ht; simp only [mapF, beq_self, cond_true]; trivial
      · simp only [mapF, beq_ne ht, cond_false]; exact H.rp (v := .win t lo z es) ht h
    all_goals exact H.rp (by trivial) h
  refine S.shift (f := mapF T kvs) H hp hc (fun t b' h => ⟨b', h, fun _ => ⟨rfl, hne b' fun e => S.boxOwn t T _ b (e ▸ h) hT rfl⟩⟩) hchg (by omega) (fun t b h => by rw [hsz]; exact S.boxLt t b h) (fun t v b h h' => by rw [hsz]; exact S.ownLt t v b h h') S.boxInj S.ownInj S.boxOwn S.tapeBox S.tapeOwn
    (S.tapeShift H rfl (fun p hp => hne p fun e => S.tapeOwn T _ b (e ▸ hp) hT rfl) rfl) S.noTape S.fz2 S.fz3 S.tapeNew

/-- Behind a call: nothing but the tape has changed. -/
theorem Sim.called (S : Sim tt w0 G s a w) (hc : Chg (fun b => G.tape = some b) w w') (ht : ∀ p, G.tape = some p → TapeAt tt (fun b => G.tape = some b) G.hdr.1 G.hdr.2.1 G.hdr.2.2 w p → TapeAt tt (fun b => G.tape = some b) G.hdr.1 G.hdr.2.1 G.hdr.2.2 w' p) : Sim tt w0 G s a w' := by
  have hb : ∀ b, b < w.heap.size → G.tape ≠ some b → w'.heap[b]? = w.heap[b]? := fun b hlt hn => hc.block b hlt hn
  have H : Shift (fun _ => True) (fun _ => True) G G w w' := ⟨fun b h hn => hb b h fun e => hn (.inr (.inr e)), fun b _ h => h, fun b h => h, fun t v h _ => ⟨h, fun b hv => hb b (S.ownLt t v b h hv).2 fun e => S.tapeOwn t v b e h hv⟩, fun t b h _ => h, fun p h => h, fun b h => hb b (S.fz1 b h).1 fun e => S.fz3 b e h, fun b h => h, rfl, fun _ _ => rfl, rfl⟩
  have := S.shift (f := id) H (fun v u h => H.rp (okT v) h) (fun v u h => H.rc (okT v) h) (fun t b h => ⟨b, h, fun _ => ⟨rfl, hb b (S.boxLt t b h).2 fun e => S.tapeBox t b e h⟩⟩) (S.chg.trans hc) hc.size
    (fun t b h => ⟨(S.boxLt t b h).1, Nat.lt_of_lt_of_le (S.boxLt t b h).2 hc.size⟩) (fun t v b h h' => ⟨(S.ownLt t v b h h').1, Nat.lt_of_lt_of_le (S.ownLt t v b h h').2 hc.size⟩) S.boxInj S.ownInj S.boxOwn S.tapeBox S.tapeOwn
    (fun htp => by
      obtain ⟨p, h1, h2⟩ := S.tape htp
      refine ⟨p, h1, ?_⟩
      have h3 : TapeAt tt (fun b => G.tape = some b) G.hdr.1 G.hdr.2.1 G.hdr.2.2 w p := h2.move rfl (fun _ _ _ => rfl) fun b _ h => .inr (.inr h)
      obtain ⟨xs, k, hB, hI, hk⟩ := ht p h1 h3
      obtain ⟨xs', k', hB', hI', hk'⟩ := h2
      exact ⟨xs', k, hB, hI'.move _ H.sh H.gm, hk⟩) S.noTape S.fz2 S.fz3 S.tapeNew
  rwa [map_id_st] at this
end
end Go.Proofs.Ytlminbeepaacjaa
