/- append of several elements onto a row of the call's own. -/
import Derived.Test.YtlminbeepaacjaaBase
namespace Go.Proofs.Ytlminbeepaacjaa
set_option linter.unusedVariables false
open Go.RowKit

theorem flatten_inv {css : List (List Value)} {k : Nat} (hs : ∀ c ∈ css, c.length = k) {j : Nat} {u : Value} (hu : css.flatten[j]? = some u) : ∃ (i t : Nat) (c : List Value), css[i]? = some c ∧ c[t]? = some u ∧ j = i * k + t := by
  induction css generalizing j with
  | nil => simp at hu
  | cons d css ih =>
    have hd : d.length = k := hs d (by simp)
    rw [List.flatten_cons] at hu
    rcases Nat.lt_or_ge j d.length with hj | hj
    · rw [List.getElem?_append_left hj] at hu
      exact ⟨0, j, d, rfl, hu, by simp⟩
    · rw [List.getElem?_append_right hj] at hu
      obtain ⟨i, t, c, h1, h2, h3⟩ := ih (fun c hc => hs c (by simp [hc])) hu
      exact ⟨i + 1, t, c, by simpa using h1, h2, by rw [Nat.add_mul]; omega⟩
/-- The cells of a slice, element by element. -/
theorem Slc.cells {α : Type} {r : Rep α} {w : World} {X : Nat → Prop} {b off m c : Nat} {ys : List α} (h : Slc r w X (some ⟨b, off, none⟩) m c ys) (hm : 0 < m) :
    ∃ css : List (List Value), css.length = ys.length ∧ (∀ (i : Nat) (cs : List Value) (y : α), css[i]? = some cs → ys[i]? = some y → r.rep w X cs y) ∧ ∀ (j : Nat) (u : Value), css.flatten[j]? = some u → w.cell? ⟨b, off + j, none⟩ = some u := by
  obtain ⟨b', off', hA, hlt, hx, hi⟩ := h.at_ hm
  injection hA with hA
  injection hA with h1 h2 _
  subst h1 h2
  have hex : ∀ n, n ≤ ys.length → ∃ css : List (List Value), css.length = n ∧ ∀ (i : Nat) (cs : List Value) (y : α), css[i]? = some cs → ys[i]? = some y → (∀ (t : Nat) (u : Value), cs[t]? = some u → w.cell? ⟨b, off + i * r.size + t, none⟩ = some u) ∧ r.rep w X cs y := by
    intro n
    induction n with
    | zero => exact fun _ => ⟨[], rfl, fun i cs y h => by simp at h⟩
    | succ n ih =>
      intro hn
      obtain ⟨css, hl, hc⟩ := ih (by omega)
      obtain ⟨zs, hz1, hz2⟩ := hi n _ (List.getElem?_eq_getElem (by omega))
      refine ⟨css ++ [zs], by simp [hl], fun i cs y h1 h2 => ?_⟩
      rcases Nat.lt_or_ge i n with hin | hin
      · rw [List.getElem?_append_left (by omega)] at h1
        exact hc i cs y h1 h2
      · have : i = n := by
          have := (List.getElem?_eq_some_iff.1 h1).1
          simp at this
          omega
        subst this
        rw [List.getElem?_append_right (by omega)] at h1
        simp [hl] at h1
        subst h1
        rw [List.getElem?_eq_getElem (by omega)] at h2
        injection h2 with h2
        subst h2
        exact ⟨hz1, hz2⟩
  obtain ⟨css, hl, hc⟩ := hex ys.length (Nat.le_refl _)
  refine ⟨css, hl, fun i cs y h1 h2 => (hc i cs y h1 h2).2, fun j u hu => ?_⟩
  have hlen : ∀ c ∈ css, c.length = r.size := by
    intro c hcm
    obtain ⟨i, hi', rfl⟩ := List.mem_iff_getElem.1 hcm
    exact r.len (hc i _ _ (List.getElem?_eq_getElem hi') (List.getElem?_eq_getElem (by omega))).2
  obtain ⟨i, t, cs, h1, h2, rfl⟩ := flatten_inv hlen hu
  have hil : i < ys.length := by have := (List.getElem?_eq_some_iff.1 h1).1; omega
  have := (hc i cs _ h1 (List.getElem?_eq_getElem hil)).1 t u h2
  rwa [← Nat.add_assoc]
/-- Behind an append of several elements. -/
theorem Own.append {α : Type} {r : Rep α} {w w' : World} {X : Nat → Prop} {base : Nat} {e : TypeId} {v : Value} {xs : List α} {css dss : List (List Value)} {ys : List α} {v' : Value} (hl : css.length = xs.length)
    (hr : ∀ (i : Nat) (cs : List Value) (x : α), css[i]? = some cs → xs[i]? = some x → r.rep w (fun b => X b ∨ v.ownBlock = some b) cs x) (hl' : dss.length = ys.length)
    (hr' : ∀ (i : Nat) (cs : List Value) (x : α), dss[i]? = some cs → ys[i]? = some x → r.rep w (fun b => X b ∨ v.ownBlock = some b) cs x)
    (ho : w'.ownsRow base e r.size v' (xs.length + ys.length) (css.flatten ++ dss.flatten)) (hg : w.grownBy w' v.ownBlock) (hv : v'.ownBlock = v.ownBlock ∨ v'.ownBlock = some w.heap.size) :
    Own r w' X base e v' (xs ++ ys) := by
  have mv : ∀ {cs : List Value} {x : α}, r.rep w (fun b => X b ∨ v.ownBlock = some b) cs x → r.rep w' (fun b => X b ∨ v'.ownBlock = some b) cs x := fun h =>
    r.move h (fun b hlt hn => hg.block b hlt fun e => hn (.inr e.symm)) fun b hlt hb => by
      rcases hb with hb | hb
      · exact .inl hb
      · rcases hv with hv | hv
        · exact .inr (hv ▸ hb)
        · rw [hv] at hb; injection hb with hb; omega
  refine ⟨css ++ dss, by simp [hl, hl'], by simpa using ho, fun i c y h1 h2 => ?_⟩
  rcases Nat.lt_or_ge i xs.length with hi | hi
  · rw [List.getElem?_append_left (by omega)] at h1
    rw [List.getElem?_append_left hi] at h2
    exact mv (hr i c y h1 h2)
  · rw [List.getElem?_append_right (by omega)] at h1 h2
    exact mv (hr' _ c y (by rw [← hl]; exact h1) h2)
section
variable {P : Program}
theorem run_append_nothing (w : World) (base : Nat) (t ty e : TypeId) (i : TypeInfo) (size : Nat) (ht : P.underlying t = some (.slice e)) (hi : P.info? e = some i)
    (v : Value) (n : Nat) (xs : List Value) (hown : w.ownsRow base e size v n xs) (c : Nat) : (Builtin.append_ #[t, t] ty #[v, .slice none 0 c]).run P w = .ok v w := by
  rcases hown.2 with ⟨rfl, rfl⟩ | ⟨g, cap, cur, rfl, -, -, hnc, -⟩
  · simp [Builtin.append_, run_underlying ht, sizeOf, typeInfo, hi, Builtin.lenOf, Builtin.firstCells]
  · simp [Builtin.append_, run_underlying ht, sizeOf, typeInfo, hi, Builtin.lenOf, Builtin.firstCells, hnc, storeCells]
/-- 'append(v, src...)': v of the call's own, the source whatever slice. -/
theorem wp_append_slc {α : Type} {r : Rep α} {o : Oper} {a : Act} {K : Act → World → Prop} {Q : Exit → Act → World → Prop} {w : World} {X : Nat → Prop} {base : Nat} {v : Value} {xs : List α} (t e : TypeId) (hE : Elem P t e r.size) (s y : Operand)
    (ho : o.op = .call { callee := .builtin .append, args := #[s, y], argTypes := #[t, t] }) (hs : a.eval s = v) (hown : Own r w X base e v xs)
    (A : Option Addr) (m c : Nat) (ys : List α) (hy : a.eval y = .slice A m c) (hx : Slc r w (fun b => X b ∨ v.ownBlock = some b) A m c ys)
    (hn : xs.length + m ≤ 1000000) (hbase : base ≤ w.heap.size)
    (h : ∀ A' c' w', Own r w' X base e (.slice A' (xs.length + m) c') (xs ++ ys) → Chg (fun b => v.ownBlock = some b) w w' → ((Value.slice A' (xs.length + m) c').ownBlock = v.ownBlock ∨ (Value.slice A' (xs.length + m) c').ownBlock = some w.heap.size) → K (a.put o.dst (.slice A' (xs.length + m) c')) w') : o.wp P a w K Q := by
  obtain ⟨css, hl, how, hr⟩ := id hown
  obtain ⟨i, z, hi, hz, hsz, hby, hzc⟩ := hE.hi
  have hm := hx.len
  rcases Nat.eq_zero_or_pos m with h0 | h0
  · subst h0
    obtain rfl : ys = [] := List.eq_nil_of_length_eq_zero hm
    have hrun : ∃ v' w', (Builtin.append_ #[t, t] o.type #[v, .slice A 0 c]).run P w = .ok v' w' ∧ w'.ownsRow base e r.size v' (xs.length + 0) (css.flatten ++ []) ∧ w.grownBy w' v.ownBlock ∧ (v'.ownBlock = v.ownBlock ∨ v'.ownBlock = some w.heap.size) := by
      rcases A with _ | ad
      · exact ⟨v, w, run_append_nothing w base t o.type e i r.size hE.ht hi v _ _ how c, by simpa using how, World.grownBy.refl w _, .inl rfl⟩
      · obtain ⟨v', w', hrun, h2, h3, _, h5⟩ := run_append_own_at (P := P) w base t o.type e i z r.size i.bytes hE.ht hi hz hsz rfl hzc hE.pos v xs.length css.flatten how ad 0 c [] (by simp) (by simp) (by simp)
          (by simp only [maxLen]; omega) (Nat.le_trans (Nat.mul_le_mul (show xs.length + 0 ≤ 1000000 by omega) hby) (by omega)) hbase
        exact ⟨v', w', hrun, h2, h3, h5⟩
    obtain ⟨v', w', hrun, h2, h3, h5⟩ := hrun
    have hS : Own r w' X base e v' (xs ++ []) := Own.append hl hr (dss := []) rfl (fun i cs x h => by simp at h) (by simpa using h2) h3 h5
    obtain ⟨A', c', hv', -, -⟩ := hS.form
    simp only [List.length_append, List.length_nil] at hv'
    subst hv'
    unfold Oper.wp execOp
    simp only [ho, resolve, invoke, builtin, Sem.run_bind, Sem.run_pure, Result.andThen_ok, List.map_toArray, List.map_cons, List.map_nil, hs, hy, hrun]
    exact h A' c' w' hS ((Chg.refl _ _).grown h3 fun k hk => .inl hk) h5
  · obtain ⟨b, off, rfl, -, -, -⟩ := hx.at_ h0
    obtain ⟨dss, hdl, hdr, hdc⟩ := hx.cells h0
    have hadd : ∀ j, (⟨b, off, none⟩ : Addr).add j = ⟨b, off + j, none⟩ := fun j => by
      unfold Addr.add
      split
      · next h => subst h; rfl
      · rfl
    have hdlen : dss.flatten.length = m * r.size := by
      have hk : ∀ c ∈ dss, c.length = r.size := by
        intro c hcm
        obtain ⟨i, hi', rfl⟩ := List.mem_iff_getElem.1 hcm
        exact r.len (hdr i _ _ (List.getElem?_eq_getElem hi') (List.getElem?_eq_getElem (by omega)))
      rw [← hm, ← hdl]
      clear hdr hdc hdl
      induction dss with
      | nil => simp
      | cons d ds ih => simp [ih fun c hc => hk c (by simp [hc]), hk d (by simp), Nat.add_mul, Nat.add_comm]
    have hone : ∀ u ∈ dss.flatten, u.oneCell' = true := by
      intro u hu
      obtain ⟨d, hd, hu⟩ := List.mem_flatten.1 hu
      obtain ⟨i, hi', rfl⟩ := List.mem_iff_getElem.1 hd
      exact r.one (hdr i _ _ (List.getElem?_eq_getElem hi') (List.getElem?_eq_getElem (by omega))) u hu
    obtain ⟨v', w', hrun, h2, h3, _, h5⟩ := run_append_own_at (P := P) w base t o.type e i z r.size i.bytes hE.ht hi hz hsz rfl hzc hE.pos v xs.length css.flatten how ⟨b, off, none⟩ m c dss.flatten hdlen (fun j u hu => by rw [hadd]; exact hdc j u hu) hone
      (by simp only [maxLen]; omega) (Nat.le_trans (Nat.mul_le_mul (show xs.length + m ≤ 1000000 by omega) hby) (by omega)) hbase
    have hS : Own r w' X base e v' (xs ++ ys) := Own.append hl hr hdl hdr (by rw [hm]; exact h2) h3 h5
    obtain ⟨A', c', hv', -, -⟩ := hS.form
    simp only [List.length_append, hm] at hv'
    subst hv'
    unfold Oper.wp execOp
    simp only [ho, resolve, invoke, builtin, Sem.run_bind, Sem.run_pure, Result.andThen_ok, List.map_toArray, List.map_cons, List.map_nil, hs, hy, hrun]
    exact h A' c' w' hS ((Chg.refl _ _).grown h3 fun k hk => .inl hk) h5
theorem wpList_append_slc {α : Type} {r : Rep α} {ops : Array Oper} {rest : List Oper} {o : Oper} {a : Act} {Q : Exit → Act → World → Prop} {w : World} {X : Nat → Prop} {base : Nat} {v : Value} {xs : List α} (hgd : o.guard = none) (t e : TypeId) (hE : Elem P t e r.size) (s y : Operand)
    (ho : o.op = .call { callee := .builtin .append, args := #[s, y], argTypes := #[t, t] }) (hs : a.eval s = v) (hown : Own r w X base e v xs)
    (A : Option Addr) (m c : Nat) (ys : List α) (hy : a.eval y = .slice A m c) (hx : Slc r w (fun b => X b ∨ v.ownBlock = some b) A m c ys)
    (hn : xs.length + m ≤ 1000000) (hbase : base ≤ w.heap.size)
    (h : ∀ A' c' w', Own r w' X base e (.slice A' (xs.length + m) c') (xs ++ ys) → Chg (fun b => v.ownBlock = some b) w w' → ((Value.slice A' (xs.length + m) c').ownBlock = v.ownBlock ∨ (Value.slice A' (xs.length + m) c').ownBlock = some w.heap.size) → wpList P ops Q rest (a.put o.dst (.slice A' (xs.length + m) c')) w') : wpList P ops Q (o :: rest) a w :=
  wpList_plain hgd fun _ hK => wp_append_slc t e hE s y ho hs hown A m c ys hy hx hn hbase fun A' c' w' h1 h2 h3 => hK _ _ (h A' c' w' h1 h2 h3)
end

/-- A row of numbers, cell by cell. -/
theorem own_int {w : World} {X : Nat → Prop} {base : Nat} {e : TypeId} {v : Value} {xs : List Int} : Own Rep.int w X base e v xs ↔ w.ownsRow base e 1 v xs.length (xs.map (Value.int .i64)) := by
  have hf : ∀ l : List Int, (l.map fun x => [Value.int .i64 x]).flatten = l.map (Value.int .i64) := fun l => by
    induction l with
    | nil => rfl
    | cons a l ih => simp [ih]
  constructor
  · rintro ⟨css, hl, ho, hr⟩
    have : css = xs.map fun x => [Value.int .i64 x] := by
      apply List.ext_getElem (by simp [hl])
      intro i h1 h2
      simp only [List.length_map] at h2
      have := hr i _ _ (List.getElem?_eq_getElem h1) (List.getElem?_eq_getElem h2)
      simpa [Rep.int] using this
    rw [this, hf] at ho
    exact ho
  · intro ho
    refine ⟨xs.map fun x => [Value.int .i64 x], by simp, by rw [hf]; exact ho, fun i cs x h1 h2 => ?_⟩
    rw [List.getElem?_map, h2] at h1
    simp only [Option.map_some, Option.some.injEq] at h1
    exact h1.symm
/-- A number is stored into a row of the call's own. -/
theorem Own.int_set {w : World} {X : Nat → Prop} {base g c : Nat} {e : TypeId} {xs : List Int} (h : Own Rep.int w X base e (.slice (some ⟨g, 0, none⟩) xs.length c) xs) (k : Nat) (y : Int) :
    Own Rep.int (w.setCell ⟨g, k, none⟩ (.int .i64 y)) X base e (.slice (some ⟨g, 0, none⟩) xs.length c) (xs.set k y) := by
  have h1 := ((own_int.1 h).stored k (.int .i64 y)).1
  rw [own_int, List.length_set, List.map_set]
  exact h1
theorem Own.int_cell {w : World} {X : Nat → Prop} {base g c : Nat} {e : TypeId} {xs : List Int} (h : Own Rep.int w X base e (.slice (some ⟨g, 0, none⟩) xs.length c) xs) {k : Nat} (hk : k < xs.length) : w.cell? ⟨g, k, none⟩ = some (.int .i64 (nth xs k)) := by
  rw [(own_int.1 h).cellAt k (by omega), List.getElem?_map, nth_some hk]
  rfl
theorem Own.int_frozen {w : World} {X : Nat → Prop} {base g c : Nat} {e : TypeId} {xs : List Int} (h : Own Rep.int w X base e (.slice (some ⟨g, 0, none⟩) xs.length c) xs) (k : Nat) : w.frozen? ⟨g, k, none⟩ = false := (own_int.1 h).frozenAt k
theorem Own.addr {α : Type} {r : Rep α} {w : World} {X : Nat → Prop} {base : Nat} {e : TypeId} {v : Value} {xs : List α} (h : Own r w X base e v xs) (hn : 0 < xs.length) : ∃ g c, v = .slice (some ⟨g, 0, none⟩) xs.length c ∧ base ≤ g ∧ g < w.heap.size := by
  obtain ⟨css, hl, ho, hr⟩ := h
  rcases ho.2 with ⟨rfl, h0⟩ | ⟨g, cap, cur, rfl, hb, hh, -⟩
  · omega
  · exact ⟨g, cap, rfl, hb, (Array.getElem?_eq_some_iff.1 hh).1⟩
end Go.Proofs.Ytlminbeepaacjaa
