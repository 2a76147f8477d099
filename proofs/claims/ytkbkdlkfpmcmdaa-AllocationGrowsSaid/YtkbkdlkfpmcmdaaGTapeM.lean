/- The dice of the layers 24 on by the interpreter: contracts of Roll and Next. -/
import Derived.Test.YtkbkdlkfpmcmdaaTab
namespace Go.Proofs.Ytkbkdlkfpmcmdaa
set_option linter.unusedVariables false
set_option linter.unusedSimpArgs false
set_option linter.unnecessarySimpa false
set_option linter.unusedSectionVars false
open Go.RowKit

def encI (x : Int) : List AV := [.int .i64 x]
def ints (xs : List Int) : AV := .lst 1 (xs.map encI)
abbrev TT : Nat := 97
theorem ints_rep {w : World} {X : Nat → Prop} {A : Option Addr} {n c : Nat} {xs : List Int} (h : Ints w X A n c xs) : RepV w X (ints xs) (.slice A n c) := by
  have hl := h.len
  by_cases h0 : xs = []
  · subst h0
    have : n = 0 := by simpa using hl.symm
    subst this
    exact .nil 1 _ _
  · have hn : 0 < n := by
      rcases Nat.eq_zero_or_pos n with e | e
      · exact absurd (List.eq_nil_of_length_eq_zero (hl.trans e)) h0
      · exact e
    obtain ⟨b, off, rfl, hb, hx, hc⟩ := h.int_at hn
    have hlen : (xs.map encI).length = n := by simp [hl]
    unfold ints
    have := RepV.lst (w := w) (X := X) (z := 1) (es := xs.map encI) (b := b) (off := off) (c := c) (fun i _ => .int .i64 (nth xs i)) (by simpa using h0) (by rw [hlen]; exact h.cap) hb hx (fun cs hcs => by
      obtain ⟨x, _, rfl⟩ := List.mem_map.1 hcs
      rfl) (fun i j d hd => ?_) (fun i j d hd => ?_)
    · rwa [hlen] at this
    · obtain ⟨ds, h1, h2⟩ := at2_some hd
      rw [List.getElem?_map] at h1
      cases hx : xs[i]? with
      | none => rw [hx] at h1; cases h1
      | some x =>
        rw [hx] at h1
        simp only [Option.map_some, Option.some.injEq] at h1
        subst h1
        have hj : j = 0 := by have := (List.getElem?_eq_some_iff.1 h2).1; simp [encI] at this; exact this
        subst hj
        rw [Nat.mul_one, Nat.add_zero]
        exact hc i (by rw [← hl]; exact (List.getElem?_eq_some_iff.1 hx).1)
    · obtain ⟨ds, h1, h2⟩ := at2_some hd
      rw [List.getElem?_map] at h1
      cases hx : xs[i]? with
      | none => rw [hx] at h1; cases h1
      | some x =>
        rw [hx] at h1
        simp only [Option.map_some, Option.some.injEq] at h1
        subst h1
        have hj : j = 0 := by have := (List.getElem?_eq_some_iff.1 h2).1; simp [encI] at this; exact this
        subst hj
        simp only [encI, List.getElem?_cons_zero, Option.some.injEq] at h2
        subst h2
        have := nth_some (xs := xs) (k := i) (List.getElem?_eq_some_iff.1 hx).1
        rw [hx] at this
        injection this with this
        rw [← this]
        exact .int _ _
theorem RepV.inv {w : World} {X : Nat → Prop} {z : Nat} {es : List (List AV)} {u : Value} (h : RepV w X (.lst z es) u) : (es = [] ∧ ∃ A c, u = .slice A 0 c) ∨ ∃ (b off c : Nat) (f : Nat → Nat → Value), u = .slice (some ⟨b, off, none⟩) es.length c ∧ es.length ≤ c ∧ b < w.heap.size ∧ ¬ X b ∧ (∀ i j d, at2 es i j = some d → w.cell? ⟨b, off + i * z + j, none⟩ = some (f i j)) ∧ ∀ i j d, at2 es i j = some d → RepV w X d (f i j) := by
  cases h with
  | nil A c => exact .inl ⟨rfl, _, _, rfl⟩
  | lst f hne hc hb hx hz hcell hrep => exact .inr ⟨_, _, _, f, rfl, hc, hb, hx, hcell, hrep⟩
theorem rep_ints {w : World} {X : Nat → Prop} {xs : List Int} {u : Value} (h : RepV w X (ints xs) u) : ∃ A c, u = .slice A xs.length c ∧ Ints w X A xs.length c xs := by
  rcases RepV.inv h with ⟨h0, A, c, rfl⟩ | ⟨b, off, c, f, rfl, hc, hb, hx, hcell, hrep⟩
  · obtain rfl : xs = [] := by simpa using h0
    exact ⟨A, c, rfl, rfl, Nat.zero_le _, fun h => absurd h (by simp)⟩
  · rw [List.length_map] at hc
    refine ⟨_, c, by rw [List.length_map], rfl, hc, fun _ => ⟨b, off, rfl, hb, hx, fun i x hxi => ⟨[.int .i64 x], fun j u hu => ?_, rfl⟩⟩⟩
    rcases j with _ | j
    · simp at hu
      subst hu
      have h2 : at2 (xs.map encI) i 0 = some (.int .i64 x) := by simp [at2, hxi, encI]
      have h3 := hrep i 0 _ h2
      have h4 := hcell i 0 _ h2
      generalize f i 0 = v at h3 h4
      cases h3
      simpa [Rep.int] using h4
    · simp at hu
theorem enters_of {f : Nat} {fn : Func} {c : Code} (h : Try.prog.funcs[f]? = some fn) (hb : fn.body = some c) (hn : (fn.name == "runtime.NumGoroutine") = false) : Enters Try.prog f := ⟨fn, c, h, hn, hb⟩
def UpTo (n : Int) (x : Int) : Prop := (n < 1 → x = 0) ∧ (1 ≤ n → 0 ≤ x ∧ x < n)
def IntR (p : Int → Prop) (r : AV) : Prop := ∃ x, r = .int .i64 x ∧ p x
def BoolR (r : AV) : Prop := ∃ b, r = .bool b
set_option maxHeartbeats 400000 in
theorem next_ok (n : Int) (hn1 : 1 ≤ n ∧ n ≤ 1000000) : Good Try.prog TT true 21 [.tape, .int .i64 n] (IntR (UpTo n)) := by
  refine ⟨enters_of Try.func21 rfl rfl, fun w X tp us hd hX htp hA hta => ?_⟩
  obtain ⟨u, us', rfl, ⟨p, hp, rfl⟩, h2⟩ := hA.cons_inv
  obtain ⟨u2, us2, rfl, hu2, h3⟩ := h2.cons_inv
  obtain rfl := h3.nil_inv
  obtain rfl := hu2.int_inv
  have hp' : tp = some p := hp
  subst hp'
  obtain ⟨A, m, c⟩ := hd
  obtain ⟨xs, k, hb, hi, hk, hn⟩ := hta p rfl
  simp only at hb hi hk hn
  have key : Calls Try.prog 21 #[.pointer (some ⟨p, 0, none⟩), .int .i64 n] w fun e w' => ∃ x : Int, UpTo n x ∧ e = .returned (.int .i64 x) ∧ Chg (fun b => some p = some b) w w' ∧ TapeAt TT (fun b => some p = some b) A m c w' p := by
    have h0 : w.cell? ⟨p, 0, none⟩ = some (.slice A m c) := by rw [hb.cell]; rfl
    have h1 : w.cell? ⟨p, 1, none⟩ = some (.int .i64 k) := by rw [hb.cell]; rfl
    have f1 : w.frozen? ⟨p, 1, none⟩ = false := hb.frozen 1
    have HI := Lib.hid hi; clear hi
    rcases Nat.lt_or_ge k m with hlt | hge
    · obtain ⟨b, off, rfl, hbl, hbp, hc⟩ := HI.out.int_at (by omega)
      have hbp' : ¬ b = p := fun e => hbp (by rw [e])
      have hck := hc k hlt
      have HB := Lib.hid hb; clear hb
      have HC := Lib.hid hc; clear hc
      clear hbp hta hA hX htp hp h2
      have b1 := Int.tmod_lt_of_pos (nth xs k) (show 0 < n by omega)
      have b2 := Int.lt_tmod_of_pos (nth xs k) (show 0 < n by omega)
      have hn0 : n ≠ 0 := by omega
      have ch : ∀ i, Chg (fun b => some p = some b) w ((w.drewN i).setCell ⟨p, 1, none⟩ (.int .i64 (↑k + 1))) := fun i => ((Chg.refl (fun b => some p = some b) w).drewN i).setCell (.inl rfl) _
      by_cases hneg : (nth xs k).tmod n < 0
      · go_enter Try.func21, Try.ntmps21
        go_wp2
        go_quiet (fail)
        go_wp2
        go_quiet (fail)
        go_wp2
        go_ret
        refine ⟨_, ?_, rfl, ch _, xs, k + 1, ?_, HI.out.chg _ (ch _) (fun b _ h => h), hlt, hn⟩
        · exact ⟨fun h => by omega, fun _ => by omega⟩
        · have := HB.out.stored 1 (.int .i64 ((k + 1 : Nat) : Int))
          simp at this
          exact this
      · go_enter Try.func21, Try.ntmps21
        go_wp2
        go_quiet (fail)
        go_wp2
        go_quiet (fail)
        go_wp2
        go_ret
        refine ⟨_, ?_, rfl, ch _, xs, k + 1, ?_, HI.out.chg _ (ch _) (fun b _ h => h), hlt, hn⟩
        · exact ⟨fun h => by omega, fun _ => by omega⟩
        · have := HB.out.stored 1 (.int .i64 ((k + 1 : Nat) : Int))
          simp at this
          exact this
    · have HB := Lib.hid hb; clear hb
      clear hta hA hX htp hp
      go_enter Try.func21, Try.ntmps21
      go_wp2
      go_quiet (fail)
      go_wp2
      go_ret
      exact ⟨_, ⟨fun h => by omega, fun _ => by omega⟩, rfl, (Chg.refl _ w).drewN _, xs, k, HB.out, HI.out.keep _ ((Chg.refl No w).drewN _), hk, hn⟩
  refine Calls.mono key fun e w' ⟨x, e0, e1, e2, e3⟩ => ⟨_, .int .i64 x, e1, ⟨x, rfl, e0⟩, RepV.int _ _, e2, fun p' hp' => ?_⟩
  injection hp' with hp'
  subst hp'
  exact e3
set_option maxHeartbeats 400000 in
theorem roll_ok (xs : List Int) (hm : xs.length ≤ 600) : Good Try.prog TT false 13 [ints xs] (· = .tape) := by
  refine ⟨enters_of Try.func13 rfl rfl, fun w X tp us hd hX htp hA hta => ?_⟩
  obtain ⟨u, us', rfl, hu, h2⟩ := hA.cons_inv
  obtain rfl := h2.nil_inv
  have htp' : tp = none := Option.not_isSome_iff_eq_none.1 (by rw [htp]; nofun)
  subst htp'
  obtain ⟨A, c, rfl, hI⟩ := rep_ints (show RepV w (GX (G0 none X hd)) (ints xs) u from hu)
  have hcap := hI.cap
  have key : Calls Try.prog 13 #[.slice A xs.length c] w fun e w' => ∃ p n, e = .returned (.pointer (some ⟨p, 0, none⟩)) ∧ w.heap.size ≤ p ∧ Chg No w w' ∧ TapeAt TT (fun b => X b ∨ w.heap.size ≤ b) A n c w' p := by
    have fin : ∀ k xs', k ≤ 600 → Ints w (GX (G0 none X hd)) A k c xs' → Chg No w (w.alloc (.cells #[.slice A k c, .int .i64 0] TT)) ∧ TapeAt TT (fun b => X b ∨ w.heap.size ≤ b) A k c (w.alloc (.cells #[.slice A k c, .int .i64 0] TT)) w.heap.size := fun k xs' hk hI =>
      ⟨(Chg.refl _ w).alloc _, xs', 0, Blk.made w _ _, hI.move _ (fun b hb _ => ((Chg.refl No w).alloc _).block b hb no_) (fun b hb he => he.elim .inr fun h => by omega), Nat.zero_le _, hk⟩
    clear hta hA hX htp hu
    have F := Lib.hid (fin xs.length _ (by omega) hI); clear fin
    have H := Lib.hid hI; clear hI
    go_enter Try.func13, Try.ntmps13
    go_wp2
    go_ret
    exact ⟨_, xs.length, rfl, Nat.le_refl _, F.out.1, F.out.2⟩
  refine Calls.mono key fun e w' ⟨p, n, e1, e2, e3, e4⟩ => ⟨_, .tape, e1, rfl, ⟨p, A, n, c, rfl, e2, e4, rfl⟩, e3.mono fun b _ h => h.elim, by nofun⟩
end Go.Proofs.Ytkbkdlkfpmcmdaa
