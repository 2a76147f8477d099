/- Several texts in one: GTapeM, GL24a, GAm, GL25m, Pl25. -/
import Derived.Test.YthgnomniboindaaTab
import Derived.Test.YthgnomniboindaaMA
/- The dice of the layers 24 on by the interpreter: contracts of Roll and Next. -/
section
namespace Go.Proofs.Ythgnomniboindaa
set_option linter.unusedVariables false
set_option linter.unusedSimpArgs false
set_option linter.unnecessarySimpa false
set_option linter.unusedSectionVars false
open Go.RowKit

def encI (x : Int) : List AV := [.int .i64 x]
def ints (xs : List Int) : AV := .lst 1 (xs.map encI)
abbrev TT : Nat := 71
theorem ints_rep {w : World} {X : Nat → Prop} {A : Option Addr} {n c : Nat} {xs : List Int} (h : Ints w X A n c xs) : RepV w X (ints xs) (.slice A n c) := by
  have hl := h.len
  by_cases h0 : xs = []
  · subst h0
    have : n = 0 := by simpa using hl.symm
    subst this
    exact .nil 1 _ _
  · have hn : 0 < n := by
      rcases Nat.eq_zero_or_pos n with e | e
      · exact absurd (List.eq_nil_of_length_eq_zero (hl.trans e)) h0
      · exact e
    obtain ⟨b, off, rfl, hb, hx, hc⟩ := h.int_at hn
    have hlen : (xs.map encI).length = n := by simp [hl]
    unfold ints
    have := RepV.lst (w := w) (X := X) (z := 1) (es := xs.map encI) (b := b) (off := off) (c := c) (fun i _ => .int .i64 (nth xs i)) (by simpa using h0) (by rw [hlen]; exact h.cap) hb hx (fun cs hcs => by
      obtain ⟨x, _, rfl⟩ := List.mem_map.1 hcs
      rfl) (fun i j d hd => ?_) (fun i j d hd => ?_)
    · rwa [hlen] at this
    · obtain ⟨ds, h1, h2⟩ := at2_some hd
      rw [List.getElem?_map] at h1
      cases hx : xs[i]? with
      | none => rw [hx] at h1; cases h1
      | some x =>
        rw [hx] at h1
        simp only [Option.map_some, Option.some.injEq] at h1
        subst h1
        have hj : j = 0 := by have := (List.getElem?_eq_some_iff.1 h2).1; simp [encI] at this; exact this
        subst hj
        rw [Nat.mul_one, Nat.add_zero]
        exact hc i (by rw [← hl]; exact (List.getElem?_eq_some_iff.1 hx).1)
    · obtain ⟨ds, h1, h2⟩ := at2_some hd
      rw [List.getElem?_map] at h1
      cases hx : xs[i]? with
      | none => rw [hx] at h1; cases h1
      | some x =>
        rw [hx] at h1
        simp only [Option.map_some, Option.some.injEq] at h1
        subst h1
        have hj : j = 0 := by have := (List.getElem?_eq_some_iff.1 h2).1; simp [encI] at this; exact this
        subst hj
        simp only [encI, List.getElem?_cons_zero, Option.some.injEq] at h2
        subst h2
        have := nth_some (xs := xs) (k := i) (List.getElem?_eq_some_iff.1 hx).1
        rw [hx] at this
        injection this with this
        rw [← this]
        exact .int _ _
theorem RepV.inv {w : World} {X : Nat → Prop} {z : Nat} {es : List (List AV)} {u : Value} (h : RepV w X (.lst z es) u) : (es = [] ∧ ∃ A c, u = .slice A 0 c) ∨ ∃ (b off c : Nat) (f : Nat → Nat → Value), u = .slice (some ⟨b, off, none⟩) es.length c ∧ es.length ≤ c ∧ b < w.heap.size ∧ ¬ X b ∧ (∀ i j d, at2 es i j = some d → w.cell? ⟨b, off + i * z + j, none⟩ = some (f i j)) ∧ ∀ i j d, at2 es i j = some d → RepV w X d (f i j) := by
  cases h with
  | nil A c => exact .inl ⟨rfl, _, _, rfl⟩
  | lst f hne hc hb hx hz hcell hrep => exact .inr ⟨_, _, _, f, rfl, hc, hb, hx, hcell, hrep⟩
theorem rep_ints {w : World} {X : Nat → Prop} {xs : List Int} {u : Value} (h : RepV w X (ints xs) u) : ∃ A c, u = .slice A xs.length c ∧ Ints w X A xs.length c xs := by
  rcases RepV.inv h with ⟨h0, A, c, rfl⟩ | ⟨b, off, c, f, rfl, hc, hb, hx, hcell, hrep⟩
  · obtain rfl : xs = [] := by simpa using h0
    exact ⟨A, c, rfl, rfl, Nat.zero_le _, fun h => absurd h (by simp)⟩
  · rw [List.length_map] at hc
    refine ⟨_, c, by rw [List.length_map], rfl, hc, fun _ => ⟨b, off, rfl, hb, hx, fun i x hxi => ⟨[.int .i64 x], fun j u hu => ?_, rfl⟩⟩⟩
    rcases j with _ | j
    · simp at hu
      subst hu
      have h2 : at2 (xs.map encI) i 0 = some (.int .i64 x) := by simp [at2, hxi, encI]
      have h3 := hrep i 0 _ h2
      have h4 := hcell i 0 _ h2
      generalize f i 0 = v at h3 h4
      cases h3
      simpa [Rep.int] using h4
    · simp at hu
theorem enters_of {f : Nat} {fn : Func} {c : Code} (h : Try.prog.funcs[f]? = some fn) (hb : fn.body = some c) (hn : (fn.name == "runtime.NumGoroutine") = false) : Enters Try.prog f := ⟨fn, c, h, hn, hb⟩
def UpTo (n : Int) (x : Int) : Prop := (n < 1 → x = 0) ∧ (1 ≤ n → 0 ≤ x ∧ x < n)
def IntR (p : Int → Prop) (r : AV) : Prop := ∃ x, r = .int .i64 x ∧ p x
def BoolR (r : AV) : Prop := ∃ b, r = .bool b
set_option maxHeartbeats 400000 in
theorem next_ok (n : Int) (hn1 : 1 ≤ n ∧ n ≤ 1000000) : Good Try.prog TT true 9 [.tape, .int .i64 n] (IntR (UpTo n)) := by
  refine ⟨enters_of Try.func9 rfl rfl, fun w X tp us hd hX htp hA hta => ?_⟩
  obtain ⟨u, us', rfl, ⟨p, hp, rfl⟩, h2⟩ := hA.cons_inv
  obtain ⟨u2, us2, rfl, hu2, h3⟩ := h2.cons_inv
  obtain rfl := h3.nil_inv
  obtain rfl := hu2.int_inv
  have hp' : tp = some p := hp
  subst hp'
  obtain ⟨A, m, c⟩ := hd
  obtain ⟨xs, k, hb, hi, hk, hn⟩ := hta p rfl
  simp only at hb hi hk hn
  have key : Calls Try.prog 9 #[.pointer (some ⟨p, 0, none⟩), .int .i64 n] w fun e w' => ∃ x : Int, UpTo n x ∧ e = .returned (.int .i64 x) ∧ Chg (fun b => some p = some b) w w' ∧ TapeAt TT (fun b => some p = some b) A m c w' p := by
    have h0 : w.cell? ⟨p, 0, none⟩ = some (.slice A m c) := by rw [hb.cell]; rfl
    have h1 : w.cell? ⟨p, 1, none⟩ = some (.int .i64 k) := by rw [hb.cell]; rfl
    have f1 : w.frozen? ⟨p, 1, none⟩ = false := hb.frozen 1
    have HI := Lib.hid hi; clear hi
    rcases Nat.lt_or_ge k m with hlt | hge
    · obtain ⟨b, off, rfl, hbl, hbp, hc⟩ := HI.out.int_at (by omega)
      have hbp' : ¬ b = p := fun e => hbp (by rw [e])
      have hck := hc k hlt
      have HB := Lib.hid hb; clear hb
      have HC := Lib.hid hc; clear hc
      clear hbp hta hA hX htp hp h2
      have b1 := Int.tmod_lt_of_pos (nth xs k) (show 0 < n by omega)
      have b2 := Int.lt_tmod_of_pos (nth xs k) (show 0 < n by omega)
      have hn0 : n ≠ 0 := by omega
      have ch : ∀ i, Chg (fun b => some p = some b) w ((w.drewN i).setCell ⟨p, 1, none⟩ (.int .i64 (↑k + 1))) := fun i => ((Chg.refl (fun b => some p = some b) w).drewN i).setCell (.inl rfl) _
      by_cases hneg : (nth xs k).tmod n < 0
      · go_enter Try.func9, Try.ntmps9
        go_wp2
        go_quiet (fail)
        go_wp2
        go_quiet (fail)
        go_wp2
        go_ret
        refine ⟨_, ?_, rfl, ch _, xs, k + 1, ?_, HI.out.chg _ (ch _) (fun b _ h => h), hlt, hn⟩
        · exact ⟨fun h => by omega, fun _ => by omega⟩
        · have := HB.out.stored 1 (.int .i64 ((k + 1 : Nat) : Int))
          simp at this
          exact this
      · go_enter Try.func9, Try.ntmps9
        go_wp2
        go_quiet (fail)
        go_wp2
        go_quiet (fail)
        go_wp2
        go_ret
        refine ⟨_, ?_, rfl, ch _, xs, k + 1, ?_, HI.out.chg _ (ch _) (fun b _ h => h), hlt, hn⟩
        · exact ⟨fun h => by omega, fun _ => by omega⟩
        · have := HB.out.stored 1 (.int .i64 ((k + 1 : Nat) : Int))
          simp at this
          exact this
    · have HB := Lib.hid hb; clear hb
      clear hta hA hX htp hp
      go_enter Try.func9, Try.ntmps9
      go_wp2
      go_quiet (fail)
      go_wp2
      go_ret
      exact ⟨_, ⟨fun h => by omega, fun _ => by omega⟩, rfl, (Chg.refl _ w).drewN _, xs, k, HB.out, HI.out.keep _ ((Chg.refl No w).drewN _), hk, hn⟩
  refine Calls.mono key fun e w' ⟨x, e0, e1, e2, e3⟩ => ⟨_, .int .i64 x, e1, ⟨x, rfl, e0⟩, RepV.int _ _, e2, fun p' hp' => ?_⟩
  injection hp' with hp'
  subst hp'
  exact e3
set_option maxHeartbeats 400000 in
theorem roll_ok (xs : List Int) (hm : xs.length ≤ 600) : Good Try.prog TT false 6 [ints xs] (· = .tape) := by
  refine ⟨enters_of Try.func6 rfl rfl, fun w X tp us hd hX htp hA hta => ?_⟩
  obtain ⟨u, us', rfl, hu, h2⟩ := hA.cons_inv
  obtain rfl := h2.nil_inv
  have htp' : tp = none := Option.not_isSome_iff_eq_none.1 (by rw [htp]; nofun)
  subst htp'
  obtain ⟨A, c, rfl, hI⟩ := rep_ints (show RepV w (GX (G0 none X hd)) (ints xs) u from hu)
  have hcap := hI.cap
  have key : Calls Try.prog 6 #[.slice A xs.length c] w fun e w' => ∃ p n, e = .returned (.pointer (some ⟨p, 0, none⟩)) ∧ w.heap.size ≤ p ∧ Chg No w w' ∧ TapeAt TT (fun b => X b ∨ w.heap.size ≤ b) A n c w' p := by
    have fin : ∀ k xs', k ≤ 600 → Ints w (GX (G0 none X hd)) A k c xs' → Chg No w (w.alloc (.cells #[.slice A k c, .int .i64 0] TT)) ∧ TapeAt TT (fun b => X b ∨ w.heap.size ≤ b) A k c (w.alloc (.cells #[.slice A k c, .int .i64 0] TT)) w.heap.size := fun k xs' hk hI =>
      ⟨(Chg.refl _ w).alloc _, xs', 0, Blk.made w _ _, hI.move _ (fun b hb _ => ((Chg.refl No w).alloc _).block b hb no_) (fun b hb he => he.elim .inr fun h => by omega), Nat.zero_le _, hk⟩
    clear hta hA hX htp hu
    have F := Lib.hid (fin xs.length _ (by omega) hI); clear fin
    have H := Lib.hid hI; clear hI
    go_enter Try.func6, Try.ntmps6
    go_wp2
    go_ret
    exact ⟨_, xs.length, rfl, Nat.le_refl _, F.out.1, F.out.2⟩
  refine Calls.mono key fun e w' ⟨p, n, e1, e2, e3, e4⟩ => ⟨_, .tape, e1, rfl, ⟨p, A, n, c, rfl, e2, e4, rfl⟩, e3.mono fun b _ h => h.elim, by nofun⟩
end Go.Proofs.Ythgnomniboindaa
end

/- Layer 24 by the interpreter: markers and scripts, who may mark what. -/
section
namespace Go.Proofs.Ythgnomniboindaa
set_option linter.unusedVariables false
set_option linter.unusedSimpArgs false
set_option linter.unnecessarySimpa false
set_option linter.unusedSectionVars false
set_option maxRecDepth 10000
open Go.RowKit

theorem bool_eq {a b : Bool} (h : a = b) : AV.bool a = .bool b := by rw [h]
theorem int_eq {a b : Int} (h : a = b) : AV.int .i64 a = .int .i64 b := by rw [h]
structure Mrk where
  id : Int
  centre : Int
  level : Int
  cap : Int
  papers : List Int
structure Scr where
  number : Int
  paper : Int
  cand : Int
  centre : Int
  variant : Int
  pages : List Int
  answers : List Int
def encM (m : Mrk) : List AV := [.int .i64 m.id, .int .i64 m.centre, .int .i64 m.level, .int .i64 m.cap, ints m.papers]
def encR (s : Scr) : List AV := [.int .i64 s.number, .int .i64 s.paper, .int .i64 s.cand, .int .i64 s.centre, .int .i64 s.variant, ints s.pages, ints s.answers]
def mrksV (l : List Mrk) : AV := .lst 5 (l.map encM)
def scrsV (l : List Scr) : AV := .lst 7 (l.map encR)
def hasP (l : List Int) (p : Int) : Bool := l.any fun x => p == x
def mayB (m : Mrk) (s : Scr) : Bool := (m.centre != s.centre) && hasP m.papers s.paper
def idxP (l : List Int) (p : Int) : Int := match l.findIdx? (fun x => p == x) with | some i => i | none => -1
theorem index_ok (l : List Int) (p : Int) (hl : l.length ≤ 1000000) : Good Try.prog TT false 60 [ints l, .int .i64 p] (· = .int .i64 (idxP l p)) := by
  have L : (l.map encI).length = l.length := List.length_map ..
  refine good_of mixed tabOk Try.func60 rfl rfl Try.ntmps60 Try.results60 rfl rfl ?_
  (conv => whnf); (repeat (first | (refine arith_i ⟨by omega, by omega⟩ ?_; conv => whnf) | (refine need_i (by first | omega | (simp only [List.length_append, List.length_cons, List.length_nil]; omega)) ?_; conv => whnf) | ((with_reducible first | refine branch_tt ?_ | refine branch_ff ?_); conv => whnf) | (with_reducible refine branch_not ?_) | ((with_reducible first | refine slc_e ?_ | refine callS_a ?_ | refine bld_a ?_ | refine own_e ?_ | refine mkmap_b ?_ | refine lnk_a ?_); conv => whnf)))
  refine loop_i (fun k : Nat => k ≤ l.length ∧ ∀ i x, i < k → l[i]? = some x → (p == x) = false) (fun k => mkSt [(0, ints l), (1, .int .i64 p), (7, .int .i64 (l.map encI).length), (8, .int .i64 k)] [] false) (fun k => l.length - k) 0 ⟨Nat.zero_le _, nofun⟩ (le_mk ⟨rfl, rfl, rfl, rfl, trivial⟩ trivial rfl) ?_
  rintro k ⟨hk, hall⟩
  (conv => whnf); (repeat (first | (refine arith_i ⟨by omega, by omega⟩ ?_; conv => whnf) | (refine need_i (by first | omega | (simp only [List.length_append, List.length_cons, List.length_nil]; omega)) ?_; conv => whnf) | ((with_reducible first | refine branch_tt ?_ | refine branch_ff ?_); conv => whnf) | (with_reducible refine branch_not ?_) | ((with_reducible first | refine slc_e ?_ | refine callS_a ?_ | refine bld_a ?_ | refine own_e ?_ | refine mkmap_b ?_ | refine lnk_a ?_); conv => whnf)))
  refine branch_d (fun h => ?_) (fun h => ?_)
  · (conv => whnf); (repeat (first | (refine arith_i ⟨by omega, by omega⟩ ?_; conv => whnf) | (refine need_i (by first | omega | (simp only [List.length_append, List.length_cons, List.length_nil]; omega)) ?_; conv => whnf) | ((with_reducible first | refine branch_tt ?_ | refine branch_ff ?_); conv => whnf) | (with_reducible refine branch_not ?_) | ((with_reducible first | refine slc_e ?_ | refine callS_a ?_ | refine bld_a ?_ | refine own_e ?_ | refine mkmap_b ?_ | refine lnk_a ?_); conv => whnf)))
    refine idx_m (by omega) (by omega) fun x hx => ?_
    rw [Int.toNat_natCast] at hx
    (conv => whnf); (repeat (first | (refine arith_i ⟨by omega, by omega⟩ ?_; conv => whnf) | (refine need_i (by first | omega | (simp only [List.length_append, List.length_cons, List.length_nil]; omega)) ?_; conv => whnf) | ((with_reducible first | refine branch_tt ?_ | refine branch_ff ?_); conv => whnf) | (with_reducible refine branch_not ?_) | ((with_reducible first | refine slc_e ?_ | refine callS_a ?_ | refine bld_a ?_ | refine own_e ?_ | refine mkmap_b ?_ | refine lnk_a ?_); conv => whnf)))
    refine branch_i (fun he => ?_) (fun he => ?_)
    · (conv => whnf); (repeat (first | (refine arith_i ⟨by omega, by omega⟩ ?_; conv => whnf) | (refine need_i (by first | omega | (simp only [List.length_append, List.length_cons, List.length_nil]; omega)) ?_; conv => whnf) | ((with_reducible first | refine branch_tt ?_ | refine branch_ff ?_); conv => whnf) | (with_reducible refine branch_not ?_) | ((with_reducible first | refine slc_e ?_ | refine callS_a ?_ | refine bld_a ?_ | refine own_e ?_ | refine mkmap_b ?_ | refine lnk_a ?_); conv => whnf)))
      refine ret_p rfl (int_eq ?_)
      have : l.findIdx? (fun x => p == x) = some k := by
        rw [List.findIdx?_eq_some_iff_getElem]
        obtain ⟨h1, h2⟩ := List.getElem?_eq_some_iff.1 hx
        exact ⟨h1, by rw [h2]; exact he, fun j hj => by rw [hall j _ hj (List.getElem?_eq_getElem (by omega))]; simp⟩
      rw [idxP, this]
    · (conv => whnf); (repeat (first | (refine arith_i ⟨by omega, by omega⟩ ?_; conv => whnf) | (refine need_i (by first | omega | (simp only [List.length_append, List.length_cons, List.length_nil]; omega)) ?_; conv => whnf) | ((with_reducible first | refine branch_tt ?_ | refine branch_ff ?_); conv => whnf) | (with_reducible refine branch_not ?_) | ((with_reducible first | refine slc_e ?_ | refine callS_a ?_ | refine bld_a ?_ | refine own_e ?_ | refine mkmap_b ?_ | refine lnk_a ?_); conv => whnf)))
      refine ⟨k + 1, ⟨by omega, fun i y hi hy => ?_⟩, le_mk ⟨rfl, rfl, rfl, rfl, trivial⟩ trivial rfl, by omega⟩
      rcases Nat.lt_or_ge i k with h' | h'
      · exact hall i y h' hy
      · obtain rfl : i = k := by omega
        rw [hx] at hy; injection hy with hy; subst hy; exact he
  · (conv => whnf); (repeat (first | (refine arith_i ⟨by omega, by omega⟩ ?_; conv => whnf) | (refine need_i (by first | omega | (simp only [List.length_append, List.length_cons, List.length_nil]; omega)) ?_; conv => whnf) | ((with_reducible first | refine branch_tt ?_ | refine branch_ff ?_); conv => whnf) | (with_reducible refine branch_not ?_) | ((with_reducible first | refine slc_e ?_ | refine callS_a ?_ | refine bld_a ?_ | refine own_e ?_ | refine mkmap_b ?_ | refine lnk_a ?_); conv => whnf)))
    refine ret_p rfl (int_eq ?_)
    have : l.findIdx? (fun x => p == x) = none := by
      rw [List.findIdx?_eq_none_iff]
      intro x hx
      obtain ⟨i, hi, e⟩ := List.mem_iff_getElem.1 hx
      exact hall i x (by omega) (by rw [← e]; exact List.getElem?_eq_getElem hi)
    rw [idxP, this]
theorem idxP_any (l : List Int) (p : Int) : decide (idxP l p ≥ 0) = hasP l p := by
  unfold idxP hasP
  split
  · next i h =>
    obtain ⟨h1, h2, -⟩ := List.findIdx?_eq_some_iff_getElem.1 h
    rw [List.any_eq_true.2 ⟨_, List.getElem_mem h1, h2⟩]
    simp
  · next h =>
    rw [List.findIdx?_eq_none_iff] at h
    rw [List.any_eq_false.2 (fun x hx => by rw [h x hx]; simp)]
    rfl
theorem contains_ok (l : List Int) (p : Int) (hl : l.length ≤ 1000000) : Good Try.prog TT false 39 [ints l, .int .i64 p] (· = .bool (hasP l p)) := by
  refine good_of mixed tabOk Try.func39 rfl rfl Try.ntmps39 Try.results39 rfl rfl ?_
  (conv => whnf); (repeat (first | (refine arith_i ⟨by omega, by omega⟩ ?_; conv => whnf) | (refine need_i (by first | omega | (simp only [List.length_append, List.length_cons, List.length_nil]; omega)) ?_; conv => whnf) | ((with_reducible first | refine branch_tt ?_ | refine branch_ff ?_); conv => whnf) | (with_reducible refine branch_not ?_) | ((with_reducible first | refine slc_e ?_ | refine callS_a ?_ | refine bld_a ?_ | refine own_e ?_ | refine mkmap_b ?_ | refine lnk_a ?_); conv => whnf)))
  refine call_e (index_ok l p hl) ?_
  (conv => whnf); (repeat (first | (refine arith_i ⟨by omega, by omega⟩ ?_; conv => whnf) | (refine need_i (by first | omega | (simp only [List.length_append, List.length_cons, List.length_nil]; omega)) ?_; conv => whnf) | ((with_reducible first | refine branch_tt ?_ | refine branch_ff ?_); conv => whnf) | (with_reducible refine branch_not ?_) | ((with_reducible first | refine slc_e ?_ | refine callS_a ?_ | refine bld_a ?_ | refine own_e ?_ | refine mkmap_b ?_ | refine lnk_a ?_); conv => whnf)))
  exact ret_p rfl (bool_eq (idxP_any l p))
theorem clone_ok (xs : List Int) (hl : xs.length ≤ 1000000) : Good Try.prog TT false 35 [ints xs] (· = .own 0 3 1 (xs.map encI)) := by
  have L : (xs.map encI).length = xs.length := List.length_map ..
  refine good_of mixed tabOk Try.func35 rfl rfl Try.ntmps35 Try.results35 rfl rfl ?_
  (conv => whnf); (repeat (first | (refine arith_i ⟨by omega, by omega⟩ ?_; conv => whnf) | (refine need_i (by first | omega | (simp only [List.length_append, List.length_cons, List.length_nil]; omega)) ?_; conv => whnf) | ((with_reducible first | refine branch_tt ?_ | refine branch_ff ?_); conv => whnf) | (with_reducible refine branch_not ?_) | ((with_reducible first | refine slc_e ?_ | refine callS_a ?_ | refine bld_a ?_ | refine own_e ?_ | refine mkmap_b ?_ | refine lnk_a ?_); conv => whnf)))
  refine nil_i (fun h => ?_) ?_
  · (conv => whnf); (repeat (first | (refine arith_i ⟨by omega, by omega⟩ ?_; conv => whnf) | (refine need_i (by first | omega | (simp only [List.length_append, List.length_cons, List.length_nil]; omega)) ?_; conv => whnf) | ((with_reducible first | refine branch_tt ?_ | refine branch_ff ?_); conv => whnf) | (with_reducible refine branch_not ?_) | ((with_reducible first | refine slc_e ?_ | refine callS_a ?_ | refine bld_a ?_ | refine own_e ?_ | refine mkmap_b ?_ | refine lnk_a ?_); conv => whnf)))
    exact ret_n (e := 3) (z := 1) (by rw [h])
  · (conv => whnf); (repeat (first | (refine arith_i ⟨by omega, by omega⟩ ?_; conv => whnf) | (refine need_i (by first | omega | (simp only [List.length_append, List.length_cons, List.length_nil]; omega)) ?_; conv => whnf) | ((with_reducible first | refine branch_tt ?_ | refine branch_ff ?_); conv => whnf) | (with_reducible refine branch_not ?_) | ((with_reducible first | refine slc_e ?_ | refine callS_a ?_ | refine bld_a ?_ | refine own_e ?_ | refine mkmap_b ?_ | refine lnk_a ?_); conv => whnf)))
    exact ret_o rfl
def ShortM (m : Mrk) : Prop := m.papers.length ≤ 1000
theorem mayMark_ok (m : Mrk) (s : Scr) (hm : ShortM m) : Good Try.prog TT false 73 [.agg (encM m), .agg (encR s)] (· = .bool (mayB m s)) := by
  refine good_of mixed tabOk Try.func73 rfl rfl Try.ntmps73 Try.results73 rfl rfl ?_
  (conv => whnf); (repeat (first | (refine arith_i ⟨by omega, by omega⟩ ?_; conv => whnf) | (refine need_i (by first | omega | (simp only [List.length_append, List.length_cons, List.length_nil]; omega)) ?_; conv => whnf) | ((with_reducible first | refine branch_tt ?_ | refine branch_ff ?_); conv => whnf) | (with_reducible refine branch_not ?_) | ((with_reducible first | refine slc_e ?_ | refine callS_a ?_ | refine bld_a ?_ | refine own_e ?_ | refine mkmap_b ?_ | refine lnk_a ?_); conv => whnf)))
  refine branch_n (fun h => ?_) (fun h => ?_)
  · (conv => whnf); (repeat (first | (refine arith_i ⟨by omega, by omega⟩ ?_; conv => whnf) | (refine need_i (by first | omega | (simp only [List.length_append, List.length_cons, List.length_nil]; omega)) ?_; conv => whnf) | ((with_reducible first | refine branch_tt ?_ | refine branch_ff ?_); conv => whnf) | (with_reducible refine branch_not ?_) | ((with_reducible first | refine slc_e ?_ | refine callS_a ?_ | refine bld_a ?_ | refine own_e ?_ | refine mkmap_b ?_ | refine lnk_a ?_); conv => whnf)))
    refine call_e (contains_ok m.papers s.paper (by unfold ShortM at hm; omega)) ?_
    (conv => whnf); (repeat (first | (refine arith_i ⟨by omega, by omega⟩ ?_; conv => whnf) | (refine need_i (by first | omega | (simp only [List.length_append, List.length_cons, List.length_nil]; omega)) ?_; conv => whnf) | ((with_reducible first | refine branch_tt ?_ | refine branch_ff ?_); conv => whnf) | (with_reducible refine branch_not ?_) | ((with_reducible first | refine slc_e ?_ | refine callS_a ?_ | refine bld_a ?_ | refine own_e ?_ | refine mkmap_b ?_ | refine lnk_a ?_); conv => whnf)))
    exact ret_p rfl (bool_eq (by simp [mayB, h]))
  · (conv => whnf); (repeat (first | (refine arith_i ⟨by omega, by omega⟩ ?_; conv => whnf) | (refine need_i (by first | omega | (simp only [List.length_append, List.length_cons, List.length_nil]; omega)) ?_; conv => whnf) | ((with_reducible first | refine branch_tt ?_ | refine branch_ff ?_); conv => whnf) | (with_reducible refine branch_not ?_) | ((with_reducible first | refine slc_e ?_ | refine callS_a ?_ | refine bld_a ?_ | refine own_e ?_ | refine mkmap_b ?_ | refine lnk_a ?_); conv => whnf)))
    exact ret_p rfl (bool_eq (by simp [mayB, h]))
def findM (l : List Mrk) (id : Int) : Option Mrk := l.find? (·.id == id)
def foundV (o : Option Mrk) : AV := match o with | some m => .tup [.agg (encM m), .bool true] | none => .tup [.agg (encM ⟨0, 0, 0, 0, []⟩), .bool false]
def ShortL (l : List Mrk) : Prop := l.length ≤ 1000 ∧ ∀ (k : Nat) (m : Mrk), l[k]? = some m → ShortM m
theorem find_ok (l : List Mrk) (id : Int) (hl : ShortL l) : Good Try.prog TT false 72 [mrksV l, .int .i64 id] (· = foundV (findM l id)) := by
  have L : (l.map encM).length = l.length := List.length_map ..
  obtain ⟨hl1, hl2⟩ := hl
  refine good_of mixed tabOk Try.func72 rfl rfl Try.ntmps72 Try.results72 rfl rfl ?_
  (conv => whnf); (repeat (first | (refine arith_i ⟨by omega, by omega⟩ ?_; conv => whnf) | (refine need_i (by first | omega | (simp only [List.length_append, List.length_cons, List.length_nil]; omega)) ?_; conv => whnf) | ((with_reducible first | refine branch_tt ?_ | refine branch_ff ?_); conv => whnf) | (with_reducible refine branch_not ?_) | ((with_reducible first | refine slc_e ?_ | refine callS_a ?_ | refine bld_a ?_ | refine own_e ?_ | refine mkmap_b ?_ | refine lnk_a ?_); conv => whnf)))
  refine loop_i (fun k : Nat => k ≤ l.length ∧ ∀ i x, i < k → l[i]? = some x → (x.id == id) = false) (fun k => mkSt [(1, .int .i64 id), (4, .ptr 4 0), (8, mrksV l), (9, .int .i64 (l.map encM).length), (10, .int .i64 k)] [(4, [.int .i64 0, .int .i64 0, .int .i64 0, .int .i64 0, .nil])] false) (fun k => l.length - k) 0 ⟨Nat.zero_le _, nofun⟩ (le_mk ⟨rfl, rfl, rfl, rfl, rfl, trivial⟩ ⟨rfl, trivial⟩ rfl) ?_
  rintro k ⟨hk, hall⟩
  (conv => whnf); (repeat (first | (refine arith_i ⟨by omega, by omega⟩ ?_; conv => whnf) | (refine need_i (by first | omega | (simp only [List.length_append, List.length_cons, List.length_nil]; omega)) ?_; conv => whnf) | ((with_reducible first | refine branch_tt ?_ | refine branch_ff ?_); conv => whnf) | (with_reducible refine branch_not ?_) | ((with_reducible first | refine slc_e ?_ | refine callS_a ?_ | refine bld_a ?_ | refine own_e ?_ | refine mkmap_b ?_ | refine lnk_a ?_); conv => whnf)))
  refine branch_d (fun h => ?_) (fun h => ?_)
  · (conv => whnf); (repeat (first | (refine arith_i ⟨by omega, by omega⟩ ?_; conv => whnf) | (refine need_i (by first | omega | (simp only [List.length_append, List.length_cons, List.length_nil]; omega)) ?_; conv => whnf) | ((with_reducible first | refine branch_tt ?_ | refine branch_ff ?_); conv => whnf) | (with_reducible refine branch_not ?_) | ((with_reducible first | refine slc_e ?_ | refine callS_a ?_ | refine bld_a ?_ | refine own_e ?_ | refine mkmap_b ?_ | refine lnk_a ?_); conv => whnf)))
    refine idx_m (by omega) (by omega) fun m hm => ?_
    rw [Int.toNat_natCast] at hm
    (conv => whnf); (repeat (first | (refine arith_i ⟨by omega, by omega⟩ ?_; conv => whnf) | (refine need_i (by first | omega | (simp only [List.length_append, List.length_cons, List.length_nil]; omega)) ?_; conv => whnf) | ((with_reducible first | refine branch_tt ?_ | refine branch_ff ?_); conv => whnf) | (with_reducible refine branch_not ?_) | ((with_reducible first | refine slc_e ?_ | refine callS_a ?_ | refine bld_a ?_ | refine own_e ?_ | refine mkmap_b ?_ | refine lnk_a ?_); conv => whnf)))
    refine branch_e (fun he => ?_) (fun he => ?_)
    · (conv => whnf); (repeat (first | (refine arith_i ⟨by omega, by omega⟩ ?_; conv => whnf) | (refine need_i (by first | omega | (simp only [List.length_append, List.length_cons, List.length_nil]; omega)) ?_; conv => whnf) | ((with_reducible first | refine branch_tt ?_ | refine branch_ff ?_); conv => whnf) | (with_reducible refine branch_not ?_) | ((with_reducible first | refine slc_e ?_ | refine callS_a ?_ | refine bld_a ?_ | refine own_e ?_ | refine mkmap_b ?_ | refine lnk_a ?_); conv => whnf)))
      refine call_e (clone_ok m.papers (by have := hl2 k m hm; unfold ShortM at this; omega)) ?_
      (conv => whnf); (repeat (first | (refine arith_i ⟨by omega, by omega⟩ ?_; conv => whnf) | (refine need_i (by first | omega | (simp only [List.length_append, List.length_cons, List.length_nil]; omega)) ?_; conv => whnf) | ((with_reducible first | refine branch_tt ?_ | refine branch_ff ?_); conv => whnf) | (with_reducible refine branch_not ?_) | ((with_reducible first | refine slc_e ?_ | refine callS_a ?_ | refine bld_a ?_ | refine own_e ?_ | refine mkmap_b ?_ | refine lnk_a ?_); conv => whnf)))
      have e : findM l id = some m := by
        unfold findM
        rw [List.find?_eq_some_iff_getElem]
        obtain ⟨h1, h2⟩ := List.getElem?_eq_some_iff.1 hm
        exact ⟨by simp [he], k, h1, h2, fun j hj => by rw [hall j _ hj (List.getElem?_eq_getElem (by omega))]; rfl⟩
      exact ret_t (rs := [.agg (encM m), .bool true]) ⟨.inr ⟨_, _, rfl, rfl, rc_p rfl, rc_p rfl, rc_p rfl, rc_p rfl, rc_o, trivial⟩, (rc_p rfl).g, trivial⟩ (by rw [e]; rfl)
    · (conv => whnf); (repeat (first | (refine arith_i ⟨by omega, by omega⟩ ?_; conv => whnf) | (refine need_i (by first | omega | (simp only [List.length_append, List.length_cons, List.length_nil]; omega)) ?_; conv => whnf) | ((with_reducible first | refine branch_tt ?_ | refine branch_ff ?_); conv => whnf) | (with_reducible refine branch_not ?_) | ((with_reducible first | refine slc_e ?_ | refine callS_a ?_ | refine bld_a ?_ | refine own_e ?_ | refine mkmap_b ?_ | refine lnk_a ?_); conv => whnf)))
      refine ⟨k + 1, ⟨by omega, fun i y hi hy => ?_⟩, le_mk ⟨rfl, rfl, rfl, rfl, rfl, trivial⟩ ⟨rfl, trivial⟩ rfl, by omega⟩
      rcases Nat.lt_or_ge i k with h' | h'
      · exact hall i y h' hy
      · obtain rfl : i = k := by omega
        rw [hm] at hy; injection hy with hy; subst hy; simpa using he
  · (conv => whnf); (repeat (first | (refine arith_i ⟨by omega, by omega⟩ ?_; conv => whnf) | (refine need_i (by first | omega | (simp only [List.length_append, List.length_cons, List.length_nil]; omega)) ?_; conv => whnf) | ((with_reducible first | refine branch_tt ?_ | refine branch_ff ?_); conv => whnf) | (with_reducible refine branch_not ?_) | ((with_reducible first | refine slc_e ?_ | refine callS_a ?_ | refine bld_a ?_ | refine own_e ?_ | refine mkmap_b ?_ | refine lnk_a ?_); conv => whnf)))
    have e : findM l id = none := by
      unfold findM
      rw [List.find?_eq_none]
      intro x hx
      obtain ⟨i, hi, e⟩ := List.mem_iff_getElem.1 hx
      rw [hall i x (by omega) (by rw [← e]; exact List.getElem?_eq_getElem hi)]; simp
    exact ret_t (rs := [.agg (encM ⟨0, 0, 0, 0, []⟩), .bool false]) ⟨.inr ⟨_, _, rfl, rfl, rc_p rfl, rc_p rfl, rc_p rfl, rc_p rfl, rc_n, trivial⟩, (rc_p rfl).g, trivial⟩ (by rw [e]; rfl)
def eligB (l : List Mrk) (id : Int) (s : Scr) : Bool := match findM l id with | some m => mayB m s | none => false
theorem eligible_ok (l : List Mrk) (id : Int) (s : Scr) (hl : ShortL l) : Good Try.prog TT false 63 [mrksV l, .int .i64 id, .agg (encR s)] (· = .bool (eligB l id s)) := by
  refine good_of mixed tabOk Try.func63 rfl rfl Try.ntmps63 Try.results63 rfl rfl ?_
  (conv => whnf); (repeat (first | (refine arith_i ⟨by omega, by omega⟩ ?_; conv => whnf) | (refine need_i (by first | omega | (simp only [List.length_append, List.length_cons, List.length_nil]; omega)) ?_; conv => whnf) | ((with_reducible first | refine branch_tt ?_ | refine branch_ff ?_); conv => whnf) | (with_reducible refine branch_not ?_) | ((with_reducible first | refine slc_e ?_ | refine callS_a ?_ | refine bld_a ?_ | refine own_e ?_ | refine mkmap_b ?_ | refine lnk_a ?_); conv => whnf)))
  refine call_e (find_ok l id hl) ?_
  unfold eligB
  cases hf : findM l id with
  | some m =>
    have hm : ShortM m := by
      have := List.mem_of_find?_eq_some hf
      obtain ⟨i, hi, e⟩ := List.mem_iff_getElem.1 this
      exact hl.2 i m (by rw [← e]; exact List.getElem?_eq_getElem hi)
    (conv => whnf); (repeat (first | (refine arith_i ⟨by omega, by omega⟩ ?_; conv => whnf) | (refine need_i (by first | omega | (simp only [List.length_append, List.length_cons, List.length_nil]; omega)) ?_; conv => whnf) | ((with_reducible first | refine branch_tt ?_ | refine branch_ff ?_); conv => whnf) | (with_reducible refine branch_not ?_) | ((with_reducible first | refine slc_e ?_ | refine callS_a ?_ | refine bld_a ?_ | refine own_e ?_ | refine mkmap_b ?_ | refine lnk_a ?_); conv => whnf)))
    refine call_e (mayMark_ok m s hm) ?_
    (conv => whnf); (repeat (first | (refine arith_i ⟨by omega, by omega⟩ ?_; conv => whnf) | (refine need_i (by first | omega | (simp only [List.length_append, List.length_cons, List.length_nil]; omega)) ?_; conv => whnf) | ((with_reducible first | refine branch_tt ?_ | refine branch_ff ?_); conv => whnf) | (with_reducible refine branch_not ?_) | ((with_reducible first | refine slc_e ?_ | refine callS_a ?_ | refine bld_a ?_ | refine own_e ?_ | refine mkmap_b ?_ | refine lnk_a ?_); conv => whnf)))
    exact ret_p rfl rfl
  | none =>
    (conv => whnf); (repeat (first | (refine arith_i ⟨by omega, by omega⟩ ?_; conv => whnf) | (refine need_i (by first | omega | (simp only [List.length_append, List.length_cons, List.length_nil]; omega)) ?_; conv => whnf) | ((with_reducible first | refine branch_tt ?_ | refine branch_ff ?_); conv => whnf) | (with_reducible refine branch_not ?_) | ((with_reducible first | refine slc_e ?_ | refine callS_a ?_ | refine bld_a ?_ | refine own_e ?_ | refine mkmap_b ?_ | refine lnk_a ?_); conv => whnf)))
    exact ret_p rfl rfl
end Go.Proofs.Ythgnomniboindaa
end

/- (For the seats with the dice.) More moves of the interpreter: elements of lists of encoded data. -/
section
namespace Go.Proofs.Ythgnomniboindaa
set_option linter.unusedVariables false
set_option linter.unusedSimpArgs false
set_option linter.unnecessarySimpa false
set_option linter.unusedSectionVars false
set_option maxRecDepth 10000
open Go.RowKit
theorem idx_c {α : Type} {enc : α → List AV} {xs : List α} {k : Nat} {K : List AV → Prop} (h1 : k < xs.length) (h : ∀ x, xs[k]? = some x → K (enc x)) : idx (xs.map enc) (k : Int) K :=
  idx_m (by omega) (by omega) fun x hx => h x (by rwa [Int.toNat_natCast] at hx)
theorem idx_cs {α : Type} {enc : α → List AV} {xs : List α} {k : Nat} {x : α} {K : List AV → Prop} (h1 : xs[k]? = some x) (h : K (enc x)) : idx (xs.map enc) (k : Int) K :=
  idx_i (by omega) (by rw [Int.toNat_natCast, List.getElem?_map, h1]; rfl) h
theorem idx_ms {α : Type} {enc : α → List AV} {xs : List α} {n : Int} {x : α} {K : List AV → Prop} (h0 : 0 ≤ n) (h1 : xs[n.toNat]? = some x) (h : K (enc x)) : idx (xs.map enc) n K :=
  idx_i h0 (by rw [List.getElem?_map, h1]; rfl) h
theorem drop_at {α : Type} {xs : List α} {k : Nat} {x : α} (h : xs[k]? = some x) : xs.drop k = x :: xs.drop (k + 1) := by
  obtain ⟨h1, h2⟩ := List.getElem?_eq_some_iff.1 h
  rw [List.drop_eq_getElem_cons h1, h2]
structure Hid (p : Prop) : Prop where
  out : p
section
variable {P : Program} {T : Nat → Ty} {tt : Nat}
theorem loop_i2 {α β : Type} {s : St} (I : α → β → Prop) (st : α → β → St) (μ : α → β → Nat) {body : (Ex → St → Prop) → St → Prop} {Q : Ex → St → Prop} (a0 : α) (b0 : β) (h0 : I a0 b0) (hle : Le tt s (st a0 b0))
    (h : ∀ a b, I a b → body (fun e s' => match e with | .norm => ∃ a' b', I a' b' ∧ Le tt s' (st a' b') ∧ μ a' b' < μ a b | .exit i => Q (.exit i) s' | .ret => Q .ret s') (st a b)) : aloop tt body Q s :=
  loop_i (fun x : α × β => I x.1 x.2) (fun x => st x.1 x.2) (fun x => μ x.1 x.2) (a0, b0) h0 hle fun x hx => by
    refine Eq.mp (congrArg (fun K => body K (st x.1 x.2)) (funext fun e => funext fun s' => ?_)) (h x.1 x.2 hx)
    cases e <;> first | rfl | simp only [Prod.exists]
theorem loop_i3 {α β γ : Type} {s : St} (I : α → β → γ → Prop) (st : α → β → γ → St) (μ : α → β → γ → Nat) {body : (Ex → St → Prop) → St → Prop} {Q : Ex → St → Prop} (a0 : α) (b0 : β) (c0 : γ) (h0 : I a0 b0 c0) (hle : Le tt s (st a0 b0 c0))
    (h : ∀ a b c, I a b c → body (fun e s' => match e with | .norm => ∃ a' b' c', I a' b' c' ∧ Le tt s' (st a' b' c') ∧ μ a' b' c' < μ a b c | .exit i => Q (.exit i) s' | .ret => Q .ret s') (st a b c)) : aloop tt body Q s :=
  loop_i (fun x : α × β × γ => I x.1 x.2.1 x.2.2) (fun x => st x.1 x.2.1 x.2.2) (fun x => μ x.1 x.2.1 x.2.2) (a0, b0, c0) h0 hle fun x hx => by
    refine Eq.mp (congrArg (fun K => body K (st x.1 x.2.1 x.2.2)) (funext fun e => funext fun s' => ?_)) (h x.1 x.2.1 x.2.2 hx)
    cases e <;> first | rfl | simp only [Prod.exists]
end
end Go.Proofs.Ythgnomniboindaa
end

/- Layer 24 again, for the layers 25 and 26: Layer 24 by the interpreter: Check and CheckScripts, where all is right and at the limits; the example of the chapter. -/
section
namespace Go.Proofs.Ythgnomniboindaa
set_option linter.unusedVariables false
set_option linter.unusedSimpArgs false
set_option linter.unnecessarySimpa false
set_option linter.unusedSectionVars false
set_option maxRecDepth 10000
open Go.RowKit
def AscM (l : List Mrk) : Prop := ∀ (i j : Nat) (a b : Mrk), i < j → l[i]? = some a → l[j]? = some b → a.id < b.id

def papB (n : Int) : Bool := decide (0 ≤ n) && decide (n ≤ 31)
theorem isPaper_ok (n : Int) : Good Try.prog TT false 56 [.int .i64 n] (· = .bool (papB n)) := by
  refine good_of mixed tabOk Try.func56 rfl rfl Try.ntmps56 Try.results56 rfl rfl ?_
  (conv => whnf); (repeat (first | (refine arith_i ⟨by omega, by omega⟩ ?_; conv => whnf) | (refine need_i (by first | omega | (simp only [List.length_append, List.length_cons, List.length_nil]; omega)) ?_; conv => whnf) | ((with_reducible first | refine branch_tt ?_ | refine branch_ff ?_); conv => whnf) | (with_reducible refine branch_not ?_) | ((with_reducible first | refine slc_e ?_ | refine callS_a ?_ | refine bld_a ?_ | refine own_e ?_ | refine mkmap_b ?_ | refine lnk_a ?_); conv => whnf)))
  refine branch_d (fun h => ?_) (fun h => ?_)
  · (conv => whnf); (repeat (first | (refine arith_i ⟨by omega, by omega⟩ ?_; conv => whnf) | (refine need_i (by first | omega | (simp only [List.length_append, List.length_cons, List.length_nil]; omega)) ?_; conv => whnf) | ((with_reducible first | refine branch_tt ?_ | refine branch_ff ?_); conv => whnf) | (with_reducible refine branch_not ?_) | ((with_reducible first | refine slc_e ?_ | refine callS_a ?_ | refine bld_a ?_ | refine own_e ?_ | refine mkmap_b ?_ | refine lnk_a ?_); conv => whnf)))
    exact ret_p rfl (bool_eq (by simp [papB]; omega))
  · (conv => whnf); (repeat (first | (refine arith_i ⟨by omega, by omega⟩ ?_; conv => whnf) | (refine need_i (by first | omega | (simp only [List.length_append, List.length_cons, List.length_nil]; omega)) ?_; conv => whnf) | ((with_reducible first | refine branch_tt ?_ | refine branch_ff ?_); conv => whnf) | (with_reducible refine branch_not ?_) | ((with_reducible first | refine slc_e ?_ | refine callS_a ?_ | refine bld_a ?_ | refine own_e ?_ | refine mkmap_b ?_ | refine lnk_a ?_); conv => whnf)))
    exact ret_p rfl (bool_eq (by simp [papB]; omega))
theorem notPaper_ok (n : Int) : Good Try.prog TT false 77 [.int .i64 n] (· = .bool (!papB n)) := by
  refine good_of mixed tabOk Try.func77 rfl rfl Try.ntmps77 Try.results77 rfl rfl ?_
  (conv => whnf); (repeat (first | (refine arith_i ⟨by omega, by omega⟩ ?_; conv => whnf) | (refine need_i (by first | omega | (simp only [List.length_append, List.length_cons, List.length_nil]; omega)) ?_; conv => whnf) | ((with_reducible first | refine branch_tt ?_ | refine branch_ff ?_); conv => whnf) | (with_reducible refine branch_not ?_) | ((with_reducible first | refine slc_e ?_ | refine callS_a ?_ | refine bld_a ?_ | refine own_e ?_ | refine mkmap_b ?_ | refine lnk_a ?_); conv => whnf)))
  refine call_e (isPaper_ok n) ?_
  (conv => whnf); (repeat (first | (refine arith_i ⟨by omega, by omega⟩ ?_; conv => whnf) | (refine need_i (by first | omega | (simp only [List.length_append, List.length_cons, List.length_nil]; omega)) ?_; conv => whnf) | ((with_reducible first | refine branch_tt ?_ | refine branch_ff ?_); conv => whnf) | (with_reducible refine branch_not ?_) | ((with_reducible first | refine slc_e ?_ | refine callS_a ?_ | refine bld_a ?_ | refine own_e ?_ | refine mkmap_b ?_ | refine lnk_a ?_); conv => whnf)))
  exact ret_p rfl rfl
theorem indexFunc_ok (l : List Int) (hl : l.length ≤ 1000) (hg : ∀ (k : Nat) (x : Int), l[k]? = some x → papB x = true) : Good Try.prog TT false 89 [ints l, .fn 77 []] (· = .int .i64 (-1)) := by
  have L : (l.map encI).length = l.length := List.length_map ..
  refine good_of mixed tabOk Try.func89 rfl rfl Try.ntmps89 Try.results89 rfl rfl ?_
  (conv => whnf); (repeat (first | (refine arith_i ⟨by omega, by omega⟩ ?_; conv => whnf) | (refine need_i (by first | omega | (simp only [List.length_append, List.length_cons, List.length_nil]; omega)) ?_; conv => whnf) | ((with_reducible first | refine branch_tt ?_ | refine branch_ff ?_); conv => whnf) | (with_reducible refine branch_not ?_) | ((with_reducible first | refine slc_e ?_ | refine callS_a ?_ | refine bld_a ?_ | refine own_e ?_ | refine mkmap_b ?_ | refine lnk_a ?_); conv => whnf)))
  refine loop_i (fun k : Nat => k ≤ l.length) (fun k => mkSt [(0, ints l), (1, .fn 77 []), (7, .int .i64 (l.map encI).length), (8, .int .i64 k)] [] false) (fun k => l.length - k) 0 (Nat.zero_le _) (le_mk ⟨rfl, rfl, rfl, rfl, trivial⟩ trivial rfl) ?_
  intro k hk
  (conv => whnf); (repeat (first | (refine arith_i ⟨by omega, by omega⟩ ?_; conv => whnf) | (refine need_i (by first | omega | (simp only [List.length_append, List.length_cons, List.length_nil]; omega)) ?_; conv => whnf) | ((with_reducible first | refine branch_tt ?_ | refine branch_ff ?_); conv => whnf) | (with_reducible refine branch_not ?_) | ((with_reducible first | refine slc_e ?_ | refine callS_a ?_ | refine bld_a ?_ | refine own_e ?_ | refine mkmap_b ?_ | refine lnk_a ?_); conv => whnf)))
  refine branch_d (fun h => ?_) (fun h => ?_)
  · (conv => whnf); (repeat (first | (refine arith_i ⟨by omega, by omega⟩ ?_; conv => whnf) | (refine need_i (by first | omega | (simp only [List.length_append, List.length_cons, List.length_nil]; omega)) ?_; conv => whnf) | ((with_reducible first | refine branch_tt ?_ | refine branch_ff ?_); conv => whnf) | (with_reducible refine branch_not ?_) | ((with_reducible first | refine slc_e ?_ | refine callS_a ?_ | refine bld_a ?_ | refine own_e ?_ | refine mkmap_b ?_ | refine lnk_a ?_); conv => whnf)))
    refine idx_m (by omega) (by omega) fun x hx => ?_
    rw [Int.toNat_natCast] at hx
    (conv => whnf); (repeat (first | (refine arith_i ⟨by omega, by omega⟩ ?_; conv => whnf) | (refine need_i (by first | omega | (simp only [List.length_append, List.length_cons, List.length_nil]; omega)) ?_; conv => whnf) | ((with_reducible first | refine branch_tt ?_ | refine branch_ff ?_); conv => whnf) | (with_reducible refine branch_not ?_) | ((with_reducible first | refine slc_e ?_ | refine callS_a ?_ | refine bld_a ?_ | refine own_e ?_ | refine mkmap_b ?_ | refine lnk_a ?_); conv => whnf)))
    refine call_e ((notPaper_ok x).mono fun r h => h.trans (bool_eq (by rw [hg k x hx]; rfl : (!papB x) = false))) ?_
    (conv => whnf); (repeat (first | (refine arith_i ⟨by omega, by omega⟩ ?_; conv => whnf) | (refine need_i (by first | omega | (simp only [List.length_append, List.length_cons, List.length_nil]; omega)) ?_; conv => whnf) | ((with_reducible first | refine branch_tt ?_ | refine branch_ff ?_); conv => whnf) | (with_reducible refine branch_not ?_) | ((with_reducible first | refine slc_e ?_ | refine callS_a ?_ | refine bld_a ?_ | refine own_e ?_ | refine mkmap_b ?_ | refine lnk_a ?_); conv => whnf)))
    exact ⟨k + 1, by omega, le_mk ⟨rfl, rfl, rfl, rfl, trivial⟩ trivial rfl, by omega⟩
  · (conv => whnf); (repeat (first | (refine arith_i ⟨by omega, by omega⟩ ?_; conv => whnf) | (refine need_i (by first | omega | (simp only [List.length_append, List.length_cons, List.length_nil]; omega)) ?_; conv => whnf) | ((with_reducible first | refine branch_tt ?_ | refine branch_ff ?_); conv => whnf) | (with_reducible refine branch_not ?_) | ((with_reducible first | refine slc_e ?_ | refine callS_a ?_ | refine bld_a ?_ | refine own_e ?_ | refine mkmap_b ?_ | refine lnk_a ?_); conv => whnf)))
    exact ret_p rfl rfl
theorem containsFunc_ok (l : List Int) (hl : l.length ≤ 1000) (hg : ∀ (k : Nat) (x : Int), l[k]? = some x → papB x = true) : Good Try.prog TT false 76 [ints l, .fn 77 []] (· = .bool false) := by
  refine good_of mixed tabOk Try.func76 rfl rfl Try.ntmps76 Try.results76 rfl rfl ?_
  (conv => whnf); (repeat (first | (refine arith_i ⟨by omega, by omega⟩ ?_; conv => whnf) | (refine need_i (by first | omega | (simp only [List.length_append, List.length_cons, List.length_nil]; omega)) ?_; conv => whnf) | ((with_reducible first | refine branch_tt ?_ | refine branch_ff ?_); conv => whnf) | (with_reducible refine branch_not ?_) | ((with_reducible first | refine slc_e ?_ | refine callS_a ?_ | refine bld_a ?_ | refine own_e ?_ | refine mkmap_b ?_ | refine lnk_a ?_); conv => whnf)))
  refine call_e (indexFunc_ok l hl hg) ?_
  (conv => whnf); (repeat (first | (refine arith_i ⟨by omega, by omega⟩ ?_; conv => whnf) | (refine need_i (by first | omega | (simp only [List.length_append, List.length_cons, List.length_nil]; omega)) ?_; conv => whnf) | ((with_reducible first | refine branch_tt ?_ | refine branch_ff ?_); conv => whnf) | (with_reducible refine branch_not ?_) | ((with_reducible first | refine slc_e ?_ | refine callS_a ?_ | refine bld_a ?_ | refine own_e ?_ | refine mkmap_b ?_ | refine lnk_a ?_); conv => whnf)))
  exact ret_p rfl rfl
structure GoodMk (m : Mrk) : Prop where
  id : 1 ≤ m.id ∧ m.id ≤ 99
  centre : -1 ≤ m.centre ∧ m.centre ≤ 99
  level : 1 ≤ m.level ∧ m.level ≤ 3
  cap : 0 ≤ m.cap ∧ m.cap ≤ 60
  pap : ∀ (k : Nat) (x : Int), m.papers[k]? = some x → papB x = true
  asc : ∀ i : Nat, 0 < i → i < m.papers.length → nth m.papers (i - 1) < nth m.papers i
  len : m.papers.length ≤ 1000
theorem validMarker_ok (m : Mrk) (g : GoodMk m) : Good Try.prog TT false 70 [.agg (encM m)] (· = .bool true) := by
  obtain ⟨g1, g2, g3, g4, g5, g6, g7⟩ := g
  refine good_of mixed tabOk Try.func70 rfl rfl Try.ntmps70 Try.results70 rfl rfl ?_
  (conv => whnf); (repeat (first | (refine arith_i ⟨by omega, by omega⟩ ?_; conv => whnf) | (refine need_i (by first | omega | (simp only [List.length_append, List.length_cons, List.length_nil]; omega)) ?_; conv => whnf) | ((with_reducible first | refine branch_tt ?_ | refine branch_ff ?_); conv => whnf) | (with_reducible refine branch_not ?_) | ((with_reducible first | refine slc_e ?_ | refine callS_a ?_ | refine bld_a ?_ | refine own_e ?_ | refine mkmap_b ?_ | refine lnk_a ?_); conv => whnf)))
  refine branch_f (by simp; omega) ?_
  (conv => whnf); (repeat (first | (refine arith_i ⟨by omega, by omega⟩ ?_; conv => whnf) | (refine need_i (by first | omega | (simp only [List.length_append, List.length_cons, List.length_nil]; omega)) ?_; conv => whnf) | ((with_reducible first | refine branch_tt ?_ | refine branch_ff ?_); conv => whnf) | (with_reducible refine branch_not ?_) | ((with_reducible first | refine slc_e ?_ | refine callS_a ?_ | refine bld_a ?_ | refine own_e ?_ | refine mkmap_b ?_ | refine lnk_a ?_); conv => whnf)))
  refine branch_f (by simp; omega) ?_
  (conv => whnf); (repeat (first | (refine arith_i ⟨by omega, by omega⟩ ?_; conv => whnf) | (refine need_i (by first | omega | (simp only [List.length_append, List.length_cons, List.length_nil]; omega)) ?_; conv => whnf) | ((with_reducible first | refine branch_tt ?_ | refine branch_ff ?_); conv => whnf) | (with_reducible refine branch_not ?_) | ((with_reducible first | refine slc_e ?_ | refine callS_a ?_ | refine bld_a ?_ | refine own_e ?_ | refine mkmap_b ?_ | refine lnk_a ?_); conv => whnf)))
  refine branch_f (by simp; omega) ?_
  (conv => whnf); (repeat (first | (refine arith_i ⟨by omega, by omega⟩ ?_; conv => whnf) | (refine need_i (by first | omega | (simp only [List.length_append, List.length_cons, List.length_nil]; omega)) ?_; conv => whnf) | ((with_reducible first | refine branch_tt ?_ | refine branch_ff ?_); conv => whnf) | (with_reducible refine branch_not ?_) | ((with_reducible first | refine slc_e ?_ | refine callS_a ?_ | refine bld_a ?_ | refine own_e ?_ | refine mkmap_b ?_ | refine lnk_a ?_); conv => whnf)))
  refine branch_f (by simp; omega) ?_
  (conv => whnf); (repeat (first | (refine arith_i ⟨by omega, by omega⟩ ?_; conv => whnf) | (refine need_i (by first | omega | (simp only [List.length_append, List.length_cons, List.length_nil]; omega)) ?_; conv => whnf) | ((with_reducible first | refine branch_tt ?_ | refine branch_ff ?_); conv => whnf) | (with_reducible refine branch_not ?_) | ((with_reducible first | refine slc_e ?_ | refine callS_a ?_ | refine bld_a ?_ | refine own_e ?_ | refine mkmap_b ?_ | refine lnk_a ?_); conv => whnf)))
  refine branch_f (by simp; omega) ?_
  (conv => whnf); (repeat (first | (refine arith_i ⟨by omega, by omega⟩ ?_; conv => whnf) | (refine need_i (by first | omega | (simp only [List.length_append, List.length_cons, List.length_nil]; omega)) ?_; conv => whnf) | ((with_reducible first | refine branch_tt ?_ | refine branch_ff ?_); conv => whnf) | (with_reducible refine branch_not ?_) | ((with_reducible first | refine slc_e ?_ | refine callS_a ?_ | refine bld_a ?_ | refine own_e ?_ | refine mkmap_b ?_ | refine lnk_a ?_); conv => whnf)))
  refine branch_f (by simp; omega) ?_
  (conv => whnf); (repeat (first | (refine arith_i ⟨by omega, by omega⟩ ?_; conv => whnf) | (refine need_i (by first | omega | (simp only [List.length_append, List.length_cons, List.length_nil]; omega)) ?_; conv => whnf) | ((with_reducible first | refine branch_tt ?_ | refine branch_ff ?_); conv => whnf) | (with_reducible refine branch_not ?_) | ((with_reducible first | refine slc_e ?_ | refine callS_a ?_ | refine bld_a ?_ | refine own_e ?_ | refine mkmap_b ?_ | refine lnk_a ?_); conv => whnf)))
  refine branch_f (by simp; omega) ?_
  (conv => whnf); (repeat (first | (refine arith_i ⟨by omega, by omega⟩ ?_; conv => whnf) | (refine need_i (by first | omega | (simp only [List.length_append, List.length_cons, List.length_nil]; omega)) ?_; conv => whnf) | ((with_reducible first | refine branch_tt ?_ | refine branch_ff ?_); conv => whnf) | (with_reducible refine branch_not ?_) | ((with_reducible first | refine slc_e ?_ | refine callS_a ?_ | refine bld_a ?_ | refine own_e ?_ | refine mkmap_b ?_ | refine lnk_a ?_); conv => whnf)))
  refine branch_f (by simp; omega) ?_
  (conv => whnf); (repeat (first | (refine arith_i ⟨by omega, by omega⟩ ?_; conv => whnf) | (refine need_i (by first | omega | (simp only [List.length_append, List.length_cons, List.length_nil]; omega)) ?_; conv => whnf) | ((with_reducible first | refine branch_tt ?_ | refine branch_ff ?_); conv => whnf) | (with_reducible refine branch_not ?_) | ((with_reducible first | refine slc_e ?_ | refine callS_a ?_ | refine bld_a ?_ | refine own_e ?_ | refine mkmap_b ?_ | refine lnk_a ?_); conv => whnf)))
  refine call_e (containsFunc_ok m.papers g7 g5) ?_
  (conv => whnf); (repeat (first | (refine arith_i ⟨by omega, by omega⟩ ?_; conv => whnf) | (refine need_i (by first | omega | (simp only [List.length_append, List.length_cons, List.length_nil]; omega)) ?_; conv => whnf) | ((with_reducible first | refine branch_tt ?_ | refine branch_ff ?_); conv => whnf) | (with_reducible refine branch_not ?_) | ((with_reducible first | refine slc_e ?_ | refine callS_a ?_ | refine bld_a ?_ | refine own_e ?_ | refine mkmap_b ?_ | refine lnk_a ?_); conv => whnf)))
  exact ret_p rfl rfl
theorem nth_eq {l : List Int} {k : Nat} {x : Int} (h : l[k]? = some x) : nth l k = x := by simp [nth, List.getD_eq_getElem?_getD, h]
theorem ascend_ok (l : List Int) (hl : l.length ≤ 1000) (hA : ∀ i : Nat, 0 < i → i < l.length → nth l (i - 1) < nth l i) : Good Try.prog TT false 71 [ints l] (· = .bool true) := by
  have L : (l.map encI).length = l.length := List.length_map ..
  refine good_of mixed tabOk Try.func71 rfl rfl Try.ntmps71 Try.results71 rfl rfl ?_
  (conv => whnf); (repeat (first | (refine arith_i ⟨by omega, by omega⟩ ?_; conv => whnf) | (refine need_i (by first | omega | (simp only [List.length_append, List.length_cons, List.length_nil]; omega)) ?_; conv => whnf) | ((with_reducible first | refine branch_tt ?_ | refine branch_ff ?_); conv => whnf) | (with_reducible refine branch_not ?_) | ((with_reducible first | refine slc_e ?_ | refine callS_a ?_ | refine bld_a ?_ | refine own_e ?_ | refine mkmap_b ?_ | refine lnk_a ?_); conv => whnf)))
  refine loop_i (fun k : Nat => 0 < k ∧ k ≤ l.length + 1) (fun k => mkSt [(0, ints l), (3, .int .i64 k)] [] false) (fun k => l.length + 1 - k) 1 ⟨by omega, by omega⟩ (le_mk ⟨rfl, rfl, trivial⟩ trivial rfl) ?_
  rintro k ⟨h0, hk⟩
  (conv => whnf); (repeat (first | (refine arith_i ⟨by omega, by omega⟩ ?_; conv => whnf) | (refine need_i (by first | omega | (simp only [List.length_append, List.length_cons, List.length_nil]; omega)) ?_; conv => whnf) | ((with_reducible first | refine branch_tt ?_ | refine branch_ff ?_); conv => whnf) | (with_reducible refine branch_not ?_) | ((with_reducible first | refine slc_e ?_ | refine callS_a ?_ | refine bld_a ?_ | refine own_e ?_ | refine mkmap_b ?_ | refine lnk_a ?_); conv => whnf)))
  refine branch_d (fun h => ?_) (fun h => ?_)
  · (conv => whnf); (repeat (first | (refine arith_i ⟨by omega, by omega⟩ ?_; conv => whnf) | (refine need_i (by first | omega | (simp only [List.length_append, List.length_cons, List.length_nil]; omega)) ?_; conv => whnf) | ((with_reducible first | refine branch_tt ?_ | refine branch_ff ?_); conv => whnf) | (with_reducible refine branch_not ?_) | ((with_reducible first | refine slc_e ?_ | refine callS_a ?_ | refine bld_a ?_ | refine own_e ?_ | refine mkmap_b ?_ | refine lnk_a ?_); conv => whnf)))
    refine draw_i 10 (.take 0 (.take 1 (.take 2 (.take 3 (.take 4 (.take 5 (.take 6 (.take 7 (.take 8 (.take 9 .done)))))))))) (by decide +kernel) ?_
    (conv => whnf); (repeat (first | (refine arith_i ⟨by omega, by omega⟩ ?_; conv => whnf) | (refine need_i (by first | omega | (simp only [List.length_append, List.length_cons, List.length_nil]; omega)) ?_; conv => whnf) | ((with_reducible first | refine branch_tt ?_ | refine branch_ff ?_); conv => whnf) | (with_reducible refine branch_not ?_) | ((with_reducible first | refine slc_e ?_ | refine callS_a ?_ | refine bld_a ?_ | refine own_e ?_ | refine mkmap_b ?_ | refine lnk_a ?_); conv => whnf)))
    refine idx_m (by omega) (by omega) fun x hx => ?_
    rw [show ((k : Int) - 1).toNat = k - 1 by omega] at hx
    (conv => whnf); (repeat (first | (refine arith_i ⟨by omega, by omega⟩ ?_; conv => whnf) | (refine need_i (by first | omega | (simp only [List.length_append, List.length_cons, List.length_nil]; omega)) ?_; conv => whnf) | ((with_reducible first | refine branch_tt ?_ | refine branch_ff ?_); conv => whnf) | (with_reducible refine branch_not ?_) | ((with_reducible first | refine slc_e ?_ | refine callS_a ?_ | refine bld_a ?_ | refine own_e ?_ | refine mkmap_b ?_ | refine lnk_a ?_); conv => whnf)))
    refine idx_m (by omega) (by omega) fun y hy => ?_
    rw [Int.toNat_natCast] at hy
    have hxy := hA k h0 (by omega)
    rw [nth_eq hx, nth_eq hy] at hxy
    (conv => whnf); (repeat (first | (refine arith_i ⟨by omega, by omega⟩ ?_; conv => whnf) | (refine need_i (by first | omega | (simp only [List.length_append, List.length_cons, List.length_nil]; omega)) ?_; conv => whnf) | ((with_reducible first | refine branch_tt ?_ | refine branch_ff ?_); conv => whnf) | (with_reducible refine branch_not ?_) | ((with_reducible first | refine slc_e ?_ | refine callS_a ?_ | refine bld_a ?_ | refine own_e ?_ | refine mkmap_b ?_ | refine lnk_a ?_); conv => whnf)))
    refine branch_f (by simp; omega) ?_
    (conv => whnf); (repeat (first | (refine arith_i ⟨by omega, by omega⟩ ?_; conv => whnf) | (refine need_i (by first | omega | (simp only [List.length_append, List.length_cons, List.length_nil]; omega)) ?_; conv => whnf) | ((with_reducible first | refine branch_tt ?_ | refine branch_ff ?_); conv => whnf) | (with_reducible refine branch_not ?_) | ((with_reducible first | refine slc_e ?_ | refine callS_a ?_ | refine bld_a ?_ | refine own_e ?_ | refine mkmap_b ?_ | refine lnk_a ?_); conv => whnf)))
    exact ⟨k + 1, ⟨by omega, by omega⟩, le_mk ⟨rfl, rfl, trivial⟩ trivial rfl, by omega⟩
  · (conv => whnf); (repeat (first | (refine arith_i ⟨by omega, by omega⟩ ?_; conv => whnf) | (refine need_i (by first | omega | (simp only [List.length_append, List.length_cons, List.length_nil]; omega)) ?_; conv => whnf) | ((with_reducible first | refine branch_tt ?_ | refine branch_ff ?_); conv => whnf) | (with_reducible refine branch_not ?_) | ((with_reducible first | refine slc_e ?_ | refine callS_a ?_ | refine bld_a ?_ | refine own_e ?_ | refine mkmap_b ?_ | refine lnk_a ?_); conv => whnf)))
    exact ret_p rfl rfl
theorem check_ok (l : List Mrk) (hl : l.length ≤ 16) (hg : ∀ (k : Nat) (m : Mrk), l[k]? = some m → GoodMk m) (hA : AscM l) : Good Try.prog TT false 62 [mrksV l] (· = .int .i64 0) := by
  have L : (l.map encM).length = l.length := List.length_map ..
  refine good_of mixed tabOk Try.func62 rfl rfl Try.ntmps62 Try.results62 rfl rfl ?_
  (conv => whnf); (repeat (first | (refine arith_i ⟨by omega, by omega⟩ ?_; conv => whnf) | (refine need_i (by first | omega | (simp only [List.length_append, List.length_cons, List.length_nil]; omega)) ?_; conv => whnf) | ((with_reducible first | refine branch_tt ?_ | refine branch_ff ?_); conv => whnf) | (with_reducible refine branch_not ?_) | ((with_reducible first | refine slc_e ?_ | refine callS_a ?_ | refine bld_a ?_ | refine own_e ?_ | refine mkmap_b ?_ | refine lnk_a ?_); conv => whnf)))
  refine branch_f (by simp; omega) ?_
  (conv => whnf); (repeat (first | (refine arith_i ⟨by omega, by omega⟩ ?_; conv => whnf) | (refine need_i (by first | omega | (simp only [List.length_append, List.length_cons, List.length_nil]; omega)) ?_; conv => whnf) | ((with_reducible first | refine branch_tt ?_ | refine branch_ff ?_); conv => whnf) | (with_reducible refine branch_not ?_) | ((with_reducible first | refine slc_e ?_ | refine callS_a ?_ | refine bld_a ?_ | refine own_e ?_ | refine mkmap_b ?_ | refine lnk_a ?_); conv => whnf)))
  refine loop_i (fun k : Nat => k ≤ l.length) (fun k => mkSt [(0, mrksV l), (8, mrksV l), (9, .int .i64 (l.map encM).length), (10, .int .i64 k)] [] false) (fun k => l.length - k) 0 (Nat.zero_le _) (le_mk ⟨rfl, rfl, rfl, rfl, trivial⟩ trivial rfl) ?_
  intro k hk
  (conv => whnf); (repeat (first | (refine arith_i ⟨by omega, by omega⟩ ?_; conv => whnf) | (refine need_i (by first | omega | (simp only [List.length_append, List.length_cons, List.length_nil]; omega)) ?_; conv => whnf) | ((with_reducible first | refine branch_tt ?_ | refine branch_ff ?_); conv => whnf) | (with_reducible refine branch_not ?_) | ((with_reducible first | refine slc_e ?_ | refine callS_a ?_ | refine bld_a ?_ | refine own_e ?_ | refine mkmap_b ?_ | refine lnk_a ?_); conv => whnf)))
  refine branch_d (fun h => ?_) (fun h => ?_)
  · (conv => whnf); (repeat (first | (refine arith_i ⟨by omega, by omega⟩ ?_; conv => whnf) | (refine need_i (by first | omega | (simp only [List.length_append, List.length_cons, List.length_nil]; omega)) ?_; conv => whnf) | ((with_reducible first | refine branch_tt ?_ | refine branch_ff ?_); conv => whnf) | (with_reducible refine branch_not ?_) | ((with_reducible first | refine slc_e ?_ | refine callS_a ?_ | refine bld_a ?_ | refine own_e ?_ | refine mkmap_b ?_ | refine lnk_a ?_); conv => whnf)))
    refine idx_m (by omega) (by omega) fun m hm => ?_
    rw [Int.toNat_natCast] at hm
    have g := hg k m hm
    (conv => whnf); (repeat (first | (refine arith_i ⟨by omega, by omega⟩ ?_; conv => whnf) | (refine need_i (by first | omega | (simp only [List.length_append, List.length_cons, List.length_nil]; omega)) ?_; conv => whnf) | ((with_reducible first | refine branch_tt ?_ | refine branch_ff ?_); conv => whnf) | (with_reducible refine branch_not ?_) | ((with_reducible first | refine slc_e ?_ | refine callS_a ?_ | refine bld_a ?_ | refine own_e ?_ | refine mkmap_b ?_ | refine lnk_a ?_); conv => whnf)))
    refine call_e (validMarker_ok m g) ?_
    (conv => whnf); (repeat (first | (refine arith_i ⟨by omega, by omega⟩ ?_; conv => whnf) | (refine need_i (by first | omega | (simp only [List.length_append, List.length_cons, List.length_nil]; omega)) ?_; conv => whnf) | ((with_reducible first | refine branch_tt ?_ | refine branch_ff ?_); conv => whnf) | (with_reducible refine branch_not ?_) | ((with_reducible first | refine slc_e ?_ | refine callS_a ?_ | refine bld_a ?_ | refine own_e ?_ | refine mkmap_b ?_ | refine lnk_a ?_); conv => whnf)))
    refine draw_i 19 (.take 0 (.take 1 (.alt 2 (.take 3 (.take 4 (.take 5 (.take 6 (.take 7 (.take 8 (.take 9 (.take 10 (.take 11 (.take 12 (.take 14 (.alt 13 (.alt 15 (.take 16 (.take 17 (.take 18 .done))) .stop) (.alt 15 (.alt 13 (.take 16 (.take 17 (.take 18 .done))) .stop) .stop))))))))))))) .stop))) (by decide +kernel) ?_
    (conv => whnf); (repeat (first | (refine arith_i ⟨by omega, by omega⟩ ?_; conv => whnf) | (refine need_i (by first | omega | (simp only [List.length_append, List.length_cons, List.length_nil]; omega)) ?_; conv => whnf) | ((with_reducible first | refine branch_tt ?_ | refine branch_ff ?_); conv => whnf) | (with_reducible refine branch_not ?_) | ((with_reducible first | refine slc_e ?_ | refine callS_a ?_ | refine bld_a ?_ | refine own_e ?_ | refine mkmap_b ?_ | refine lnk_a ?_); conv => whnf)))
    refine ⟨?_, trivial⟩
    (conv => whnf); (repeat (first | (refine arith_i ⟨by omega, by omega⟩ ?_; conv => whnf) | (refine need_i (by first | omega | (simp only [List.length_append, List.length_cons, List.length_nil]; omega)) ?_; conv => whnf) | ((with_reducible first | refine branch_tt ?_ | refine branch_ff ?_); conv => whnf) | (with_reducible refine branch_not ?_) | ((with_reducible first | refine slc_e ?_ | refine callS_a ?_ | refine bld_a ?_ | refine own_e ?_ | refine mkmap_b ?_ | refine lnk_a ?_); conv => whnf)))
    refine call_e (ascend_ok m.papers g.len g.asc) ?_
    (conv => whnf); (repeat (first | (refine arith_i ⟨by omega, by omega⟩ ?_; conv => whnf) | (refine need_i (by first | omega | (simp only [List.length_append, List.length_cons, List.length_nil]; omega)) ?_; conv => whnf) | ((with_reducible first | refine branch_tt ?_ | refine branch_ff ?_); conv => whnf) | (with_reducible refine branch_not ?_) | ((with_reducible first | refine slc_e ?_ | refine callS_a ?_ | refine bld_a ?_ | refine own_e ?_ | refine mkmap_b ?_ | refine lnk_a ?_); conv => whnf)))
    refine branch_d (fun h1 => ?_) (fun h1 => ?_)
    · (conv => whnf); (repeat (first | (refine arith_i ⟨by omega, by omega⟩ ?_; conv => whnf) | (refine need_i (by first | omega | (simp only [List.length_append, List.length_cons, List.length_nil]; omega)) ?_; conv => whnf) | ((with_reducible first | refine branch_tt ?_ | refine branch_ff ?_); conv => whnf) | (with_reducible refine branch_not ?_) | ((with_reducible first | refine slc_e ?_ | refine callS_a ?_ | refine bld_a ?_ | refine own_e ?_ | refine mkmap_b ?_ | refine lnk_a ?_); conv => whnf)))
      refine idx_m (by omega) (by omega) fun q hq => ?_
      have hlt := hA (k - 1) k q m (by omega) (by rw [← hq]; congr 1; omega) hm
      (conv => whnf); (repeat (first | (refine arith_i ⟨by omega, by omega⟩ ?_; conv => whnf) | (refine need_i (by first | omega | (simp only [List.length_append, List.length_cons, List.length_nil]; omega)) ?_; conv => whnf) | ((with_reducible first | refine branch_tt ?_ | refine branch_ff ?_); conv => whnf) | (with_reducible refine branch_not ?_) | ((with_reducible first | refine slc_e ?_ | refine callS_a ?_ | refine bld_a ?_ | refine own_e ?_ | refine mkmap_b ?_ | refine lnk_a ?_); conv => whnf)))
      refine ⟨?_, ?_, trivial⟩
      · (conv => whnf); (repeat (first | (refine arith_i ⟨by omega, by omega⟩ ?_; conv => whnf) | (refine need_i (by first | omega | (simp only [List.length_append, List.length_cons, List.length_nil]; omega)) ?_; conv => whnf) | ((with_reducible first | refine branch_tt ?_ | refine branch_ff ?_); conv => whnf) | (with_reducible refine branch_not ?_) | ((with_reducible first | refine slc_e ?_ | refine callS_a ?_ | refine bld_a ?_ | refine own_e ?_ | refine mkmap_b ?_ | refine lnk_a ?_); conv => whnf)))
        refine ⟨?_, trivial⟩
        (conv => whnf); (repeat (first | (refine arith_i ⟨by omega, by omega⟩ ?_; conv => whnf) | (refine need_i (by first | omega | (simp only [List.length_append, List.length_cons, List.length_nil]; omega)) ?_; conv => whnf) | ((with_reducible first | refine branch_tt ?_ | refine branch_ff ?_); conv => whnf) | (with_reducible refine branch_not ?_) | ((with_reducible first | refine slc_e ?_ | refine callS_a ?_ | refine bld_a ?_ | refine own_e ?_ | refine mkmap_b ?_ | refine lnk_a ?_); conv => whnf)))
        refine branch_f (by simp; omega) ?_
        (conv => whnf); (repeat (first | (refine arith_i ⟨by omega, by omega⟩ ?_; conv => whnf) | (refine need_i (by first | omega | (simp only [List.length_append, List.length_cons, List.length_nil]; omega)) ?_; conv => whnf) | ((with_reducible first | refine branch_tt ?_ | refine branch_ff ?_); conv => whnf) | (with_reducible refine branch_not ?_) | ((with_reducible first | refine slc_e ?_ | refine callS_a ?_ | refine bld_a ?_ | refine own_e ?_ | refine mkmap_b ?_ | refine lnk_a ?_); conv => whnf)))
        exact ⟨k + 1, by omega, le_mk ⟨rfl, rfl, rfl, rfl, trivial⟩ trivial rfl, by omega⟩
      · (conv => whnf); (repeat (first | (refine arith_i ⟨by omega, by omega⟩ ?_; conv => whnf) | (refine need_i (by first | omega | (simp only [List.length_append, List.length_cons, List.length_nil]; omega)) ?_; conv => whnf) | ((with_reducible first | refine branch_tt ?_ | refine branch_ff ?_); conv => whnf) | (with_reducible refine branch_not ?_) | ((with_reducible first | refine slc_e ?_ | refine callS_a ?_ | refine bld_a ?_ | refine own_e ?_ | refine mkmap_b ?_ | refine lnk_a ?_); conv => whnf)))
        refine ⟨?_, trivial⟩
        (conv => whnf); (repeat (first | (refine arith_i ⟨by omega, by omega⟩ ?_; conv => whnf) | (refine need_i (by first | omega | (simp only [List.length_append, List.length_cons, List.length_nil]; omega)) ?_; conv => whnf) | ((with_reducible first | refine branch_tt ?_ | refine branch_ff ?_); conv => whnf) | (with_reducible refine branch_not ?_) | ((with_reducible first | refine slc_e ?_ | refine callS_a ?_ | refine bld_a ?_ | refine own_e ?_ | refine mkmap_b ?_ | refine lnk_a ?_); conv => whnf)))
        refine branch_f (by simp; omega) ?_
        (conv => whnf); (repeat (first | (refine arith_i ⟨by omega, by omega⟩ ?_; conv => whnf) | (refine need_i (by first | omega | (simp only [List.length_append, List.length_cons, List.length_nil]; omega)) ?_; conv => whnf) | ((with_reducible first | refine branch_tt ?_ | refine branch_ff ?_); conv => whnf) | (with_reducible refine branch_not ?_) | ((with_reducible first | refine slc_e ?_ | refine callS_a ?_ | refine bld_a ?_ | refine own_e ?_ | refine mkmap_b ?_ | refine lnk_a ?_); conv => whnf)))
        exact ⟨k + 1, by omega, le_mk ⟨rfl, rfl, rfl, rfl, trivial⟩ trivial rfl, by omega⟩
    · (conv => whnf); (repeat (first | (refine arith_i ⟨by omega, by omega⟩ ?_; conv => whnf) | (refine need_i (by first | omega | (simp only [List.length_append, List.length_cons, List.length_nil]; omega)) ?_; conv => whnf) | ((with_reducible first | refine branch_tt ?_ | refine branch_ff ?_); conv => whnf) | (with_reducible refine branch_not ?_) | ((with_reducible first | refine slc_e ?_ | refine callS_a ?_ | refine bld_a ?_ | refine own_e ?_ | refine mkmap_b ?_ | refine lnk_a ?_); conv => whnf)))
      refine ⟨?_, ?_, trivial⟩
      · (conv => whnf); (repeat (first | (refine arith_i ⟨by omega, by omega⟩ ?_; conv => whnf) | (refine need_i (by first | omega | (simp only [List.length_append, List.length_cons, List.length_nil]; omega)) ?_; conv => whnf) | ((with_reducible first | refine branch_tt ?_ | refine branch_ff ?_); conv => whnf) | (with_reducible refine branch_not ?_) | ((with_reducible first | refine slc_e ?_ | refine callS_a ?_ | refine bld_a ?_ | refine own_e ?_ | refine mkmap_b ?_ | refine lnk_a ?_); conv => whnf)))
        refine ⟨?_, trivial⟩
        (conv => whnf); (repeat (first | (refine arith_i ⟨by omega, by omega⟩ ?_; conv => whnf) | (refine need_i (by first | omega | (simp only [List.length_append, List.length_cons, List.length_nil]; omega)) ?_; conv => whnf) | ((with_reducible first | refine branch_tt ?_ | refine branch_ff ?_); conv => whnf) | (with_reducible refine branch_not ?_) | ((with_reducible first | refine slc_e ?_ | refine callS_a ?_ | refine bld_a ?_ | refine own_e ?_ | refine mkmap_b ?_ | refine lnk_a ?_); conv => whnf)))
        exact ⟨k + 1, by omega, le_mk ⟨rfl, rfl, rfl, rfl, trivial⟩ trivial rfl, by omega⟩
      · (conv => whnf); (repeat (first | (refine arith_i ⟨by omega, by omega⟩ ?_; conv => whnf) | (refine need_i (by first | omega | (simp only [List.length_append, List.length_cons, List.length_nil]; omega)) ?_; conv => whnf) | ((with_reducible first | refine branch_tt ?_ | refine branch_ff ?_); conv => whnf) | (with_reducible refine branch_not ?_) | ((with_reducible first | refine slc_e ?_ | refine callS_a ?_ | refine bld_a ?_ | refine own_e ?_ | refine mkmap_b ?_ | refine lnk_a ?_); conv => whnf)))
        refine ⟨?_, trivial⟩
        (conv => whnf); (repeat (first | (refine arith_i ⟨by omega, by omega⟩ ?_; conv => whnf) | (refine need_i (by first | omega | (simp only [List.length_append, List.length_cons, List.length_nil]; omega)) ?_; conv => whnf) | ((with_reducible first | refine branch_tt ?_ | refine branch_ff ?_); conv => whnf) | (with_reducible refine branch_not ?_) | ((with_reducible first | refine slc_e ?_ | refine callS_a ?_ | refine bld_a ?_ | refine own_e ?_ | refine mkmap_b ?_ | refine lnk_a ?_); conv => whnf)))
        exact ⟨k + 1, by omega, le_mk ⟨rfl, rfl, rfl, rfl, trivial⟩ trivial rfl, by omega⟩
  · (conv => whnf); (repeat (first | (refine arith_i ⟨by omega, by omega⟩ ?_; conv => whnf) | (refine need_i (by first | omega | (simp only [List.length_append, List.length_cons, List.length_nil]; omega)) ?_; conv => whnf) | ((with_reducible first | refine branch_tt ?_ | refine branch_ff ?_); conv => whnf) | (with_reducible refine branch_not ?_) | ((with_reducible first | refine slc_e ?_ | refine callS_a ?_ | refine bld_a ?_ | refine own_e ?_ | refine mkmap_b ?_ | refine lnk_a ?_); conv => whnf)))
    exact ret_p rfl rfl
structure GoodS (s : Scr) : Prop where
  paper : papB s.paper = true
  cand : 0 ≤ s.cand ∧ s.cand ≤ 9999
  centre : 0 ≤ s.centre ∧ s.centre ≤ 99
  variant : 0 ≤ s.variant ∧ s.variant ≤ 31
  number : s.number = s.paper * 10000 + s.cand
def AscS (l : List Scr) : Prop := ∀ (k : Nat) (a b : Scr), l[k]? = some a → l[k + 1]? = some b → a.number < b.number
/-- All is right up to k; there a script has too many pages, or the list ends. -/
theorem checkScripts_ok (l : List Scr) (n : Nat) (hl : l.length ≤ 60) (hn : n ≤ l.length) (hg : ∀ (k : Nat) (s : Scr), l[k]? = some s → GoodS s) (hp : ∀ (k : Nat) (s : Scr), k < n → l[k]? = some s → s.pages.length ≤ 12) (hb : ∀ s, l[n]? = some s → 12 < s.pages.length) (hA : AscS l) :
    Good Try.prog TT false 37 [scrsV l] (· = .int .i64 (if n = l.length then 0 else 1)) := by
  have L : (l.map encR).length = l.length := List.length_map ..
  refine good_of mixed tabOk Try.func37 rfl rfl Try.ntmps37 Try.results37 rfl rfl ?_
  (conv => whnf); (repeat (first | (refine arith_i ⟨by omega, by omega⟩ ?_; conv => whnf) | (refine need_i (by first | omega | (simp only [List.length_append, List.length_cons, List.length_nil]; omega)) ?_; conv => whnf) | ((with_reducible first | refine branch_tt ?_ | refine branch_ff ?_); conv => whnf) | (with_reducible refine branch_not ?_) | ((with_reducible first | refine slc_e ?_ | refine callS_a ?_ | refine bld_a ?_ | refine own_e ?_ | refine mkmap_b ?_ | refine lnk_a ?_); conv => whnf)))
  refine branch_f (by simp; omega) ?_
  (conv => whnf); (repeat (first | (refine arith_i ⟨by omega, by omega⟩ ?_; conv => whnf) | (refine need_i (by first | omega | (simp only [List.length_append, List.length_cons, List.length_nil]; omega)) ?_; conv => whnf) | ((with_reducible first | refine branch_tt ?_ | refine branch_ff ?_); conv => whnf) | (with_reducible refine branch_not ?_) | ((with_reducible first | refine slc_e ?_ | refine callS_a ?_ | refine bld_a ?_ | refine own_e ?_ | refine mkmap_b ?_ | refine lnk_a ?_); conv => whnf)))
  refine loop_i (fun k : Nat => k ≤ n) (fun k => mkSt [(0, scrsV l), (8, scrsV l), (9, .int .i64 (l.map encR).length), (10, .int .i64 k)] [] false) (fun k => n - k) 0 (Nat.zero_le _) (le_mk ⟨rfl, rfl, rfl, rfl, trivial⟩ trivial rfl) ?_
  intro k hk
  (conv => whnf); (repeat (first | (refine arith_i ⟨by omega, by omega⟩ ?_; conv => whnf) | (refine need_i (by first | omega | (simp only [List.length_append, List.length_cons, List.length_nil]; omega)) ?_; conv => whnf) | ((with_reducible first | refine branch_tt ?_ | refine branch_ff ?_); conv => whnf) | (with_reducible refine branch_not ?_) | ((with_reducible first | refine slc_e ?_ | refine callS_a ?_ | refine bld_a ?_ | refine own_e ?_ | refine mkmap_b ?_ | refine lnk_a ?_); conv => whnf)))
  refine branch_d (fun h => ?_) (fun h => ?_)
  · (conv => whnf); (repeat (first | (refine arith_i ⟨by omega, by omega⟩ ?_; conv => whnf) | (refine need_i (by first | omega | (simp only [List.length_append, List.length_cons, List.length_nil]; omega)) ?_; conv => whnf) | ((with_reducible first | refine branch_tt ?_ | refine branch_ff ?_); conv => whnf) | (with_reducible refine branch_not ?_) | ((with_reducible first | refine slc_e ?_ | refine callS_a ?_ | refine bld_a ?_ | refine own_e ?_ | refine mkmap_b ?_ | refine lnk_a ?_); conv => whnf)))
    refine idx_m (by omega) (by omega) fun s hs => ?_
    rw [Int.toNat_natCast] at hs
    obtain ⟨g1, g2, g3, g4, g5⟩ := hg k s hs
    have Lp : (s.pages.map encI).length = s.pages.length := List.length_map ..
    have g1' : 0 ≤ s.paper ∧ s.paper ≤ 31 := by simpa [papB] using g1
    (conv => whnf); (repeat (first | (refine arith_i ⟨by omega, by omega⟩ ?_; conv => whnf) | (refine need_i (by first | omega | (simp only [List.length_append, List.length_cons, List.length_nil]; omega)) ?_; conv => whnf) | ((with_reducible first | refine branch_tt ?_ | refine branch_ff ?_); conv => whnf) | (with_reducible refine branch_not ?_) | ((with_reducible first | refine slc_e ?_ | refine callS_a ?_ | refine bld_a ?_ | refine own_e ?_ | refine mkmap_b ?_ | refine lnk_a ?_); conv => whnf)))
    refine call_e ((isPaper_ok s.paper).mono fun r h => h.trans (bool_eq g1)) ?_
    (conv => whnf); (repeat (first | (refine arith_i ⟨by omega, by omega⟩ ?_; conv => whnf) | (refine need_i (by first | omega | (simp only [List.length_append, List.length_cons, List.length_nil]; omega)) ?_; conv => whnf) | ((with_reducible first | refine branch_tt ?_ | refine branch_ff ?_); conv => whnf) | (with_reducible refine branch_not ?_) | ((with_reducible first | refine slc_e ?_ | refine callS_a ?_ | refine bld_a ?_ | refine own_e ?_ | refine mkmap_b ?_ | refine lnk_a ?_); conv => whnf)))
    refine branch_f (by simp; omega) ?_
    (conv => whnf); (repeat (first | (refine arith_i ⟨by omega, by omega⟩ ?_; conv => whnf) | (refine need_i (by first | omega | (simp only [List.length_append, List.length_cons, List.length_nil]; omega)) ?_; conv => whnf) | ((with_reducible first | refine branch_tt ?_ | refine branch_ff ?_); conv => whnf) | (with_reducible refine branch_not ?_) | ((with_reducible first | refine slc_e ?_ | refine callS_a ?_ | refine bld_a ?_ | refine own_e ?_ | refine mkmap_b ?_ | refine lnk_a ?_); conv => whnf)))
    refine branch_f (by simp; omega) ?_
    (conv => whnf); (repeat (first | (refine arith_i ⟨by omega, by omega⟩ ?_; conv => whnf) | (refine need_i (by first | omega | (simp only [List.length_append, List.length_cons, List.length_nil]; omega)) ?_; conv => whnf) | ((with_reducible first | refine branch_tt ?_ | refine branch_ff ?_); conv => whnf) | (with_reducible refine branch_not ?_) | ((with_reducible first | refine slc_e ?_ | refine callS_a ?_ | refine bld_a ?_ | refine own_e ?_ | refine mkmap_b ?_ | refine lnk_a ?_); conv => whnf)))
    refine branch_f (by simp; omega) ?_
    (conv => whnf); (repeat (first | (refine arith_i ⟨by omega, by omega⟩ ?_; conv => whnf) | (refine need_i (by first | omega | (simp only [List.length_append, List.length_cons, List.length_nil]; omega)) ?_; conv => whnf) | ((with_reducible first | refine branch_tt ?_ | refine branch_ff ?_); conv => whnf) | (with_reducible refine branch_not ?_) | ((with_reducible first | refine slc_e ?_ | refine callS_a ?_ | refine bld_a ?_ | refine own_e ?_ | refine mkmap_b ?_ | refine lnk_a ?_); conv => whnf)))
    refine branch_f (by simp; omega) ?_
    (conv => whnf); (repeat (first | (refine arith_i ⟨by omega, by omega⟩ ?_; conv => whnf) | (refine need_i (by first | omega | (simp only [List.length_append, List.length_cons, List.length_nil]; omega)) ?_; conv => whnf) | ((with_reducible first | refine branch_tt ?_ | refine branch_ff ?_); conv => whnf) | (with_reducible refine branch_not ?_) | ((with_reducible first | refine slc_e ?_ | refine callS_a ?_ | refine bld_a ?_ | refine own_e ?_ | refine mkmap_b ?_ | refine lnk_a ?_); conv => whnf)))
    refine branch_f (by simp; omega) ?_
    (conv => whnf); (repeat (first | (refine arith_i ⟨by omega, by omega⟩ ?_; conv => whnf) | (refine need_i (by first | omega | (simp only [List.length_append, List.length_cons, List.length_nil]; omega)) ?_; conv => whnf) | ((with_reducible first | refine branch_tt ?_ | refine branch_ff ?_); conv => whnf) | (with_reducible refine branch_not ?_) | ((with_reducible first | refine slc_e ?_ | refine callS_a ?_ | refine bld_a ?_ | refine own_e ?_ | refine mkmap_b ?_ | refine lnk_a ?_); conv => whnf)))
    refine branch_f (by simp; omega) ?_
    (conv => whnf); (repeat (first | (refine arith_i ⟨by omega, by omega⟩ ?_; conv => whnf) | (refine need_i (by first | omega | (simp only [List.length_append, List.length_cons, List.length_nil]; omega)) ?_; conv => whnf) | ((with_reducible first | refine branch_tt ?_ | refine branch_ff ?_); conv => whnf) | (with_reducible refine branch_not ?_) | ((with_reducible first | refine slc_e ?_ | refine callS_a ?_ | refine bld_a ?_ | refine own_e ?_ | refine mkmap_b ?_ | refine lnk_a ?_); conv => whnf)))
    refine branch_n (fun h => absurd g5 h) (fun _ => ?_)
    (conv => whnf); (repeat (first | (refine arith_i ⟨by omega, by omega⟩ ?_; conv => whnf) | (refine need_i (by first | omega | (simp only [List.length_append, List.length_cons, List.length_nil]; omega)) ?_; conv => whnf) | ((with_reducible first | refine branch_tt ?_ | refine branch_ff ?_); conv => whnf) | (with_reducible refine branch_not ?_) | ((with_reducible first | refine slc_e ?_ | refine callS_a ?_ | refine bld_a ?_ | refine own_e ?_ | refine mkmap_b ?_ | refine lnk_a ?_); conv => whnf)))
    refine branch_d (fun hq => ?_) (fun hq => ?_)
    · (conv => whnf); (repeat (first | (refine arith_i ⟨by omega, by omega⟩ ?_; conv => whnf) | (refine need_i (by first | omega | (simp only [List.length_append, List.length_cons, List.length_nil]; omega)) ?_; conv => whnf) | ((with_reducible first | refine branch_tt ?_ | refine branch_ff ?_); conv => whnf) | (with_reducible refine branch_not ?_) | ((with_reducible first | refine slc_e ?_ | refine callS_a ?_ | refine bld_a ?_ | refine own_e ?_ | refine mkmap_b ?_ | refine lnk_a ?_); conv => whnf)))
      have hkn : k = n := by
        rcases Nat.lt_or_ge k n with h' | h'
        · have := hp k s h' hs; omega
        · omega
      exact ret_p rfl (int_eq (by rw [if_neg (by omega)]))
    · have hkn : k < n := by
        rcases Nat.lt_or_ge k n with h' | h'
        · exact h'
        · obtain rfl : k = n := by omega
          have := hb s hs; omega
      (conv => whnf); (repeat (first | (refine arith_i ⟨by omega, by omega⟩ ?_; conv => whnf) | (refine need_i (by first | omega | (simp only [List.length_append, List.length_cons, List.length_nil]; omega)) ?_; conv => whnf) | ((with_reducible first | refine branch_tt ?_ | refine branch_ff ?_); conv => whnf) | (with_reducible refine branch_not ?_) | ((with_reducible first | refine slc_e ?_ | refine callS_a ?_ | refine bld_a ?_ | refine own_e ?_ | refine mkmap_b ?_ | refine lnk_a ?_); conv => whnf)))
      refine draw_i 13 (.take 0 (.take 1 (.take 2 (.take 3 (.take 4 (.take 5 (.take 6 (.take 7 (.take 8 (.take 9 (.take 10 (.take 11 (.take 12 .done))))))))))))) (by decide +kernel) ?_
      (conv => whnf); (repeat (first | (refine arith_i ⟨by omega, by omega⟩ ?_; conv => whnf) | (refine need_i (by first | omega | (simp only [List.length_append, List.length_cons, List.length_nil]; omega)) ?_; conv => whnf) | ((with_reducible first | refine branch_tt ?_ | refine branch_ff ?_); conv => whnf) | (with_reducible refine branch_not ?_) | ((with_reducible first | refine slc_e ?_ | refine callS_a ?_ | refine bld_a ?_ | refine own_e ?_ | refine mkmap_b ?_ | refine lnk_a ?_); conv => whnf)))
      refine branch_d (fun h1 => ?_) (fun h1 => ?_)
      · (conv => whnf); (repeat (first | (refine arith_i ⟨by omega, by omega⟩ ?_; conv => whnf) | (refine need_i (by first | omega | (simp only [List.length_append, List.length_cons, List.length_nil]; omega)) ?_; conv => whnf) | ((with_reducible first | refine branch_tt ?_ | refine branch_ff ?_); conv => whnf) | (with_reducible refine branch_not ?_) | ((with_reducible first | refine slc_e ?_ | refine callS_a ?_ | refine bld_a ?_ | refine own_e ?_ | refine mkmap_b ?_ | refine lnk_a ?_); conv => whnf)))
        refine idx_m (by omega) (by omega) fun q hq => ?_
        have hlt := hA (k - 1) q s (by rw [← hq]; congr 1; omega) (by rw [← hs]; congr 1; omega)
        (conv => whnf); (repeat (first | (refine arith_i ⟨by omega, by omega⟩ ?_; conv => whnf) | (refine need_i (by first | omega | (simp only [List.length_append, List.length_cons, List.length_nil]; omega)) ?_; conv => whnf) | ((with_reducible first | refine branch_tt ?_ | refine branch_ff ?_); conv => whnf) | (with_reducible refine branch_not ?_) | ((with_reducible first | refine slc_e ?_ | refine callS_a ?_ | refine bld_a ?_ | refine own_e ?_ | refine mkmap_b ?_ | refine lnk_a ?_); conv => whnf)))
        refine branch_f (by simp; omega) ?_
        (conv => whnf); (repeat (first | (refine arith_i ⟨by omega, by omega⟩ ?_; conv => whnf) | (refine need_i (by first | omega | (simp only [List.length_append, List.length_cons, List.length_nil]; omega)) ?_; conv => whnf) | ((with_reducible first | refine branch_tt ?_ | refine branch_ff ?_); conv => whnf) | (with_reducible refine branch_not ?_) | ((with_reducible first | refine slc_e ?_ | refine callS_a ?_ | refine bld_a ?_ | refine own_e ?_ | refine mkmap_b ?_ | refine lnk_a ?_); conv => whnf)))
        exact ⟨k + 1, by omega, le_mk ⟨rfl, rfl, rfl, rfl, trivial⟩ trivial rfl, by omega⟩
      · (conv => whnf); (repeat (first | (refine arith_i ⟨by omega, by omega⟩ ?_; conv => whnf) | (refine need_i (by first | omega | (simp only [List.length_append, List.length_cons, List.length_nil]; omega)) ?_; conv => whnf) | ((with_reducible first | refine branch_tt ?_ | refine branch_ff ?_); conv => whnf) | (with_reducible refine branch_not ?_) | ((with_reducible first | refine slc_e ?_ | refine callS_a ?_ | refine bld_a ?_ | refine own_e ?_ | refine mkmap_b ?_ | refine lnk_a ?_); conv => whnf)))
        exact ⟨k + 1, by omega, le_mk ⟨rfl, rfl, rfl, rfl, trivial⟩ trivial rfl, by omega⟩
  · (conv => whnf); (repeat (first | (refine arith_i ⟨by omega, by omega⟩ ?_; conv => whnf) | (refine need_i (by first | omega | (simp only [List.length_append, List.length_cons, List.length_nil]; omega)) ?_; conv => whnf) | ((with_reducible first | refine branch_tt ?_ | refine branch_ff ?_); conv => whnf) | (with_reducible refine branch_not ?_) | ((with_reducible first | refine slc_e ?_ | refine callS_a ?_ | refine bld_a ?_ | refine own_e ?_ | refine mkmap_b ?_ | refine lnk_a ?_); conv => whnf)))
    exact ret_p rfl (int_eq (by rw [if_pos (by omega)]))
end Go.Proofs.Ythgnomniboindaa
end

/- Layer 25, plainly: assignments by augmenting paths, and Hall's theorem. -/
section
namespace Go.Proofs.Ythgnomniboindaa
set_option linter.unusedVariables false
set_option linter.unusedSimpArgs false
set_option linter.unnecessarySimpa false
set_option linter.unusedSectionVars false
open Go.RowKit
/-! sums -/
def sumN : Nat → (Nat → Nat) → Nat
  | 0, _ => 0
  | n + 1, f => sumN n f + f n
theorem sumN_congr {f g : Nat → Nat} : ∀ {n : Nat}, (∀ k, k < n → f k = g k) → sumN n f = sumN n g
  | 0, _ => rfl
  | n + 1, h => by rw [sumN, sumN, sumN_congr fun k hk => h k (by omega), h n (by omega)]
theorem sumN_le {f g : Nat → Nat} : ∀ {n : Nat}, (∀ k, k < n → f k ≤ g k) → sumN n f ≤ sumN n g
  | 0, _ => Nat.le_refl _
  | n + 1, h => by
    have h1 := sumN_le (n := n) fun k hk => h k (by omega)
    have h2 := h n (by omega)
    rw [sumN, sumN]; omega
theorem sumN_lt {f g : Nat → Nat} {i : Nat} : ∀ {n : Nat}, (∀ k, k < n → f k ≤ g k) → i < n → f i < g i → sumN n f < sumN n g
  | 0, _, hi, _ => by omega
  | n + 1, h, hi, hl => by
    rw [sumN, sumN]
    by_cases e : i = n
    · subst e
      have h1 := sumN_le (n := i) fun k hk => h k (by omega)
      omega
    · have h1 := sumN_lt (n := n) (fun k hk => h k (by omega)) (by omega) hl
      have h2 := h n (by omega)
      omega
theorem sumN_zero : ∀ {n : Nat}, sumN n (fun _ => 0) = 0
  | 0 => rfl
  | n + 1 => by rw [sumN, sumN_zero]
theorem sumN_at {f : Nat → Nat} {i : Nat} : ∀ {n : Nat}, i < n → f i ≤ sumN n f
  | 0, h => by omega
  | n + 1, h => by
    rw [sumN]
    by_cases e : i = n
    · subst e; omega
    · have := sumN_at (f := f) (n := n) (i := i) (by omega); omega
theorem sumN_add {f g : Nat → Nat} : ∀ {n : Nat}, sumN n (fun k => f k + g k) = sumN n f + sumN n g
  | 0 => rfl
  | n + 1 => by rw [sumN, sumN, sumN, sumN_add]; omega
theorem sumN_mul {f : Nat → Nat} {c : Nat} : ∀ {n : Nat}, sumN n (fun k => c * f k) = c * sumN n f
  | 0 => rfl
  | n + 1 => by rw [sumN, sumN, sumN_mul, Nat.mul_add]
theorem sumN_comm {f : Nat → Nat → Nat} {m : Nat} : ∀ {n : Nat}, sumN n (fun i => sumN m (f i)) = sumN m (fun j => sumN n (fun i => f i j))
  | 0 => by simp only [sumN]; exact sumN_zero.symm
  | n + 1 => by
    have := sumN_comm (f := f) (m := m) (n := n)
    simp only [sumN, this]
    rw [sumN_add]
/-- One summand changes. -/
theorem sumN_upd {f g : Nat → Nat} {i : Nat} : ∀ {n : Nat}, i < n → (∀ k, k < n → k ≠ i → g k = f k) → sumN n g + f i = sumN n f + g i
  | 0, h, _ => by omega
  | n + 1, h, he => by
    rw [sumN, sumN]
    by_cases e : i = n
    · subst e
      rw [sumN_congr (f := g) (g := f) fun k hk => he k (by omega) (by omega)]; omega
    · have h1 := sumN_upd (n := n) (f := f) (g := g) (i := i) (by omega) fun k hk => he k (by omega)
      rw [he n (by omega) (by omega)]; omega
theorem sumN_bool {p : Nat → Bool} : ∀ {n : Nat}, sumN n (fun k => (p k).toNat) ≤ n
  | 0 => Nat.le_refl _
  | n + 1 => by
    have := sumN_bool (p := p) (n := n)
    rw [sumN]; cases p n <;> simp <;> omega

/-! the search -/
/-- An assignment under way: who has what (script, marker), how many each marker has, which markers the last search has met. -/
structure Flw where
  A : Nat → Nat → Bool
  ld : Nat → Nat
  V : Nat → Bool
def setA (A : Nat → Nat → Bool) (i m : Nat) (b : Bool) : Nat → Nat → Bool := fun i' m' => if i' = i ∧ m' = m then b else A i' m'
def setV (V : Nat → Bool) (m : Nat) : Nat → Bool := fun m' => if m' = m then true else V m'
def incL (ld : Nat → Nat) (m : Nat) : Nat → Nat := fun m' => if m' = m then ld m + 1 else ld m'
theorem setA_same {A : Nat → Nat → Bool} {i m : Nat} {b : Bool} : setA A i m b i m = b := by simp [setA]
theorem setA_ne {A : Nat → Nat → Bool} {i m i' m' : Nat} {b : Bool} (h : ¬ (i' = i ∧ m' = m)) : setA A i m b i' m' = A i' m' := by simp [setA, h]
def tryJ (srch : Nat → Flw → Bool × Flw) (i m : Nat) : List Nat → Flw → Bool × Flw
  | [], s => (false, s)
  | j :: js, s => if s.A j m = true then (match srch j s with
      | (true, s') => (true, ⟨setA (setA s'.A j m false) i m true, s'.ld, s'.V⟩)
      | (false, s') => tryJ srch i m js s') else tryJ srch i m js s
section
variable (E : Nat → Nat → Bool) (lim : Nat → Nat) (n K : Nat)
def tryM (srch : Nat → Flw → Bool × Flw) (i : Nat) : List Nat → Flw → Bool × Flw
  | [], s => (false, s)
  | m :: ms, s => if s.V m = true ∨ E i m = false ∨ s.A i m = true then tryM srch i ms s
      else if s.ld m < lim m then (true, ⟨setA s.A i m true, incL s.ld m, setV s.V m⟩)
      else match tryJ srch i m (List.range n) ⟨s.A, s.ld, setV s.V m⟩ with
        | (true, s2) => (true, s2)
        | (false, s2) => tryM srch i ms s2
def searchF : Nat → Nat → Flw → Bool × Flw
  | 0, _, s => (false, s)
  | f + 1, i, s => tryM E lim n (searchF f) i (List.range K) s
/-- How many markers have not been met. -/
def unv (s : Flw) : Nat := sumN K fun m => (!s.V m).toNat
def Closed (j : Nat) (A : Nat → Nat → Bool) (V : Nat → Bool) : Prop := ∀ m, m < K → E j m = true → A j m = false → V m = true
/-- What a search leaves that fails. -/
structure Nice (s s' : Flw) : Prop where
  A : s'.A = s.A
  ld : s'.ld = s.ld
  V : ∀ m, s.V m = true → s'.V m = true
  full : ∀ m, m < K → s'.V m = true → s.V m = false → lim m ≤ s.ld m ∧ ∀ j, j < n → s.A j m = true → Closed E K j s.A s'.V
end
section
variable {E : Nat → Nat → Bool} {lim : Nat → Nat} {n K : Nat}
theorem Closed.mono {j : Nat} {A : Nat → Nat → Bool} {V V' : Nat → Bool} (h : Closed E K j A V) (hV : ∀ m, V m = true → V' m = true) : Closed E K j A V' := fun m h1 h2 h3 => hV m (h m h1 h2 h3)
theorem Nice.refl (s : Flw) : Nice E lim n K s s := ⟨rfl, rfl, fun _ h => h, fun m _ h1 h2 => by rw [h1] at h2; cases h2⟩
theorem Nice.trans {s s1 s2 : Flw} (h : Nice E lim n K s s1) (h' : Nice E lim n K s1 s2) : Nice E lim n K s s2 where
  A := h'.A.trans h.A
  ld := h'.ld.trans h.ld
  V := fun m hm => h'.V m (h.V m hm)
  full := fun m hm h1 h2 => by
    cases e : s1.V m with
    | true =>
      obtain ⟨g1, g2⟩ := h.full m hm e h2
      exact ⟨g1, fun j hj hA => (g2 j hj hA).mono h'.V⟩
    | false =>
      obtain ⟨g1, g2⟩ := h'.full m hm h1 e
      rw [h.ld] at g1
      rw [h.A] at g2
      exact ⟨g1, g2⟩
theorem unv_mono {s s' : Flw} (h : ∀ m, s.V m = true → s'.V m = true) : unv K s' ≤ unv K s := sumN_le fun m _ => by
  cases e : s.V m with
  | true => rw [h m e]; exact Nat.le_refl _
  | false => cases s'.V m <;> simp
theorem unv_mark {s : Flw} {m : Nat} {A : Nat → Nat → Bool} {ld : Nat → Nat} (hm : m < K) (h : s.V m = false) : unv K ⟨A, ld, setV s.V m⟩ + 1 = unv K s := by
  have := sumN_upd (f := fun m => (!s.V m).toNat) (g := fun m' => (!(setV s.V m) m').toNat) (i := m) (n := K) hm fun k _ hk => by simp [setV, hk]
  have e1 : setV s.V m m = true := by simp [setV]
  simp only [h, e1, Bool.not_true, Bool.not_false, Bool.toNat_true, Bool.toNat_false, Nat.add_zero] at this
  exact this
theorem unv_zero {s : Flw} (h : unv K s = 0) {m : Nat} (hm : m < K) : s.V m = true := by
  have := sumN_at (f := fun m => (!s.V m).toNat) hm
  unfold unv at h
  rw [h] at this
  cases e : s.V m <;> simp_all
theorem unv_none {s : Flw} (h : ∀ m, s.V m = false) : unv K s = K := by
  have : unv K s = sumN K fun _ => 1 := sumN_congr fun m _ => by simp [h]
  rw [this]
  clear this h
  induction K with
  | zero => rfl
  | succ k ih => rw [sumN, ih]
/-- A search that fails. -/
theorem tryJ_fail {srch : Nat → Flw → Bool × Flw} {i m f : Nat} (hS : ∀ j s s', j < n → unv K s ≤ f → srch j s = (false, s') → Nice E lim n K s s' ∧ Closed E K j s.A s'.V) :
    ∀ {js : List Nat} {s s' : Flw}, (∀ j ∈ js, j < n) → unv K s ≤ f → tryJ srch i m js s = (false, s') → Nice E lim n K s s' ∧ ∀ j ∈ js, s.A j m = true → Closed E K j s.A s'.V
  | [], s, s', _, _, h => by
    simp only [tryJ, Prod.mk.injEq, true_and] at h
    subst h
    exact ⟨Nice.refl _, nofun⟩
  | j :: js, s, s', hj, hu, h => by
    rw [tryJ] at h
    by_cases e : s.A j m = true
    · rw [if_pos e] at h
      generalize hr : srch j s = r at h
      obtain ⟨b, s1⟩ := r
      cases b with
      | true => simp at h
      | false =>
        simp only at h
        obtain ⟨h1, h2⟩ := hS j s s1 (hj j (by simp)) hu hr
        obtain ⟨h3, h4⟩ := tryJ_fail hS (fun x hx => hj x (by simp [hx])) (Nat.le_trans (unv_mono h1.V) hu) h
        refine ⟨h1.trans h3, fun x hx hA => ?_⟩
        rcases List.mem_cons.1 hx with rfl | hx
        · exact h2.mono h3.V
        · have := h4 x hx (by rw [h1.A]; exact hA)
          rwa [h1.A] at this
    · rw [if_neg e] at h
      obtain ⟨h3, h4⟩ := tryJ_fail hS (fun x hx => hj x (by simp [hx])) hu h
      refine ⟨h3, fun x hx hA => ?_⟩
      rcases List.mem_cons.1 hx with rfl | hx
      · exact absurd hA e
      · exact h4 x hx hA
theorem tryM_fail {srch : Nat → Flw → Bool × Flw} {i f : Nat} (hS : ∀ j s s', j < n → unv K s ≤ f → srch j s = (false, s') → Nice E lim n K s s' ∧ Closed E K j s.A s'.V) :
    ∀ {ms : List Nat} {s s' : Flw}, (∀ m ∈ ms, m < K) → unv K s ≤ f + 1 → tryM E lim n srch i ms s = (false, s') → Nice E lim n K s s' ∧ ∀ m ∈ ms, E i m = true → s.A i m = false → s'.V m = true
  | [], s, s', _, _, h => by
    simp only [tryM, Prod.mk.injEq, true_and] at h
    subst h
    exact ⟨Nice.refl _, nofun⟩
  | m :: ms, s, s', hm, hu, h => by
    rw [tryM] at h
    by_cases e : s.V m = true ∨ E i m = false ∨ s.A i m = true
    · rw [if_pos e] at h
      obtain ⟨h1, h2⟩ := tryM_fail hS (fun x hx => hm x (by simp [hx])) hu h
      refine ⟨h1, fun x hx hE hA => ?_⟩
      rcases List.mem_cons.1 hx with rfl | hx
      · rcases e with e | e | e
        · exact h1.V _ e
        · rw [e] at hE; cases hE
        · rw [e] at hA; cases hA
      · exact h2 x hx hE hA
    · rw [if_neg e] at h
      have eV : s.V m = false := by cases h' : s.V m <;> simp_all
      by_cases e2 : s.ld m < lim m
      · rw [if_pos e2] at h; simp at h
      · rw [if_neg e2] at h
        have hmk := hm m (by simp)
        have hum := unv_mark (A := s.A) (ld := s.ld) hmk eV
        generalize hr : tryJ srch i m (List.range n) ⟨s.A, s.ld, setV s.V m⟩ = r at h
        obtain ⟨b, s2⟩ := r
        cases b with
        | true => simp at h
        | false =>
          simp only at h
          obtain ⟨h1, h2⟩ := tryJ_fail hS (fun x hx => List.mem_range.1 hx) (by omega) hr
          have hn : Nice E lim n K s s2 := by
            refine ⟨h1.A, h1.ld, fun x hx => h1.V x (by simp only [setV]; split <;> simp [*]), fun x hx g1 g2 => ?_⟩
            by_cases ex : x = m
            · subst ex
              exact ⟨by omega, fun j hj hA => h2 j (List.mem_range.2 hj) hA⟩
            · exact h1.full x hx g1 (by simp only [setV, if_neg ex]; exact g2)
          have hv2 : s2.V m = true := h1.V m (by simp [setV])
          obtain ⟨h3, h4⟩ := tryM_fail hS (fun x hx => hm x (by simp [hx])) (Nat.le_trans (unv_mono hn.V) hu) h
          refine ⟨hn.trans h3, fun x hx hE hA => ?_⟩
          rcases List.mem_cons.1 hx with rfl | hx
          · exact h3.V _ hv2
          · exact h4 x hx hE (by rw [hn.A]; exact hA)
theorem search_fail : ∀ {f i : Nat} {s s' : Flw}, unv K s ≤ f → searchF E lim n K f i s = (false, s') → Nice E lim n K s s' ∧ Closed E K i s.A s'.V
  | 0, i, s, s', hu, h => by
    simp only [searchF, Prod.mk.injEq, true_and] at h
    subst h
    exact ⟨Nice.refl _, fun m hm _ _ => unv_zero (by omega) hm⟩
  | f + 1, i, s, s', hu, h => by
    obtain ⟨h1, h2⟩ := tryM_fail (f := f) (fun j s s' _ hu h => search_fail hu h) (fun m hm => List.mem_range.1 hm) hu h
    exact ⟨h1, fun m hm hE hA => h2 m (List.mem_range.2 hm) hE hA⟩
def colN (n : Nat) (A : Nat → Nat → Bool) (m : Nat) : Nat := sumN n fun i => (A i m).toNat
def rowN (K : Nat) (A : Nat → Nat → Bool) (i : Nat) : Nat := sumN K fun m => (A i m).toNat
/-- An assignment that keeps to the limits. -/
structure WF (E : Nat → Nat → Bool) (lim : Nat → Nat) (n K : Nat) (s : Flw) : Prop where
  el : ∀ i m, i < n → m < K → s.A i m = true → E i m = true
  col : ∀ m, m < K → colN n s.A m = s.ld m
  lim : ∀ m, m < K → s.ld m ≤ lim m
/-- What a search leaves that succeeds. -/
structure Won (E : Nat → Nat → Bool) (lim : Nat → Nat) (n K i : Nat) (s s' : Flw) : Prop where
  wf : WF E lim n K s'
  row : ∀ j, j < n → rowN K s'.A j = rowN K s.A j + if j = i then 1 else 0
  V : ∀ m, s.V m = true → s'.V m = true
  keep : ∀ m, s.V m = true → ∀ j, s'.A j m = s.A j m
theorem row_set {A : Nat → Nat → Bool} {i m : Nat} {b : Bool} (hm : m < K) (j : Nat) : rowN K (setA A i m b) j + (if j = i then (A i m).toNat else 0) = rowN K A j + if j = i then b.toNat else 0 := by
  by_cases e : j = i
  · subst e
    have := sumN_upd (f := fun m => (A j m).toNat) (g := fun m' => (setA A j m b j m').toNat) (i := m) (n := K) hm fun k _ hk => by simp [setA, hk]
    simpa [rowN, setA_same] using this
  · simp only [if_neg e, Nat.add_zero]
    exact sumN_congr fun k _ => by simp [setA, e]
theorem col_set {A : Nat → Nat → Bool} {i m : Nat} {b : Bool} (hi : i < n) (x : Nat) : colN n (setA A i m b) x + (if x = m then (A i m).toNat else 0) = colN n A x + if x = m then b.toNat else 0 := by
  by_cases e : x = m
  · subst e
    have := sumN_upd (f := fun i => (A i x).toNat) (g := fun i' => (setA A i x b i' x).toNat) (i := i) (n := n) hi fun k _ hk => by simp [setA, hk]
    simpa [colN, setA_same] using this
  · simp only [if_neg e, Nat.add_zero]
    exact sumN_congr fun k _ => by simp [setA, e]
theorem Won.after {s s' s1 : Flw} {i : Nat} (h : Won E lim n K i s1 s') (hn : Nice E lim n K s s1) : Won E lim n K i s s' :=
  ⟨h.wf, fun j hj => by rw [h.row j hj, hn.A], fun m hm => h.V m (hn.V m hm), fun m hm j => by rw [h.keep m (hn.V m hm), hn.A]⟩
theorem WF.nice {s s' : Flw} (h : WF E lim n K s) (hA : s'.A = s.A) (hl : s'.ld = s.ld) : WF E lim n K s' :=
  ⟨by rw [hA]; exact h.el, by rw [hA, hl]; exact h.col, by rw [hl]; exact h.lim⟩
theorem tryJ_won {srch : Nat → Flw → Bool × Flw} {i m f : Nat} (hi : i < n) (hm : m < K) (hE : E i m = true) (hF : ∀ j s s', j < n → unv K s ≤ f → srch j s = (false, s') → Nice E lim n K s s' ∧ Closed E K j s.A s'.V)
    (hS : ∀ j s s', j < n → unv K s ≤ f → WF E lim n K s → srch j s = (true, s') → Won E lim n K j s s') :
    ∀ {js : List Nat} {s s' : Flw}, (∀ j ∈ js, j < n) → unv K s ≤ f → WF E lim n K s → s.V m = true → s.A i m = false → tryJ srch i m js s = (true, s') →
      WF E lim n K s' ∧ (∀ j, j < n → rowN K s'.A j = rowN K s.A j + if j = i then 1 else 0) ∧ (∀ x, s.V x = true → s'.V x = true) ∧ ∀ x, x ≠ m → s.V x = true → ∀ j, s'.A j x = s.A j x
  | [], s, s', _, _, _, _, _, h => by simp [tryJ] at h
  | j :: js, s, s', hj, hu, hw, hv, hA, h => by
    rw [tryJ] at h
    by_cases e : s.A j m = true
    · rw [if_pos e] at h
      generalize hr : srch j s = r at h
      obtain ⟨b, s1⟩ := r
      have hjn := hj j (by simp)
      cases b with
      | true =>
        simp only [Prod.mk.injEq, true_and] at h
        subst h
        have hW := hS j s s1 hjn hu hw hr
        have k1 : s1.A j m = true := by rw [hW.keep m hv]; exact e
        have k2 : s1.A i m = false := by rw [hW.keep m hv]; exact hA
        have hne : j ≠ i := fun e' => by subst e'; rw [hA] at e; cases e
        have k3 : setA s1.A j m false i m = false := by rw [setA_ne (by omega)]; exact k2
        refine ⟨⟨fun x y hx hy hxy => ?_, fun x hx => ?_, hW.wf.lim⟩, fun x hx => ?_, hW.V, fun x hxm hx y => ?_⟩
        · simp only [setA] at hxy
          split at hxy
          · next e' => obtain ⟨rfl, rfl⟩ := e'; exact hE
          · split at hxy
            · cases hxy
            · exact hW.wf.el x y hx hy hxy
        · have c1 := col_set (A := s1.A) (i := j) (m := m) (b := false) hjn x
          have c2 := col_set (A := setA s1.A j m false) (i := i) (m := m) (b := true) hi x
          have c3 := hW.wf.col x hx
          rw [k1] at c1
          rw [k3] at c2
          simp only [Bool.toNat_true, Bool.toNat_false] at c1 c2
          show colN n (setA (setA s1.A j m false) i m true) x = s1.ld x
          by_cases ex : x = m
          · simp only [if_pos ex] at c1 c2; omega
          · simp only [if_neg ex] at c1 c2; omega
        · have c1 := row_set (A := s1.A) (i := j) (m := m) (b := false) hm x
          have c2 := row_set (A := setA s1.A j m false) (i := i) (m := m) (b := true) hm x
          have c3 := hW.row x hx
          rw [k1] at c1
          rw [k3] at c2
          simp only [Bool.toNat_true, Bool.toNat_false] at c1 c2
          show rowN K _ x = _
          by_cases e1 : x = j
          · subst e1
            simp only [if_true, if_neg hne] at c1 c2 c3 ⊢
            omega
          · simp only [if_neg e1] at c1 c2 c3
            split at c2 <;> simp_all <;> omega
        · show setA (setA s1.A j m false) i m true y x = _
          rw [setA_ne (by omega), setA_ne (by omega)]
          exact hW.keep x hx y
      | false =>
        simp only at h
        obtain ⟨h1, -⟩ := hF j s s1 hjn hu hr
        obtain ⟨g1, g2, g3, g4⟩ := tryJ_won hi hm hE hF hS (fun x hx => hj x (by simp [hx])) (Nat.le_trans (unv_mono h1.V) hu) (hw.nice h1.A h1.ld) (h1.V m hv) (by rw [h1.A]; exact hA) h
        exact ⟨g1, fun x hx => by rw [g2 x hx, h1.A], fun x hx => g3 x (h1.V x hx), fun x hx hx' y => by rw [g4 x hx (h1.V x hx'), h1.A]⟩
    · rw [if_neg e] at h
      exact tryJ_won hi hm hE hF hS (fun x hx => hj x (by simp [hx])) hu hw hv hA h
theorem tryM_won {srch : Nat → Flw → Bool × Flw} {i f : Nat} (hi : i < n) (hF : ∀ j s s', j < n → unv K s ≤ f → srch j s = (false, s') → Nice E lim n K s s' ∧ Closed E K j s.A s'.V)
    (hS : ∀ j s s', j < n → unv K s ≤ f → WF E lim n K s → srch j s = (true, s') → Won E lim n K j s s') :
    ∀ {ms : List Nat} {s s' : Flw}, (∀ m ∈ ms, m < K) → unv K s ≤ f + 1 → WF E lim n K s → tryM E lim n srch i ms s = (true, s') → Won E lim n K i s s'
  | [], s, s', _, _, _, h => by simp [tryM] at h
  | m :: ms, s, s', hm, hu, hw, h => by
    rw [tryM] at h
    have hmk := hm m (by simp)
    by_cases e : s.V m = true ∨ E i m = false ∨ s.A i m = true
    · rw [if_pos e] at h
      exact tryM_won hi hF hS (fun x hx => hm x (by simp [hx])) hu hw h
    · rw [if_neg e] at h
      have eV : s.V m = false := by cases h' : s.V m <;> simp_all
      have eE : E i m = true := by cases h' : E i m <;> simp_all
      have eA : s.A i m = false := by cases h' : s.A i m <;> simp_all
      have hum := unv_mark (A := s.A) (ld := s.ld) hmk eV
      by_cases e2 : s.ld m < lim m
      · rw [if_pos e2] at h
        simp only [Prod.mk.injEq, true_and] at h
        subst h
        refine ⟨⟨fun x y hx hy hxy => ?_, fun x hx => ?_, fun x hx => ?_⟩, fun x hx => ?_, fun x hx => ?_, fun x hx y => ?_⟩
        · simp only [setA] at hxy
          split at hxy
          · next e' => obtain ⟨rfl, rfl⟩ := e'; exact eE
          · exact hw.el x y hx hy hxy
        · have c1 := col_set (A := s.A) (i := i) (m := m) (b := true) hi x
          have c3 := hw.col x hx
          rw [eA] at c1
          simp only [Bool.toNat_true, Bool.toNat_false] at c1
          show colN n _ x = incL s.ld m x
          simp only [incL]
          by_cases ex : x = m
          · subst ex; simp only [if_true] at c1 ⊢; omega
          · simp only [if_neg ex] at c1 ⊢; omega
        · show incL s.ld m x ≤ lim x
          have := hw.lim x hx
          simp only [incL]
          split
          · next ex => subst ex; omega
          · exact this
        · have c1 := row_set (A := s.A) (i := i) (m := m) (b := true) hmk x
          rw [eA] at c1
          simp only [Bool.toNat_true, Bool.toNat_false] at c1
          show rowN K _ x = _
          split at c1 <;> simp_all
        · show setV s.V m x = true
          simp only [setV]; split <;> simp [*]
        · show setA s.A i m true y x = _
          rw [setA_ne fun e' => by rw [e'.2, eV] at hx; cases hx]
      · rw [if_neg e2] at h
        generalize hr : tryJ srch i m (List.range n) ⟨s.A, s.ld, setV s.V m⟩ = r at h
        obtain ⟨b, s2⟩ := r
        have hsv : setV s.V m m = true := by simp [setV]
        have hsm : ∀ x, s.V x = true → setV s.V m x = true := fun x hx => by simp only [setV]; split <;> simp [*]
        cases b with
        | true =>
          simp only [Prod.mk.injEq, true_and] at h
          subst h
          obtain ⟨g1, g2, g3, g4⟩ := tryJ_won (s := ⟨s.A, s.ld, setV s.V m⟩) hi hmk eE hF hS (fun x hx => List.mem_range.1 hx) (by omega) (hw.nice rfl rfl) hsv eA hr
          exact ⟨g1, g2, fun x hx => g3 x (hsm x hx), fun x hx y => g4 x (fun e' => by rw [e', eV] at hx; cases hx) (hsm x hx) y⟩
        | false =>
          simp only at h
          obtain ⟨h1, h2⟩ := tryJ_fail hF (fun x hx => List.mem_range.1 hx) (by omega) hr
          have hn : Nice E lim n K s s2 := by
            refine ⟨h1.A, h1.ld, fun x hx => h1.V x (hsm x hx), fun x hx g1 g2 => ?_⟩
            by_cases ex : x = m
            · subst ex
              exact ⟨by omega, fun j hj hA => h2 j (List.mem_range.2 hj) hA⟩
            · exact h1.full x hx g1 (by simp only [setV, if_neg ex]; exact g2)
          exact (tryM_won hi hF hS (fun x hx => hm x (by simp [hx])) (Nat.le_trans (unv_mono hn.V) hu) (hw.nice hn.A hn.ld) h).after hn
theorem search_won : ∀ {f i : Nat} {s s' : Flw}, i < n → unv K s ≤ f → WF E lim n K s → searchF E lim n K f i s = (true, s') → Won E lim n K i s s'
  | 0, i, s, s', _, hu, _, h => by simp [searchF] at h
  | f + 1, i, s, s', hi, hu, hw, h => tryM_won hi (fun j s s' _ hu h => search_fail hu h) (fun j s s' hj hu hw h => search_won hj hu hw h) (fun m hm => List.mem_range.1 hm) hu hw h
end
section
variable (E : Nat → Nat → Bool) (lim : Nat → Nat) (n K : Nat)
def augF (i : Nat) (s : Flw) : Bool × Flw := searchF E lim n K K i ⟨s.A, s.ld, fun _ => false⟩
def roundsF (i : Nat) : Nat → Flw → Bool × Flw
  | 0, s => (true, s)
  | r + 1, s => match augF E lim n K i s with
    | (true, s') => roundsF i r s'
    | (false, s') => (false, s')
def fillF (r : Nat) : List Nat → Flw → Option Nat × Flw
  | [], s => (none, s)
  | i :: is, s => match roundsF E lim n K i r s with
    | (true, s') => fillF r is s'
    | (false, s') => (some i, s')
def flw0 : Flw := ⟨fun _ _ => false, fun _ => 0, fun _ => false⟩
/-- No set of scripts is short. -/
def HallP (r : Nat) : Prop := ∀ R : Nat → Bool, r * sumN n (fun j => (R j).toNat) ≤ sumN K fun m => min (lim m) (sumN n fun j => (R j && E j m).toNat)
/-- The scripts that a search that failed has met. -/
def reachB (i : Nat) (s : Flw) (j : Nat) : Bool := j == i || (List.range K).any fun m => s.V m && s.A j m
end
section
variable {E : Nat → Nat → Bool} {lim : Nat → Nat} {n K : Nat}
theorem reach_iff {i j : Nat} {s : Flw} : reachB K i s j = true ↔ j = i ∨ ∃ m, m < K ∧ s.V m = true ∧ s.A j m = true := by
  simp [reachB]
theorem aug_won {i : Nat} {s s' : Flw} (hi : i < n) (hw : WF E lim n K s) (h : augF E lim n K i s = (true, s')) : WF E lim n K s' ∧ ∀ j, j < n → rowN K s'.A j = rowN K s.A j + if j = i then 1 else 0 := by
  have := search_won (s := ⟨s.A, s.ld, fun _ => false⟩) hi (Nat.le_of_eq (unv_none fun _ => rfl)) (hw.nice rfl rfl) h
  exact ⟨this.wf, this.row⟩
/-- What is known behind a search that failed. -/
structure Lost (E : Nat → Nat → Bool) (lim : Nat → Nat) (n K i : Nat) (s : Flw) : Prop where
  wf : WF E lim n K s
  self : Closed E K i s.A s.V
  full : ∀ m, m < K → s.V m = true → lim m ≤ s.ld m ∧ ∀ j, j < n → s.A j m = true → Closed E K j s.A s.V
theorem aug_lost {i : Nat} {s s' : Flw} (hw : WF E lim n K s) (h : augF E lim n K i s = (false, s')) : Lost E lim n K i s' ∧ s'.A = s.A := by
  obtain ⟨h1, h2⟩ := search_fail (s := ⟨s.A, s.ld, fun _ => false⟩) (Nat.le_of_eq (unv_none fun _ => rfl)) h
  have eA : s'.A = s.A := h1.A
  have eL : s'.ld = s.ld := h1.ld
  refine ⟨⟨hw.nice eA eL, by rw [eA]; exact h2, fun m hm hv => ?_⟩, eA⟩
  rw [eA, eL]
  exact h1.full m hm hv rfl
theorem rounds_won : ∀ {r i : Nat} {s s' : Flw}, i < n → WF E lim n K s → roundsF E lim n K i r s = (true, s') → WF E lim n K s' ∧ ∀ j, j < n → rowN K s'.A j = rowN K s.A j + if j = i then r else 0
  | 0, i, s, s', _, hw, h => by
    simp only [roundsF, Prod.mk.injEq, true_and] at h
    subst h
    exact ⟨hw, fun j _ => by split <;> rfl⟩
  | r + 1, i, s, s', hi, hw, h => by
    rw [roundsF] at h
    generalize hr : augF E lim n K i s = a at h
    obtain ⟨b, s1⟩ := a
    cases b with
    | false => simp at h
    | true =>
      obtain ⟨h1, h2⟩ := aug_won hi hw hr
      obtain ⟨h3, h4⟩ := rounds_won hi h1 h
      refine ⟨h3, fun j hj => ?_⟩
      rw [h4 j hj, h2 j hj]
      split <;> omega
theorem rounds_lost : ∀ {r i : Nat} {s s' : Flw}, i < n → WF E lim n K s → roundsF E lim n K i r s = (false, s') → Lost E lim n K i s' ∧ rowN K s'.A i < rowN K s.A i + r ∧ ∀ j, j < n → j ≠ i → rowN K s'.A j = rowN K s.A j
  | 0, i, s, s', _, hw, h => by simp [roundsF] at h
  | r + 1, i, s, s', hi, hw, h => by
    rw [roundsF] at h
    generalize hr : augF E lim n K i s = a at h
    obtain ⟨b, s1⟩ := a
    cases b with
    | false =>
      simp only [Prod.mk.injEq, true_and] at h
      subst h
      obtain ⟨h1, h2⟩ := aug_lost hw hr
      exact ⟨h1, by rw [h2]; omega, fun j _ _ => by rw [h2]⟩
    | true =>
      obtain ⟨h1, h2⟩ := aug_won hi hw hr
      obtain ⟨h3, h4, h5⟩ := rounds_lost hi h1 h
      refine ⟨h3, ?_, fun j hj hne => ?_⟩
      · have := h2 i hi
        rw [if_pos rfl] at this
        omega
      · rw [h5 j hj hne, h2 j hj, if_neg hne]; rfl
/-- Before script k: all before have their markers, all others none. -/
structure Upto (E : Nat → Nat → Bool) (lim : Nat → Nat) (n K r k : Nat) (s : Flw) : Prop where
  wf : WF E lim n K s
  row : ∀ j, j < n → rowN K s.A j = if j < k then r else 0
theorem upto_0 {r : Nat} : Upto E lim n K r 0 flw0 where
  wf := ⟨fun i m _ _ h => by simp [flw0] at h, fun m _ => sumN_zero, fun m _ => Nat.zero_le _⟩
  row := fun j _ => by rw [if_neg (by omega)]; exact sumN_zero
theorem fill_step {r k : Nat} {s s' : Flw} (hk : k < n) (h : Upto E lim n K r k s) (hr : roundsF E lim n K k r s = (true, s')) : Upto E lim n K r (k + 1) s' := by
  obtain ⟨h1, h2⟩ := rounds_won hk h.wf hr
  refine ⟨h1, fun j hj => ?_⟩
  rw [h2 j hj, h.row j hj]
  by_cases e : j = k
  · subst e; rw [if_neg (by omega), if_pos rfl, if_pos (by omega)]; omega
  · by_cases e2 : j < k
    · rw [if_pos e2, if_neg e, if_pos (by omega)]; rfl
    · rw [if_neg e2, if_neg e, if_neg (by omega)]
/-- The set that a search has met that failed is short. -/
theorem lost_short {r k : Nat} {s : Flw} (hk : k < n) (h : Lost E lim n K k s) (h1 : rowN K s.A k < r) (h2 : ∀ j, j < n → rowN K s.A j ≤ r) :
    sumN K (fun m => min (lim m) (sumN n fun j => (reachB K k s j && E j m).toNat)) < r * sumN n (fun j => (reachB K k s j).toNat) := by
  have hcl : ∀ j, j < n → reachB K k s j = true → Closed E K j s.A s.V := fun j hj hR => by
    rcases reach_iff.1 hR with rfl | ⟨m, g1, g2, g3⟩
    · exact h.self
    · exact (h.full m g1 g2).2 j hj g3
  have step1 : sumN K (fun m => min (lim m) (sumN n fun j => (reachB K k s j && E j m).toNat)) ≤ sumN K fun m => sumN n fun j => (reachB K k s j && s.A j m).toNat := sumN_le fun m hm => by
    cases hv : s.V m with
    | true =>
      have e : sumN n (fun j => (reachB K k s j && s.A j m).toNat) = colN n s.A m := sumN_congr fun j hj => by
        cases hA : s.A j m with
        | false => simp
        | true => rw [reach_iff.2 (.inr ⟨m, hm, hv, hA⟩)]; rfl
      rw [e, h.wf.col m hm]
      have := (h.full m hm hv).1
      omega
    | false =>
      refine Nat.le_trans (Nat.min_le_right _ _) (sumN_le fun j hj => ?_)
      cases hR : reachB K k s j with
      | false => simp
      | true =>
        cases hE : E j m with
        | false => simp
        | true =>
          cases hA : s.A j m with
          | true => simp
          | false =>
            have := hcl j hj hR m hm hE hA
            rw [hv] at this; cases this
  refine Nat.lt_of_le_of_lt step1 ?_
  rw [← sumN_comm (f := fun j m => (reachB K k s j && s.A j m).toNat), ← sumN_mul]
  have e : ∀ j, sumN K (fun m => (reachB K k s j && s.A j m).toNat) = if reachB K k s j = true then rowN K s.A j else 0 := fun j => by
    cases hR : reachB K k s j with
    | false => simp [sumN_zero]
    | true => simp [rowN]
  refine sumN_lt (i := k) (fun j hj => ?_) hk ?_
  · rw [e j]
    have := h2 j hj
    cases hR : reachB K k s j <;> simp <;> omega
  · rw [e k, reach_iff.2 (.inl rfl)]
    simp; omega
theorem fill_lost : ∀ {is : List Nat} {r k i : Nat} {s s' : Flw}, is = (List.range n).drop k → Upto E lim n K r k s → fillF E lim n K r is s = (some i, s') → i < n ∧ sumN K (fun m => min (lim m) (sumN n fun j => (reachB K i s' j && E j m).toNat)) < r * sumN n (fun j => (reachB K i s' j).toNat)
  | [], r, k, i, s, s', _, _, h => by simp [fillF] at h
  | x :: is, r, k, i, s, s', e, hu, h => by
    have hk : k < n := by
      rcases Nat.lt_or_ge k n with h' | h'
      · exact h'
      · rw [List.drop_eq_nil_of_le (by simpa using h')] at e; cases e
    rw [List.drop_eq_getElem_cons (by simpa using hk)] at e
    injection e with e1 e2
    have ex : x = k := by simpa using e1
    subst ex
    rw [fillF] at h
    generalize hr : roundsF E lim n K x r s = a at h
    obtain ⟨b, s1⟩ := a
    cases b with
    | false =>
      simp only [Prod.mk.injEq, Option.some.injEq] at h
      obtain ⟨rfl, rfl⟩ := h
      obtain ⟨h1, h2, h3⟩ := rounds_lost hk hu.wf hr
      refine ⟨hk, lost_short hk h1 ?_ fun j hj => ?_⟩
      · rw [hu.row x hk, if_neg (by omega)] at h2; omega
      · by_cases ej : j = x
        · subst ej; rw [hu.row j hj, if_neg (by omega)] at h2; omega
        · rw [h3 j hj ej, hu.row j hj]; split <;> omega
    | true => exact fill_lost e2 (fill_step hk hu hr) h
theorem fill_won : ∀ {is : List Nat} {r k : Nat} {s s' : Flw}, is = (List.range n).drop k → k ≤ n → Upto E lim n K r k s → fillF E lim n K r is s = (none, s') → Upto E lim n K r n s'
  | [], r, k, s, s', e, hk, hu, h => by
    simp only [fillF, Prod.mk.injEq, true_and] at h
    subst h
    have : n - k = 0 := by have := congrArg List.length e; simpa using this.symm
    obtain rfl : k = n := by omega
    exact hu
  | x :: is, r, k, s, s', e, hk', hu, h => by
    have hk : k < n := by
      rcases Nat.lt_or_ge k n with h' | h'
      · exact h'
      · rw [List.drop_eq_nil_of_le (by simpa using h')] at e; cases e
    rw [List.drop_eq_getElem_cons (by simpa using hk)] at e
    injection e with e1 e2
    have ex : x = k := by simpa using e1
    subst ex
    rw [fillF] at h
    generalize hr : roundsF E lim n K x r s = a at h
    obtain ⟨b, s1⟩ := a
    cases b with
    | false => simp at h
    | true => exact fill_won e2 hk (fill_step hk hu hr) h
/-- Where all have their markers no set is short. -/
theorem upto_hall {r : Nat} {s : Flw} (h : Upto E lim n K r n s) : HallP E lim n K r := fun R => by
  have e : ∀ j, j < n → r * (R j).toNat = sumN K fun m => (R j && s.A j m).toNat := fun j hj => by
    have := h.row j hj
    rw [if_pos hj] at this
    cases hR : R j with
    | false => simp [sumN_zero]
    | true => simp only [Bool.toNat_true, Nat.mul_one, Bool.true_and]; exact this.symm
  rw [← sumN_mul, sumN_congr e, sumN_comm]
  refine sumN_le fun m hm => Nat.le_min.2 ⟨?_, ?_⟩
  · refine Nat.le_trans ?_ (h.wf.lim m hm)
    rw [← h.wf.col m hm]
    exact sumN_le fun j _ => by cases R j <;> simp
  · refine sumN_le fun j hj => ?_
    cases hA : s.A j m with
    | false => simp
    | true => rw [h.wf.el j m hj hm hA]; exact Nat.le_refl _
/-- All get their markers exactly if no set is short. -/
theorem fill_iff {r : Nat} : (fillF E lim n K r (List.range n) flw0).1 = none ↔ HallP E lim n K r := by
  generalize hr : fillF E lim n K r (List.range n) flw0 = a
  obtain ⟨o, s'⟩ := a
  cases o with
  | none => exact ⟨fun _ => upto_hall (fill_won (k := 0) rfl (Nat.zero_le _) upto_0 hr), fun _ => rfl⟩
  | some i =>
    obtain ⟨-, h⟩ := fill_lost (k := 0) rfl upto_0 hr
    exact ⟨fun h' => (by cases h'), fun h' => (by have := h' (reachB K i s'); omega)⟩
theorem HallP.mono {E' : Nat → Nat → Bool} {lim' : Nat → Nat} {r : Nat} (h : HallP E lim n K r) (h1 : ∀ m, m < K → lim m ≤ lim' m) (h2 : ∀ j m, j < n → m < K → E j m = true → E' j m = true) : HallP E' lim' n K r := fun R => by
  refine Nat.le_trans (h R) (sumN_le fun m hm => ?_)
  have e := sumN_le (n := n) (f := fun j => (R j && E j m).toNat) (g := fun j => (R j && E' j m).toNat) fun j hj => by
    cases hE : E j m with
    | false => simp
    | true => rw [h2 j m hj hm hE]; exact Nat.le_refl _
  have := h1 m hm
  omega
/-- Limits beyond the number of scripts say nothing. -/
theorem HallP.cap {lim' : Nat → Nat} {r : Nat} (h : HallP E lim n K r) (h1 : ∀ m, m < K → min (lim m) n ≤ lim' m) : HallP E lim' n K r := fun R => by
  refine Nat.le_trans (h R) (sumN_le fun m hm => ?_)
  have e := sumN_bool (n := n) (p := fun j => R j && E j m)
  have := h1 m hm
  omega
/-- One more marker. -/
theorem HallP.more {E' : Nat → Nat → Bool} {lim' : Nat → Nat} {r K' : Nat} (h : HallP E lim n K r) (hK : K ≤ K') (h1 : ∀ m, m < K → lim m ≤ lim' m) (h2 : ∀ j m, j < n → m < K → E j m = true → E' j m = true) : HallP E' lim' n K' r := fun R => by
  refine Nat.le_trans (h.mono h1 h2 R) ?_
  clear h h1 h2
  induction K' with
  | zero => obtain rfl : K = 0 := by omega
            exact Nat.le_refl _
  | succ k ih =>
    by_cases e : K = k + 1
    · subst e; exact Nat.le_refl _
    · have := ih (by omega); rw [sumN]; omega
end
/-! the least greatest load -/
section
variable (E : Nat → Nat → Bool) (cap : Nat → Nat) (n K r : Nat)
def limF (most : Nat) : Nat → Nat := fun m => min (cap m) most
def okF (most : Nat) : Bool := (fillF E (limF cap most) n K r (List.range n) flw0).1.isNone
/-- The first of c candidates, from most on, that will do. -/
def bestF : Nat → Nat → Option Nat
  | 0, _ => none
  | c + 1, most => if okF E cap n K r most = true then some most else bestF c (most + 1)
def leastF : Option Nat := bestF E cap n K r (n + 1) 0
end
section
variable {E : Nat → Nat → Bool} {cap : Nat → Nat} {n K r : Nat}
theorem ok_iff {most : Nat} : okF E cap n K r most = true ↔ HallP E (limF cap most) n K r := by rw [okF, Option.isNone_iff_eq_none, fill_iff]
theorem best_some : ∀ {c most a : Nat}, bestF E cap n K r c most = some a → most ≤ a ∧ a < most + c ∧ okF E cap n K r a = true ∧ ∀ b, most ≤ b → b < a → okF E cap n K r b = false
  | 0, most, a, h => by simp [bestF] at h
  | c + 1, most, a, h => by
    rw [bestF] at h
    by_cases e : okF E cap n K r most = true
    · rw [if_pos e] at h
      injection h with h
      subst h
      exact ⟨Nat.le_refl _, by omega, e, fun b h1 h2 => by omega⟩
    · rw [if_neg e] at h
      obtain ⟨h1, h2, h3, h4⟩ := best_some h
      refine ⟨by omega, by omega, h3, fun b g1 g2 => ?_⟩
      by_cases eb : b = most
      · subst eb; simpa using e
      · exact h4 b (by omega) g2
theorem best_none : ∀ {c most : Nat}, bestF E cap n K r c most = none → ∀ b, most ≤ b → b < most + c → okF E cap n K r b = false
  | 0, most, _, b, h1, h2 => by omega
  | c + 1, most, h, b, h1, h2 => by
    rw [bestF] at h
    by_cases e : okF E cap n K r most = true
    · rw [if_pos e] at h; cases h
    · rw [if_neg e] at h
      by_cases eb : b = most
      · subst eb; simpa using e
      · exact best_none h b (by omega) (by omega)
theorem ok_cap {a : Nat} (h : okF E cap n K r a = true) : okF E cap n K r n = true := by
  rw [ok_iff] at h ⊢
  exact h.cap fun m _ => by simp only [limF]; omega
/-- It does not matter how many candidates beyond the number of scripts are looked at. -/
theorem best_far {c : Nat} (hc : n + 1 ≤ c) : bestF E cap n K r c 0 = leastF E cap n K r := by
  cases h : bestF E cap n K r c 0 with
  | none =>
    cases h' : leastF E cap n K r with
    | none => rfl
    | some a =>
      obtain ⟨h1, h2, h3, h4⟩ := best_some h'
      rw [best_none h a (by omega) (by omega)] at h3; cases h3
  | some a =>
    obtain ⟨h1, h2, h3, h4⟩ := best_some h
    cases h' : leastF E cap n K r with
    | none =>
      have := best_none h' n (by omega) (by omega)
      rw [ok_cap h3] at this; cases this
    | some b =>
      obtain ⟨g1, g2, g3, g4⟩ := best_some h'
      rcases Nat.lt_trichotomy a b with e | e | e
      · rw [g4 a (by omega) e] at h3; cases h3
      · rw [e]
      · rw [h4 b (by omega) e] at g3; cases g3
theorem least_iff {a : Nat} : leastF E cap n K r = some a ↔ okF E cap n K r a = true ∧ ∀ b, b < a → okF E cap n K r b = false := by
  constructor
  · intro h
    obtain ⟨h1, h2, h3, h4⟩ := best_some h
    exact ⟨h3, fun b hb => h4 b (by omega) hb⟩
  · rintro ⟨h1, h2⟩
    cases h' : leastF E cap n K r with
    | none =>
      have := best_none h' n (by omega) (by omega)
      rw [ok_cap h1] at this; cases this
    | some b =>
      obtain ⟨g1, g2, g3, g4⟩ := best_some h'
      rcases Nat.lt_trichotomy a b with e | e | e
      · rw [g4 a (by omega) e] at h1; cases h1
      · rw [e]
      · rw [h2 b e] at g3; cases g3
theorem least_le {a : Nat} (h : leastF E cap n K r = some a) : a ≤ n := by
  obtain ⟨h1, h2, h3, h4⟩ := best_some h
  omega
end
end Go.Proofs.Ythgnomniboindaa
end
