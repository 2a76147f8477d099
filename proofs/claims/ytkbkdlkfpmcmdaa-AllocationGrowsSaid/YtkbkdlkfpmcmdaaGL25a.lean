/- Layer 25: the search for one more marker: the program's closure. -/
import Derived.Test.YtkbkdlkfpmcmdaaGL25m
import Derived.Test.YtkbkdlkfpmcmdaaPl25
namespace Go.Proofs.Ytkbkdlkfpmcmdaa
set_option linter.unusedVariables false
set_option linter.unusedSimpArgs false
set_option linter.unnecessarySimpa false
set_option linter.unusedSectionVars false
set_option maxRecDepth 10000
open Go.RowKit
def plGL25a_0 : Plan := (.take 0 (.take 1 (.take 2 (.take 3 (.take 4 (.take 5 (.take 6 (.take 7 (.take 8 (.take 9 (.take 10 (.take 11 (.take 12 (.take 13 (.take 14 .done)))))))))))))))
def plGL25a_1 : Plan := (.take 0 (.take 1 (.take 2 (.take 3 (.take 4 (.take 5 (.take 7 (.take 8 (.take 9 (.take 10 (.take 11 (.take 12 (.alt 6 (.alt 13 (.take 14 .done) .stop) (.alt 13 (.alt 6 (.take 14 .done) .stop) .stop))))))))))))))
def plGL25a_2 : Plan := (.take 4 (.take 11 (.alt 0 (.take 1 (.take 2 (.alt 3 (.take 5 (.alt 6 (.alt 7 (.take 8 (.take 9 (.alt 10 (.take 12 (.alt 13 (.take 14 .done) .stop)) .stop))) .stop) (.alt 7 (.take 8 (.take 9 (.alt 6 (.alt 10 (.take 12 (.alt 13 (.take 14 .done) .stop)) .stop) (.alt 10 (.take 12 (.alt 6 (.alt 13 (.take 14 .done) .stop) (.alt 13 (.alt 6 (.take 14 .done) .stop) .stop))) .stop)))) .stop))) (.alt 7 (.take 8 (.take 9 (.alt 3 (.take 5 (.alt 6 (.alt 10 (.take 12 (.alt 13 (.take 14 .done) .stop)) .stop) (.alt 10 (.take 12 (.alt 6 (.alt 13 (.take 14 .done) .stop) (.alt 13 (.alt 6 (.take 14 .done) .stop) .stop))) .stop))) (.alt 10 (.take 12 (.alt 3 (.take 5 (.alt 6 (.alt 13 (.take 14 .done) .stop) (.alt 13 (.alt 6 (.take 14 .done) .stop) .stop))) (.alt 13 (.alt 3 (.take 5 (.alt 6 (.take 14 .done) .stop)) .stop) .stop))) .stop)))) .stop)))) (.alt 7 (.take 8 (.take 9 (.alt 0 (.take 1 (.take 2 (.alt 3 (.take 5 (.alt 6 (.alt 10 (.take 12 (.alt 13 (.take 14 .done) .stop)) .stop) (.alt 10 (.take 12 (.alt 6 (.alt 13 (.take 14 .done) .stop) (.alt 13 (.alt 6 (.take 14 .done) .stop) .stop))) .stop))) (.alt 10 (.take 12 (.alt 3 (.take 5 (.alt 6 (.alt 13 (.take 14 .done) .stop) (.alt 13 (.alt 6 (.take 14 .done) .stop) .stop))) (.alt 13 (.alt 3 (.take 5 (.alt 6 (.take 14 .done) .stop)) .stop) .stop))) .stop)))) (.alt 10 (.take 12 (.alt 0 (.take 1 (.take 2 (.alt 3 (.take 5 (.alt 6 (.alt 13 (.take 14 .done) .stop) (.alt 13 (.alt 6 (.take 14 .done) .stop) .stop))) (.alt 13 (.alt 3 (.take 5 (.alt 6 (.take 14 .done) .stop)) .stop) .stop)))) (.alt 13 (.alt 0 (.take 1 (.take 2 (.alt 3 (.take 5 (.alt 6 (.take 14 .done) .stop)) .stop))) .stop) .stop))) .stop)))) .stop))))
def plGL25a_3 : Plan := (.take 0 (.take 1 (.take 2 (.take 3 (.take 4 (.take 5 (.take 7 (.take 8 (.take 9 (.take 10 (.take 11 (.take 12 (.takeQ 6 (.takeQ 13 (.take 14 .done)))))))))))))))
def bsL (K : Nat) (f : Nat → Bool) : List (List AV) := (List.range K).map fun m => [AV.bool (f m)]
def nsL (K : Nat) (f : Nat → Nat) : List (List AV) := (List.range K).map fun m => [AV.int .i64 (f m : Nat)]
def rowsM (n K : Nat) (A : Nat → Nat → Bool) : List (Option (List (List AV))) := (List.range n).map fun i => some (bsL K (A i))
def gridV (n K : Nat) (E : Nat → Nat → Bool) : AV := .lst 1 ((List.range n).map fun i => [AV.lst 1 (bsL K (E i))])
theorem bsL_len {K : Nat} {f : Nat → Bool} : (bsL K f).length = K := by simp [bsL]
theorem nsL_len {K : Nat} {f : Nat → Nat} : (nsL K f).length = K := by simp [nsL]
theorem rowsM_len {n K : Nat} {A : Nat → Nat → Bool} : (rowsM n K A).length = n := by simp [rowsM]
theorem idx_f {g : Nat → List AV} {n : Nat} {m : Nat} {k : Int} {P : List AV → Prop} (hk : k = m) (hm : m < n) (h : P (g m)) : idx ((List.range n).map g) k P :=
  idx_i (cs := g m) (by omega) (by rw [hk, Int.toNat_natCast, List.getElem?_map, List.getElem?_range hm]; rfl) h
theorem ridx_f {g : Nat → Option (List (List AV))} {n : Nat} {m : Nat} {k : Int} {P : Option (List (List AV)) → Prop} (hk : k = m) (hm : m < n) (h : P (g m)) : ridx ((List.range n).map g) k P :=
  ridx_i (o := g m) (by omega) (by rw [hk, Int.toNat_natCast, List.getElem?_map, List.getElem?_range hm]; rfl) h
theorem mod_f {α : Type} {g : Nat → α} {n m : Nat} {h : α → α} : ((List.range n).map g).modify m h = (List.range n).map fun k => if k = m then h (g k) else g k := by
  refine List.ext_getElem? fun i => ?_
  rw [List.getElem?_modify, List.getElem?_map, List.getElem?_map]
  by_cases hi : i < n
  · rw [List.getElem?_range hi]
    by_cases e : m = i
    · subst e; simp
    · simp [e, Ne.symm e]
  · rw [List.getElem?_eq_none (by simpa using hi)]; simp
theorem bs_set {K m : Nat} {f : Nat → Bool} {k : Int} (hk : k = m) : (bsL K f).modify k.toNat (·.set 0 (.bool true)) = bsL K (setV f m) := by
  rw [hk, Int.toNat_natCast, bsL, mod_f, bsL]
  refine List.map_congr_left fun x _ => ?_
  by_cases e : x = m <;> simp [setV, e]
theorem ns_inc {K m : Nat} {f : Nat → Nat} {k x : Int} (hk : k = m) (hx : x = (f m : Nat) + 1) : (nsL K f).modify k.toNat (·.set 0 (.int .i64 x)) = nsL K (incL f m) := by
  rw [hk, hx, Int.toNat_natCast, nsL, mod_f, nsL]
  refine List.map_congr_left fun x _ => ?_
  by_cases e : x = m <;> simp [incL, e]
theorem rows_set {n K i m : Nat} {A : Nat → Nat → Bool} {b : Bool} {j k : Int} (hj : j = i) (hk : k = m) : (rowsM n K A).modify j.toNat (storeRow k.toNat 0 (.bool b)) = rowsM n K (setA A i m b) := by
  rw [hj, hk, Int.toNat_natCast, Int.toNat_natCast, rowsM, mod_f, rowsM]
  refine List.map_congr_left fun x _ => ?_
  by_cases e : x = i
  · subst e
    rw [if_pos rfl, storeRow, bsL, mod_f, bsL]
    refine congrArg some (List.map_congr_left fun y _ => ?_)
    by_cases e : y = m <;> simp [setA, e]
  · rw [if_neg e]
    refine congrArg (fun l => some l) (List.map_congr_left fun y _ => ?_)
    simp [setA, e]
theorem ridx_set {n K i m : Nat} {A : Nat → Nat → Bool} {b : Bool} {j k x : Int} {P : Option (List (List AV)) → Prop} (hj : j = i) (hk : k = m) (h : ridx (rowsM n K (setA A i m b)) x P) : ridx ((rowsM n K A).modify j.toNat (storeRow k.toNat 0 (.bool b))) x P := by
  rw [rows_set hj hk]; exact h
theorem rows_set2 {n K i j m : Nat} {A : Nat → Nat → Bool} {b c : Bool} {x y z : Int} (hx : x = j) (hy : y = i) (hz : z = m) : ((rowsM n K A).modify x.toNat (storeRow z.toNat 0 (.bool b))).modify y.toNat (storeRow z.toNat 0 (.bool c)) = rowsM n K (setA (setA A j m b) i m c) := by
  rw [rows_set hx hz, rows_set hy hz]
theorem tryJ_yes {srch : Nat → Flw → Bool × Flw} {i m j : Nat} {js : List Nat} {s : Flw} (hA : s.A j m = true) (h : (srch j s).1 = true) : tryJ srch i m (j :: js) s = (true, ⟨setA (setA (srch j s).2.A j m false) i m true, (srch j s).2.ld, (srch j s).2.V⟩) := by
  rw [tryJ, if_pos hA]
  generalize srch j s = r at h
  obtain ⟨b, s1⟩ := r
  simp only at h
  subst h; rfl
theorem tryJ_no {srch : Nat → Flw → Bool × Flw} {i m j : Nat} {js : List Nat} {s : Flw} (hA : s.A j m = true) (h : (srch j s).1 = false) : tryJ srch i m (j :: js) s = tryJ srch i m js (srch j s).2 := by
  rw [tryJ, if_pos hA]
  generalize srch j s = r at h
  obtain ⟨b, s1⟩ := r
  simp only at h
  subst h; rfl
theorem tryJ_skip {srch : Nat → Flw → Bool × Flw} {i m j : Nat} {js : List Nat} {s : Flw} (hA : s.A j m = false) : tryJ srch i m (j :: js) s = tryJ srch i m js s := by
  rw [tryJ, if_neg (by simp [hA])]
def flowC (E : Nat → Nat → Bool) (lim : Nat → Nat) (n K : Nat) (s : Flw) : List AV := [gridV n K E, .mat 1101 111 4 1 (rowsM n K s.A), .own 1102 3 1 (nsL K s.ld), .lst 1 (nsL K lim), .own 1104 4 1 (bsL K s.V)]
theorem flow_eq {E : Nat → Nat → Bool} {lim : Nat → Nat} {n K : Nat} {s : Flw} {rows : List (Option (List (List AV)))} {l v : List (List AV)} (h1 : rows = rowsM n K s.A) (h2 : l = nsL K s.ld) (h3 : v = bsL K s.V) :
    some [gridV n K E, .mat 1101 111 4 1 rows, .own 1102 3 1 l, .lst 1 (nsL K lim), .own 1104 4 1 v] = some (flowC E lim n K s) := by subst h1 h2 h3; rfl
def srchA : List AV := [.ptr 1000 0, .ptr 1001 0]
def srchB (E : Nat → Nat → Bool) (lim : Nat → Nat) (n K : Nat) (s : Flw) : List (Nat × List AV) := [(1000, [.ptr 1002 0]), (1001, [.fn 109 srchA]), (1002, flowC E lim n K s)]
set_option maxHeartbeats 4000000 in
theorem search_ok (E : Nat → Nat → Bool) (lim : Nat → Nat) (n K : Nat) (hn : n ≤ 100) (hK : K ≤ 100) (hlim : ∀ m, m < K → lim m ≤ 1000) : ∀ (f i : Nat) (s : Flw), i < n → unv K s ≤ f → (∀ m, m < K → s.ld m ≤ lim m) →
    GoodM Try.prog TT false 109 (.int .i64 i :: srchA) (srchB E lim n K s) (fun r ov bx => r = .bool (searchF E lim n K f i s).1 ∧ ov = [] ∧ bx = srchB E lim n K (searchF E lim n K f i s).2) := by
  intro f
  induction f with
  | zero =>
    intro i s hi hu hl
    have hV : ∀ m, m < K → s.V m = true := fun m hm => unv_zero (by omega) hm
    have L1 : (nsL K s.ld).length = K := nsL_len
    refine good_of_m (fun _ => false) mixed tabOk Try.func109 rfl rfl Try.ntmps109 Try.results109 rfl rfl ?_
    (conv => whnf); (repeat' (first | (refine arith_i ⟨by omega, by omega⟩ ?_; conv => whnf) | (refine arith_u ⟨by omega, by omega⟩ ?_; conv => whnf) | (refine arith_8 ⟨by omega, by omega⟩ ?_; conv => whnf) | (refine need_i (by first | omega | (simp only [List.length_cons, List.length_nil]; omega) | (simp only [List.length_append, List.length_cons, List.length_nil, List.length_map, List.length_replicate, List.length_modify]; omega)) ?_; conv => whnf) | ((with_reducible refine branch_tt ?_); conv => whnf) | ((with_reducible refine branch_ff ?_); conv => whnf) | (with_reducible refine branch_not ?_) | ((with_reducible refine slc_e ?_); conv => whnf) | ((with_reducible refine callS_a ?_); conv => whnf) | ((with_reducible refine bld_a ?_); conv => whnf) | ((with_reducible refine own_e ?_); conv => whnf) | ((with_reducible refine mkmap_b ?_); conv => whnf) | (refine draw_i 15 plGL25a_0 (by decide +kernel) ?_; (conv => whnf); fail_if_success (guard_target =~ False)) | (refine draw_i 15 plGL25a_1 (by decide +kernel) ?_; (conv => whnf); fail_if_success (guard_target =~ False)) | (refine draw_i 15 plGL25a_2 (by decide +kernel) ?_; (conv => whnf); fail_if_success (guard_target =~ False)) | ((with_reducible refine And.intro ?_ ?_) <;> (conv => whnf)) | (with_reducible exact trivial) | ((with_reducible refine branch_d (fun hq => ?_) (fun hq => ?_)) <;> (try (exfalso; omega)) <;> (conv => whnf)) | ((with_reducible refine branch_e (fun hq => ?_) (fun hq => ?_)) <;> (try (exfalso; omega)) <;> (conv => whnf)) | ((with_reducible refine branch_n (fun hq => ?_) (fun hq => ?_)) <;> (try (exfalso; omega)) <;> (conv => whnf)) | ((with_reducible refine branch_i (fun hq => ?_) (fun hq => ?_)) <;> (try (exfalso; omega)) <;> (conv => whnf))))
    refine loop_i (fun m : Nat => m ≤ K) (fun m => mkSt [(0, .int .i64 i), (1, .ptr 1000 0), (2, .ptr 1001 0), (11, .int .i64 (nsL K s.ld).length), (12, .int .i64 m)] (srchB E lim n K s) false) (fun m => K - m) 0 (Nat.zero_le _) (le_mk (by repeat' (first | exact trivial | rfl | apply And.intro)) (by repeat' (first | exact trivial | rfl | apply And.intro)) rfl) ?_
    intro m hm
    (conv => whnf); (repeat' (first | (refine arith_i ⟨by omega, by omega⟩ ?_; conv => whnf) | (refine arith_u ⟨by omega, by omega⟩ ?_; conv => whnf) | (refine arith_8 ⟨by omega, by omega⟩ ?_; conv => whnf) | (refine need_i (by first | omega | (simp only [List.length_cons, List.length_nil]; omega) | (simp only [List.length_append, List.length_cons, List.length_nil, List.length_map, List.length_replicate, List.length_modify]; omega)) ?_; conv => whnf) | ((with_reducible refine branch_tt ?_); conv => whnf) | ((with_reducible refine branch_ff ?_); conv => whnf) | (with_reducible refine branch_not ?_) | (((refine idx_f (m := m) rfl (by omega) ?_; rw [hV m (by omega)])); conv => whnf) | ((with_reducible refine slc_e ?_); conv => whnf) | ((with_reducible refine callS_a ?_); conv => whnf) | ((with_reducible refine bld_a ?_); conv => whnf) | ((with_reducible refine own_e ?_); conv => whnf) | ((with_reducible refine mkmap_b ?_); conv => whnf) | (refine draw_i 15 plGL25a_0 (by decide +kernel) ?_; (conv => whnf); fail_if_success (guard_target =~ False)) | (refine draw_i 15 plGL25a_1 (by decide +kernel) ?_; (conv => whnf); fail_if_success (guard_target =~ False)) | (refine draw_i 15 plGL25a_2 (by decide +kernel) ?_; (conv => whnf); fail_if_success (guard_target =~ False)) | ((with_reducible refine And.intro ?_ ?_) <;> (conv => whnf)) | (with_reducible exact trivial) | ((with_reducible refine branch_d (fun hq => ?_) (fun hq => ?_)) <;> (try (exfalso; omega)) <;> (conv => whnf)) | ((with_reducible refine branch_e (fun hq => ?_) (fun hq => ?_)) <;> (try (exfalso; omega)) <;> (conv => whnf)) | ((with_reducible refine branch_n (fun hq => ?_) (fun hq => ?_)) <;> (try (exfalso; omega)) <;> (conv => whnf)) | ((with_reducible refine branch_i (fun hq => ?_) (fun hq => ?_)) <;> (try (exfalso; omega)) <;> (conv => whnf))))
    · exact ⟨m + 1, by omega, (le_mk (by repeat' (first | exact trivial | rfl | apply And.intro)) (by repeat' (first | exact trivial | rfl | apply And.intro)) rfl), by omega⟩
    · have e : searchF E lim n K 0 i s = (false, s) := rfl
      rw [e]
      exact retM_i _ [] _ rfl (le_mk (by repeat' (first | exact trivial | rfl | apply And.intro)) (by repeat' (first | exact trivial | rfl | apply And.intro)) rfl) rfl ⟨rfl, rfl, rfl⟩
  | succ f IH =>
    intro i s0 hi hu hl
    have L1 : ∀ s : Flw, (nsL K s.ld).length = K := fun s => nsL_len
    have L2 : ∀ s : Flw, (rowsM n K s.A).length = n := fun s => rowsM_len
    refine good_of_m (fun _ => false) mixed tabOk Try.func109 rfl rfl Try.ntmps109 Try.results109 rfl rfl ?_
    (conv => whnf); (repeat' (first | (refine arith_i ⟨by omega, by omega⟩ ?_; conv => whnf) | (refine arith_u ⟨by omega, by omega⟩ ?_; conv => whnf) | (refine arith_8 ⟨by omega, by omega⟩ ?_; conv => whnf) | (refine need_i (by first | omega | (simp only [List.length_cons, List.length_nil]; omega) | (simp only [List.length_append, List.length_cons, List.length_nil, List.length_map, List.length_replicate, List.length_modify]; omega)) ?_; conv => whnf) | ((with_reducible refine branch_tt ?_); conv => whnf) | ((with_reducible refine branch_ff ?_); conv => whnf) | (with_reducible refine branch_not ?_) | ((with_reducible refine slc_e ?_); conv => whnf) | ((with_reducible refine callS_a ?_); conv => whnf) | ((with_reducible refine bld_a ?_); conv => whnf) | ((with_reducible refine own_e ?_); conv => whnf) | ((with_reducible refine mkmap_b ?_); conv => whnf) | (refine draw_i 15 plGL25a_0 (by decide +kernel) ?_; (conv => whnf); fail_if_success (guard_target =~ False)) | (refine draw_i 15 plGL25a_1 (by decide +kernel) ?_; (conv => whnf); fail_if_success (guard_target =~ False)) | (refine draw_i 15 plGL25a_2 (by decide +kernel) ?_; (conv => whnf); fail_if_success (guard_target =~ False)) | ((with_reducible refine And.intro ?_ ?_) <;> (conv => whnf)) | (with_reducible exact trivial) | ((with_reducible refine branch_d (fun hq => ?_) (fun hq => ?_)) <;> (try (exfalso; omega)) <;> (conv => whnf)) | ((with_reducible refine branch_e (fun hq => ?_) (fun hq => ?_)) <;> (try (exfalso; omega)) <;> (conv => whnf)) | ((with_reducible refine branch_n (fun hq => ?_) (fun hq => ?_)) <;> (try (exfalso; omega)) <;> (conv => whnf)) | ((with_reducible refine branch_i (fun hq => ?_) (fun hq => ?_)) <;> (try (exfalso; omega)) <;> (conv => whnf))))
    refine loop_i2 (fun (m : Nat) (s : Flw) => m ≤ K ∧ unv K s ≤ f + 1 ∧ (∀ m, m < K → s.ld m ≤ lim m) ∧ searchF E lim n K (f + 1) i s0 = tryM E lim n (searchF E lim n K f) i ((List.range K).drop m) s) (fun m s => mkSt [(0, .int .i64 i), (1, .ptr 1000 0), (2, .ptr 1001 0), (11, .int .i64 K), (12, .int .i64 m)] (srchB E lim n K s) false) (fun m _ => K - m) 0 s0 ⟨Nat.zero_le _, hu, hl, rfl⟩ (le_mk ⟨rfl, rfl, rfl, int_eq (by rw [L1]), rfl, trivial⟩ ⟨rfl, rfl, rfl, trivial⟩ rfl) ?_
    rintro m s ⟨hm, hus, hls, hF⟩
    rcases Nat.lt_or_ge m K with hmK | hmK
    · have hb : s.ld m ≤ 1000 := Nat.le_trans (hls m hmK) (hlim m hmK)
      rw [List.drop_eq_getElem_cons (by simpa using hmK), List.getElem_range, tryM] at hF
      (conv => whnf); (repeat' (first | (refine arith_i ⟨by omega, by omega⟩ ?_; conv => whnf) | (refine arith_u ⟨by omega, by omega⟩ ?_; conv => whnf) | (refine arith_8 ⟨by omega, by omega⟩ ?_; conv => whnf) | (refine need_i (by first | omega | (simp only [List.length_cons, List.length_nil]; omega) | (simp only [List.length_append, List.length_cons, List.length_nil, List.length_map, List.length_replicate, List.length_modify]; omega)) ?_; conv => whnf) | ((with_reducible refine branch_tt ?_); conv => whnf) | ((with_reducible refine branch_ff ?_); conv => whnf) | (with_reducible refine branch_not ?_) | ((refine idx_f (m := m) rfl (by omega) ?_); conv => whnf) | ((refine idx_f (m := i) rfl (by omega) ?_); conv => whnf) | ((refine ridx_f (m := i) rfl (by omega) ?_); conv => whnf) | ((with_reducible refine slc_e ?_); conv => whnf) | ((with_reducible refine callS_a ?_); conv => whnf) | ((with_reducible refine bld_a ?_); conv => whnf) | ((with_reducible refine own_e ?_); conv => whnf) | ((with_reducible refine mkmap_b ?_); conv => whnf) | (refine draw_i 15 plGL25a_3 (by decide +kernel) ?_; (conv => whnf); fail_if_success (guard_target =~ False)) | ((with_reducible refine And.intro ?_ ?_) <;> (conv => whnf)) | (with_reducible exact trivial) | ((with_reducible refine branch_d (fun hq => ?_) (fun hq => ?_)) <;> (try (exfalso; omega)) <;> (conv => whnf)) | ((with_reducible refine branch_e (fun hq => ?_) (fun hq => ?_)) <;> (try (exfalso; omega)) <;> (conv => whnf)) | ((with_reducible refine branch_n (fun hq => ?_) (fun hq => ?_)) <;> (try (exfalso; omega)) <;> (conv => whnf)) | ((with_reducible refine branch_i (fun hq => ?_) (fun hq => ?_)) <;> (try (exfalso; omega)) <;> (conv => whnf))))
      all_goals first
        | exact ⟨m + 1, s, ⟨by omega, hus, hls, by rw [hF, if_pos (by simp [*])]⟩, (le_mk (by repeat' (first | exact trivial | rfl | apply And.intro)) (by repeat' (first | exact trivial | rfl | apply And.intro)) rfl), by omega⟩
        | skip
      · have hlt : s.ld m < lim m := by omega
        rw [if_neg (by simp [*]), if_pos hlt] at hF
        rw [hF]
        exact retM_i _ [] (srchB E lim n K ⟨setA s.A i m true, incL s.ld m, setV s.V m⟩) rfl (le_mk ⟨rfl, trivial⟩ ⟨rfl, rfl, flow_eq (rows_set rfl rfl) (ns_inc rfl rfl) (bs_set rfl), trivial⟩ rfl) rfl ⟨rfl, rfl, rfl⟩
      rw [if_neg (by simp [*]), if_neg (by omega)] at hF
      have hV : s.V m = false := by assumption
      have hum := unv_mark (A := s.A) (ld := s.ld) hmK hV
      refine loop_i2 (fun (j : Nat) (s' : Flw) => j ≤ n ∧ unv K s' ≤ f ∧ (∀ m, m < K → s'.ld m ≤ lim m) ∧ tryJ (searchF E lim n K f) i m (List.range n) ⟨s.A, s.ld, setV s.V m⟩ = tryJ (searchF E lim n K f) i m ((List.range n).drop j) s') (fun j s' => mkSt [(0, .int .i64 i), (1, .ptr 1000 0), (2, .ptr 1001 0), (5, .int .i64 m), (11, .int .i64 K), (12, .int .i64 m), (90, .int .i64 n), (91, .int .i64 j)] (srchB E lim n K s') false) (fun j _ => n - j) 0 ⟨s.A, s.ld, setV s.V m⟩ ⟨Nat.zero_le _, by omega, hls, rfl⟩
        (le_mk ⟨rfl, rfl, rfl, rfl, rfl, rfl, int_eq (by rw [L2]), rfl, trivial⟩ ⟨rfl, rfl, flow_eq rfl rfl (bs_set rfl), trivial⟩ rfl) ?_
      rintro j s' ⟨hj, hu', hl', hJ⟩
      rcases Nat.lt_or_ge j n with hjn | hjn
      · rw [List.drop_eq_getElem_cons (by simpa using hjn), List.getElem_range] at hJ
        (conv => whnf); (repeat' (first | (refine arith_i ⟨by omega, by omega⟩ ?_; conv => whnf) | (refine arith_u ⟨by omega, by omega⟩ ?_; conv => whnf) | (refine arith_8 ⟨by omega, by omega⟩ ?_; conv => whnf) | (refine need_i (by first | omega | (simp only [List.length_cons, List.length_nil]; omega) | (simp only [List.length_append, List.length_cons, List.length_nil, List.length_map, List.length_replicate, List.length_modify]; omega)) ?_; conv => whnf) | ((with_reducible refine branch_tt ?_); conv => whnf) | ((with_reducible refine branch_ff ?_); conv => whnf) | (with_reducible refine branch_not ?_) | ((refine idx_f (m := m) rfl (by omega) ?_); conv => whnf) | ((refine ridx_f (m := j) rfl (by omega) ?_); conv => whnf) | ((refine ridx_f (m := i) rfl (by omega) ?_); conv => whnf) | ((refine ridx_set (i := j) (m := m) rfl rfl (ridx_f (m := i) rfl (by omega) ?_)); conv => whnf) | ((refine mcall_e [(1000, 1000), (1001, 1001), (1002, 1002)] [(1101, 1101), (1102, 1102), (1104, 1104)] (IH j s' (by omega) hu' hl') rfl rfl rfl ⟨⟨_, rfl, rfl, rfl⟩, ⟨_, rfl, rfl, rfl⟩, ⟨_, rfl, rfl, rfl⟩, trivial⟩ rfl ?_); conv => whnf) | ((with_reducible refine slc_e ?_); conv => whnf) | ((with_reducible refine callS_a ?_); conv => whnf) | ((with_reducible refine bld_a ?_); conv => whnf) | ((with_reducible refine own_e ?_); conv => whnf) | ((with_reducible refine mkmap_b ?_); conv => whnf) | (refine draw_i 15 plGL25a_3 (by decide +kernel) ?_; (conv => whnf); fail_if_success (guard_target =~ False)) | ((with_reducible refine And.intro ?_ ?_) <;> (conv => whnf)) | (with_reducible exact trivial) | ((with_reducible refine branch_d (fun hq => ?_) (fun hq => ?_)) <;> (try (exfalso; omega)) <;> (conv => whnf)) | ((with_reducible refine branch_e (fun hq => ?_) (fun hq => ?_)) <;> (try (exfalso; omega)) <;> (conv => whnf)) | ((with_reducible refine branch_n (fun hq => ?_) (fun hq => ?_)) <;> (try (exfalso; omega)) <;> (conv => whnf)) | ((with_reducible refine branch_i (fun hq => ?_) (fun hq => ?_)) <;> (try (exfalso; omega)) <;> (conv => whnf))))
        · rw [tryJ_yes (by assumption) hq] at hJ
          rw [hJ] at hF
          rw [hF]
          exact retM_i _ [] (srchB E lim n K ⟨setA (setA (searchF E lim n K f j s').2.A j m false) i m true, (searchF E lim n K f j s').2.ld, (searchF E lim n K f j s').2.V⟩) rfl (le_mk ⟨rfl, trivial⟩ ⟨rfl, rfl, flow_eq (rows_set2 rfl rfl rfl) rfl rfl, trivial⟩ rfl) rfl ⟨rfl, rfl, rfl⟩
        · rw [tryJ_no (by assumption) hq] at hJ
          obtain ⟨hN, -⟩ := search_fail hu' (show searchF E lim n K f j s' = (false, (searchF E lim n K f j s').2) from Prod.ext hq rfl)
          exact ⟨j + 1, (searchF E lim n K f j s').2, ⟨by omega, Nat.le_trans (unv_mono hN.V) hu', fun x hx => by rw [hN.ld]; exact hl' x hx, hJ⟩, (le_mk (by repeat' (first | exact trivial | rfl | apply And.intro)) (by repeat' (first | exact trivial | rfl | apply And.intro)) rfl), by omega⟩
        · rw [tryJ_skip hq] at hJ
          exact ⟨j + 1, s', ⟨by omega, hu', hl', hJ⟩, (le_mk (by repeat' (first | exact trivial | rfl | apply And.intro)) (by repeat' (first | exact trivial | rfl | apply And.intro)) rfl), by omega⟩
      · rw [List.drop_eq_nil_of_le (by simpa using hjn), tryJ] at hJ
        rw [hJ] at hF
        (conv => whnf); (repeat' (first | (refine arith_i ⟨by omega, by omega⟩ ?_; conv => whnf) | (refine arith_u ⟨by omega, by omega⟩ ?_; conv => whnf) | (refine arith_8 ⟨by omega, by omega⟩ ?_; conv => whnf) | (refine need_i (by first | omega | (simp only [List.length_cons, List.length_nil]; omega) | (simp only [List.length_append, List.length_cons, List.length_nil, List.length_map, List.length_replicate, List.length_modify]; omega)) ?_; conv => whnf) | ((with_reducible refine branch_tt ?_); conv => whnf) | ((with_reducible refine branch_ff ?_); conv => whnf) | (with_reducible refine branch_not ?_) | ((with_reducible refine slc_e ?_); conv => whnf) | ((with_reducible refine callS_a ?_); conv => whnf) | ((with_reducible refine bld_a ?_); conv => whnf) | ((with_reducible refine own_e ?_); conv => whnf) | ((with_reducible refine mkmap_b ?_); conv => whnf) | (refine draw_i 15 plGL25a_0 (by decide +kernel) ?_; (conv => whnf); fail_if_success (guard_target =~ False)) | (refine draw_i 15 plGL25a_1 (by decide +kernel) ?_; (conv => whnf); fail_if_success (guard_target =~ False)) | (refine draw_i 15 plGL25a_2 (by decide +kernel) ?_; (conv => whnf); fail_if_success (guard_target =~ False)) | ((with_reducible refine And.intro ?_ ?_) <;> (conv => whnf)) | (with_reducible exact trivial) | ((with_reducible refine branch_d (fun hq => ?_) (fun hq => ?_)) <;> (try (exfalso; omega)) <;> (conv => whnf)) | ((with_reducible refine branch_e (fun hq => ?_) (fun hq => ?_)) <;> (try (exfalso; omega)) <;> (conv => whnf)) | ((with_reducible refine branch_n (fun hq => ?_) (fun hq => ?_)) <;> (try (exfalso; omega)) <;> (conv => whnf)) | ((with_reducible refine branch_i (fun hq => ?_) (fun hq => ?_)) <;> (try (exfalso; omega)) <;> (conv => whnf))))
        exact ⟨m + 1, s', ⟨by omega, by omega, hl', hF⟩, (le_mk (by repeat' (first | exact trivial | rfl | apply And.intro)) (by repeat' (first | exact trivial | rfl | apply And.intro)) rfl), by omega⟩
    · (conv => whnf); (repeat' (first | (refine arith_i ⟨by omega, by omega⟩ ?_; conv => whnf) | (refine arith_u ⟨by omega, by omega⟩ ?_; conv => whnf) | (refine arith_8 ⟨by omega, by omega⟩ ?_; conv => whnf) | (refine need_i (by first | omega | (simp only [List.length_cons, List.length_nil]; omega) | (simp only [List.length_append, List.length_cons, List.length_nil, List.length_map, List.length_replicate, List.length_modify]; omega)) ?_; conv => whnf) | ((with_reducible refine branch_tt ?_); conv => whnf) | ((with_reducible refine branch_ff ?_); conv => whnf) | (with_reducible refine branch_not ?_) | ((with_reducible refine slc_e ?_); conv => whnf) | ((with_reducible refine callS_a ?_); conv => whnf) | ((with_reducible refine bld_a ?_); conv => whnf) | ((with_reducible refine own_e ?_); conv => whnf) | ((with_reducible refine mkmap_b ?_); conv => whnf) | (refine draw_i 15 plGL25a_0 (by decide +kernel) ?_; (conv => whnf); fail_if_success (guard_target =~ False)) | (refine draw_i 15 plGL25a_1 (by decide +kernel) ?_; (conv => whnf); fail_if_success (guard_target =~ False)) | (refine draw_i 15 plGL25a_2 (by decide +kernel) ?_; (conv => whnf); fail_if_success (guard_target =~ False)) | ((with_reducible refine And.intro ?_ ?_) <;> (conv => whnf)) | (with_reducible exact trivial) | ((with_reducible refine branch_d (fun hq => ?_) (fun hq => ?_)) <;> (try (exfalso; omega)) <;> (conv => whnf)) | ((with_reducible refine branch_e (fun hq => ?_) (fun hq => ?_)) <;> (try (exfalso; omega)) <;> (conv => whnf)) | ((with_reducible refine branch_n (fun hq => ?_) (fun hq => ?_)) <;> (try (exfalso; omega)) <;> (conv => whnf)) | ((with_reducible refine branch_i (fun hq => ?_) (fun hq => ?_)) <;> (try (exfalso; omega)) <;> (conv => whnf))))
      rw [List.drop_eq_nil_of_le (by simpa using hmK), tryM] at hF
      rw [hF]
      exact retM_i _ [] _ rfl (le_mk (by repeat' (first | exact trivial | rfl | apply And.intro)) (by repeat' (first | exact trivial | rfl | apply And.intro)) rfl) rfl ⟨rfl, rfl, rfl⟩
end Go.Proofs.Ytkbkdlkfpmcmdaa
