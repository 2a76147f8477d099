/- Several texts in one: GL25a, GL25b, GL25c, GL25d, GL25e. -/
import Derived.Test.YtpmoflggmdfmnaaX1
/- Layer 25: the search for one more marker: the program's closure. -/
section
namespace Go.Proofs.Ytpmoflggmdfmnaa
set_option linter.unusedVariables false
set_option linter.unusedSimpArgs false
set_option linter.unnecessarySimpa false
set_option linter.unusedSectionVars false
set_option maxRecDepth 10000
open Go.RowKit
def plGL25a_0 : Plan := (.take 0 (.take 1 (.take 2 (.take 3 (.take 4 (.take 5 (.take 6 (.take 7 (.take 8 (.take 9 (.take 10 (.take 11 (.take 12 (.take 13 (.take 14 .done)))))))))))))))
def plGL25a_1 : Plan := (.take 0 (.take 1 (.take 2 (.take 3 (.take 4 (.take 5 (.take 7 (.take 8 (.take 9 (.take 10 (.take 11 (.take 12 (.alt 6 (.alt 13 (.take 14 .done) .stop) (.alt 13 (.alt 6 (.take 14 .done) .stop) .stop))))))))))))))
def plGL25a_2 : Plan := (.take 4 (.take 11 (.alt 0 (.take 1 (.take 2 (.alt 3 (.take 5 (.alt 6 (.alt 7 (.take 8 (.take 9 (.alt 10 (.take 12 (.alt 13 (.take 14 .done) .stop)) .stop))) .stop) (.alt 7 (.take 8 (.take 9 (.alt 6 (.alt 10 (.take 12 (.alt 13 (.take 14 .done) .stop)) .stop) (.alt 10 (.take 12 (.alt 6 (.alt 13 (.take 14 .done) .stop) (.alt 13 (.alt 6 (.take 14 .done) .stop) .stop))) .stop)))) .stop))) (.alt 7 (.take 8 (.take 9 (.alt 3 (.take 5 (.alt 6 (.alt 10 (.take 12 (.alt 13 (.take 14 .done) .stop)) .stop) (.alt 10 (.take 12 (.alt 6 (.alt 13 (.take 14 .done) .stop) (.alt 13 (.alt 6 (.take 14 .done) .stop) .stop))) .stop))) (.alt 10 (.take 12 (.alt 3 (.take 5 (.alt 6 (.alt 13 (.take 14 .done) .stop) (.alt 13 (.alt 6 (.take 14 .done) .stop) .stop))) (.alt 13 (.alt 3 (.take 5 (.alt 6 (.take 14 .done) .stop)) .stop) .stop))) .stop)))) .stop)))) (.alt 7 (.take 8 (.take 9 (.alt 0 (.take 1 (.take 2 (.alt 3 (.take 5 (.alt 6 (.alt 10 (.take 12 (.alt 13 (.take 14 .done) .stop)) .stop) (.alt 10 (.take 12 (.alt 6 (.alt 13 (.take 14 .done) .stop) (.alt 13 (.alt 6 (.take 14 .done) .stop) .stop))) .stop))) (.alt 10 (.take 12 (.alt 3 (.take 5 (.alt 6 (.alt 13 (.take 14 .done) .stop) (.alt 13 (.alt 6 (.take 14 .done) .stop) .stop))) (.alt 13 (.alt 3 (.take 5 (.alt 6 (.take 14 .done) .stop)) .stop) .stop))) .stop)))) (.alt 10 (.take 12 (.alt 0 (.take 1 (.take 2 (.alt 3 (.take 5 (.alt 6 (.alt 13 (.take 14 .done) .stop) (.alt 13 (.alt 6 (.take 14 .done) .stop) .stop))) (.alt 13 (.alt 3 (.take 5 (.alt 6 (.take 14 .done) .stop)) .stop) .stop)))) (.alt 13 (.alt 0 (.take 1 (.take 2 (.alt 3 (.take 5 (.alt 6 (.take 14 .done) .stop)) .stop))) .stop) .stop))) .stop)))) .stop))))
def plGL25a_3 : Plan := (.take 0 (.take 1 (.take 2 (.take 3 (.take 4 (.take 5 (.take 7 (.take 8 (.take 9 (.take 10 (.take 11 (.take 12 (.takeQ 6 (.takeQ 13 (.take 14 .done)))))))))))))))
def bsL (K : Nat) (f : Nat → Bool) : List (List AV) := (List.range K).map fun m => [AV.bool (f m)]
def nsL (K : Nat) (f : Nat → Nat) : List (List AV) := (List.range K).map fun m => [AV.int .i64 (f m : Nat)]
def rowsM (n K : Nat) (A : Nat → Nat → Bool) : List (Option (List (List AV))) := (List.range n).map fun i => some (bsL K (A i))
def gridV (n K : Nat) (E : Nat → Nat → Bool) : AV := .lst 1 ((List.range n).map fun i => [AV.lst 1 (bsL K (E i))])
theorem bsL_len {K : Nat} {f : Nat → Bool} : (bsL K f).length = K := by simp [bsL]
theorem nsL_len {K : Nat} {f : Nat → Nat} : (nsL K f).length = K := by simp [nsL]
theorem rowsM_len {n K : Nat} {A : Nat → Nat → Bool} : (rowsM n K A).length = n := by simp [rowsM]
theorem idx_f {g : Nat → List AV} {n : Nat} {m : Nat} {k : Int} {P : List AV → Prop} (hk : k = m) (hm : m < n) (h : P (g m)) : idx ((List.range n).map g) k P :=
  idx_i (cs := g m) (by omega) (by rw [hk, Int.toNat_natCast, List.getElem?_map, List.getElem?_range hm]; rfl) h
theorem ridx_f {g : Nat → Option (List (List AV))} {n : Nat} {m : Nat} {k : Int} {P : Option (List (List AV)) → Prop} (hk : k = m) (hm : m < n) (h : P (g m)) : ridx ((List.range n).map g) k P :=
  ridx_i (o := g m) (by omega) (by rw [hk, Int.toNat_natCast, List.getElem?_map, List.getElem?_range hm]; rfl) h
theorem mod_f {α : Type} {g : Nat → α} {n m : Nat} {h : α → α} : ((List.range n).map g).modify m h = (List.range n).map fun k => if k = m then h (g k) else g k := by
  refine List.ext_getElem? fun i => ?_
  rw [List.getElem?_modify, List.getElem?_map, List.getElem?_map]
  by_cases hi : i < n
  · rw [List.getElem?_range hi]
    by_cases e : m = i
    · subst e; simp
    · simp [e, Ne.symm e]
  · rw [List.getElem?_eq_none (by simpa using hi)]; simp
theorem bs_set {K m : Nat} {f : Nat → Bool} {k : Int} (hk : k = m) : (bsL K f).modify k.toNat (·.set 0 (.bool true)) = bsL K (setV f m) := by
  rw [hk, Int.toNat_natCast, bsL, mod_f, bsL]
  refine List.map_congr_left fun x _ => ?_
  by_cases e : x = m <;> simp [setV, e]
theorem ns_inc {K m : Nat} {f : Nat → Nat} {k x : Int} (hk : k = m) (hx : x = (f m : Nat) + 1) : (nsL K f).modify k.toNat (·.set 0 (.int .i64 x)) = nsL K (incL f m) := by
  rw [hk, hx, Int.toNat_natCast, nsL, mod_f, nsL]
  refine List.map_congr_left fun x _ => ?_
  by_cases e : x = m <;> simp [incL, e]
theorem rows_set {n K i m : Nat} {A : Nat → Nat → Bool} {b : Bool} {j k : Int} (hj : j = i) (hk : k = m) : (rowsM n K A).modify j.toNat (storeRow k.toNat 0 (.bool b)) = rowsM n K (setA A i m b) := by
  rw [hj, hk, Int.toNat_natCast, Int.toNat_natCast, rowsM, mod_f, rowsM]
  refine List.map_congr_left fun x _ => ?_
  by_cases e : x = i
  · subst e
    rw [if_pos rfl, storeRow, bsL, mod_f, bsL]
    refine congrArg some (List.map_congr_left fun y _ => ?_)
    by_cases e : y = m <;> simp [setA, e]
  · rw [if_neg e]
    refine congrArg (fun l => some l) (List.map_congr_left fun y _ => ?_)
    simp [setA, e]
theorem ridx_set {n K i m : Nat} {A : Nat → Nat → Bool} {b : Bool} {j k x : Int} {P : Option (List (List AV)) → Prop} (hj : j = i) (hk : k = m) (h : ridx (rowsM n K (setA A i m b)) x P) : ridx ((rowsM n K A).modify j.toNat (storeRow k.toNat 0 (.bool b))) x P := by
  rw [rows_set hj hk]; exact h
theorem rows_set2 {n K i j m : Nat} {A : Nat → Nat → Bool} {b c : Bool} {x y z : Int} (hx : x = j) (hy : y = i) (hz : z = m) : ((rowsM n K A).modify x.toNat (storeRow z.toNat 0 (.bool b))).modify y.toNat (storeRow z.toNat 0 (.bool c)) = rowsM n K (setA (setA A j m b) i m c) := by
  rw [rows_set hx hz, rows_set hy hz]
theorem tryJ_yes {srch : Nat → Flw → Bool × Flw} {i m j : Nat} {js : List Nat} {s : Flw} (hA : s.A j m = true) (h : (srch j s).1 = true) : tryJ srch i m (j :: js) s = (true, ⟨setA (setA (srch j s).2.A j m false) i m true, (srch j s).2.ld, (srch j s).2.V⟩) := by
  rw [tryJ, if_pos hA]
  generalize srch j s = r at h
  obtain ⟨b, s1⟩ := r
  simp only at h
  subst h; rfl
theorem tryJ_no {srch : Nat → Flw → Bool × Flw} {i m j : Nat} {js : List Nat} {s : Flw} (hA : s.A j m = true) (h : (srch j s).1 = false) : tryJ srch i m (j :: js) s = tryJ srch i m js (srch j s).2 := by
  rw [tryJ, if_pos hA]
  generalize srch j s = r at h
  obtain ⟨b, s1⟩ := r
  simp only at h
  subst h; rfl
theorem tryJ_skip {srch : Nat → Flw → Bool × Flw} {i m j : Nat} {js : List Nat} {s : Flw} (hA : s.A j m = false) : tryJ srch i m (j :: js) s = tryJ srch i m js s := by
  rw [tryJ, if_neg (by simp [hA])]
def flowC (E : Nat → Nat → Bool) (lim : Nat → Nat) (n K : Nat) (s : Flw) : List AV := [gridV n K E, .mat 1101 111 4 1 (rowsM n K s.A), .own 1102 3 1 (nsL K s.ld), .lst 1 (nsL K lim), .own 1104 4 1 (bsL K s.V)]
theorem flow_eq {E : Nat → Nat → Bool} {lim : Nat → Nat} {n K : Nat} {s : Flw} {rows : List (Option (List (List AV)))} {l v : List (List AV)} (h1 : rows = rowsM n K s.A) (h2 : l = nsL K s.ld) (h3 : v = bsL K s.V) :
    some [gridV n K E, .mat 1101 111 4 1 rows, .own 1102 3 1 l, .lst 1 (nsL K lim), .own 1104 4 1 v] = some (flowC E lim n K s) := by subst h1 h2 h3; rfl
def srchA : List AV := [.ptr 1000 0, .ptr 1001 0]
def srchB (E : Nat → Nat → Bool) (lim : Nat → Nat) (n K : Nat) (s : Flw) : List (Nat × List AV) := [(1000, [.ptr 1002 0]), (1001, [.fn 106 srchA]), (1002, flowC E lim n K s)]
set_option maxHeartbeats 4000000 in
theorem search_ok (E : Nat → Nat → Bool) (lim : Nat → Nat) (n K : Nat) (hn : n ≤ 100) (hK : K ≤ 100) (hlim : ∀ m, m < K → lim m ≤ 1000) : ∀ (f i : Nat) (s : Flw), i < n → unv K s ≤ f → (∀ m, m < K → s.ld m ≤ lim m) →
    GoodM Try.prog TT false 106 (.int .i64 i :: srchA) (srchB E lim n K s) (fun r ov bx => r = .bool (searchF E lim n K f i s).1 ∧ ov = [] ∧ bx = srchB E lim n K (searchF E lim n K f i s).2) := by
  intro f
  induction f with
  | zero =>
    intro i s hi hu hl
    have hV : ∀ m, m < K → s.V m = true := fun m hm => unv_zero (by omega) hm
    have L1 : (nsL K s.ld).length = K := nsL_len
    refine good_of_m (fun _ => false) mixed tabOk Try.func106 rfl rfl Try.ntmps106 Try.results106 rfl rfl ?_
    (conv => whnf); (repeat' (first | (refine arith_i ⟨by omega, by omega⟩ ?_; conv => whnf) | (refine arith_u ⟨by omega, by omega⟩ ?_; conv => whnf) | (refine arith_8 ⟨by omega, by omega⟩ ?_; conv => whnf) | (refine need_i (by first | omega | (simp only [List.length_cons, List.length_nil]; omega) | (simp only [List.length_append, List.length_cons, List.length_nil, List.length_map, List.length_replicate, List.length_modify]; omega)) ?_; conv => whnf) | ((with_reducible first | refine branch_tt ?_ | refine branch_ff ?_); conv => whnf) | (with_reducible refine branch_not ?_) | ((with_reducible first | refine slc_e ?_ | refine callS_a ?_ | refine bld_a ?_ | refine own_e ?_ | refine mkmap_b ?_); conv => whnf) | (refine draw_i 15 plGL25a_0 (by decide +kernel) ?_; (conv => whnf); fail_if_success (guard_target =~ False)) | (refine draw_i 15 plGL25a_1 (by decide +kernel) ?_; (conv => whnf); fail_if_success (guard_target =~ False)) | (refine draw_i 15 plGL25a_2 (by decide +kernel) ?_; (conv => whnf); fail_if_success (guard_target =~ False)) | ((with_reducible refine And.intro ?_ ?_) <;> (conv => whnf)) | (with_reducible exact trivial) | ((with_reducible first | refine branch_d (fun hq => ?_) (fun hq => ?_) | refine branch_e (fun hq => ?_) (fun hq => ?_) | refine branch_n (fun hq => ?_) (fun hq => ?_) | refine branch_i (fun hq => ?_) (fun hq => ?_)) <;> (try (exfalso; omega)) <;> (conv => whnf))))
    refine loop_i (fun m : Nat => m ≤ K) (fun m => mkSt [(0, .int .i64 i), (1, .ptr 1000 0), (2, .ptr 1001 0), (11, .int .i64 (nsL K s.ld).length), (12, .int .i64 m)] (srchB E lim n K s) false) (fun m => K - m) 0 (Nat.zero_le _) (le_mk (by repeat' (first | exact trivial | rfl | apply And.intro)) (by repeat' (first | exact trivial | rfl | apply And.intro)) rfl) ?_
    intro m hm
    (conv => whnf); (repeat' (first | (refine arith_i ⟨by omega, by omega⟩ ?_; conv => whnf) | (refine arith_u ⟨by omega, by omega⟩ ?_; conv => whnf) | (refine arith_8 ⟨by omega, by omega⟩ ?_; conv => whnf) | (refine need_i (by first | omega | (simp only [List.length_cons, List.length_nil]; omega) | (simp only [List.length_append, List.length_cons, List.length_nil, List.length_map, List.length_replicate, List.length_modify]; omega)) ?_; conv => whnf) | ((with_reducible first | refine branch_tt ?_ | refine branch_ff ?_); conv => whnf) | (with_reducible refine branch_not ?_) | (((refine idx_f (m := m) rfl (by omega) ?_; rw [hV m (by omega)])); conv => whnf) | ((with_reducible first | refine slc_e ?_ | refine callS_a ?_ | refine bld_a ?_ | refine own_e ?_ | refine mkmap_b ?_); conv => whnf) | (refine draw_i 15 plGL25a_0 (by decide +kernel) ?_; (conv => whnf); fail_if_success (guard_target =~ False)) | (refine draw_i 15 plGL25a_1 (by decide +kernel) ?_; (conv => whnf); fail_if_success (guard_target =~ False)) | (refine draw_i 15 plGL25a_2 (by decide +kernel) ?_; (conv => whnf); fail_if_success (guard_target =~ False)) | ((with_reducible refine And.intro ?_ ?_) <;> (conv => whnf)) | (with_reducible exact trivial) | ((with_reducible first | refine branch_d (fun hq => ?_) (fun hq => ?_) | refine branch_e (fun hq => ?_) (fun hq => ?_) | refine branch_n (fun hq => ?_) (fun hq => ?_) | refine branch_i (fun hq => ?_) (fun hq => ?_)) <;> (try (exfalso; omega)) <;> (conv => whnf))))
    · exact ⟨m + 1, by omega, (le_mk (by repeat' (first | exact trivial | rfl | apply And.intro)) (by repeat' (first | exact trivial | rfl | apply And.intro)) rfl), by omega⟩
    · have e : searchF E lim n K 0 i s = (false, s) := rfl
      rw [e]
      exact retM_i _ [] _ rfl (le_mk (by repeat' (first | exact trivial | rfl | apply And.intro)) (by repeat' (first | exact trivial | rfl | apply And.intro)) rfl) rfl ⟨rfl, rfl, rfl⟩
  | succ f IH =>
    intro i s0 hi hu hl
    have L1 : ∀ s : Flw, (nsL K s.ld).length = K := fun s => nsL_len
    have L2 : ∀ s : Flw, (rowsM n K s.A).length = n := fun s => rowsM_len
    refine good_of_m (fun _ => false) mixed tabOk Try.func106 rfl rfl Try.ntmps106 Try.results106 rfl rfl ?_
    (conv => whnf); (repeat' (first | (refine arith_i ⟨by omega, by omega⟩ ?_; conv => whnf) | (refine arith_u ⟨by omega, by omega⟩ ?_; conv => whnf) | (refine arith_8 ⟨by omega, by omega⟩ ?_; conv => whnf) | (refine need_i (by first | omega | (simp only [List.length_cons, List.length_nil]; omega) | (simp only [List.length_append, List.length_cons, List.length_nil, List.length_map, List.length_replicate, List.length_modify]; omega)) ?_; conv => whnf) | ((with_reducible first | refine branch_tt ?_ | refine branch_ff ?_); conv => whnf) | (with_reducible refine branch_not ?_) | ((with_reducible first | refine slc_e ?_ | refine callS_a ?_ | refine bld_a ?_ | refine own_e ?_ | refine mkmap_b ?_); conv => whnf) | (refine draw_i 15 plGL25a_0 (by decide +kernel) ?_; (conv => whnf); fail_if_success (guard_target =~ False)) | (refine draw_i 15 plGL25a_1 (by decide +kernel) ?_; (conv => whnf); fail_if_success (guard_target =~ False)) | (refine draw_i 15 plGL25a_2 (by decide +kernel) ?_; (conv => whnf); fail_if_success (guard_target =~ False)) | ((with_reducible refine And.intro ?_ ?_) <;> (conv => whnf)) | (with_reducible exact trivial) | ((with_reducible first | refine branch_d (fun hq => ?_) (fun hq => ?_) | refine branch_e (fun hq => ?_) (fun hq => ?_) | refine branch_n (fun hq => ?_) (fun hq => ?_) | refine branch_i (fun hq => ?_) (fun hq => ?_)) <;> (try (exfalso; omega)) <;> (conv => whnf))))
    refine loop_i2 (fun (m : Nat) (s : Flw) => m ≤ K ∧ unv K s ≤ f + 1 ∧ (∀ m, m < K → s.ld m ≤ lim m) ∧ searchF E lim n K (f + 1) i s0 = tryM E lim n (searchF E lim n K f) i ((List.range K).drop m) s) (fun m s => mkSt [(0, .int .i64 i), (1, .ptr 1000 0), (2, .ptr 1001 0), (11, .int .i64 K), (12, .int .i64 m)] (srchB E lim n K s) false) (fun m _ => K - m) 0 s0 ⟨Nat.zero_le _, hu, hl, rfl⟩ (le_mk ⟨rfl, rfl, rfl, int_eq (by rw [L1]), rfl, trivial⟩ ⟨rfl, rfl, rfl, trivial⟩ rfl) ?_
    rintro m s ⟨hm, hus, hls, hF⟩
    rcases Nat.lt_or_ge m K with hmK | hmK
    · have hb : s.ld m ≤ 1000 := Nat.le_trans (hls m hmK) (hlim m hmK)
      rw [List.drop_eq_getElem_cons (by simpa using hmK), List.getElem_range, tryM] at hF
      (conv => whnf); (repeat' (first | (refine arith_i ⟨by omega, by omega⟩ ?_; conv => whnf) | (refine arith_u ⟨by omega, by omega⟩ ?_; conv => whnf) | (refine arith_8 ⟨by omega, by omega⟩ ?_; conv => whnf) | (refine need_i (by first | omega | (simp only [List.length_cons, List.length_nil]; omega) | (simp only [List.length_append, List.length_cons, List.length_nil, List.length_map, List.length_replicate, List.length_modify]; omega)) ?_; conv => whnf) | ((with_reducible first | refine branch_tt ?_ | refine branch_ff ?_); conv => whnf) | (with_reducible refine branch_not ?_) | ((refine idx_f (m := m) rfl (by omega) ?_); conv => whnf) | ((refine idx_f (m := i) rfl (by omega) ?_); conv => whnf) | ((refine ridx_f (m := i) rfl (by omega) ?_); conv => whnf) | ((with_reducible first | refine slc_e ?_ | refine callS_a ?_ | refine bld_a ?_ | refine own_e ?_ | refine mkmap_b ?_); conv => whnf) | (refine draw_i 15 plGL25a_3 (by decide +kernel) ?_; (conv => whnf); fail_if_success (guard_target =~ False)) | ((with_reducible refine And.intro ?_ ?_) <;> (conv => whnf)) | (with_reducible exact trivial) | ((with_reducible first | refine branch_d (fun hq => ?_) (fun hq => ?_) | refine branch_e (fun hq => ?_) (fun hq => ?_) | refine branch_n (fun hq => ?_) (fun hq => ?_) | refine branch_i (fun hq => ?_) (fun hq => ?_)) <;> (try (exfalso; omega)) <;> (conv => whnf))))
      all_goals first
        | exact ⟨m + 1, s, ⟨by omega, hus, hls, by rw [hF, if_pos (by simp [*])]⟩, (le_mk (by repeat' (first | exact trivial | rfl | apply And.intro)) (by repeat' (first | exact trivial | rfl | apply And.intro)) rfl), by omega⟩
        | skip
      · have hlt : s.ld m < lim m := by omega
        rw [if_neg (by simp [*]), if_pos hlt] at hF
        rw [hF]
        exact retM_i _ [] (srchB E lim n K ⟨setA s.A i m true, incL s.ld m, setV s.V m⟩) rfl (le_mk ⟨rfl, trivial⟩ ⟨rfl, rfl, flow_eq (rows_set rfl rfl) (ns_inc rfl rfl) (bs_set rfl), trivial⟩ rfl) rfl ⟨rfl, rfl, rfl⟩
      rw [if_neg (by simp [*]), if_neg (by omega)] at hF
      have hV : s.V m = false := by assumption
      have hum := unv_mark (A := s.A) (ld := s.ld) hmK hV
      refine loop_i2 (fun (j : Nat) (s' : Flw) => j ≤ n ∧ unv K s' ≤ f ∧ (∀ m, m < K → s'.ld m ≤ lim m) ∧ tryJ (searchF E lim n K f) i m (List.range n) ⟨s.A, s.ld, setV s.V m⟩ = tryJ (searchF E lim n K f) i m ((List.range n).drop j) s') (fun j s' => mkSt [(0, .int .i64 i), (1, .ptr 1000 0), (2, .ptr 1001 0), (5, .int .i64 m), (11, .int .i64 K), (12, .int .i64 m), (90, .int .i64 n), (91, .int .i64 j)] (srchB E lim n K s') false) (fun j _ => n - j) 0 ⟨s.A, s.ld, setV s.V m⟩ ⟨Nat.zero_le _, by omega, hls, rfl⟩
        (le_mk ⟨rfl, rfl, rfl, rfl, rfl, rfl, int_eq (by rw [L2]), rfl, trivial⟩ ⟨rfl, rfl, flow_eq rfl rfl (bs_set rfl), trivial⟩ rfl) ?_
      rintro j s' ⟨hj, hu', hl', hJ⟩
      rcases Nat.lt_or_ge j n with hjn | hjn
      · rw [List.drop_eq_getElem_cons (by simpa using hjn), List.getElem_range] at hJ
        (conv => whnf); (repeat' (first | (refine arith_i ⟨by omega, by omega⟩ ?_; conv => whnf) | (refine arith_u ⟨by omega, by omega⟩ ?_; conv => whnf) | (refine arith_8 ⟨by omega, by omega⟩ ?_; conv => whnf) | (refine need_i (by first | omega | (simp only [List.length_cons, List.length_nil]; omega) | (simp only [List.length_append, List.length_cons, List.length_nil, List.length_map, List.length_replicate, List.length_modify]; omega)) ?_; conv => whnf) | ((with_reducible first | refine branch_tt ?_ | refine branch_ff ?_); conv => whnf) | (with_reducible refine branch_not ?_) | ((refine idx_f (m := m) rfl (by omega) ?_); conv => whnf) | ((refine ridx_f (m := j) rfl (by omega) ?_); conv => whnf) | ((refine ridx_f (m := i) rfl (by omega) ?_); conv => whnf) | ((refine ridx_set (i := j) (m := m) rfl rfl (ridx_f (m := i) rfl (by omega) ?_)); conv => whnf) | ((refine mcall_e [(1000, 1000), (1001, 1001), (1002, 1002)] [(1101, 1101), (1102, 1102), (1104, 1104)] (IH j s' (by omega) hu' hl') rfl rfl rfl ⟨⟨_, rfl, rfl, rfl⟩, ⟨_, rfl, rfl, rfl⟩, ⟨_, rfl, rfl, rfl⟩, trivial⟩ rfl ?_); conv => whnf) | ((with_reducible first | refine slc_e ?_ | refine callS_a ?_ | refine bld_a ?_ | refine own_e ?_ | refine mkmap_b ?_); conv => whnf) | (refine draw_i 15 plGL25a_3 (by decide +kernel) ?_; (conv => whnf); fail_if_success (guard_target =~ False)) | ((with_reducible refine And.intro ?_ ?_) <;> (conv => whnf)) | (with_reducible exact trivial) | ((with_reducible first | refine branch_d (fun hq => ?_) (fun hq => ?_) | refine branch_e (fun hq => ?_) (fun hq => ?_) | refine branch_n (fun hq => ?_) (fun hq => ?_) | refine branch_i (fun hq => ?_) (fun hq => ?_)) <;> (try (exfalso; omega)) <;> (conv => whnf))))
        · rw [tryJ_yes (by assumption) hq] at hJ
          rw [hJ] at hF
          rw [hF]
          exact retM_i _ [] (srchB E lim n K ⟨setA (setA (searchF E lim n K f j s').2.A j m false) i m true, (searchF E lim n K f j s').2.ld, (searchF E lim n K f j s').2.V⟩) rfl (le_mk ⟨rfl, trivial⟩ ⟨rfl, rfl, flow_eq (rows_set2 rfl rfl rfl) rfl rfl, trivial⟩ rfl) rfl ⟨rfl, rfl, rfl⟩
        · rw [tryJ_no (by assumption) hq] at hJ
          obtain ⟨hN, -⟩ := search_fail hu' (show searchF E lim n K f j s' = (false, (searchF E lim n K f j s').2) from Prod.ext hq rfl)
          exact ⟨j + 1, (searchF E lim n K f j s').2, ⟨by omega, Nat.le_trans (unv_mono hN.V) hu', fun x hx => by rw [hN.ld]; exact hl' x hx, hJ⟩, (le_mk (by repeat' (first | exact trivial | rfl | apply And.intro)) (by repeat' (first | exact trivial | rfl | apply And.intro)) rfl), by omega⟩
        · rw [tryJ_skip hq] at hJ
          exact ⟨j + 1, s', ⟨by omega, hu', hl', hJ⟩, (le_mk (by repeat' (first | exact trivial | rfl | apply And.intro)) (by repeat' (first | exact trivial | rfl | apply And.intro)) rfl), by omega⟩
      · rw [List.drop_eq_nil_of_le (by simpa using hjn), tryJ] at hJ
        rw [hJ] at hF
        (conv => whnf); (repeat' (first | (refine arith_i ⟨by omega, by omega⟩ ?_; conv => whnf) | (refine arith_u ⟨by omega, by omega⟩ ?_; conv => whnf) | (refine arith_8 ⟨by omega, by omega⟩ ?_; conv => whnf) | (refine need_i (by first | omega | (simp only [List.length_cons, List.length_nil]; omega) | (simp only [List.length_append, List.length_cons, List.length_nil, List.length_map, List.length_replicate, List.length_modify]; omega)) ?_; conv => whnf) | ((with_reducible first | refine branch_tt ?_ | refine branch_ff ?_); conv => whnf) | (with_reducible refine branch_not ?_) | ((with_reducible first | refine slc_e ?_ | refine callS_a ?_ | refine bld_a ?_ | refine own_e ?_ | refine mkmap_b ?_); conv => whnf) | (refine draw_i 15 plGL25a_0 (by decide +kernel) ?_; (conv => whnf); fail_if_success (guard_target =~ False)) | (refine draw_i 15 plGL25a_1 (by decide +kernel) ?_; (conv => whnf); fail_if_success (guard_target =~ False)) | (refine draw_i 15 plGL25a_2 (by decide +kernel) ?_; (conv => whnf); fail_if_success (guard_target =~ False)) | ((with_reducible refine And.intro ?_ ?_) <;> (conv => whnf)) | (with_reducible exact trivial) | ((with_reducible first | refine branch_d (fun hq => ?_) (fun hq => ?_) | refine branch_e (fun hq => ?_) (fun hq => ?_) | refine branch_n (fun hq => ?_) (fun hq => ?_) | refine branch_i (fun hq => ?_) (fun hq => ?_)) <;> (try (exfalso; omega)) <;> (conv => whnf))))
        exact ⟨m + 1, s', ⟨by omega, by omega, hl', hF⟩, (le_mk (by repeat' (first | exact trivial | rfl | apply And.intro)) (by repeat' (first | exact trivial | rfl | apply And.intro)) rfl), by omega⟩
    · (conv => whnf); (repeat' (first | (refine arith_i ⟨by omega, by omega⟩ ?_; conv => whnf) | (refine arith_u ⟨by omega, by omega⟩ ?_; conv => whnf) | (refine arith_8 ⟨by omega, by omega⟩ ?_; conv => whnf) | (refine need_i (by first | omega | (simp only [List.length_cons, List.length_nil]; omega) | (simp only [List.length_append, List.length_cons, List.length_nil, List.length_map, List.length_replicate, List.length_modify]; omega)) ?_; conv => whnf) | ((with_reducible first | refine branch_tt ?_ | refine branch_ff ?_); conv => whnf) | (with_reducible refine branch_not ?_) | ((with_reducible first | refine slc_e ?_ | refine callS_a ?_ | refine bld_a ?_ | refine own_e ?_ | refine mkmap_b ?_); conv => whnf) | (refine draw_i 15 plGL25a_0 (by decide +kernel) ?_; (conv => whnf); fail_if_success (guard_target =~ False)) | (refine draw_i 15 plGL25a_1 (by decide +kernel) ?_; (conv => whnf); fail_if_success (guard_target =~ False)) | (refine draw_i 15 plGL25a_2 (by decide +kernel) ?_; (conv => whnf); fail_if_success (guard_target =~ False)) | ((with_reducible refine And.intro ?_ ?_) <;> (conv => whnf)) | (with_reducible exact trivial) | ((with_reducible first | refine branch_d (fun hq => ?_) (fun hq => ?_) | refine branch_e (fun hq => ?_) (fun hq => ?_) | refine branch_n (fun hq => ?_) (fun hq => ?_) | refine branch_i (fun hq => ?_) (fun hq => ?_)) <;> (try (exfalso; omega)) <;> (conv => whnf))))
      rw [List.drop_eq_nil_of_le (by simpa using hmK), tryM] at hF
      rw [hF]
      exact retM_i _ [] _ rfl (le_mk (by repeat' (first | exact trivial | rfl | apply And.intro)) (by repeat' (first | exact trivial | rfl | apply And.intro)) rfl) rfl ⟨rfl, rfl, rfl⟩
end Go.Proofs.Ytpmoflggmdfmnaa
end

/- Layer 25: assignments of the program: augment, fill, newFlow. -/
section
namespace Go.Proofs.Ytpmoflggmdfmnaa
set_option linter.unusedVariables false
set_option linter.unusedSimpArgs false
set_option linter.unnecessarySimpa false
set_option linter.unusedSectionVars false
set_option maxRecDepth 10000
open Go.RowKit
def plGL25b_0 : Plan := (.take 0 (.take 1 (.take 2 (.take 3 (.take 4 (.take 5 (.alt 6 (.take 7 (.take 8 (.alt 9 .done .stop))) .stop)))))))
def plGL25b_1 : Plan := (.alt 0 (.alt 1 (.take 2 (.take 3 (.alt 4 (.take 5 (.alt 6 (.take 7 (.take 8 (.alt 9 .done .stop))) .stop)) .stop))) .stop) (.alt 1 (.take 2 (.take 3 (.alt 0 (.alt 4 (.take 5 (.alt 6 (.take 7 (.take 8 (.alt 9 .done .stop))) .stop)) .stop) (.alt 4 (.take 5 (.alt 0 (.alt 6 (.take 7 (.take 8 (.alt 9 .done .stop))) .stop) (.alt 6 (.alt 0 (.take 7 (.take 8 (.alt 9 .done .stop))) .stop) .stop))) .stop)))) .stop))
/-- An assignment whose last search is not known. -/
def flowU (E : Nat → Nat → Bool) (lim : Nat → Nat) (n K : Nat) (s : Flw) : List AV := [gridV n K E, .mat 1101 111 4 1 (rowsM n K s.A), .own 1102 3 1 (nsL K s.ld), .lst 1 (nsL K lim), .undef]
def flowT (t : Nat) (E : Nat → Nat → Bool) (lim : Nat → Nat) (n K : Nat) (s : Flw) : List AV := [gridV n K E, .mat 1101 111 4 1 (rowsM n K s.A), .own 1102 3 1 (nsL K s.ld), .lst 1 (nsL K lim), .own t 4 1 (bsL K s.V)]
theorem bs_false {K : Nat} : List.replicate K [AV.bool false] = bsL K fun _ => false := by
  refine List.ext_getElem? fun i => ?_
  rw [List.getElem?_replicate, bsL, List.getElem?_map]
  split
  · next h => rw [List.getElem?_range h]; rfl
  · next h => rw [List.getElem?_eq_none (by simp; omega)]; rfl
theorem aug_box {E : Nat → Nat → Bool} {lim : Nat → Nat} {n K t : Nat} {s : Flw} {v : List (List AV)} (h : v = bsL K s.V) : some [gridV n K E, .mat 1101 111 4 1 (rowsM n K s.A), .own 1102 3 1 (nsL K s.ld), .lst 1 (nsL K lim), .own t 4 1 v] = some (flowT t E lim n K s) := by subst h; rfl
set_option maxHeartbeats 4000000 in
theorem augment_ok (E : Nat → Nat → Bool) (lim : Nat → Nat) (n K : Nat) (hn : n ≤ 100) (hK : K ≤ 100) (hlim : ∀ m, m < K → lim m ≤ 1000) (i : Nat) (s : Flw) (hi : i < n) (hl : ∀ m, m < K → s.ld m ≤ lim m) :
    GoodM Try.prog TT false 89 [.ptr 1000 0, .int .i64 i] [(1000, flowU E lim n K s)] (fun r ov bx => r = .bool (augF E lim n K i s).1 ∧ ov = [] ∧ bx = [(1000, flowT 12 E lim n K (augF E lim n K i s).2)]) := by
  have L1 : (nsL K s.ld).length = K := nsL_len
  have e1 : (((nsL K s.ld).length : Nat) : Int).toNat = K := by rw [L1]; simp
  have hS := search_ok E lim n K hn hK hlim K i ⟨s.A, s.ld, fun _ => false⟩ hi (Nat.le_of_eq (unv_none fun _ => rfl)) hl
  refine good_of_m (fun _ => false) mixed tabOk Try.func89 rfl rfl Try.ntmps89 Try.results89 rfl rfl ?_
  (conv => whnf); (repeat' (first | (refine arith_i ⟨by omega, by omega⟩ ?_; conv => whnf) | (refine arith_u ⟨by omega, by omega⟩ ?_; conv => whnf) | (refine arith_8 ⟨by omega, by omega⟩ ?_; conv => whnf) | (refine need_i (by first | omega | (simp only [List.length_cons, List.length_nil]; omega) | (simp only [List.length_append, List.length_cons, List.length_nil, List.length_map, List.length_replicate, List.length_modify]; omega)) ?_; conv => whnf) | ((with_reducible first | refine branch_tt ?_ | refine branch_ff ?_); conv => whnf) | (with_reducible refine branch_not ?_) | ((refine need_i (by omega) ?_); conv => whnf) | ((refine mcall_e [(1000, 2), (1001, 5), (1002, 1000)] [(1101, 1101), (1102, 1102), (1104, 12)] hS rfl rfl rfl ⟨⟨_, rfl, rfl, rfl⟩, ⟨_, rfl, rfl, rfl⟩, ⟨_, rfl, aug_box (s := ⟨s.A, s.ld, fun _ => false⟩) (by rw [e1, bs_false]), rfl⟩, trivial⟩ rfl ?_); conv => whnf) | ((with_reducible first | refine slc_e ?_ | refine callS_a ?_ | refine bld_a ?_ | refine own_e ?_ | refine mkmap_b ?_); conv => whnf) | (refine draw_i 7 plGL25b_0 (by decide +kernel) ?_; (conv => whnf); fail_if_success (guard_target =~ False)) | (refine draw_i 7 plGL25b_1 (by decide +kernel) ?_; (conv => whnf); fail_if_success (guard_target =~ False)) | ((with_reducible refine And.intro ?_ ?_) <;> (conv => whnf)) | (with_reducible exact trivial) | ((with_reducible first | refine branch_d (fun hq => ?_) (fun hq => ?_) | refine branch_e (fun hq => ?_) (fun hq => ?_) | refine branch_n (fun hq => ?_) (fun hq => ?_) | refine branch_i (fun hq => ?_) (fun hq => ?_)) <;> (try (exfalso; omega)) <;> (conv => whnf))))
  exact retM_i _ [] [(1000, flowT 12 E lim n K (augF E lim n K i s).2)] rfl (le_mk (by repeat' (first | exact trivial | rfl | apply And.intro)) (by repeat' (first | exact trivial | rfl | apply And.intro)) rfl) rfl ⟨rfl, rfl, rfl⟩
theorem rounds_yes {E : Nat → Nat → Bool} {lim : Nat → Nat} {n K i q : Nat} {s : Flw} (h : (augF E lim n K i s).1 = true) : roundsF E lim n K i (q + 1) s = roundsF E lim n K i q (augF E lim n K i s).2 := by
  rw [roundsF]
  generalize augF E lim n K i s = r at h
  obtain ⟨b, s1⟩ := r
  simp only at h
  subst h; rfl
theorem rounds_no {E : Nat → Nat → Bool} {lim : Nat → Nat} {n K i q : Nat} {s : Flw} (h : (augF E lim n K i s).1 = false) : roundsF E lim n K i (q + 1) s = (false, (augF E lim n K i s).2) := by
  rw [roundsF]
  generalize augF E lim n K i s = r at h
  obtain ⟨b, s1⟩ := r
  simp only at h
  subst h; rfl
def FillR (E : Nat → Nat → Bool) (lim : Nat → Nat) (n K : Nat) (p : Option Nat × Flw) (r : AV) (ov : List (Nat × AV)) (bx : List (Nat × List AV)) : Prop :=
  ov = [] ∧ ((p.1 = none ∧ r = .int .i64 (-1) ∧ bx = [(1000, flowU E lim n K p.2)]) ∨ ∃ i, p.1 = some i ∧ r = .int .i64 (i : Nat) ∧ bx = [(1000, flowT 1104 E lim n K p.2)])
set_option maxHeartbeats 4000000 in
theorem fill_ok (E : Nat → Nat → Bool) (lim : Nat → Nat) (n K : Nat) (hn : n ≤ 100) (hK : K ≤ 100) (hlim : ∀ m, m < K → lim m ≤ 1000) (r : Nat) (hr : r ≤ 2) (s0 : Flw) (hw : WF E lim n K s0) :
    GoodM Try.prog TT false 62 [.ptr 1000 0, .int .i64 r] [(1000, flowU E lim n K s0)] (FillR E lim n K (fillF E lim n K r (List.range n) s0)) := by
  have L2 : ∀ s : Flw, (rowsM n K s.A).length = n := fun s => rowsM_len
  refine good_of_m (fun _ => false) mixed tabOk Try.func62 rfl rfl Try.ntmps62 Try.results62 rfl rfl ?_
  (conv => whnf); (repeat' (first | (refine arith_i ⟨by omega, by omega⟩ ?_; conv => whnf) | (refine arith_u ⟨by omega, by omega⟩ ?_; conv => whnf) | (refine arith_8 ⟨by omega, by omega⟩ ?_; conv => whnf) | (refine need_i (by first | omega | (simp only [List.length_cons, List.length_nil]; omega) | (simp only [List.length_append, List.length_cons, List.length_nil, List.length_map, List.length_replicate, List.length_modify]; omega)) ?_; conv => whnf) | ((with_reducible first | refine branch_tt ?_ | refine branch_ff ?_); conv => whnf) | (with_reducible refine branch_not ?_) | ((with_reducible first | refine slc_e ?_ | refine callS_a ?_ | refine bld_a ?_ | refine own_e ?_ | refine mkmap_b ?_); conv => whnf) | ((with_reducible first | refine branch_d (fun hq => ?_) (fun hq => ?_) | refine branch_e (fun hq => ?_) (fun hq => ?_) | refine branch_n (fun hq => ?_) (fun hq => ?_) | refine branch_i (fun hq => ?_) (fun hq => ?_)) <;> (try (exfalso; omega)) <;> (conv => whnf))))

  refine loop_i2 (fun (i : Nat) (s : Flw) => i ≤ n ∧ WF E lim n K s ∧ fillF E lim n K r (List.range n) s0 = fillF E lim n K r ((List.range n).drop i) s) (fun i s => mkSt [(0, .ptr 1000 0), (1, .int .i64 r), (10, .int .i64 n), (11, .int .i64 i)] [(1000, flowU E lim n K s)] false) (fun i _ => n - i) 0 s0 ⟨Nat.zero_le _, hw, rfl⟩ (le_mk ⟨rfl, rfl, int_eq (by rw [L2]), rfl, trivial⟩ ⟨rfl, trivial⟩ rfl) ?_
  rintro i s ⟨hi, hws, hF⟩
  rcases Nat.lt_or_ge i n with hin | hin
  · rw [List.drop_eq_getElem_cons (by simpa using hin), List.getElem_range] at hF
    (conv => whnf); (repeat' (first | (refine arith_i ⟨by omega, by omega⟩ ?_; conv => whnf) | (refine arith_u ⟨by omega, by omega⟩ ?_; conv => whnf) | (refine arith_8 ⟨by omega, by omega⟩ ?_; conv => whnf) | (refine need_i (by first | omega | (simp only [List.length_cons, List.length_nil]; omega) | (simp only [List.length_append, List.length_cons, List.length_nil, List.length_map, List.length_replicate, List.length_modify]; omega)) ?_; conv => whnf) | ((with_reducible first | refine branch_tt ?_ | refine branch_ff ?_); conv => whnf) | (with_reducible refine branch_not ?_) | ((with_reducible first | refine slc_e ?_ | refine callS_a ?_ | refine bld_a ?_ | refine own_e ?_ | refine mkmap_b ?_); conv => whnf) | ((with_reducible first | refine branch_d (fun hq => ?_) (fun hq => ?_) | refine branch_e (fun hq => ?_) (fun hq => ?_) | refine branch_n (fun hq => ?_) (fun hq => ?_) | refine branch_i (fun hq => ?_) (fun hq => ?_)) <;> (try (exfalso; omega)) <;> (conv => whnf))))
    refine loop_i2 (fun (q : Nat) (s' : Flw) => q ≤ r ∧ WF E lim n K s' ∧ roundsF E lim n K i r s = roundsF E lim n K i (r - q) s') (fun q s' => mkSt [(0, .ptr 1000 0), (1, .int .i64 r), (5, .int .i64 i), (10, .int .i64 n), (11, .int .i64 i), (14, .int .i64 r), (15, .int .i64 q)] [(1000, flowU E lim n K s')] false) (fun q _ => r - q) 0 s ⟨Nat.zero_le _, hws, rfl⟩ (le_mk (by repeat' (first | exact trivial | rfl | apply And.intro)) (by repeat' (first | exact trivial | rfl | apply And.intro)) rfl) ?_
    rintro q s' ⟨hq1, hw', hR⟩
    rcases Nat.lt_or_ge q r with hqr | hqr
    · rw [show r - q = (r - (q + 1)) + 1 by omega] at hR
      (conv => whnf); (repeat' (first | (refine arith_i ⟨by omega, by omega⟩ ?_; conv => whnf) | (refine arith_u ⟨by omega, by omega⟩ ?_; conv => whnf) | (refine arith_8 ⟨by omega, by omega⟩ ?_; conv => whnf) | (refine need_i (by first | omega | (simp only [List.length_cons, List.length_nil]; omega) | (simp only [List.length_append, List.length_cons, List.length_nil, List.length_map, List.length_replicate, List.length_modify]; omega)) ?_; conv => whnf) | ((with_reducible first | refine branch_tt ?_ | refine branch_ff ?_); conv => whnf) | (with_reducible refine branch_not ?_) | ((refine rcall_e [(1000, 1000)] [(1101, 1101), (1102, 1102)] [] [(12, 1104)] (augment_ok E lim n K hn hK hlim i s' hin hw'.lim) rfl rfl rfl rfl ⟨⟨_, rfl, rfl, rfl⟩, trivial⟩ rfl ?_); conv => whnf) | ((with_reducible first | refine slc_e ?_ | refine callS_a ?_ | refine bld_a ?_ | refine own_e ?_ | refine mkmap_b ?_); conv => whnf) | ((with_reducible first | refine branch_d (fun hq => ?_) (fun hq => ?_) | refine branch_e (fun hq => ?_) (fun hq => ?_) | refine branch_n (fun hq => ?_) (fun hq => ?_) | refine branch_i (fun hq => ?_) (fun hq => ?_)) <;> (try (exfalso; omega)) <;> (conv => whnf))))
      · have e : augF E lim n K i s' = (true, (augF E lim n K i s').2) := Prod.ext hq rfl
        rw [rounds_yes hq] at hR
        exact ⟨q + 1, (augF E lim n K i s').2, ⟨by omega, (aug_won hin hw' e).1, hR⟩, Le.trans (le_undefBox 1000 4 rfl rfl) (le_mk (by repeat' (first | exact trivial | rfl | apply And.intro)) (by repeat' (first | exact trivial | rfl | apply And.intro)) rfl), by omega⟩
      · rw [rounds_no hq] at hR
        have e : fillF E lim n K r (List.range n) s0 = (some i, (augF E lim n K i s').2) := by rw [hF, fillF, hR]
        exact retM_i _ [] [(1000, flowT 1104 E lim n K (augF E lim n K i s').2)] rfl (le_mk (by repeat' (first | exact trivial | rfl | apply And.intro)) (by repeat' (first | exact trivial | rfl | apply And.intro)) rfl) rfl ⟨rfl, .inr ⟨i, by rw [e], rfl, by rw [e]⟩⟩
    · rw [show r - q = 0 by omega, roundsF] at hR
      (conv => whnf); (repeat' (first | (refine arith_i ⟨by omega, by omega⟩ ?_; conv => whnf) | (refine arith_u ⟨by omega, by omega⟩ ?_; conv => whnf) | (refine arith_8 ⟨by omega, by omega⟩ ?_; conv => whnf) | (refine need_i (by first | omega | (simp only [List.length_cons, List.length_nil]; omega) | (simp only [List.length_append, List.length_cons, List.length_nil, List.length_map, List.length_replicate, List.length_modify]; omega)) ?_; conv => whnf) | ((with_reducible first | refine branch_tt ?_ | refine branch_ff ?_); conv => whnf) | (with_reducible refine branch_not ?_) | ((with_reducible first | refine slc_e ?_ | refine callS_a ?_ | refine bld_a ?_ | refine own_e ?_ | refine mkmap_b ?_); conv => whnf) | ((with_reducible first | refine branch_d (fun hq => ?_) (fun hq => ?_) | refine branch_e (fun hq => ?_) (fun hq => ?_) | refine branch_n (fun hq => ?_) (fun hq => ?_) | refine branch_i (fun hq => ?_) (fun hq => ?_)) <;> (try (exfalso; omega)) <;> (conv => whnf))))
      exact ⟨i + 1, s', ⟨by omega, hw', by rw [hF, fillF, hR]⟩, (le_mk (by repeat' (first | exact trivial | rfl | apply And.intro)) (by repeat' (first | exact trivial | rfl | apply And.intro)) rfl), by omega⟩
  · rw [List.drop_eq_nil_of_le (by simpa using hin), fillF] at hF
    (conv => whnf); (repeat' (first | (refine arith_i ⟨by omega, by omega⟩ ?_; conv => whnf) | (refine arith_u ⟨by omega, by omega⟩ ?_; conv => whnf) | (refine arith_8 ⟨by omega, by omega⟩ ?_; conv => whnf) | (refine need_i (by first | omega | (simp only [List.length_cons, List.length_nil]; omega) | (simp only [List.length_append, List.length_cons, List.length_nil, List.length_map, List.length_replicate, List.length_modify]; omega)) ?_; conv => whnf) | ((with_reducible first | refine branch_tt ?_ | refine branch_ff ?_); conv => whnf) | (with_reducible refine branch_not ?_) | ((with_reducible first | refine slc_e ?_ | refine callS_a ?_ | refine bld_a ?_ | refine own_e ?_ | refine mkmap_b ?_); conv => whnf) | ((with_reducible first | refine branch_d (fun hq => ?_) (fun hq => ?_) | refine branch_e (fun hq => ?_) (fun hq => ?_) | refine branch_n (fun hq => ?_) (fun hq => ?_) | refine branch_i (fun hq => ?_) (fun hq => ?_)) <;> (try (exfalso; omega)) <;> (conv => whnf))))
    exact retM_i _ [] [(1000, flowU E lim n K s)] rfl (le_mk (by repeat' (first | exact trivial | rfl | apply And.intro)) (by repeat' (first | exact trivial | rfl | apply And.intro)) rfl) rfl ⟨rfl, .inl ⟨by rw [hF], rfl, by rw [hF]⟩⟩
end Go.Proofs.Ytpmoflggmdfmnaa
end

/- Layer 25: a new assignment, the best one, the least greatest load: of the program. -/
section
namespace Go.Proofs.Ytpmoflggmdfmnaa
set_option linter.unusedVariables false
set_option linter.unusedSimpArgs false
set_option linter.unnecessarySimpa false
set_option linter.unusedSectionVars false
set_option maxRecDepth 10000
open Go.RowKit
def plGL25c_0 : Plan := (.take 0 (.take 1 (.take 2 (.take 3 (.take 4 (.take 5 (.take 6 (.take 7 (.take 8 (.alt 9 (.alt 10 (.take 11 (.take 12 (.alt 13 .done .stop))) .stop) .stop))))))))))
def plGL25c_1 : Plan := (.take 0 (.take 1 (.take 2 (.take 3 (.take 5 (.take 7 (.alt 4 (.alt 6 (.take 8 (.alt 9 (.alt 10 (.take 11 (.take 12 (.alt 13 .done .stop))) .stop) .stop)) .stop) (.alt 6 (.take 8 (.alt 4 (.alt 9 (.alt 10 (.take 11 (.take 12 (.alt 13 .done .stop))) .stop) .stop) (.alt 9 (.alt 4 (.alt 10 (.take 11 (.take 12 (.alt 13 .done .stop))) .stop) .stop) .stop))) .stop))))))))
def plGL25c_2 : Plan := (.take 0 (.take 1 (.take 2 (.take 3 (.take 4 (.take 5 (.take 6 (.alt 7 (.alt 8 (.alt 9 (.take 10 (.take 11 (.alt 12 .done .stop))) .stop) .stop) .stop))))))))
def plGL25c_3 : Plan := (.take 0 (.take 1 (.take 2 (.take 3 (.take 5 (.take 6 (.alt 4 (.alt 7 (.alt 8 (.alt 9 (.take 10 (.take 11 (.alt 12 .done .stop))) .stop) .stop) .stop) (.alt 7 (.alt 4 (.alt 8 (.alt 9 (.take 10 (.take 11 (.alt 12 .done .stop))) .stop) .stop) (.alt 8 (.alt 4 (.alt 9 (.take 10 (.take 11 (.alt 12 .done .stop))) .stop) .stop) .stop)) .stop))))))))
structure MksOk (l : List Mrk) : Prop where
  len : l.length ≤ 16
  all : ∀ (k : Nat) (m : Mrk), l[k]? = some m → GoodMk m
  asc : AscM l
structure ScsOk (s : List Scr) : Prop where
  len : s.length ≤ 60
  all : ∀ (k : Nat) (x : Scr), s[k]? = some x → GoodS x ∧ x.pages.length ≤ 12
  asc : AscS s
theorem MksOk.short {l : List Mrk} (h : MksOk l) : ShortL l := ⟨by have := h.len; omega, fun k m hm => (h.all k m hm).len⟩
theorem find_own {l : List Mrk} (hA : AscM l) {k : Nat} {m : Mrk} (h : l[k]? = some m) : findM l m.id = some m := by
  obtain ⟨hk1, hk2⟩ := List.getElem?_eq_some_iff.1 h
  rw [findM, List.find?_eq_some_iff_getElem]
  refine ⟨by simp, k, hk1, hk2, fun j hj => ?_⟩
  have := hA j k (l[j]'(by omega)) m hj (List.getElem?_eq_getElem (by omega)) h
  simp; omega
theorem elig_own {l : List Mrk} (hA : AscM l) {k : Nat} {m : Mrk} (h : l[k]? = some m) (s : Scr) : eligB l m.id s = mayB m s := by rw [eligB, find_own hA h]
/-- Who may mark what; the capacities. -/
def elF (l : List Mrk) (s : List Scr) (i m : Nat) : Bool := match s[i]?, l[m]? with
  | some x, some k => mayB k x
  | _, _ => false
def capF (l : List Mrk) (m : Nat) : Nat := match l[m]? with
  | some k => k.cap.toNat
  | none => 0
theorem elF_at {l : List Mrk} {s : List Scr} {i m : Nat} {x : Scr} {k : Mrk} (h1 : s[i]? = some x) (h2 : l[m]? = some k) : elF l s i m = mayB k x := by
  unfold elF; rw [h1, h2]
theorem capF_at {l : List Mrk} {m : Nat} {k : Mrk} (h2 : l[m]? = some k) : capF l m = k.cap.toNat := by
  unfold capF; rw [h2]
def flowG (t1 t2 : Nat) (E : Nat → Nat → Bool) (lim : Nat → Nat) (n K : Nat) (s : Flw) : List AV := [gridV n K E, .mat t1 111 4 1 (rowsM n K s.A), .own t2 3 1 (nsL K s.ld), .lst 1 (nsL K lim), .undef]
theorem ns_zero {K : Nat} : List.replicate K [AV.int .i64 0] = nsL K fun _ => 0 := by
  refine List.ext_getElem? fun i => ?_
  rw [List.getElem?_replicate, nsL, List.getElem?_map]
  split
  · next h => rw [List.getElem?_range h]; rfl
  · next h => rw [List.getElem?_eq_none (by simp; omega)]; rfl
theorem nf_box {a b : List (List AV)} {x y z : AV} {t e : Nat} (h : a = b) : some [x, y, AV.own t e 1 a, z, .nil] = some [x, y, AV.own t e 1 b, z, .nil] := by rw [h]
theorem nf_lim {a b : List (List AV)} {x y z w : AV} {t e : Nat} (h : b = a) : some [x, y, z, AV.own t e 1 a, w] = some [x, y, z, AV.own t e 1 b, w] := by rw [h]
theorem lim_at {l : List Mrk} {k most : Nat} {m : Mrk} (h : l[k]? = some m) (hc : 0 ≤ m.cap) : (((limF (capF l) most k : Nat)) : Int) = if (most : Int) < m.cap then (most : Int) else m.cap := by
  unfold limF; rw [capF_at h]; split <;> omega
def gridL (n K : Nat) (E : Nat → Nat → Bool) : List (List AV) := (List.range n).map fun i => [AV.lst 1 (bsL K (E i))]
theorem may_0 {K : Nat} {t e : Nat} {E : Nat → Bool} {a : List (List AV)} (h : a = List.replicate K [AV.bool false]) : AV.own t e 1 a = AV.own t e 1 (bsL K fun m => decide (m < 0) && E m) := by
  rw [h, bs_false]; rfl
theorem may_next {K k : Nat} {E : Nat → Bool} {x : Int} (hk : k < K) (hx : x = k) : (bsL K fun m => decide (m < k) && E m).modify x.toNat (·.set 0 (.bool (E k))) = bsL K fun m => decide (m < k + 1) && E m := by
  rw [hx, Int.toNat_natCast, bsL, mod_f, bsL]
  refine List.map_congr_left fun y _ => ?_
  by_cases e : y = k
  · subst e; simp
  · have : decide (y < k + 1) = decide (y < k) := by rw [decide_eq_decide]; omega
    simp [e, this]
theorem may_all {K : Nat} {E : Nat → Bool} : (bsL K fun m => decide (m < K) && E m) = bsL K E := by
  refine List.map_congr_left fun y hy => ?_
  simp [List.mem_range.1 hy]
theorem grid_next {n K : Nat} {E : Nat → Nat → Bool} : gridL (n + 1) K E = gridL n K E ++ [[AV.lst 1 (bsL K (E n))]] := by
  unfold gridL; rw [List.range_succ, List.map_append]; rfl
theorem rows_next {n K : Nat} {A : Nat → Nat → Bool} : rowsM (n + 1) K A = rowsM n K A ++ [some (bsL K (A n))] := by
  unfold rowsM; rw [List.range_succ, List.map_append]; rfl
theorem nf_grid {a b : List (List AV)} {x y z w : AV} {t e : Nat} (h : b = a) : some [AV.own t e 1 a, x, y, z, w] = some [AV.own t e 1 b, x, y, z, w] := by rw [h]
theorem nf_rows {a b : List (Option (List (List AV)))} {x y z w : AV} {t e e2 z2 : Nat} (h : a = b) : some [x, AV.mat t e e2 z2 a, y, z, w] = some [x, AV.mat t e e2 z2 b, y, z, w] := by rw [h]
theorem ns_next {k : Nat} {f : Nat → Nat} : nsL (k + 1) f = nsL k f ++ [[.int .i64 (f k : Nat)]] := by
  unfold nsL; rw [List.range_succ, List.map_append]; rfl
set_option maxHeartbeats 4000000 in
theorem newFlow_ok (l : List Mrk) (s : List Scr) (most : Nat) (hl : MksOk l) (hs : ScsOk s) (hm : most ≤ 60) :
    GoodM Try.prog TT false 61 [mrksV l, scrsV s, .int .i64 most] [] (fun r ov bx => r = .ptr 19 0 ∧ ov = [] ∧ bx = [(19, flowG 901 17 (elF l s) (limF (capF l) most) s.length l.length flw0)]) := by
  have LL : (l.map encM).length = l.length := List.length_map ..
  have LS : (s.map encR).length = s.length := List.length_map ..
  have h16 := hl.len
  have h60 := hs.len
  have e0 : ((l.map encM).length : Int).toNat = l.length := by rw [LL]; simp
  have ez : List.replicate l.length [AV.int .i64 0] = nsL l.length fun _ => 0 := ns_zero
  refine good_of_m (fun i => Nat.beq i 17) mixed tabOk Try.func61 rfl rfl Try.ntmps61 Try.results61 rfl rfl ?_
  (conv => whnf); (repeat' (first | (refine arith_i ⟨by omega, by omega⟩ ?_; conv => whnf) | (refine arith_u ⟨by omega, by omega⟩ ?_; conv => whnf) | (refine arith_8 ⟨by omega, by omega⟩ ?_; conv => whnf) | (refine need_i (by first | omega | (simp only [List.length_cons, List.length_nil]; omega) | (simp only [List.length_append, List.length_cons, List.length_nil, List.length_map, List.length_replicate, List.length_modify]; omega)) ?_; conv => whnf) | ((with_reducible first | refine branch_tt ?_ | refine branch_ff ?_); conv => whnf) | (with_reducible refine branch_not ?_) | ((with_reducible first | refine slc_e ?_ | refine callS_a ?_ | refine bld_a ?_ | refine own_e ?_ | refine mkmap_b ?_); conv => whnf) | (refine draw_i 11 plGL25c_0 (by decide +kernel) ?_; (conv => whnf); fail_if_success (guard_target =~ False)) | (refine draw_i 11 plGL25c_1 (by decide +kernel) ?_; (conv => whnf); fail_if_success (guard_target =~ False)) | (refine draw_i 10 plGL25c_2 (by decide +kernel) ?_; (conv => whnf); fail_if_success (guard_target =~ False)) | (refine draw_i 10 plGL25c_3 (by decide +kernel) ?_; (conv => whnf); fail_if_success (guard_target =~ False)) | ((with_reducible refine And.intro ?_ ?_) <;> (conv => whnf)) | (with_reducible exact trivial) | ((with_reducible first | refine branch_d (fun hq => ?_) (fun hq => ?_) | refine branch_e (fun hq => ?_) (fun hq => ?_) | refine branch_n (fun hq => ?_) (fun hq => ?_) | refine branch_i (fun hq => ?_) (fun hq => ?_)) <;> (try (exfalso; omega)) <;> (conv => whnf))))
  refine loop_i (fun k : Nat => k ≤ l.length) (fun k => mkSt [(0, mrksV l), (1, scrsV s), (2, .int .i64 most), (7, .ptr 19 0), (20, mrksV l), (21, .int .i64 l.length), (22, .int .i64 k)] [(19, [.nil, .nil, .own 17 3 1 (nsL l.length fun _ => 0), .own 902 3 1 (nsL k (limF (capF l) most)), .nil])] false) (fun k => l.length - k) 0 (Nat.zero_le _) (Le.trans (le_adoptBox 19 3 902 3 1 rfl rfl) (le_mk ⟨rfl, rfl, rfl, rfl, rfl, int_eq (by rw [LL]), rfl, trivial⟩ ⟨nf_box (by rw [e0]; exact ez), trivial⟩ rfl)) ?_
  intro k hk
  have LK : (nsL k (limF (capF l) most)).length = k := nsL_len
  rcases Nat.lt_or_ge k l.length with hkl | hkl
  · obtain ⟨m, hm'⟩ : ∃ m, l[k]? = some m := ⟨_, List.getElem?_eq_getElem hkl⟩
    have hcap := (hl.all k m hm').cap
    (conv => whnf); (repeat' (first | (refine arith_i ⟨by omega, by omega⟩ ?_; conv => whnf) | (refine arith_u ⟨by omega, by omega⟩ ?_; conv => whnf) | (refine arith_8 ⟨by omega, by omega⟩ ?_; conv => whnf) | (refine need_i (by first | omega | (simp only [List.length_cons, List.length_nil]; omega) | (simp only [List.length_append, List.length_cons, List.length_nil, List.length_map, List.length_replicate, List.length_modify]; omega)) ?_; conv => whnf) | ((with_reducible first | refine branch_tt ?_ | refine branch_ff ?_); conv => whnf) | (with_reducible refine branch_not ?_) | ((refine idx_cs hm' ?_); conv => whnf) | ((with_reducible first | refine slc_e ?_ | refine callS_a ?_ | refine bld_a ?_ | refine own_e ?_ | refine mkmap_b ?_); conv => whnf) | (refine draw_i 11 plGL25c_0 (by decide +kernel) ?_; (conv => whnf); fail_if_success (guard_target =~ False)) | (refine draw_i 11 plGL25c_1 (by decide +kernel) ?_; (conv => whnf); fail_if_success (guard_target =~ False)) | (refine draw_i 10 plGL25c_2 (by decide +kernel) ?_; (conv => whnf); fail_if_success (guard_target =~ False)) | (refine draw_i 10 plGL25c_3 (by decide +kernel) ?_; (conv => whnf); fail_if_success (guard_target =~ False)) | ((with_reducible refine And.intro ?_ ?_) <;> (conv => whnf)) | (with_reducible exact trivial) | ((with_reducible first | refine branch_d (fun hq => ?_) (fun hq => ?_) | refine branch_e (fun hq => ?_) (fun hq => ?_) | refine branch_n (fun hq => ?_) (fun hq => ?_) | refine branch_i (fun hq => ?_) (fun hq => ?_)) <;> (try (exfalso; omega)) <;> (conv => whnf))))
    exact ⟨k + 1, by omega, le_mk ⟨rfl, rfl, rfl, rfl, rfl, rfl, rfl, trivial⟩ ⟨nf_lim (by rw [ns_next, lim_at hm' hcap.1]), trivial⟩ rfl, by omega⟩
  obtain rfl : k = l.length := by omega
  (conv => whnf); (repeat' (first | (refine arith_i ⟨by omega, by omega⟩ ?_; conv => whnf) | (refine arith_u ⟨by omega, by omega⟩ ?_; conv => whnf) | (refine arith_8 ⟨by omega, by omega⟩ ?_; conv => whnf) | (refine need_i (by first | omega | (simp only [List.length_cons, List.length_nil]; omega) | (simp only [List.length_append, List.length_cons, List.length_nil, List.length_map, List.length_replicate, List.length_modify]; omega)) ?_; conv => whnf) | ((with_reducible first | refine branch_tt ?_ | refine branch_ff ?_); conv => whnf) | (with_reducible refine branch_not ?_) | ((with_reducible first | refine slc_e ?_ | refine callS_a ?_ | refine bld_a ?_ | refine own_e ?_ | refine mkmap_b ?_); conv => whnf) | (refine draw_i 11 plGL25c_0 (by decide +kernel) ?_; (conv => whnf); fail_if_success (guard_target =~ False)) | (refine draw_i 11 plGL25c_1 (by decide +kernel) ?_; (conv => whnf); fail_if_success (guard_target =~ False)) | (refine draw_i 10 plGL25c_2 (by decide +kernel) ?_; (conv => whnf); fail_if_success (guard_target =~ False)) | (refine draw_i 10 plGL25c_3 (by decide +kernel) ?_; (conv => whnf); fail_if_success (guard_target =~ False)) | ((with_reducible refine And.intro ?_ ?_) <;> (conv => whnf)) | (with_reducible exact trivial) | ((with_reducible first | refine branch_d (fun hq => ?_) (fun hq => ?_) | refine branch_e (fun hq => ?_) (fun hq => ?_) | refine branch_n (fun hq => ?_) (fun hq => ?_) | refine branch_i (fun hq => ?_) (fun hq => ?_)) <;> (try (exfalso; omega)) <;> (conv => whnf))))
  refine loop_i (fun i : Nat => i ≤ s.length) (fun i => mkSt [(0, mrksV l), (7, .ptr 19 0), (40, scrsV s), (41, .int .i64 s.length), (42, .int .i64 i)] [(19, [.own 903 111 1 (gridL i l.length (elF l s)), .mat 901 111 4 1 (rowsM i l.length fun _ _ => false), .own 17 3 1 (nsL l.length fun _ => 0), .own 902 3 1 (nsL l.length (limF (capF l) most)), .nil])] false) (fun i => s.length - i) 0 (Nat.zero_le _) (Le.trans (le_adoptBox 19 0 903 111 1 rfl rfl) (Le.trans (le_adoptBox 19 1 901 111 1 rfl rfl) (Le.trans (le_toMatBox 19 1 901 111 4 1 rfl rfl) (le_mk ⟨rfl, rfl, rfl, int_eq (by rw [LS]), rfl, trivial⟩ ⟨rfl, trivial⟩ rfl)))) ?_
  intro i hi
  have LR : (rowsM i l.length fun _ _ => false).length = i := rowsM_len
  have LG : (gridL i l.length (elF l s)).length = i := by simp [gridL]
  rcases Nat.lt_or_ge i s.length with hil | hil
  · obtain ⟨x, hx⟩ : ∃ x, s[i]? = some x := ⟨_, List.getElem?_eq_getElem hil⟩
    (conv => whnf); (repeat' (first | (refine arith_i ⟨by omega, by omega⟩ ?_; conv => whnf) | (refine arith_u ⟨by omega, by omega⟩ ?_; conv => whnf) | (refine arith_8 ⟨by omega, by omega⟩ ?_; conv => whnf) | (refine need_i (by first | omega | (simp only [List.length_cons, List.length_nil]; omega) | (simp only [List.length_append, List.length_cons, List.length_nil, List.length_map, List.length_replicate, List.length_modify]; omega)) ?_; conv => whnf) | ((with_reducible first | refine branch_tt ?_ | refine branch_ff ?_); conv => whnf) | (with_reducible refine branch_not ?_) | ((refine idx_cs hx ?_); conv => whnf) | ((refine need_i (by omega) ?_); conv => whnf) | ((with_reducible first | refine slc_e ?_ | refine callS_a ?_ | refine bld_a ?_ | refine own_e ?_ | refine mkmap_b ?_); conv => whnf) | (refine draw_i 11 plGL25c_0 (by decide +kernel) ?_; (conv => whnf); fail_if_success (guard_target =~ False)) | (refine draw_i 11 plGL25c_1 (by decide +kernel) ?_; (conv => whnf); fail_if_success (guard_target =~ False)) | (refine draw_i 10 plGL25c_2 (by decide +kernel) ?_; (conv => whnf); fail_if_success (guard_target =~ False)) | (refine draw_i 10 plGL25c_3 (by decide +kernel) ?_; (conv => whnf); fail_if_success (guard_target =~ False)) | ((with_reducible refine And.intro ?_ ?_) <;> (conv => whnf)) | (with_reducible exact trivial) | ((with_reducible first | refine branch_d (fun hq => ?_) (fun hq => ?_) | refine branch_e (fun hq => ?_) (fun hq => ?_) | refine branch_n (fun hq => ?_) (fun hq => ?_) | refine branch_i (fun hq => ?_) (fun hq => ?_)) <;> (try (exfalso; omega)) <;> (conv => whnf))))
    refine loop_i (fun k : Nat => k ≤ l.length) (fun k => mkSt [(0, mrksV l), (7, .ptr 19 0), (11, .ptr 11 0), (12, .own 48 4 1 (bsL l.length fun m => decide (m < k) && elF l s i m)), (40, scrsV s), (41, .int .i64 s.length), (42, .int .i64 i), (49, mrksV l), (50, .int .i64 l.length), (51, .int .i64 k)] [(11, encR x), (19, [.own 903 111 1 (gridL i l.length (elF l s)), .mat 901 111 4 1 (rowsM i l.length fun _ _ => false), .own 17 3 1 (nsL l.length fun _ => 0), .own 902 3 1 (nsL l.length (limF (capF l) most)), .nil])] false) (fun k => l.length - k) 0 (Nat.zero_le _) (le_mk ⟨rfl, rfl, rfl, may_0 (by rw [e0]), rfl, rfl, rfl, rfl, int_eq (by rw [LL]), rfl, trivial⟩ ⟨rfl, rfl, trivial⟩ rfl) ?_
    intro k hk'
    have LB : (bsL l.length fun m => decide (m < k) && elF l s i m).length = l.length := bsL_len
    rcases Nat.lt_or_ge k l.length with hkl' | hkl'
    · obtain ⟨m, hm'⟩ : ∃ m, l[k]? = some m := ⟨_, List.getElem?_eq_getElem hkl'⟩
      (conv => whnf); (repeat' (first | (refine arith_i ⟨by omega, by omega⟩ ?_; conv => whnf) | (refine arith_u ⟨by omega, by omega⟩ ?_; conv => whnf) | (refine arith_8 ⟨by omega, by omega⟩ ?_; conv => whnf) | (refine need_i (by first | omega | (simp only [List.length_cons, List.length_nil]; omega) | (simp only [List.length_append, List.length_cons, List.length_nil, List.length_map, List.length_replicate, List.length_modify]; omega)) ?_; conv => whnf) | ((with_reducible first | refine branch_tt ?_ | refine branch_ff ?_); conv => whnf) | (with_reducible refine branch_not ?_) | ((refine idx_cs hm' ?_); conv => whnf) | ((refine call_e ((eligible_ok l m.id x hl.short).mono fun r h => h.trans (by rw [elig_own hl.asc hm', ← elF_at hx hm'])) ?_); conv => whnf) | ((refine idx_f (m := k) rfl (by omega) ?_); conv => whnf) | ((with_reducible first | refine slc_e ?_ | refine callS_a ?_ | refine bld_a ?_ | refine own_e ?_ | refine mkmap_b ?_); conv => whnf) | (refine draw_i 11 plGL25c_0 (by decide +kernel) ?_; (conv => whnf); fail_if_success (guard_target =~ False)) | (refine draw_i 11 plGL25c_1 (by decide +kernel) ?_; (conv => whnf); fail_if_success (guard_target =~ False)) | (refine draw_i 10 plGL25c_2 (by decide +kernel) ?_; (conv => whnf); fail_if_success (guard_target =~ False)) | (refine draw_i 10 plGL25c_3 (by decide +kernel) ?_; (conv => whnf); fail_if_success (guard_target =~ False)) | ((with_reducible refine And.intro ?_ ?_) <;> (conv => whnf)) | (with_reducible exact trivial) | ((with_reducible first | refine branch_d (fun hq => ?_) (fun hq => ?_) | refine branch_e (fun hq => ?_) (fun hq => ?_) | refine branch_n (fun hq => ?_) (fun hq => ?_) | refine branch_i (fun hq => ?_) (fun hq => ?_)) <;> (try (exfalso; omega)) <;> (conv => whnf))))
      exact ⟨k + 1, by omega, le_mk ⟨rfl, rfl, rfl, congrArg (AV.own 48 4 1) (may_next (by omega) rfl), rfl, rfl, rfl, rfl, rfl, rfl, trivial⟩ ⟨rfl, rfl, trivial⟩ rfl, by omega⟩
    · obtain rfl : k = l.length := by omega
      (conv => whnf); (repeat' (first | (refine arith_i ⟨by omega, by omega⟩ ?_; conv => whnf) | (refine arith_u ⟨by omega, by omega⟩ ?_; conv => whnf) | (refine arith_8 ⟨by omega, by omega⟩ ?_; conv => whnf) | (refine need_i (by first | omega | (simp only [List.length_cons, List.length_nil]; omega) | (simp only [List.length_append, List.length_cons, List.length_nil, List.length_map, List.length_replicate, List.length_modify]; omega)) ?_; conv => whnf) | ((with_reducible first | refine branch_tt ?_ | refine branch_ff ?_); conv => whnf) | (with_reducible refine branch_not ?_) | ((with_reducible first | refine slc_e ?_ | refine callS_a ?_ | refine bld_a ?_ | refine own_e ?_ | refine mkmap_b ?_); conv => whnf) | (refine draw_i 11 plGL25c_0 (by decide +kernel) ?_; (conv => whnf); fail_if_success (guard_target =~ False)) | (refine draw_i 11 plGL25c_1 (by decide +kernel) ?_; (conv => whnf); fail_if_success (guard_target =~ False)) | (refine draw_i 10 plGL25c_2 (by decide +kernel) ?_; (conv => whnf); fail_if_success (guard_target =~ False)) | (refine draw_i 10 plGL25c_3 (by decide +kernel) ?_; (conv => whnf); fail_if_success (guard_target =~ False)) | ((with_reducible refine And.intro ?_ ?_) <;> (conv => whnf)) | (with_reducible exact trivial) | ((with_reducible first | refine branch_d (fun hq => ?_) (fun hq => ?_) | refine branch_e (fun hq => ?_) (fun hq => ?_) | refine branch_n (fun hq => ?_) (fun hq => ?_) | refine branch_i (fun hq => ?_) (fun hq => ?_)) <;> (try (exfalso; omega)) <;> (conv => whnf))))
      refine rest_i (mkSt [(0, mrksV l), (7, .ptr 19 0), (40, scrsV s), (41, .int .i64 s.length), (42, .int .i64 i)] [(19, [.own 903 111 1 (gridL (i + 1) l.length (elF l s)), .mat 901 111 4 1 (rowsM i l.length fun _ _ => false), .own 17 3 1 (nsL l.length fun _ => 0), .own 902 3 1 (nsL l.length (limF (capF l) most)), .nil])] false) (le_mk ⟨rfl, rfl, rfl, rfl, rfl, trivial⟩ ⟨nf_grid (by rw [may_all, grid_next]), trivial⟩ rfl) ?_
      (conv => whnf); (repeat' (first | (refine arith_i ⟨by omega, by omega⟩ ?_; conv => whnf) | (refine arith_u ⟨by omega, by omega⟩ ?_; conv => whnf) | (refine arith_8 ⟨by omega, by omega⟩ ?_; conv => whnf) | (refine need_i (by first | omega | (simp only [List.length_cons, List.length_nil]; omega) | (simp only [List.length_append, List.length_cons, List.length_nil, List.length_map, List.length_replicate, List.length_modify]; omega)) ?_; conv => whnf) | ((with_reducible first | refine branch_tt ?_ | refine branch_ff ?_); conv => whnf) | (with_reducible refine branch_not ?_) | ((refine need_i (by omega) ?_); conv => whnf) | ((refine bld_m ?_); conv => whnf) | ((with_reducible first | refine slc_e ?_ | refine callS_a ?_ | refine bld_a ?_ | refine own_e ?_ | refine mkmap_b ?_); conv => whnf) | (refine draw_i 11 plGL25c_0 (by decide +kernel) ?_; (conv => whnf); fail_if_success (guard_target =~ False)) | (refine draw_i 11 plGL25c_1 (by decide +kernel) ?_; (conv => whnf); fail_if_success (guard_target =~ False)) | (refine draw_i 10 plGL25c_2 (by decide +kernel) ?_; (conv => whnf); fail_if_success (guard_target =~ False)) | (refine draw_i 10 plGL25c_3 (by decide +kernel) ?_; (conv => whnf); fail_if_success (guard_target =~ False)) | ((with_reducible refine And.intro ?_ ?_) <;> (conv => whnf)) | (with_reducible exact trivial) | ((with_reducible first | refine branch_d (fun hq => ?_) (fun hq => ?_) | refine branch_e (fun hq => ?_) (fun hq => ?_) | refine branch_n (fun hq => ?_) (fun hq => ?_) | refine branch_i (fun hq => ?_) (fun hq => ?_)) <;> (try (exfalso; omega)) <;> (conv => whnf))))
      exact ⟨i + 1, by omega, le_mk ⟨rfl, rfl, rfl, rfl, rfl, trivial⟩ ⟨nf_rows (by rw [e0, bs_false, rows_next]), trivial⟩ rfl, by omega⟩
  · obtain rfl : i = s.length := by omega
    (conv => whnf); (repeat' (first | (refine arith_i ⟨by omega, by omega⟩ ?_; conv => whnf) | (refine arith_u ⟨by omega, by omega⟩ ?_; conv => whnf) | (refine arith_8 ⟨by omega, by omega⟩ ?_; conv => whnf) | (refine need_i (by first | omega | (simp only [List.length_cons, List.length_nil]; omega) | (simp only [List.length_append, List.length_cons, List.length_nil, List.length_map, List.length_replicate, List.length_modify]; omega)) ?_; conv => whnf) | ((with_reducible first | refine branch_tt ?_ | refine branch_ff ?_); conv => whnf) | (with_reducible refine branch_not ?_) | ((with_reducible first | refine slc_e ?_ | refine callS_a ?_ | refine bld_a ?_ | refine own_e ?_ | refine mkmap_b ?_); conv => whnf) | (refine draw_i 11 plGL25c_0 (by decide +kernel) ?_; (conv => whnf); fail_if_success (guard_target =~ False)) | (refine draw_i 11 plGL25c_1 (by decide +kernel) ?_; (conv => whnf); fail_if_success (guard_target =~ False)) | (refine draw_i 10 plGL25c_2 (by decide +kernel) ?_; (conv => whnf); fail_if_success (guard_target =~ False)) | (refine draw_i 10 plGL25c_3 (by decide +kernel) ?_; (conv => whnf); fail_if_success (guard_target =~ False)) | ((with_reducible refine And.intro ?_ ?_) <;> (conv => whnf)) | (with_reducible exact trivial) | ((with_reducible first | refine branch_d (fun hq => ?_) (fun hq => ?_) | refine branch_e (fun hq => ?_) (fun hq => ?_) | refine branch_n (fun hq => ?_) (fun hq => ?_) | refine branch_i (fun hq => ?_) (fun hq => ?_)) <;> (try (exfalso; omega)) <;> (conv => whnf))))
    exact retM_i _ [] [(19, flowG 901 17 (elF l s) (limF (capF l) most) s.length l.length flw0)] rfl (Le.trans (le_erase 903) (Le.trans (le_erase 902) (Le.trans (le_undefBox 19 4 rfl rfl) (le_mk (by repeat' (first | exact trivial | rfl | apply And.intro)) (by repeat' (first | exact trivial | rfl | apply And.intro)) rfl)))) rfl ⟨rfl, rfl, rfl⟩
end Go.Proofs.Ytpmoflggmdfmnaa
end

/- Layer 25: the best assignment, the least greatest load: of the program. -/
section
namespace Go.Proofs.Ytpmoflggmdfmnaa
set_option linter.unusedVariables false
set_option linter.unusedSimpArgs false
set_option linter.unnecessarySimpa false
set_option linter.unusedSectionVars false
set_option maxRecDepth 10000
open Go.RowKit
theorem wf_0 {E : Nat → Nat → Bool} {lim : Nat → Nat} {n K : Nat} : WF E lim n K flw0 := (upto_0 (r := 0)).wf
def BestR (l : List Mrk) (s : List Scr) (k : Nat) (r : AV) (ov : List (Nat × AV)) (bx : List (Nat × List AV)) : Prop :=
  ov = [] ∧ ((leastF (elF l s) (capF l) s.length l.length k = none ∧ r = .tup [.nilp, .int .i64 0] ∧ bx = []) ∨
    ∃ a s', leastF (elF l s) (capF l) s.length l.length k = some a ∧ fillF (elF l s) (limF (capF l) a) s.length l.length k (List.range s.length) flw0 = (none, s') ∧ r = .tup [.ptr 950 0, .int .i64 (a : Nat)] ∧ bx = [(950, flowG 911 912 (elF l s) (limF (capF l) a) s.length l.length s')])
set_option maxHeartbeats 4000000 in
theorem best_ok (l : List Mrk) (s : List Scr) (k : Nat) (hl : MksOk l) (hs : ScsOk s) (hk : k ≤ 2) : GoodM Try.prog TT false 57 [mrksV l, scrsV s, .int .i64 k] [] (BestR l s k) := by
  have LS : (s.map encR).length = s.length := List.length_map ..
  have h16 := hl.len
  have h60 := hs.len
  refine good_of_m (fun _ => false) mixed tabOk Try.func57 rfl rfl Try.ntmps57 Try.results57 rfl rfl ?_
  (conv => whnf); (repeat' (first | (refine arith_i ⟨by omega, by omega⟩ ?_; conv => whnf) | (refine arith_u ⟨by omega, by omega⟩ ?_; conv => whnf) | (refine arith_8 ⟨by omega, by omega⟩ ?_; conv => whnf) | (refine need_i (by first | omega | (simp only [List.length_cons, List.length_nil]; omega) | (simp only [List.length_append, List.length_cons, List.length_nil, List.length_map, List.length_replicate, List.length_modify]; omega)) ?_; conv => whnf) | ((with_reducible first | refine branch_tt ?_ | refine branch_ff ?_); conv => whnf) | (with_reducible refine branch_not ?_) | ((with_reducible first | refine slc_e ?_ | refine callS_a ?_ | refine bld_a ?_ | refine own_e ?_ | refine mkmap_b ?_); conv => whnf) | ((with_reducible first | refine branch_d (fun hq => ?_) (fun hq => ?_) | refine branch_e (fun hq => ?_) (fun hq => ?_) | refine branch_n (fun hq => ?_) (fun hq => ?_) | refine branch_i (fun hq => ?_) (fun hq => ?_)) <;> (try (exfalso; omega)) <;> (conv => whnf))))
  refine loop_i (fun c : Nat => c ≤ s.length + 1 ∧ leastF (elF l s) (capF l) s.length l.length k = bestF (elF l s) (capF l) s.length l.length k (s.length + 1 - c) c) (fun c => mkSt [(0, mrksV l), (1, scrsV s), (2, .int .i64 k), (8, .int .i64 c)] [] false) (fun c => s.length + 1 - c) 0 ⟨by omega, rfl⟩ (le_mk (by repeat' (first | exact trivial | rfl | apply And.intro)) (by repeat' (first | exact trivial | rfl | apply And.intro)) rfl) ?_
  rintro c ⟨hc, hF⟩
  rcases Nat.lt_or_ge c (s.length + 1) with hcl | hcl
  · have hNew := newFlow_ok l s c hl hs (by omega)
    have hlim : ∀ m, m < l.length → limF (capF l) c m ≤ 1000 := fun m hm => by unfold limF; omega
    have hFill := fill_ok (elF l s) (limF (capF l) c) s.length l.length (by omega) (by omega) hlim k hk flw0 wf_0
    rw [show s.length + 1 - c = (s.length + 1 - (c + 1)) + 1 by omega, bestF] at hF
    (conv => whnf); (repeat' (first | (refine arith_i ⟨by omega, by omega⟩ ?_; conv => whnf) | (refine arith_u ⟨by omega, by omega⟩ ?_; conv => whnf) | (refine arith_8 ⟨by omega, by omega⟩ ?_; conv => whnf) | (refine need_i (by first | omega | (simp only [List.length_cons, List.length_nil]; omega) | (simp only [List.length_append, List.length_cons, List.length_nil, List.length_map, List.length_replicate, List.length_modify]; omega)) ?_; conv => whnf) | ((with_reducible first | refine branch_tt ?_ | refine branch_ff ?_); conv => whnf) | (with_reducible refine branch_not ?_) | (((refine acall_m ?_; refine rcall_e [] [] [(19, 950)] [(901, 911), (17, 912)] hNew rfl rfl rfl rfl trivial rfl ?_)); conv => whnf) | (((refine rcall_i [(1000, 950)] [(1101, 911), (1102, 912)] [] [(1104, 913)] _ Le.refl hFill rfl rfl rfl rfl ⟨⟨_, rfl, rfl, rfl⟩, trivial⟩ ?_; rintro r ov bx' ⟨rfl, hr⟩; rcases hr with ⟨h1, rfl, rfl⟩ | ⟨i, h1, rfl, rfl⟩ <;> refine ⟨rfl, ?_⟩ <;> (conv => whnf))); conv => whnf) | ((with_reducible first | refine slc_e ?_ | refine callS_a ?_ | refine bld_a ?_ | refine own_e ?_ | refine mkmap_b ?_); conv => whnf) | ((with_reducible first | refine branch_d (fun hq => ?_) (fun hq => ?_) | refine branch_e (fun hq => ?_) (fun hq => ?_) | refine branch_n (fun hq => ?_) (fun hq => ?_) | refine branch_i (fun hq => ?_) (fun hq => ?_)) <;> (try (exfalso; omega)) <;> (conv => whnf))))
    · have e : okF (elF l s) (capF l) s.length l.length k c = true := by rw [okF, h1]; rfl
      rw [if_pos e] at hF
      exact retM_i _ [] [(950, flowG 911 912 (elF l s) (limF (capF l) c) s.length l.length (fillF (elF l s) (limF (capF l) c) s.length l.length k (List.range s.length) flw0).2)] rfl (le_mk (by repeat' (first | exact trivial | rfl | apply And.intro)) (by repeat' (first | exact trivial | rfl | apply And.intro)) rfl) rfl ⟨rfl, .inr ⟨c, _, hF, Prod.ext h1 rfl, rfl, rfl⟩⟩
    · have e : ¬ okF (elF l s) (capF l) s.length l.length k c = true := by rw [okF, h1]; simp
      rw [if_neg e] at hF
      exact ⟨c + 1, ⟨by omega, hF⟩, (le_mk (by repeat' (first | exact trivial | rfl | apply And.intro)) (by repeat' (first | exact trivial | rfl | apply And.intro)) rfl), by omega⟩
  · rw [show s.length + 1 - c = 0 by omega, bestF] at hF
    (conv => whnf); (repeat' (first | (refine arith_i ⟨by omega, by omega⟩ ?_; conv => whnf) | (refine arith_u ⟨by omega, by omega⟩ ?_; conv => whnf) | (refine arith_8 ⟨by omega, by omega⟩ ?_; conv => whnf) | (refine need_i (by first | omega | (simp only [List.length_cons, List.length_nil]; omega) | (simp only [List.length_append, List.length_cons, List.length_nil, List.length_map, List.length_replicate, List.length_modify]; omega)) ?_; conv => whnf) | ((with_reducible first | refine branch_tt ?_ | refine branch_ff ?_); conv => whnf) | (with_reducible refine branch_not ?_) | ((with_reducible first | refine slc_e ?_ | refine callS_a ?_ | refine bld_a ?_ | refine own_e ?_ | refine mkmap_b ?_); conv => whnf) | ((with_reducible first | refine branch_d (fun hq => ?_) (fun hq => ?_) | refine branch_e (fun hq => ?_) (fun hq => ?_) | refine branch_n (fun hq => ?_) (fun hq => ?_) | refine branch_i (fun hq => ?_) (fun hq => ?_)) <;> (try (exfalso; omega)) <;> (conv => whnf))))
    exact retM_i _ [] [] rfl (le_mk (by repeat' (first | exact trivial | rfl | apply And.intro)) (by repeat' (first | exact trivial | rfl | apply And.intro)) rfl) rfl ⟨rfl, .inl ⟨hF, rfl, rfl⟩⟩
def okK (k : Int) : Bool := decide (1 ≤ k) && decide (k ≤ 2)
theorem right_ok (l : List Mrk) (s : List Scr) (k : Int) (hl : MksOk l) (hs : ScsOk s) : Good Try.prog TT false 56 [mrksV l, scrsV s, .int .i64 k] (· = .bool (okK k)) := by
  have hC := checkScripts_ok s s.length hs.len (Nat.le_refl _) (fun k x h => (hs.all k x h).1) (fun k x _ h => (hs.all k x h).2) (fun x h => by rw [List.getElem?_eq_none (Nat.le_refl _)] at h; cases h) hs.asc
  rw [if_pos rfl] at hC
  refine good_of mixed tabOk Try.func56 rfl rfl Try.ntmps56 Try.results56 rfl rfl ?_
  (conv => whnf); (repeat' (first | (refine arith_i ⟨by omega, by omega⟩ ?_; conv => whnf) | (refine arith_u ⟨by omega, by omega⟩ ?_; conv => whnf) | (refine arith_8 ⟨by omega, by omega⟩ ?_; conv => whnf) | (refine need_i (by first | omega | (simp only [List.length_cons, List.length_nil]; omega) | (simp only [List.length_append, List.length_cons, List.length_nil, List.length_map, List.length_replicate, List.length_modify]; omega)) ?_; conv => whnf) | ((with_reducible first | refine branch_tt ?_ | refine branch_ff ?_); conv => whnf) | (with_reducible refine branch_not ?_) | ((refine call_e (check_ok l hl.len hl.all hl.asc) ?_); conv => whnf) | ((refine call_e hC ?_); conv => whnf) | ((with_reducible first | refine slc_e ?_ | refine callS_a ?_ | refine bld_a ?_ | refine own_e ?_ | refine mkmap_b ?_); conv => whnf) | ((with_reducible first | refine branch_d (fun hq => ?_) (fun hq => ?_) | refine branch_e (fun hq => ?_) (fun hq => ?_) | refine branch_n (fun hq => ?_) (fun hq => ?_) | refine branch_i (fun hq => ?_) (fun hq => ?_)) <;> (try (exfalso; omega)) <;> (conv => whnf))))
  all_goals first
    | exact ret_p rfl (bool_eq (show true = okK k by simp [okK]; omega))
    | exact ret_p rfl (bool_eq (show false = okK k by simp [okK]; omega))
theorem okK_in {k : Int} (h : okK k = true) : ∃ q : Nat, k = q ∧ 1 ≤ q ∧ q ≤ 2 := by
  simp [okK] at h
  exact ⟨k.toNat, by omega, by omega, by omega⟩
def lstF (l : List Mrk) (s : List Scr) (k : Int) : Option Nat := if okK k = true then leastF (elF l s) (capF l) s.length l.length k.toNat else none
set_option maxHeartbeats 4000000 in
theorem least_ok (l : List Mrk) (s : List Scr) (k : Int) (hl : MksOk l) (hs : ScsOk s) : Good Try.prog TT false 15 [mrksV l, scrsV s, .int .i64 k] (· = .tup [.int .i64 (((lstF l s k).getD 0 : Nat)), .bool (lstF l s k).isSome]) := by
  cases hk : okK k with
  | false =>
    have e : lstF l s k = none := by rw [lstF, if_neg (by simp [hk])]
    rw [e]
    refine good_of mixed tabOk Try.func15 rfl rfl Try.ntmps15 Try.results15 rfl rfl ?_
    (conv => whnf); (repeat' (first | (refine arith_i ⟨by omega, by omega⟩ ?_; conv => whnf) | (refine arith_u ⟨by omega, by omega⟩ ?_; conv => whnf) | (refine arith_8 ⟨by omega, by omega⟩ ?_; conv => whnf) | (refine need_i (by first | omega | (simp only [List.length_cons, List.length_nil]; omega) | (simp only [List.length_append, List.length_cons, List.length_nil, List.length_map, List.length_replicate, List.length_modify]; omega)) ?_; conv => whnf) | ((with_reducible first | refine branch_tt ?_ | refine branch_ff ?_); conv => whnf) | (with_reducible refine branch_not ?_) | ((refine call_e ((right_ok l s k hl hs).mono fun r h => h.trans (bool_eq hk)) ?_); conv => whnf) | ((with_reducible first | refine slc_e ?_ | refine callS_a ?_ | refine bld_a ?_ | refine own_e ?_ | refine mkmap_b ?_); conv => whnf) | ((with_reducible first | refine branch_d (fun hq => ?_) (fun hq => ?_) | refine branch_e (fun hq => ?_) (fun hq => ?_) | refine branch_n (fun hq => ?_) (fun hq => ?_) | refine branch_i (fun hq => ?_) (fun hq => ?_)) <;> (try (exfalso; omega)) <;> (conv => whnf))))
    exact ret_t (rs := [.int .i64 0, .bool false]) ⟨(rc_p rfl).g, (rc_p rfl).g, trivial⟩ rfl
  | true =>
    obtain ⟨q, rfl, hq1, hq2⟩ := okK_in hk
    have e : lstF l s q = leastF (elF l s) (capF l) s.length l.length q := by rw [lstF, if_pos hk, Int.toNat_natCast]
    rw [e]
    refine good_of mixed tabOk Try.func15 rfl rfl Try.ntmps15 Try.results15 rfl rfl ?_
    (conv => whnf); (repeat' (first | (refine arith_i ⟨by omega, by omega⟩ ?_; conv => whnf) | (refine arith_u ⟨by omega, by omega⟩ ?_; conv => whnf) | (refine arith_8 ⟨by omega, by omega⟩ ?_; conv => whnf) | (refine need_i (by first | omega | (simp only [List.length_cons, List.length_nil]; omega) | (simp only [List.length_append, List.length_cons, List.length_nil, List.length_map, List.length_replicate, List.length_modify]; omega)) ?_; conv => whnf) | ((with_reducible first | refine branch_tt ?_ | refine branch_ff ?_); conv => whnf) | (with_reducible refine branch_not ?_) | ((refine call_e ((right_ok l s q hl hs).mono fun r h => h.trans (bool_eq hk)) ?_); conv => whnf) | (((refine acall_m ?_; refine rcall_i [] [] [(950, 950)] [(911, 911), (912, 912)] _ Le.refl (best_ok l s q hl hs hq2) rfl rfl rfl rfl trivial ?_; rintro r ov bx' ⟨rfl, hr⟩; rcases hr with ⟨h1, rfl, rfl⟩ | ⟨a, s', h1, h2, rfl, rfl⟩ <;> rw [h1] <;> refine ⟨rfl, ?_⟩ <;> (conv => whnf))); conv => whnf) | ((with_reducible first | refine slc_e ?_ | refine callS_a ?_ | refine bld_a ?_ | refine own_e ?_ | refine mkmap_b ?_); conv => whnf) | ((with_reducible first | refine branch_d (fun hq => ?_) (fun hq => ?_) | refine branch_e (fun hq => ?_) (fun hq => ?_) | refine branch_n (fun hq => ?_) (fun hq => ?_) | refine branch_i (fun hq => ?_) (fun hq => ?_)) <;> (try (exfalso; omega)) <;> (conv => whnf))))
    · exact ret_t (rs := [.int .i64 0, .bool false]) ⟨(rc_p rfl).g, (rc_p rfl).g, trivial⟩ rfl
    · exact ret_t (rs := [.int .i64 (a : Nat), .bool true]) ⟨(rc_p rfl).g, (rc_p rfl).g, trivial⟩ rfl
end Go.Proofs.Ytpmoflggmdfmnaa
end

/- Layer 25: Allocate and Witness of the program. -/
section
namespace Go.Proofs.Ytpmoflggmdfmnaa
set_option linter.unusedVariables false
set_option linter.unusedSimpArgs false
set_option linter.unnecessarySimpa false
set_option linter.unusedSectionVars false
set_option maxRecDepth 10000
open Go.RowKit
def encT (t : Int × Int) : List AV := [.int .i64 t.1, .int .i64 t.2]
def numF (s : List Scr) (i : Nat) : Int := match s[i]? with | some x => x.number | none => 0
def idF (l : List Mrk) (m : Nat) : Int := match l[m]? with | some k => k.id | none => 0
theorem numF_at {s : List Scr} {i : Nat} {x : Scr} (h : s[i]? = some x) : numF s i = x.number := by unfold numF; rw [h]
theorem idF_at {l : List Mrk} {m : Nat} {k : Mrk} (h : l[m]? = some k) : idF l m = k.id := by unfold idF; rw [h]
def rowT (l : List Mrk) (s : List Scr) (A : Nat → Nat → Bool) (i k : Nat) : List (Int × Int) := (List.range k).flatMap fun m => if A i m = true then [(numF s i, idF l m)] else []
def tasksT (l : List Mrk) (s : List Scr) (A : Nat → Nat → Bool) (n : Nat) : List (Int × Int) := (List.range n).flatMap fun i => rowT l s A i l.length
theorem rowT_next {l : List Mrk} {s : List Scr} {A : Nat → Nat → Bool} {i k : Nat} : rowT l s A i (k + 1) = rowT l s A i k ++ if A i k = true then [(numF s i, idF l k)] else [] := by
  unfold rowT; rw [List.range_succ, List.flatMap_append]; simp
theorem tasksT_next {l : List Mrk} {s : List Scr} {A : Nat → Nat → Bool} {n : Nat} : tasksT l s A (n + 1) = tasksT l s A n ++ rowT l s A n l.length := by
  unfold tasksT; rw [List.range_succ, List.flatMap_append]; simp
theorem rowT_len {l : List Mrk} {s : List Scr} {A : Nat → Nat → Bool} {i : Nat} : ∀ {k : Nat}, (rowT l s A i k).length ≤ k
  | 0 => by simp [rowT]
  | k + 1 => by
    have := rowT_len (l := l) (s := s) (A := A) (i := i) (k := k)
    rw [rowT_next, List.length_append]; split <;> simp <;> omega
theorem tasksT_len {l : List Mrk} {s : List Scr} {A : Nat → Nat → Bool} : ∀ {n : Nat}, (tasksT l s A n).length ≤ n * l.length
  | 0 => by simp [tasksT]
  | n + 1 => by
    have h1 := tasksT_len (l := l) (s := s) (A := A) (n := n)
    have h2 := rowT_len (l := l) (s := s) (A := A) (i := n) (k := l.length)
    rw [tasksT_next, List.length_append, Nat.add_mul]; omega
def AllR (l : List Mrk) (s : List Scr) (k : Int) (r : AV) : Prop :=
  (okK k = false ∧ r = .tup [.lst 2 [], .int .i64 1]) ∨ (okK k = true ∧ lstF l s k = none ∧ r = .tup [.lst 2 [], .int .i64 41]) ∨
    ∃ a s', okK k = true ∧ lstF l s k = some a ∧ Upto (elF l s) (limF (capF l) a) s.length l.length k.toNat s.length s' ∧ r = .tup [.lst 2 ((tasksT l s s'.A s.length).map encT), .int .i64 0]
set_option maxHeartbeats 4000000 in
theorem allocate_ok (l : List Mrk) (s : List Scr) (k : Int) (hl : MksOk l) (hs : ScsOk s) : Good Try.prog TT false 17 [mrksV l, scrsV s, .int .i64 k] (AllR l s k) := by
  have LL : (l.map encM).length = l.length := List.length_map ..
  have LS : (s.map encR).length = s.length := List.length_map ..
  have h16 := hl.len
  have h60 := hs.len
  cases hk : okK k with
  | false =>
    refine good_of mixed tabOk Try.func17 rfl rfl Try.ntmps17 Try.results17 rfl rfl ?_
    (conv => whnf); (repeat' (first | (refine arith_i ⟨by omega, by omega⟩ ?_; conv => whnf) | (refine arith_u ⟨by omega, by omega⟩ ?_; conv => whnf) | (refine arith_8 ⟨by omega, by omega⟩ ?_; conv => whnf) | (refine need_i (by first | omega | (simp only [List.length_cons, List.length_nil]; omega) | (simp only [List.length_append, List.length_cons, List.length_nil, List.length_map, List.length_replicate, List.length_modify]; omega)) ?_; conv => whnf) | ((with_reducible first | refine branch_tt ?_ | refine branch_ff ?_); conv => whnf) | (with_reducible refine branch_not ?_) | ((refine call_e ((right_ok l s k hl hs).mono fun r h => h.trans (bool_eq hk)) ?_); conv => whnf) | ((with_reducible first | refine slc_e ?_ | refine callS_a ?_ | refine bld_a ?_ | refine own_e ?_ | refine mkmap_b ?_); conv => whnf) | ((with_reducible first | refine branch_d (fun hq => ?_) (fun hq => ?_) | refine branch_e (fun hq => ?_) (fun hq => ?_) | refine branch_n (fun hq => ?_) (fun hq => ?_) | refine branch_i (fun hq => ?_) (fun hq => ?_)) <;> (try (exfalso; omega)) <;> (conv => whnf))))
    exact ret_t (rs := [.lst 2 [], .int .i64 1]) ⟨.inl rc_n, (rc_p rfl).g, trivial⟩ (.inl ⟨hk, rfl⟩)
  | true =>
    obtain ⟨q, rfl, hq1, hq2⟩ := okK_in hk
    have e : lstF l s q = leastF (elF l s) (capF l) s.length l.length q := by rw [lstF, if_pos hk, Int.toNat_natCast]
    refine good_of mixed tabOk Try.func17 rfl rfl Try.ntmps17 Try.results17 rfl rfl ?_
    (conv => whnf); (repeat' (first | (refine arith_i ⟨by omega, by omega⟩ ?_; conv => whnf) | (refine arith_u ⟨by omega, by omega⟩ ?_; conv => whnf) | (refine arith_8 ⟨by omega, by omega⟩ ?_; conv => whnf) | (refine need_i (by first | omega | (simp only [List.length_cons, List.length_nil]; omega) | (simp only [List.length_append, List.length_cons, List.length_nil, List.length_map, List.length_replicate, List.length_modify]; omega)) ?_; conv => whnf) | ((with_reducible first | refine branch_tt ?_ | refine branch_ff ?_); conv => whnf) | (with_reducible refine branch_not ?_) | ((refine call_e ((right_ok l s q hl hs).mono fun r h => h.trans (bool_eq hk)) ?_); conv => whnf) | (((refine acall_m ?_; refine rcall_i [] [] [(950, 950)] [(911, 911), (912, 912)] _ Le.refl (best_ok l s q hl hs hq2) rfl rfl rfl rfl trivial ?_; rintro r ov bx' ⟨rfl, hr⟩; rcases hr with ⟨h1, rfl, rfl⟩ | ⟨a, s', h1, h2, rfl, rfl⟩ <;> refine ⟨rfl, ?_⟩ <;> (conv => whnf))); conv => whnf) | ((with_reducible first | refine slc_e ?_ | refine callS_a ?_ | refine bld_a ?_ | refine own_e ?_ | refine mkmap_b ?_); conv => whnf) | ((with_reducible first | refine branch_d (fun hq => ?_) (fun hq => ?_) | refine branch_e (fun hq => ?_) (fun hq => ?_) | refine branch_n (fun hq => ?_) (fun hq => ?_) | refine branch_i (fun hq => ?_) (fun hq => ?_)) <;> (try (exfalso; omega)) <;> (conv => whnf))))
    · exact ret_t (rs := [.lst 2 [], .int .i64 41]) ⟨.inl rc_n, (rc_p rfl).g, trivial⟩ (.inr (.inl ⟨hk, e.trans h1, rfl⟩))
    have hU : Upto (elF l s) (limF (capF l) a) s.length l.length q s.length s' := fill_won (k := 0) rfl (Nat.zero_le _) upto_0 h2
    have LM : (rowsM s.length l.length s'.A).length = s.length := rowsM_len
    refine loop_i (fun i : Nat => i ≤ s.length) (fun i => mkSt [(0, mrksV l), (8, .ptr 950 0), (10, .own 920 47 2 ((tasksT l s s'.A i).map encT)), (29, scrsV s), (30, .int .i64 s.length), (31, .int .i64 i)] [(950, flowG 911 912 (elF l s) (limF (capF l) a) s.length l.length s')] false) (fun i => s.length - i) 0 (Nat.zero_le _) (Le.trans (le_adopt 10 920 47 2 rfl) (le_mk ⟨rfl, rfl, rfl, rfl, int_eq (by rw [LS]), rfl, trivial⟩ ⟨rfl, trivial⟩ rfl)) ?_
    intro i hi
    have LT := tasksT_len (l := l) (s := s) (A := s'.A) (n := i)
    have LT2 : ((tasksT l s s'.A i).map encT).length = (tasksT l s s'.A i).length := List.length_map ..
    have hb : i * l.length ≤ 60 * 16 := Nat.mul_le_mul (by omega) h16
    rcases Nat.lt_or_ge i s.length with hil | hil
    · obtain ⟨x, hx⟩ : ∃ x, s[i]? = some x := ⟨_, List.getElem?_eq_getElem hil⟩
      (conv => whnf); (repeat' (first | (refine arith_i ⟨by omega, by omega⟩ ?_; conv => whnf) | (refine arith_u ⟨by omega, by omega⟩ ?_; conv => whnf) | (refine arith_8 ⟨by omega, by omega⟩ ?_; conv => whnf) | (refine need_i (by first | omega | (simp only [List.length_cons, List.length_nil]; omega) | (simp only [List.length_append, List.length_cons, List.length_nil, List.length_map, List.length_replicate, List.length_modify]; omega)) ?_; conv => whnf) | ((with_reducible first | refine branch_tt ?_ | refine branch_ff ?_); conv => whnf) | (with_reducible refine branch_not ?_) | ((refine idx_cs hx ?_); conv => whnf) | ((with_reducible first | refine slc_e ?_ | refine callS_a ?_ | refine bld_a ?_ | refine own_e ?_ | refine mkmap_b ?_); conv => whnf) | ((with_reducible first | refine branch_d (fun hq => ?_) (fun hq => ?_) | refine branch_e (fun hq => ?_) (fun hq => ?_) | refine branch_n (fun hq => ?_) (fun hq => ?_) | refine branch_i (fun hq => ?_) (fun hq => ?_)) <;> (try (exfalso; omega)) <;> (conv => whnf))))
      refine loop_i (fun m : Nat => m ≤ l.length) (fun m => mkSt [(0, mrksV l), (8, .ptr 950 0), (10, .own 920 47 2 ((tasksT l s s'.A i ++ rowT l s s'.A i m).map encT)), (11, .int .i64 i), (12, .ptr 12 0), (29, scrsV s), (30, .int .i64 s.length), (31, .int .i64 i), (36, mrksV l), (37, .int .i64 l.length), (38, .int .i64 m)] [(12, encR x), (950, flowG 911 912 (elF l s) (limF (capF l) a) s.length l.length s')] false) (fun m => l.length - m) 0 (Nat.zero_le _) (le_mk ⟨rfl, rfl, by rw [show rowT l s s'.A i 0 = [] from rfl, List.append_nil]; rfl, rfl, rfl, rfl, rfl, rfl, rfl, int_eq (by rw [LL]), rfl, trivial⟩ ⟨rfl, rfl, trivial⟩ rfl) ?_
      intro m hm
      have LR := rowT_len (l := l) (s := s) (A := s'.A) (i := i) (k := m)
      have LR2 : ((tasksT l s s'.A i ++ rowT l s s'.A i m).map encT).length = (tasksT l s s'.A i).length + (rowT l s s'.A i m).length := by simp
      rcases Nat.lt_or_ge m l.length with hml | hml
      · obtain ⟨y, hy⟩ : ∃ y, l[m]? = some y := ⟨_, List.getElem?_eq_getElem hml⟩
        (conv => whnf); (repeat' (first | (refine arith_i ⟨by omega, by omega⟩ ?_; conv => whnf) | (refine arith_u ⟨by omega, by omega⟩ ?_; conv => whnf) | (refine arith_8 ⟨by omega, by omega⟩ ?_; conv => whnf) | (refine need_i (by first | omega | (simp only [List.length_cons, List.length_nil]; omega) | (simp only [List.length_append, List.length_cons, List.length_nil, List.length_map, List.length_replicate, List.length_modify]; omega)) ?_; conv => whnf) | ((with_reducible first | refine branch_tt ?_ | refine branch_ff ?_); conv => whnf) | (with_reducible refine branch_not ?_) | ((refine idx_cs hy ?_); conv => whnf) | ((refine ridx_f (m := i) rfl (by omega) ?_); conv => whnf) | ((refine idx_f (m := m) rfl (by omega) ?_); conv => whnf) | ((with_reducible first | refine slc_e ?_ | refine callS_a ?_ | refine bld_a ?_ | refine own_e ?_ | refine mkmap_b ?_); conv => whnf) | ((with_reducible first | refine branch_d (fun hq => ?_) (fun hq => ?_) | refine branch_e (fun hq => ?_) (fun hq => ?_) | refine branch_n (fun hq => ?_) (fun hq => ?_) | refine branch_i (fun hq => ?_) (fun hq => ?_)) <;> (try (exfalso; omega)) <;> (conv => whnf))))
        · have e1 : (tasksT l s s'.A i ++ rowT l s s'.A i (m + 1)).map encT = (tasksT l s s'.A i ++ rowT l s s'.A i m).map encT ++ [[.int .i64 x.number, .int .i64 y.id]] := by
            rw [rowT_next, if_pos hq, ← List.append_assoc, List.map_append, numF_at hx, idF_at hy]; rfl
          exact ⟨m + 1, by omega, by rw [e1]; exact (le_mk (by repeat' (first | exact trivial | rfl | apply And.intro)) (by repeat' (first | exact trivial | rfl | apply And.intro)) rfl), by omega⟩
        · have e1 : rowT l s s'.A i (m + 1) = rowT l s s'.A i m := by rw [rowT_next, if_neg (by simp [hq]), List.append_nil]
          exact ⟨m + 1, by omega, by rw [e1]; exact (le_mk (by repeat' (first | exact trivial | rfl | apply And.intro)) (by repeat' (first | exact trivial | rfl | apply And.intro)) rfl), by omega⟩
      · (conv => whnf); (repeat' (first | (refine arith_i ⟨by omega, by omega⟩ ?_; conv => whnf) | (refine arith_u ⟨by omega, by omega⟩ ?_; conv => whnf) | (refine arith_8 ⟨by omega, by omega⟩ ?_; conv => whnf) | (refine need_i (by first | omega | (simp only [List.length_cons, List.length_nil]; omega) | (simp only [List.length_append, List.length_cons, List.length_nil, List.length_map, List.length_replicate, List.length_modify]; omega)) ?_; conv => whnf) | ((with_reducible first | refine branch_tt ?_ | refine branch_ff ?_); conv => whnf) | (with_reducible refine branch_not ?_) | ((with_reducible first | refine slc_e ?_ | refine callS_a ?_ | refine bld_a ?_ | refine own_e ?_ | refine mkmap_b ?_); conv => whnf) | ((with_reducible first | refine branch_d (fun hq => ?_) (fun hq => ?_) | refine branch_e (fun hq => ?_) (fun hq => ?_) | refine branch_n (fun hq => ?_) (fun hq => ?_) | refine branch_i (fun hq => ?_) (fun hq => ?_)) <;> (try (exfalso; omega)) <;> (conv => whnf))))
        obtain rfl : m = l.length := by omega
        exact ⟨i + 1, by omega, by rw [tasksT_next]; exact (le_mk (by repeat' (first | exact trivial | rfl | apply And.intro)) (by repeat' (first | exact trivial | rfl | apply And.intro)) rfl), by omega⟩
    · (conv => whnf); (repeat' (first | (refine arith_i ⟨by omega, by omega⟩ ?_; conv => whnf) | (refine arith_u ⟨by omega, by omega⟩ ?_; conv => whnf) | (refine arith_8 ⟨by omega, by omega⟩ ?_; conv => whnf) | (refine need_i (by first | omega | (simp only [List.length_cons, List.length_nil]; omega) | (simp only [List.length_append, List.length_cons, List.length_nil, List.length_map, List.length_replicate, List.length_modify]; omega)) ?_; conv => whnf) | ((with_reducible first | refine branch_tt ?_ | refine branch_ff ?_); conv => whnf) | (with_reducible refine branch_not ?_) | ((with_reducible first | refine slc_e ?_ | refine callS_a ?_ | refine bld_a ?_ | refine own_e ?_ | refine mkmap_b ?_); conv => whnf) | ((with_reducible first | refine branch_d (fun hq => ?_) (fun hq => ?_) | refine branch_e (fun hq => ?_) (fun hq => ?_) | refine branch_n (fun hq => ?_) (fun hq => ?_) | refine branch_i (fun hq => ?_) (fun hq => ?_)) <;> (try (exfalso; omega)) <;> (conv => whnf))))
      obtain rfl : i = s.length := by omega
      exact ret_t (rs := [.lst 2 ((tasksT l s s'.A s.length).map encT), .int .i64 0]) ⟨.inl rc_o, (rc_p rfl).g, trivial⟩ (.inr (.inr ⟨a, s', hk, e.trans h1, by rw [Int.toNat_natCast]; exact hU, rfl⟩))
def setW (l : List Mrk) (i : Nat) (s' : Flw) (n : Nat) : List Int := ((List.range n).filter fun j => reachB l.length i s' j).map fun j : Nat => (j : Int)
theorem setW_next {l : List Mrk} {i n : Nat} {s' : Flw} : setW l i s' (n + 1) = setW l i s' n ++ if reachB l.length i s' n = true then [(n : Int)] else [] := by
  unfold setW; rw [List.range_succ, List.filter_append, List.map_append]
  by_cases h : reachB l.length i s' n = true <;> simp [h]
theorem setW_len {l : List Mrk} {i n : Nat} {s' : Flw} : (setW l i s' n).length ≤ n := by
  unfold setW; rw [List.length_map]; exact Nat.le_trans (List.length_filter_le ..) (by simp)
def flowH (t1 t2 t3 : Nat) (E : Nat → Nat → Bool) (lim : Nat → Nat) (n K : Nat) (s : Flw) : List AV := [gridV n K E, .mat t1 111 4 1 (rowsM n K s.A), .own t2 3 1 (nsL K s.ld), .lst 1 (nsL K lim), .own t3 4 1 (bsL K s.V)]
def reachT (k i : Nat) (s : Flw) (j : Nat) : Bool := j == i || (List.range k).any fun m => s.V m && s.A j m
theorem reachT_next {k i j : Nat} {s : Flw} : reachT (k + 1) i s j = (reachT k i s j || (s.V k && s.A j k)) := by
  unfold reachT; rw [List.range_succ, List.any_append]; simp [Bool.or_assoc]
def witP (l : List Mrk) (s : List Scr) (k : Nat) : Option Nat × Flw := fillF (elF l s) (limF (capF l) s.length) s.length l.length k (List.range s.length) flw0
def witV (l : List Mrk) (s : List Scr) (k : Int) : AV := if okK k = true then (match witP l s k.toNat with
  | (some i, s') => .tup [ints (setW l i s' s.length), .bool true]
  | (none, _) => .tup [ints [], .bool false]) else .tup [ints [], .bool false]
set_option maxHeartbeats 4000000 in
theorem witness_ok (l : List Mrk) (s : List Scr) (k : Int) (hl : MksOk l) (hs : ScsOk s) : Good Try.prog TT false 19 [mrksV l, scrsV s, .int .i64 k] (· = witV l s k) := by
  have LL : (l.map encM).length = l.length := List.length_map ..
  have LS : (s.map encR).length = s.length := List.length_map ..
  have h16 := hl.len
  have h60 := hs.len
  cases hk : okK k with
  | false =>
    have e : witV l s k = .tup [ints [], .bool false] := by rw [witV, if_neg (by simp [hk])]
    rw [e]
    refine good_of mixed tabOk Try.func19 rfl rfl Try.ntmps19 Try.results19 rfl rfl ?_
    (conv => whnf); (repeat' (first | (refine arith_i ⟨by omega, by omega⟩ ?_; conv => whnf) | (refine arith_u ⟨by omega, by omega⟩ ?_; conv => whnf) | (refine arith_8 ⟨by omega, by omega⟩ ?_; conv => whnf) | (refine need_i (by first | omega | (simp only [List.length_cons, List.length_nil]; omega) | (simp only [List.length_append, List.length_cons, List.length_nil, List.length_map, List.length_replicate, List.length_modify]; omega)) ?_; conv => whnf) | ((with_reducible first | refine branch_tt ?_ | refine branch_ff ?_); conv => whnf) | (with_reducible refine branch_not ?_) | ((refine call_e ((right_ok l s k hl hs).mono fun r h => h.trans (bool_eq hk)) ?_); conv => whnf) | ((with_reducible first | refine slc_e ?_ | refine callS_a ?_ | refine bld_a ?_ | refine own_e ?_ | refine mkmap_b ?_); conv => whnf) | ((with_reducible first | refine branch_d (fun hq => ?_) (fun hq => ?_) | refine branch_e (fun hq => ?_) (fun hq => ?_) | refine branch_n (fun hq => ?_) (fun hq => ?_) | refine branch_i (fun hq => ?_) (fun hq => ?_)) <;> (try (exfalso; omega)) <;> (conv => whnf))))
    exact ret_t (rs := [ints [], .bool false]) ⟨.inl rc_n, (rc_p rfl).g, trivial⟩ rfl
  | true =>
    obtain ⟨q, rfl, hq1, hq2⟩ := okK_in hk
    have hNew := newFlow_ok l s s.length hl hs h60
    have hlim : ∀ m, m < l.length → limF (capF l) s.length m ≤ 1000 := fun m hm => by unfold limF; omega
    have hFill := fill_ok (elF l s) (limF (capF l) s.length) s.length l.length (by omega) (by omega) hlim q hq2 flw0 wf_0
    rw [witV, if_pos hk, Int.toNat_natCast]
    have hW : witP l s q = ((witP l s q).1, (witP l s q).2) := rfl
    refine good_of mixed tabOk Try.func19 rfl rfl Try.ntmps19 Try.results19 rfl rfl ?_
    (conv => whnf); (repeat' (first | (refine arith_i ⟨by omega, by omega⟩ ?_; conv => whnf) | (refine arith_u ⟨by omega, by omega⟩ ?_; conv => whnf) | (refine arith_8 ⟨by omega, by omega⟩ ?_; conv => whnf) | (refine need_i (by first | omega | (simp only [List.length_cons, List.length_nil]; omega) | (simp only [List.length_append, List.length_cons, List.length_nil, List.length_map, List.length_replicate, List.length_modify]; omega)) ?_; conv => whnf) | ((with_reducible first | refine branch_tt ?_ | refine branch_ff ?_); conv => whnf) | (with_reducible refine branch_not ?_) | ((refine call_e ((right_ok l s q hl hs).mono fun r h => h.trans (bool_eq hk)) ?_); conv => whnf) | (((rw [LS]; refine acall_m ?_; refine rcall_e [] [] [(19, 950)] [(901, 911), (17, 912)] hNew rfl rfl rfl rfl trivial rfl ?_)); conv => whnf) | (((refine rcall_i [(1000, 950)] [(1101, 911), (1102, 912)] [] [(1104, 913)] _ Le.refl hFill rfl rfl rfl rfl ⟨⟨_, rfl, rfl, rfl⟩, trivial⟩ ?_; rintro r ov bx' ⟨rfl, hr⟩; rcases hr with ⟨h1, rfl, rfl⟩ | ⟨i, h1, rfl, rfl⟩ <;> refine ⟨rfl, ?_⟩ <;> (conv => whnf))); conv => whnf) | ((with_reducible first | refine slc_e ?_ | refine callS_a ?_ | refine bld_a ?_ | refine own_e ?_ | refine mkmap_b ?_); conv => whnf) | ((with_reducible first | refine branch_d (fun hq => ?_) (fun hq => ?_) | refine branch_e (fun hq => ?_) (fun hq => ?_) | refine branch_n (fun hq => ?_) (fun hq => ?_) | refine branch_i (fun hq => ?_) (fun hq => ?_)) <;> (try (exfalso; omega)) <;> (conv => whnf))))
    · have e : witP l s q = (none, (witP l s q).2) := Prod.ext h1 rfl
      rw [e]
      exact ret_t (rs := [ints [], .bool false]) ⟨.inl rc_n, (rc_p rfl).g, trivial⟩ rfl
    have e : witP l s q = (some i, (witP l s q).2) := Prod.ext h1 rfl
    rw [e]
    show aloop _ _ _ _
    have LM : ∀ A, (rowsM s.length l.length A).length = s.length := fun A => rowsM_len
    refine loop_i (fun j : Nat => j ≤ s.length) (fun j => mkSt [(0, mrksV l), (8, .ptr 950 0), (9, .int .i64 i), (10, .own 920 3 1 ((setW l i (witP l s q).2 j).map encI)), (30, .int .i64 s.length), (31, .int .i64 j)] [(950, flowH 911 912 913 (elF l s) (limF (capF l) s.length) s.length l.length (witP l s q).2)] false) (fun j => s.length - j) 0 (Nat.zero_le _) (Le.trans (le_adopt 10 920 3 1 rfl) (le_mk ⟨rfl, rfl, rfl, rfl, int_eq (by rw [LS]), rfl, trivial⟩ ⟨rfl, trivial⟩ rfl)) ?_
    intro j hj
    have LW := setW_len (l := l) (i := i) (n := j) (s' := (witP l s q).2)
    have LW2 : ((setW l i (witP l s q).2 j).map encI).length = (setW l i (witP l s q).2 j).length := List.length_map ..
    rcases Nat.lt_or_ge j s.length with hjl | hjl
    · (conv => whnf); (repeat' (first | (refine arith_i ⟨by omega, by omega⟩ ?_; conv => whnf) | (refine arith_u ⟨by omega, by omega⟩ ?_; conv => whnf) | (refine arith_8 ⟨by omega, by omega⟩ ?_; conv => whnf) | (refine need_i (by first | omega | (simp only [List.length_cons, List.length_nil]; omega) | (simp only [List.length_append, List.length_cons, List.length_nil, List.length_map, List.length_replicate, List.length_modify]; omega)) ?_; conv => whnf) | ((with_reducible first | refine branch_tt ?_ | refine branch_ff ?_); conv => whnf) | (with_reducible refine branch_not ?_) | ((with_reducible first | refine slc_e ?_ | refine callS_a ?_ | refine bld_a ?_ | refine own_e ?_ | refine mkmap_b ?_); conv => whnf) | ((with_reducible first | refine branch_d (fun hq => ?_) (fun hq => ?_) | refine branch_e (fun hq => ?_) (fun hq => ?_) | refine branch_n (fun hq => ?_) (fun hq => ?_) | refine branch_i (fun hq => ?_) (fun hq => ?_)) <;> (try (exfalso; omega)) <;> (conv => whnf))))
      have e0 : reachT 0 i (witP l s q).2 j = ((j : Int) == (i : Int)) := by rw [Bool.eq_iff_iff]; simp [reachT]; omega
      refine loop_i (fun m : Nat => m ≤ l.length) (fun m => mkSt [(0, mrksV l), (8, .ptr 950 0), (9, .int .i64 i), (10, .own 920 3 1 ((setW l i (witP l s q).2 j).map encI)), (11, .int .i64 j), (12, .bool (reachT m i (witP l s q).2 j)), (30, .int .i64 s.length), (31, .int .i64 j), (38, .int .i64 l.length), (39, .int .i64 m)] [(950, flowH 911 912 913 (elF l s) (limF (capF l) s.length) s.length l.length (witP l s q).2)] false) (fun m => l.length - m) 0 (Nat.zero_le _) (le_mk ⟨rfl, rfl, rfl, rfl, rfl, bool_eq e0.symm, rfl, rfl, int_eq (by rw [LL]), rfl, trivial⟩ ⟨rfl, trivial⟩ rfl) ?_
      intro m hm
      rcases Nat.lt_or_ge m l.length with hml | hml
      · (conv => whnf); (repeat' (first | (refine arith_i ⟨by omega, by omega⟩ ?_; conv => whnf) | (refine arith_u ⟨by omega, by omega⟩ ?_; conv => whnf) | (refine arith_8 ⟨by omega, by omega⟩ ?_; conv => whnf) | (refine need_i (by first | omega | (simp only [List.length_cons, List.length_nil]; omega) | (simp only [List.length_append, List.length_cons, List.length_nil, List.length_map, List.length_replicate, List.length_modify]; omega)) ?_; conv => whnf) | ((with_reducible first | refine branch_tt ?_ | refine branch_ff ?_); conv => whnf) | (with_reducible refine branch_not ?_) | ((refine idx_f (m := m) rfl (by omega) ?_); conv => whnf) | ((refine ridx_f (m := j) rfl (by omega) ?_); conv => whnf) | ((with_reducible first | refine slc_e ?_ | refine callS_a ?_ | refine bld_a ?_ | refine own_e ?_ | refine mkmap_b ?_); conv => whnf) | ((with_reducible first | refine branch_d (fun hq => ?_) (fun hq => ?_) | refine branch_e (fun hq => ?_) (fun hq => ?_) | refine branch_n (fun hq => ?_) (fun hq => ?_) | refine branch_i (fun hq => ?_) (fun hq => ?_)) <;> (try (exfalso; omega)) <;> (conv => whnf))))
        all_goals
          refine ⟨m + 1, by omega, le_mk ⟨rfl, rfl, rfl, rfl, rfl, bool_eq ?_, rfl, rfl, rfl, rfl, trivial⟩ ⟨rfl, trivial⟩ rfl, by omega⟩
          rw [reachT_next]
          clear e hW h1 hFill hNew e0
          simp [*]
      · obtain rfl : m = l.length := by omega
        (conv => whnf); (repeat' (first | (refine arith_i ⟨by omega, by omega⟩ ?_; conv => whnf) | (refine arith_u ⟨by omega, by omega⟩ ?_; conv => whnf) | (refine arith_8 ⟨by omega, by omega⟩ ?_; conv => whnf) | (refine need_i (by first | omega | (simp only [List.length_cons, List.length_nil]; omega) | (simp only [List.length_append, List.length_cons, List.length_nil, List.length_map, List.length_replicate, List.length_modify]; omega)) ?_; conv => whnf) | ((with_reducible first | refine branch_tt ?_ | refine branch_ff ?_); conv => whnf) | (with_reducible refine branch_not ?_) | ((with_reducible first | refine slc_e ?_ | refine callS_a ?_ | refine bld_a ?_ | refine own_e ?_ | refine mkmap_b ?_); conv => whnf) | ((with_reducible first | refine branch_d (fun hq => ?_) (fun hq => ?_) | refine branch_e (fun hq => ?_) (fun hq => ?_) | refine branch_n (fun hq => ?_) (fun hq => ?_) | refine branch_i (fun hq => ?_) (fun hq => ?_)) <;> (try (exfalso; omega)) <;> (conv => whnf))))
        · have e1 : (setW l i (witP l s q).2 (j + 1)).map encI = (setW l i (witP l s q).2 j).map encI ++ [[.int .i64 j]] := by
            rw [setW_next, if_pos (show reachB l.length i (witP l s q).2 j = true from hq), List.map_append]; rfl
          exact ⟨j + 1, by omega, by rw [e1]; exact (le_mk (by repeat' (first | exact trivial | rfl | apply And.intro)) (by repeat' (first | exact trivial | rfl | apply And.intro)) rfl), by omega⟩
        · have e1 : setW l i (witP l s q).2 (j + 1) = setW l i (witP l s q).2 j := by
            rw [setW_next, if_neg (by rw [show reachB l.length i (witP l s q).2 j = false from hq]; simp), List.append_nil]
          exact ⟨j + 1, by omega, by rw [e1]; exact (le_mk (by repeat' (first | exact trivial | rfl | apply And.intro)) (by repeat' (first | exact trivial | rfl | apply And.intro)) rfl), by omega⟩
    · (conv => whnf); (repeat' (first | (refine arith_i ⟨by omega, by omega⟩ ?_; conv => whnf) | (refine arith_u ⟨by omega, by omega⟩ ?_; conv => whnf) | (refine arith_8 ⟨by omega, by omega⟩ ?_; conv => whnf) | (refine need_i (by first | omega | (simp only [List.length_cons, List.length_nil]; omega) | (simp only [List.length_append, List.length_cons, List.length_nil, List.length_map, List.length_replicate, List.length_modify]; omega)) ?_; conv => whnf) | ((with_reducible first | refine branch_tt ?_ | refine branch_ff ?_); conv => whnf) | (with_reducible refine branch_not ?_) | ((with_reducible first | refine slc_e ?_ | refine callS_a ?_ | refine bld_a ?_ | refine own_e ?_ | refine mkmap_b ?_); conv => whnf) | ((with_reducible first | refine branch_d (fun hq => ?_) (fun hq => ?_) | refine branch_e (fun hq => ?_) (fun hq => ?_) | refine branch_n (fun hq => ?_) (fun hq => ?_) | refine branch_i (fun hq => ?_) (fun hq => ?_)) <;> (try (exfalso; omega)) <;> (conv => whnf))))
      obtain rfl : j = s.length := by omega
      exact ret_t (rs := [ints (setW l i (witP l s q).2 s.length), .bool true]) ⟨.inl rc_o, (rc_p rfl).g, trivial⟩ rfl
end Go.Proofs.Ytpmoflggmdfmnaa
end
