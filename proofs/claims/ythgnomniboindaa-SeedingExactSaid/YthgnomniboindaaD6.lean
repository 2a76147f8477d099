/- Several texts in one: GL26e, GL26f, GL26g, GL26h, GL26i, GL25x, Pl11, GL26k, GL26q. -/
import Derived.Test.YthgnomniboindaaD5
import Derived.Test.YthgnomniboindaaD4
import Derived.Test.YthgnomniboindaaMB
import Derived.Lib.SlicesCompact
/- Layer 26: the queue of a marker: of the program. -/
section
namespace Go.Proofs.Ythgnomniboindaa
set_option linter.unusedVariables false
set_option linter.unusedSimpArgs false
set_option linter.unnecessarySimpa false
set_option linter.unusedSectionVars false
set_option maxRecDepth 10000
open Go.RowKit
def ownB (l : List Mrk) (s : List Scr) (id : Int) (t : Int × Int) : Bool := t.2 == id && (match findS s t.1 with | some p => elM l s id p | none => false)
  where elM (l : List Mrk) (s : List Scr) (id : Int) (p : Nat) : Bool := match s[p]? with | some x => eligB l id x | none => false
def ownQ (l : List Mrk) (s : List Scr) (id : Int) (ts : List (Int × Int)) : List Int := (ts.filter (ownB l s id)).map (·.1)
def comQ (l : List Mrk) (s : List Scr) (id : Int) (is : List Int) : List Int := (is.filter fun i => ownB.elM l s id i.toNat).map fun i => numF s i.toNat
def queueF (l : List Mrk) (s : List Scr) (ts : List (Int × Int)) (k id : Int) : List Int := mergeF (Lib.compact ((ownQ l s id ts).mergeSort fun x y => decide (x ≤ y))) (comQ l s id (idxsF s.length k))
theorem ownQ_next {l : List Mrk} {s : List Scr} {id : Int} {ts : List (Int × Int)} {i : Nat} {t : Int × Int} (h : ts[i]? = some t) : ownQ l s id (ts.take (i + 1)) = ownQ l s id (ts.take i) ++ if ownB l s id t = true then [t.1] else [] := by
  unfold ownQ; rw [List.take_add_one, h, List.filter_append, List.map_append]
  by_cases g : ownB l s id t = true <;> simp [g]
theorem ownQ_len {l : List Mrk} {s : List Scr} {id : Int} {ts : List (Int × Int)} : (ownQ l s id ts).length ≤ ts.length := by unfold ownQ; rw [List.length_map]; exact List.length_filter_le ..
theorem comQ_next {l : List Mrk} {s : List Scr} {id : Int} {is : List Int} {i : Nat} {t : Int} (h : is[i]? = some t) : comQ l s id (is.take (i + 1)) = comQ l s id (is.take i) ++ if ownB.elM l s id t.toNat = true then [numF s t.toNat] else [] := by
  unfold comQ; rw [List.take_add_one, h, List.filter_append, List.map_append]
  by_cases g : ownB.elM l s id t.toNat = true <;> simp [g]
theorem comQ_len {l : List Mrk} {s : List Scr} {id : Int} {is : List Int} : (comQ l s id is).length ≤ is.length := by unfold comQ; rw [List.length_map]; exact List.length_filter_le ..
set_option maxHeartbeats 8000000 in
theorem queue_ok (l : List Mrk) (s : List Scr) (ts : List (Int × Int)) (k id : Int) (ht : ts.length ≤ 1000) (hl : MksOk l) (hs : ScsOk s) (hk64 : k ≤ 9223372036854775807) : Good Try.prog TT false 48 [mrksV l, scrsV s, tasksV ts, .int .i64 k, .int .i64 id] (· = .own 0 3 1 ((queueF l s ts k id).map encI)) := by
  have LL : (l.map encM).length = l.length := List.length_map ..
  have LS : (s.map encR).length = s.length := List.length_map ..
  have LT : (ts.map encT).length = ts.length := List.length_map ..
  have h16 := hl.len
  have h60 := hs.len
  have hC := checkScripts_ok s s.length hs.len (Nat.le_refl _) (fun k x h => (hs.all k x h).1) (fun k x _ h => (hs.all k x h).2) (fun x h => by rw [List.getElem?_eq_none (Nat.le_refl _)] at h; cases h) hs.asc
  rw [if_pos rfl] at hC
  refine good_of mixed tabOk Try.func48 rfl rfl Try.ntmps48 Try.results48 rfl rfl ?_
  (conv => whnf); (repeat' (first | (refine arith_i ⟨by omega, by omega⟩ ?_; conv => whnf) | (refine arith_u ⟨by omega, by omega⟩ ?_; conv => whnf) | (refine arith_8 ⟨by omega, by omega⟩ ?_; conv => whnf) | (refine need_i (by first | omega | (simp only [List.length_cons, List.length_nil]; omega) | (simp only [List.length_append, List.length_cons, List.length_nil, List.length_map, List.length_replicate, List.length_modify]; omega)) ?_; conv => whnf) | ((with_reducible first | refine branch_tt ?_ | refine branch_ff ?_); conv => whnf) | (with_reducible refine branch_not ?_) | ((refine call_e (check_ok l hl.len hl.all hl.asc) ?_); conv => whnf) | ((refine call_e hC ?_); conv => whnf) | ((with_reducible first | refine slc_e ?_ | refine callS_a ?_ | refine bld_a ?_ | refine own_e ?_ | refine mkmap_b ?_ | refine lnk_a ?_); conv => whnf) | ((with_reducible first | refine branch_d (fun hq => ?_) (fun hq => ?_) | refine branch_e (fun hq => ?_) (fun hq => ?_) | refine branch_n (fun hq => ?_) (fun hq => ?_) | refine branch_i (fun hq => ?_) (fun hq => ?_)) <;> (try (exfalso; omega)) <;> (conv => whnf))))
  refine loop_i (fun i : Nat => i ≤ ts.length) (fun i => mkSt [(0, mrksV l), (1, scrsV s), (3, .int .i64 k), (4, .int .i64 id), (11, .own 200 3 1 ((ownQ l s id (ts.take i)).map encI)), (27, tasksV ts), (28, .int .i64 ts.length), (29, .int .i64 i)] [] false) (fun i => ts.length - i) 0 (Nat.zero_le _) (Le.trans (le_adopt 11 200 3 1 rfl) (le_mk ⟨rfl, rfl, rfl, rfl, rfl, rfl, int_eq (by rw [LT]), rfl, trivial⟩ trivial rfl)) ?_
  intro i hi
  have hq1 := ownQ_len (l := l) (s := s) (id := id) (ts := ts.take i)
  have hq2 : (ts.take i).length ≤ ts.length := by simp; omega
  have hq3 : ((ownQ l s id (ts.take i)).map encI).length = (ownQ l s id (ts.take i)).length := List.length_map ..
  rcases Nat.lt_or_ge i ts.length with hil | hil
  · obtain ⟨t, ht'⟩ : ∃ t, ts[i]? = some t := ⟨_, List.getElem?_eq_getElem hil⟩
    have hnx := ownQ_next (l := l) (s := s) (id := id) ht'
    by_cases hid : t.2 = id
    · cases hf : findS s t.1 with
      | none =>
        have hB : ownB l s id t = false := by unfold ownB; rw [hf]; simp
        rw [hB, if_neg (by simp), List.append_nil] at hnx
        (conv => whnf); (repeat' (first | (refine arith_i ⟨by omega, by omega⟩ ?_; conv => whnf) | (refine arith_u ⟨by omega, by omega⟩ ?_; conv => whnf) | (refine arith_8 ⟨by omega, by omega⟩ ?_; conv => whnf) | (refine need_i (by first | omega | (simp only [List.length_cons, List.length_nil]; omega) | (simp only [List.length_append, List.length_cons, List.length_nil, List.length_map, List.length_replicate, List.length_modify]; omega)) ?_; conv => whnf) | ((with_reducible first | refine branch_tt ?_ | refine branch_ff ?_); conv => whnf) | (with_reducible refine branch_not ?_) | ((refine idx_cs ht' ?_); conv => whnf) | (((refine call_e ((sFind_ok s t.1 hs).mono fun r h => (by unfold ScriptR at h; rw [hf] at h; exact h : r = .tup [scr0R, .bool false])) ?_)); conv => whnf) | ((with_reducible first | refine slc_e ?_ | refine callS_a ?_ | refine bld_a ?_ | refine own_e ?_ | refine mkmap_b ?_ | refine lnk_a ?_); conv => whnf) | ((with_reducible first | refine branch_d (fun hq => ?_) (fun hq => ?_) | refine branch_e (fun hq => ?_) (fun hq => ?_) | refine branch_n (fun hq => ?_) (fun hq => ?_) | refine branch_i (fun hq => ?_) (fun hq => ?_)) <;> (try (exfalso; omega)) <;> (conv => whnf))))
        all_goals first | exact ⟨i + 1, by omega, by rw [hnx]; exact (le_mk (by repeat' (first | exact trivial | rfl | apply And.intro)) (by repeat' (first | exact trivial | rfl | apply And.intro)) rfl), by omega⟩
      | some p =>
        obtain ⟨x, hx, hn⟩ := findS_at hf
        have hScr : Good Try.prog TT false 38 [scrsV s, .int .i64 t.1] (· = .tup [.agg (encR x), .bool true]) := (sFind_ok s t.1 hs).mono fun r h => by
          unfold ScriptR at h; rw [hf] at h; obtain ⟨x', hx', h⟩ := h; rw [hx] at hx'; injection hx' with hx'; rw [hx']; exact h
        have hB : ownB l s id t = eligB l id x := by unfold ownB ownB.elM; rw [hf]; simp only [hx, hid, beq_self_eq_true, Bool.true_and]
        rw [hB] at hnx
        cases he : eligB l id x with
        | true =>
          rw [he, if_pos rfl] at hnx
          have e1 : (ownQ l s id (ts.take (i + 1))).map encI = (ownQ l s id (ts.take i)).map encI ++ [[.int .i64 t.1]] := by rw [hnx, List.map_append]; rfl
          (conv => whnf); (repeat' (first | (refine arith_i ⟨by omega, by omega⟩ ?_; conv => whnf) | (refine arith_u ⟨by omega, by omega⟩ ?_; conv => whnf) | (refine arith_8 ⟨by omega, by omega⟩ ?_; conv => whnf) | (refine need_i (by first | omega | (simp only [List.length_cons, List.length_nil]; omega) | (simp only [List.length_append, List.length_cons, List.length_nil, List.length_map, List.length_replicate, List.length_modify]; omega)) ?_; conv => whnf) | ((with_reducible first | refine branch_tt ?_ | refine branch_ff ?_); conv => whnf) | (with_reducible refine branch_not ?_) | ((refine idx_cs ht' ?_); conv => whnf) | ((refine call_e hScr ?_); conv => whnf) | ((refine call_e ((eligible_ok l id x hl.short).mono fun r h => h.trans (bool_eq he)) ?_); conv => whnf) | ((with_reducible first | refine slc_e ?_ | refine callS_a ?_ | refine bld_a ?_ | refine own_e ?_ | refine mkmap_b ?_ | refine lnk_a ?_); conv => whnf) | ((with_reducible first | refine branch_d (fun hq => ?_) (fun hq => ?_) | refine branch_e (fun hq => ?_) (fun hq => ?_) | refine branch_n (fun hq => ?_) (fun hq => ?_) | refine branch_i (fun hq => ?_) (fun hq => ?_)) <;> (try (exfalso; omega)) <;> (conv => whnf))))
          all_goals first | exact ⟨i + 1, by omega, by rw [e1]; exact (le_mk (by repeat' (first | exact trivial | rfl | apply And.intro)) (by repeat' (first | exact trivial | rfl | apply And.intro)) rfl), by omega⟩
        | false =>
          rw [he, if_neg (by simp), List.append_nil] at hnx
          (conv => whnf); (repeat' (first | (refine arith_i ⟨by omega, by omega⟩ ?_; conv => whnf) | (refine arith_u ⟨by omega, by omega⟩ ?_; conv => whnf) | (refine arith_8 ⟨by omega, by omega⟩ ?_; conv => whnf) | (refine need_i (by first | omega | (simp only [List.length_cons, List.length_nil]; omega) | (simp only [List.length_append, List.length_cons, List.length_nil, List.length_map, List.length_replicate, List.length_modify]; omega)) ?_; conv => whnf) | ((with_reducible first | refine branch_tt ?_ | refine branch_ff ?_); conv => whnf) | (with_reducible refine branch_not ?_) | ((refine idx_cs ht' ?_); conv => whnf) | ((refine call_e hScr ?_); conv => whnf) | ((refine call_e ((eligible_ok l id x hl.short).mono fun r h => h.trans (bool_eq he)) ?_); conv => whnf) | ((with_reducible first | refine slc_e ?_ | refine callS_a ?_ | refine bld_a ?_ | refine own_e ?_ | refine mkmap_b ?_ | refine lnk_a ?_); conv => whnf) | ((with_reducible first | refine branch_d (fun hq => ?_) (fun hq => ?_) | refine branch_e (fun hq => ?_) (fun hq => ?_) | refine branch_n (fun hq => ?_) (fun hq => ?_) | refine branch_i (fun hq => ?_) (fun hq => ?_)) <;> (try (exfalso; omega)) <;> (conv => whnf))))
          all_goals first | exact ⟨i + 1, by omega, by rw [hnx]; exact (le_mk (by repeat' (first | exact trivial | rfl | apply And.intro)) (by repeat' (first | exact trivial | rfl | apply And.intro)) rfl), by omega⟩
    · have hB : ownB l s id t = false := by unfold ownB; simp [hid]
      rw [hB, if_neg (by simp), List.append_nil] at hnx
      (conv => whnf); (repeat' (first | (refine arith_i ⟨by omega, by omega⟩ ?_; conv => whnf) | (refine arith_u ⟨by omega, by omega⟩ ?_; conv => whnf) | (refine arith_8 ⟨by omega, by omega⟩ ?_; conv => whnf) | (refine need_i (by first | omega | (simp only [List.length_cons, List.length_nil]; omega) | (simp only [List.length_append, List.length_cons, List.length_nil, List.length_map, List.length_replicate, List.length_modify]; omega)) ?_; conv => whnf) | ((with_reducible first | refine branch_tt ?_ | refine branch_ff ?_); conv => whnf) | (with_reducible refine branch_not ?_) | ((refine idx_cs ht' ?_); conv => whnf) | ((with_reducible first | refine slc_e ?_ | refine callS_a ?_ | refine bld_a ?_ | refine own_e ?_ | refine mkmap_b ?_ | refine lnk_a ?_); conv => whnf) | ((with_reducible first | refine branch_d (fun hq => ?_) (fun hq => ?_) | refine branch_e (fun hq => ?_) (fun hq => ?_) | refine branch_n (fun hq => ?_) (fun hq => ?_) | refine branch_i (fun hq => ?_) (fun hq => ?_)) <;> (try (exfalso; omega)) <;> (conv => whnf))))
      all_goals first | exact ⟨i + 1, by omega, by rw [hnx]; exact (le_mk (by repeat' (first | exact trivial | rfl | apply And.intro)) (by repeat' (first | exact trivial | rfl | apply And.intro)) rfl), by omega⟩
  · rw [List.take_of_length_le hil] at hq1 hq3 ⊢
    have hI := indices_ok s.length k h60 hk64
    (conv => whnf); (repeat' (first | (refine arith_i ⟨by omega, by omega⟩ ?_; conv => whnf) | (refine arith_u ⟨by omega, by omega⟩ ?_; conv => whnf) | (refine arith_8 ⟨by omega, by omega⟩ ?_; conv => whnf) | (refine need_i (by first | omega | (simp only [List.length_cons, List.length_nil]; omega) | (simp only [List.length_append, List.length_cons, List.length_nil, List.length_map, List.length_replicate, List.length_modify]; omega)) ?_; conv => whnf) | ((with_reducible first | refine branch_tt ?_ | refine branch_ff ?_); conv => whnf) | (with_reducible refine branch_not ?_) | ((refine mcall_e [] [(0, 200)] (sortI_ok (ownQ l s id ts) (by omega)) rfl rfl rfl trivial rfl ?_); conv => whnf) | ((refine rcall_e [] [(0, 200)] [] [] (compactI_ok _ (by rw [List.length_mergeSort]; omega)) rfl rfl rfl rfl trivial rfl ?_); conv => whnf) | (((rw [LS]; refine call_e hI ?_)); conv => whnf) | ((with_reducible first | refine slc_e ?_ | refine callS_a ?_ | refine bld_a ?_ | refine own_e ?_ | refine mkmap_b ?_ | refine lnk_a ?_); conv => whnf) | ((with_reducible first | refine branch_d (fun hq => ?_) (fun hq => ?_) | refine branch_e (fun hq => ?_) (fun hq => ?_) | refine branch_n (fun hq => ?_) (fun hq => ?_) | refine branch_i (fun hq => ?_) (fun hq => ?_)) <;> (try (exfalso; omega)) <;> (conv => whnf))))
    unfold queueF
    have hat : ∀ (t : Nat) (x : Int), (idxsF s.length k)[t]? = some x → 0 ≤ x ∧ x < s.length := fun t x h => idxs_at h
    have LI := idxs_len (n := s.length) (k := k)
    have LC : (Lib.compact ((ownQ l s id ts).mergeSort fun x y => decide (x ≤ y))).length ≤ 1000 := by
      have := compact_le (xs := (ownQ l s id ts).mergeSort fun x y => decide (x ≤ y))
      rw [List.length_mergeSort] at this; omega
    clear hI
    generalize idxsF s.length k = xs at hat LI ⊢
    generalize Lib.compact ((ownQ l s id ts).mergeSort fun x y => decide (x ≤ y)) = os at LC ⊢
    have LX : (xs.map encI).length = xs.length := List.length_map ..
    refine loop_i (fun j : Nat => j ≤ xs.length) (fun j => mkSt [(0, mrksV l), (1, scrsV s), (4, .int .i64 id), (11, .own 200 3 1 (os.map encI)), (16, .own 210 3 1 ((comQ l s id (xs.take j)).map encI)), (64, .own 64 3 1 (xs.map encI)), (65, .int .i64 xs.length), (66, .int .i64 j)] [] false) (fun j => xs.length - j) 0 (Nat.zero_le _) (Le.trans (le_adopt 16 210 3 1 rfl) (le_mk ⟨rfl, rfl, rfl, rfl, rfl, rfl, int_eq (by rw [LX]), rfl, trivial⟩ trivial rfl)) ?_
    intro j hj
    have hc1 := comQ_len (l := l) (s := s) (id := id) (is := xs.take j)
    have hc2 : (xs.take j).length ≤ xs.length := by simp; omega
    have hc3 : ((comQ l s id (xs.take j)).map encI).length = (comQ l s id (xs.take j)).length := List.length_map ..
    rcases Nat.lt_or_ge j xs.length with hjl | hjl
    · obtain ⟨x, hx⟩ : ∃ x, xs[j]? = some x := ⟨_, List.getElem?_eq_getElem hjl⟩
      obtain ⟨hx0, hx1⟩ := hat j x hx
      obtain ⟨y, hy⟩ : ∃ y, s[x.toNat]? = some y := ⟨_, List.getElem?_eq_getElem (by omega)⟩
      have hnx := comQ_next (l := l) (s := s) (id := id) hx
      have hB : ownB.elM l s id x.toNat = eligB l id y := by unfold ownB.elM; rw [hy]
      rw [hB, numF_at hy] at hnx
      cases he : eligB l id y with
      | true =>
        rw [he, if_pos rfl] at hnx
        have e1 : (comQ l s id (xs.take (j + 1))).map encI = (comQ l s id (xs.take j)).map encI ++ [[.int .i64 y.number]] := by rw [hnx, List.map_append]; rfl
        (conv => whnf); (repeat' (first | (refine arith_i ⟨by omega, by omega⟩ ?_; conv => whnf) | (refine arith_u ⟨by omega, by omega⟩ ?_; conv => whnf) | (refine arith_8 ⟨by omega, by omega⟩ ?_; conv => whnf) | (refine need_i (by first | omega | (simp only [List.length_cons, List.length_nil]; omega) | (simp only [List.length_append, List.length_cons, List.length_nil, List.length_map, List.length_replicate, List.length_modify]; omega)) ?_; conv => whnf) | ((with_reducible first | refine branch_tt ?_ | refine branch_ff ?_); conv => whnf) | (with_reducible refine branch_not ?_) | ((refine idx_cs hx ?_); conv => whnf) | ((refine idx_ms hx0 hy ?_); conv => whnf) | ((refine call_e ((eligible_ok l id y hl.short).mono fun r h => h.trans (bool_eq he)) ?_); conv => whnf) | ((with_reducible first | refine slc_e ?_ | refine callS_a ?_ | refine bld_a ?_ | refine own_e ?_ | refine mkmap_b ?_ | refine lnk_a ?_); conv => whnf) | ((with_reducible first | refine branch_d (fun hq => ?_) (fun hq => ?_) | refine branch_e (fun hq => ?_) (fun hq => ?_) | refine branch_n (fun hq => ?_) (fun hq => ?_) | refine branch_i (fun hq => ?_) (fun hq => ?_)) <;> (try (exfalso; omega)) <;> (conv => whnf))))
        all_goals exact ⟨j + 1, by omega, by rw [e1]; exact (le_mk (by repeat' (first | exact trivial | rfl | apply And.intro)) (by repeat' (first | exact trivial | rfl | apply And.intro)) rfl), by omega⟩
      | false =>
        rw [he, if_neg (by simp), List.append_nil] at hnx
        (conv => whnf); (repeat' (first | (refine arith_i ⟨by omega, by omega⟩ ?_; conv => whnf) | (refine arith_u ⟨by omega, by omega⟩ ?_; conv => whnf) | (refine arith_8 ⟨by omega, by omega⟩ ?_; conv => whnf) | (refine need_i (by first | omega | (simp only [List.length_cons, List.length_nil]; omega) | (simp only [List.length_append, List.length_cons, List.length_nil, List.length_map, List.length_replicate, List.length_modify]; omega)) ?_; conv => whnf) | ((with_reducible first | refine branch_tt ?_ | refine branch_ff ?_); conv => whnf) | (with_reducible refine branch_not ?_) | ((refine idx_cs hx ?_); conv => whnf) | ((refine idx_ms hx0 hy ?_); conv => whnf) | ((refine call_e ((eligible_ok l id y hl.short).mono fun r h => h.trans (bool_eq he)) ?_); conv => whnf) | ((with_reducible first | refine slc_e ?_ | refine callS_a ?_ | refine bld_a ?_ | refine own_e ?_ | refine mkmap_b ?_ | refine lnk_a ?_); conv => whnf) | ((with_reducible first | refine branch_d (fun hq => ?_) (fun hq => ?_) | refine branch_e (fun hq => ?_) (fun hq => ?_) | refine branch_n (fun hq => ?_) (fun hq => ?_) | refine branch_i (fun hq => ?_) (fun hq => ?_)) <;> (try (exfalso; omega)) <;> (conv => whnf))))
        all_goals exact ⟨j + 1, by omega, by rw [hnx]; exact (le_mk (by repeat' (first | exact trivial | rfl | apply And.intro)) (by repeat' (first | exact trivial | rfl | apply And.intro)) rfl), by omega⟩
    · rw [List.take_of_length_le hjl] at hc1 hc3 ⊢
      (conv => whnf); (repeat' (first | (refine arith_i ⟨by omega, by omega⟩ ?_; conv => whnf) | (refine arith_u ⟨by omega, by omega⟩ ?_; conv => whnf) | (refine arith_8 ⟨by omega, by omega⟩ ?_; conv => whnf) | (refine need_i (by first | omega | (simp only [List.length_cons, List.length_nil]; omega) | (simp only [List.length_append, List.length_cons, List.length_nil, List.length_map, List.length_replicate, List.length_modify]; omega)) ?_; conv => whnf) | ((with_reducible first | refine branch_tt ?_ | refine branch_ff ?_); conv => whnf) | (with_reducible refine branch_not ?_) | ((refine call_e (merged_ok os (comQ l s id xs) LC (by omega)) ?_); conv => whnf) | ((with_reducible first | refine slc_e ?_ | refine callS_a ?_ | refine bld_a ?_ | refine own_e ?_ | refine mkmap_b ?_ | refine lnk_a ?_); conv => whnf) | ((with_reducible first | refine branch_d (fun hq => ?_) (fun hq => ?_) | refine branch_e (fun hq => ?_) (fun hq => ?_) | refine branch_n (fun hq => ?_) (fun hq => ?_) | refine branch_i (fun hq => ?_) (fun hq => ?_)) <;> (try (exfalso; omega)) <;> (conv => whnf))))
      exact ret_o rfl
end Go.Proofs.Ythgnomniboindaa
end

/- Layer 26: what a marker sees: of the program. -/
section
namespace Go.Proofs.Ythgnomniboindaa
set_option linter.unusedVariables false
set_option linter.unusedSimpArgs false
set_option linter.unnecessarySimpa false
set_option linter.unusedSectionVars false
set_option maxRecDepth 10000
open Go.RowKit
theorem sQueue_ok (l : List Mrk) (s : List Scr) (ts : List (Int × Int)) (k id : Int) (ht : ts.length ≤ 1000) (hl : MksOk l) (hs : ScsOk s) (hk64 : k ≤ 9223372036854775807) : Good Try.prog TT false 22 [mrksV l, scrsV s, tasksV ts, .int .i64 k, .int .i64 id] (· = .own 0 3 1 ((queueF l s ts k id).map encI)) := by
  refine good_of mixed tabOk Try.func22 rfl rfl Try.ntmps22 Try.results22 rfl rfl ?_
  (conv => whnf); (repeat' (first | (refine arith_i ⟨by omega, by omega⟩ ?_; conv => whnf) | (refine arith_u ⟨by omega, by omega⟩ ?_; conv => whnf) | (refine arith_8 ⟨by omega, by omega⟩ ?_; conv => whnf) | (refine need_i (by first | omega | (simp only [List.length_cons, List.length_nil]; omega) | (simp only [List.length_append, List.length_cons, List.length_nil, List.length_map, List.length_replicate, List.length_modify]; omega)) ?_; conv => whnf) | ((with_reducible first | refine branch_tt ?_ | refine branch_ff ?_); conv => whnf) | (with_reducible refine branch_not ?_) | ((refine call_e (queue_ok l s ts k id ht hl hs hk64) ?_); conv => whnf) | ((with_reducible first | refine slc_e ?_ | refine callS_a ?_ | refine bld_a ?_ | refine own_e ?_ | refine mkmap_b ?_ | refine lnk_a ?_); conv => whnf) | ((with_reducible first | refine branch_d (fun hq => ?_) (fun hq => ?_) | refine branch_e (fun hq => ?_) (fun hq => ?_) | refine branch_n (fun hq => ?_) (fun hq => ?_) | refine branch_i (fun hq => ?_) (fun hq => ?_)) <;> (try (exfalso; omega)) <;> (conv => whnf))))
  exact ret_o rfl
def scrZ : Scr := ⟨0, 0, 0, 0, 0, [], []⟩
def scrN (s : List Scr) (n : Int) : Scr := match findS s n with | some p => (s[p]?).getD scrZ | none => scrZ
def encV (x : Scr) (j : Nat) : List AV := [.int .i64 j, .int .i64 x.paper, .int .i64 x.variant, ints x.pages]
def viewsP (s : List Scr) (ns : List Int) (k : Nat) : List (List AV) := (List.range k).map fun j => encV (scrN s (nth ns j)) j
theorem scrN_pages {s : List Scr} {n : Int} (hs : ScsOk s) : (scrN s n).pages.length ≤ 1000000 := by
  unfold scrN
  split
  · next p hp =>
    cases hx : s[p]? with
    | none => simp [scrZ]
    | some x => have := (hs.all p x hx).2; simp only [Option.getD_some]; omega
  · simp [scrZ]
theorem queue_len {l : List Mrk} {s : List Scr} {ts : List (Int × Int)} {k id : Int} (ht : ts.length ≤ 1000) (hs : ScsOk s) : (queueF l s ts k id).length ≤ 2000 := by
  have h60 := hs.len
  have h1 := merge_len (Lib.compact ((ownQ l s id ts).mergeSort fun x y => decide (x ≤ y))) (comQ l s id (idxsF s.length k))
  have h2 := compact_le (xs := (ownQ l s id ts).mergeSort fun x y => decide (x ≤ y))
  rw [List.length_mergeSort] at h2
  have h3 := ownQ_len (l := l) (s := s) (id := id) (ts := ts)
  have h4 := comQ_len (l := l) (s := s) (id := id) (is := idxsF s.length k)
  have h5 := idxs_len (n := s.length) (k := k)
  unfold queueF; omega
def viewsL (s : List Scr) (ns : List Int) : List (List AV) := (List.range ns.length).map fun j => encV (scrN s (nth ns j)) j
theorem sFindN_ok (s : List Scr) (n : Int) (hs : ScsOk s) : Good Try.prog TT false 38 [scrsV s, .int .i64 n] (fun r => ∃ b : Bool, r = .tup [.agg (encR (scrN s n)), .bool b]) := (sFind_ok s n hs).mono fun r h => by
  unfold ScriptR at h
  cases hf : findS s n with
  | none => rw [hf] at h; exact ⟨false, by unfold scrN; rw [hf]; exact h⟩
  | some p =>
    rw [hf] at h
    obtain ⟨x, hx, h⟩ := h
    exact ⟨true, by unfold scrN; rw [hf]; simp only [hx, Option.getD_some]; exact h⟩
set_option maxHeartbeats 4000000 in
theorem views_ok (l : List Mrk) (s : List Scr) (ts : List (Int × Int)) (k id : Int) (ht : ts.length ≤ 1000) (hl : MksOk l) (hs : ScsOk s) (hk64 : k ≤ 9223372036854775807) : Good Try.prog TT false 24 [mrksV l, scrsV s, tasksV ts, .int .i64 k, .int .i64 id] (· = .own 0 51 4 (viewsL s (queueF l s ts k id))) := by
  have LS : (s.map encR).length = s.length := List.length_map ..
  have hQ := queue_ok l s ts k id ht hl hs hk64
  have LN : (queueF l s ts k id).length ≤ 2000 := queue_len ht hs
  generalize queueF l s ts k id = ns at hQ LN ⊢
  refine good_of mixed tabOk Try.func24 rfl rfl Try.ntmps24 Try.results24 rfl rfl ?_
  (conv => whnf); (repeat' (first | (refine arith_i ⟨by omega, by omega⟩ ?_; conv => whnf) | (refine arith_u ⟨by omega, by omega⟩ ?_; conv => whnf) | (refine arith_8 ⟨by omega, by omega⟩ ?_; conv => whnf) | (refine need_i (by first | omega | (simp only [List.length_cons, List.length_nil]; omega) | (simp only [List.length_append, List.length_cons, List.length_nil, List.length_map, List.length_replicate, List.length_modify]; omega)) ?_; conv => whnf) | ((with_reducible first | refine branch_tt ?_ | refine branch_ff ?_); conv => whnf) | (with_reducible refine branch_not ?_) | ((refine call_e hQ ?_); conv => whnf) | ((with_reducible first | refine slc_e ?_ | refine callS_a ?_ | refine bld_a ?_ | refine own_e ?_ | refine mkmap_b ?_ | refine lnk_a ?_); conv => whnf) | ((with_reducible first | refine branch_d (fun hq => ?_) (fun hq => ?_) | refine branch_e (fun hq => ?_) (fun hq => ?_) | refine branch_n (fun hq => ?_) (fun hq => ?_) | refine branch_i (fun hq => ?_) (fun hq => ?_)) <;> (try (exfalso; omega)) <;> (conv => whnf))))
  have L : (ns.map encI).length = ns.length := List.length_map ..
  refine loop_i (fun j : Nat => j ≤ ns.length) (fun j => mkSt [(1, scrsV s), (11, .own 200 51 4 (viewsP s ns j)), (21, .own 21 3 1 (ns.map encI)), (22, .int .i64 ns.length), (23, .int .i64 j)] [] false) (fun j => ns.length - j) 0 (Nat.zero_le _) (Le.trans (le_adopt 11 200 51 4 rfl) (le_mk ⟨rfl, rfl, rfl, int_eq (by rw [L]), rfl, trivial⟩ trivial rfl)) ?_
  intro j hj
  have LV : (viewsP s ns j).length = j := by simp [viewsP]
  rcases Nat.lt_or_ge j ns.length with hjl | hjl
  · obtain ⟨n, hn⟩ : ∃ n, ns[j]? = some n := ⟨_, List.getElem?_eq_getElem hjl⟩
    have hpg := scrN_pages (n := n) hs
    have e1 : viewsP s ns (j + 1) = viewsP s ns j ++ [encV (scrN s n) j] := by
      unfold viewsP; rw [List.range_succ, List.map_append, List.map_singleton, nth_eq hn]
    (conv => whnf); (repeat' (first | (refine arith_i ⟨by omega, by omega⟩ ?_; conv => whnf) | (refine arith_u ⟨by omega, by omega⟩ ?_; conv => whnf) | (refine arith_8 ⟨by omega, by omega⟩ ?_; conv => whnf) | (refine need_i (by first | omega | (simp only [List.length_cons, List.length_nil]; omega) | (simp only [List.length_append, List.length_cons, List.length_nil, List.length_map, List.length_replicate, List.length_modify]; omega)) ?_; conv => whnf) | ((with_reducible first | refine branch_tt ?_ | refine branch_ff ?_); conv => whnf) | (with_reducible refine branch_not ?_) | ((refine idx_cs hn ?_); conv => whnf) | (((refine call_i (sFindN_ok s n hs) fun r h => ?_; obtain ⟨b, rfl⟩ := h)); conv => whnf) | ((refine call_e (see_ok (scrN s n) j hpg) ?_); conv => whnf) | ((with_reducible first | refine slc_e ?_ | refine callS_a ?_ | refine bld_a ?_ | refine own_e ?_ | refine mkmap_b ?_ | refine lnk_a ?_); conv => whnf) | ((with_reducible first | refine branch_d (fun hq => ?_) (fun hq => ?_) | refine branch_e (fun hq => ?_) (fun hq => ?_) | refine branch_n (fun hq => ?_) (fun hq => ?_) | refine branch_i (fun hq => ?_) (fun hq => ?_)) <;> (try (exfalso; omega)) <;> (conv => whnf))))
    all_goals first | exact ⟨j + 1, by omega, by rw [e1]; exact (le_mk (by repeat' (first | exact trivial | rfl | apply And.intro)) (by repeat' (first | exact trivial | rfl | apply And.intro)) rfl), by omega⟩
  · (conv => whnf); (repeat' (first | (refine arith_i ⟨by omega, by omega⟩ ?_; conv => whnf) | (refine arith_u ⟨by omega, by omega⟩ ?_; conv => whnf) | (refine arith_8 ⟨by omega, by omega⟩ ?_; conv => whnf) | (refine need_i (by first | omega | (simp only [List.length_cons, List.length_nil]; omega) | (simp only [List.length_append, List.length_cons, List.length_nil, List.length_map, List.length_replicate, List.length_modify]; omega)) ?_; conv => whnf) | ((with_reducible first | refine branch_tt ?_ | refine branch_ff ?_); conv => whnf) | (with_reducible refine branch_not ?_) | ((with_reducible first | refine slc_e ?_ | refine callS_a ?_ | refine bld_a ?_ | refine own_e ?_ | refine mkmap_b ?_ | refine lnk_a ?_); conv => whnf) | ((with_reducible first | refine branch_d (fun hq => ?_) (fun hq => ?_) | refine branch_e (fun hq => ?_) (fun hq => ?_) | refine branch_n (fun hq => ?_) (fun hq => ?_) | refine branch_i (fun hq => ?_) (fun hq => ?_)) <;> (try (exfalso; omega)) <;> (conv => whnf))))
    obtain rfl : j = ns.length := by omega
    exact ret_o rfl
end Go.Proofs.Ythgnomniboindaa
end

/- Layer 26: of the reference: has, See. -/
section
namespace Go.Proofs.Ythgnomniboindaa
set_option linter.unusedVariables false
set_option linter.unusedSimpArgs false
set_option linter.unnecessarySimpa false
set_option linter.unusedSectionVars false
set_option maxRecDepth 10000
open Go.RowKit
def plGL26g_0 : Plan := (.take 0 (.take 1 (.take 2 (.take 3 (.take 4 (.take 5 (.take 6 (.alt 7 (.take 8 (.alt 9 .done .stop)) .stop))))))))
def plGL26g_1 : Plan := (.take 0 (.take 1 (.take 3 (.take 5 (.alt 2 (.alt 4 (.alt 6 (.alt 7 (.take 8 (.alt 9 .done .stop)) .stop) .stop) (.alt 6 (.alt 4 (.alt 7 (.take 8 (.alt 9 .done .stop)) .stop) (.alt 7 (.alt 4 (.take 8 (.alt 9 .done .stop)) .stop) .stop)) .stop)) (.alt 4 (.alt 2 (.alt 6 (.alt 7 (.take 8 (.alt 9 .done .stop)) .stop) .stop) (.alt 6 (.alt 2 (.alt 7 (.take 8 (.alt 9 .done .stop)) .stop) (.alt 7 (.alt 2 (.take 8 (.alt 9 .done .stop)) .stop) .stop)) .stop)) (.alt 6 (.alt 2 (.alt 4 (.alt 7 (.take 8 (.alt 9 .done .stop)) .stop) (.alt 7 (.alt 4 (.take 8 (.alt 9 .done .stop)) .stop) .stop)) (.alt 4 (.alt 2 (.alt 7 (.take 8 (.alt 9 .done .stop)) .stop) (.alt 7 (.alt 2 (.take 8 (.alt 9 .done .stop)) .stop) .stop)) (.alt 7 (.alt 2 (.alt 4 (.take 8 (.alt 9 .done .stop)) .stop) (.alt 4 (.alt 2 (.take 8 (.alt 9 .done .stop)) .stop) .stop)) .stop))) .stop)))))))
theorem rSee_ok (s : Scr) (place : Int) (hp : s.pages.length ≤ 1000000) : Good Try.prog TT false 14 [.agg (encR s), .int .i64 place] (· = viewV s place) := by
  have LP : (s.pages.map encI).length = s.pages.length := List.length_map ..
  refine good_of mixed tabOk Try.func14 rfl rfl Try.ntmps14 Try.results14 rfl rfl ?_
  (conv => whnf); (repeat' (first | (refine arith_i ⟨by omega, by omega⟩ ?_; conv => whnf) | (refine arith_u ⟨by omega, by omega⟩ ?_; conv => whnf) | (refine arith_8 ⟨by omega, by omega⟩ ?_; conv => whnf) | (refine need_i (by first | omega | (simp only [List.length_cons, List.length_nil]; omega) | (simp only [List.length_append, List.length_cons, List.length_nil, List.length_map, List.length_replicate, List.length_modify]; omega)) ?_; conv => whnf) | ((with_reducible first | refine branch_tt ?_ | refine branch_ff ?_); conv => whnf) | (with_reducible refine branch_not ?_) | ((with_reducible first | refine slc_e ?_ | refine callS_a ?_ | refine bld_a ?_ | refine own_e ?_ | refine mkmap_b ?_ | refine lnk_a ?_); conv => whnf) | (refine draw_i 9 plGL26g_0 (by decide +kernel) ?_; (conv => whnf); fail_if_success (guard_target =~ False)) | (refine draw_i 9 plGL26g_1 (by decide +kernel) ?_; (conv => whnf); fail_if_success (guard_target =~ False)) | ((with_reducible refine And.intro ?_ ?_) <;> (conv => whnf)) | (with_reducible exact trivial) | ((with_reducible first | refine branch_d (fun hq => ?_) (fun hq => ?_) | refine branch_e (fun hq => ?_) (fun hq => ?_) | refine branch_n (fun hq => ?_) (fun hq => ?_) | refine branch_i (fun hq => ?_) (fun hq => ?_)) <;> (try (exfalso; omega)) <;> (conv => whnf))))
  exact ret_a (cs' := [.int .i64 place, .int .i64 s.paper, .int .i64 s.variant, ints s.pages]) ⟨rc_p rfl, rc_p rfl, rc_p rfl, rc_o, trivial⟩ rfl
theorem rHas_ok (xs : List Int) (x : Int) (hl : xs.length ≤ 1000000) : Good Try.prog TT false 44 [ints xs, .int .i64 x] (· = .bool (hasP xs x)) := by
  have L : (xs.map encI).length = xs.length := List.length_map ..
  refine good_of mixed tabOk Try.func44 rfl rfl Try.ntmps44 Try.results44 rfl rfl ?_
  (conv => whnf); (repeat' (first | (refine arith_i ⟨by omega, by omega⟩ ?_; conv => whnf) | (refine arith_u ⟨by omega, by omega⟩ ?_; conv => whnf) | (refine arith_8 ⟨by omega, by omega⟩ ?_; conv => whnf) | (refine need_i (by first | omega | (simp only [List.length_cons, List.length_nil]; omega) | (simp only [List.length_append, List.length_cons, List.length_nil, List.length_map, List.length_replicate, List.length_modify]; omega)) ?_; conv => whnf) | ((with_reducible first | refine branch_tt ?_ | refine branch_ff ?_); conv => whnf) | (with_reducible refine branch_not ?_) | ((with_reducible first | refine slc_e ?_ | refine callS_a ?_ | refine bld_a ?_ | refine own_e ?_ | refine mkmap_b ?_ | refine lnk_a ?_); conv => whnf) | ((with_reducible first | refine branch_d (fun hq => ?_) (fun hq => ?_) | refine branch_e (fun hq => ?_) (fun hq => ?_) | refine branch_n (fun hq => ?_) (fun hq => ?_) | refine branch_i (fun hq => ?_) (fun hq => ?_)) <;> (try (exfalso; omega)) <;> (conv => whnf))))
  refine loop_i (fun i : Nat => i ≤ xs.length ∧ hasP (xs.take i) x = false) (fun i => mkSt [(0, ints xs), (1, .int .i64 x), (5, .int .i64 i)] [] false) (fun i => xs.length - i) 0 ⟨Nat.zero_le _, rfl⟩ (le_mk ⟨rfl, rfl, rfl, trivial⟩ trivial rfl) ?_
  rintro i ⟨hi, ho⟩
  rcases Nat.lt_or_ge i xs.length with hil | hil
  · obtain ⟨y, hy⟩ : ∃ y, xs[i]? = some y := ⟨_, List.getElem?_eq_getElem hil⟩
    have hn : hasP (xs.take (i + 1)) x = (hasP (xs.take i) x || x == y) := by unfold hasP; rw [List.take_add_one, hy, List.any_append]; simp
    rw [ho, Bool.false_or] at hn
    (conv => whnf); (repeat' (first | (refine arith_i ⟨by omega, by omega⟩ ?_; conv => whnf) | (refine arith_u ⟨by omega, by omega⟩ ?_; conv => whnf) | (refine arith_8 ⟨by omega, by omega⟩ ?_; conv => whnf) | (refine need_i (by first | omega | (simp only [List.length_cons, List.length_nil]; omega) | (simp only [List.length_append, List.length_cons, List.length_nil, List.length_map, List.length_replicate, List.length_modify]; omega)) ?_; conv => whnf) | ((with_reducible first | refine branch_tt ?_ | refine branch_ff ?_); conv => whnf) | (with_reducible refine branch_not ?_) | ((refine idx_cs hy ?_); conv => whnf) | ((with_reducible first | refine slc_e ?_ | refine callS_a ?_ | refine bld_a ?_ | refine own_e ?_ | refine mkmap_b ?_ | refine lnk_a ?_); conv => whnf) | ((with_reducible first | refine branch_d (fun hq => ?_) (fun hq => ?_) | refine branch_e (fun hq => ?_) (fun hq => ?_) | refine branch_n (fun hq => ?_) (fun hq => ?_) | refine branch_i (fun hq => ?_) (fun hq => ?_)) <;> (try (exfalso; omega)) <;> (conv => whnf))))
    · have e : hasP xs x = true := List.any_eq_true.2 ⟨y, List.mem_of_getElem? hy, by rw [beq_iff_eq]; omega⟩
      rw [e]; exact ret_p rfl rfl
    · exact ⟨i + 1, ⟨by omega, by rw [hn, beq_eq_false_iff_ne]; omega⟩, (le_mk (by repeat' (first | exact trivial | rfl | apply And.intro)) (by repeat' (first | exact trivial | rfl | apply And.intro)) rfl), by omega⟩
  · (conv => whnf); (repeat' (first | (refine arith_i ⟨by omega, by omega⟩ ?_; conv => whnf) | (refine arith_u ⟨by omega, by omega⟩ ?_; conv => whnf) | (refine arith_8 ⟨by omega, by omega⟩ ?_; conv => whnf) | (refine need_i (by first | omega | (simp only [List.length_cons, List.length_nil]; omega) | (simp only [List.length_append, List.length_cons, List.length_nil, List.length_map, List.length_replicate, List.length_modify]; omega)) ?_; conv => whnf) | ((with_reducible first | refine branch_tt ?_ | refine branch_ff ?_); conv => whnf) | (with_reducible refine branch_not ?_) | ((with_reducible first | refine slc_e ?_ | refine callS_a ?_ | refine bld_a ?_ | refine own_e ?_ | refine mkmap_b ?_ | refine lnk_a ?_); conv => whnf) | ((with_reducible first | refine branch_d (fun hq => ?_) (fun hq => ?_) | refine branch_e (fun hq => ?_) (fun hq => ?_) | refine branch_n (fun hq => ?_) (fun hq => ?_) | refine branch_i (fun hq => ?_) (fun hq => ?_)) <;> (try (exfalso; omega)) <;> (conv => whnf))))
    rw [List.take_of_length_le hil] at ho
    rw [ho]; exact ret_p rfl rfl
end Go.Proofs.Ythgnomniboindaa
end

/- Layer 26: the queue of the reference. -/
section
namespace Go.Proofs.Ythgnomniboindaa
set_option linter.unusedVariables false
set_option linter.unusedSimpArgs false
set_option linter.unnecessarySimpa false
set_option linter.unusedSectionVars false
set_option maxRecDepth 10000
open Go.RowKit
def plGL26h_0 : Plan := (.take 0 (.take 1 (.take 2 (.take 3 (.take 4 (.take 5 (.take 6 (.take 7 (.take 8 (.take 9 (.take 10 (.take 11 (.take 12 (.take 13 (.take 14 (.take 15 .done))))))))))))))))
def plGL26h_1 : Plan := (.take 0 (.take 1 (.take 2 (.take 3 (.take 4 (.take 6 (.take 7 (.take 8 (.take 9 (.take 11 (.alt 5 (.alt 10 (.take 12 (.take 13 (.take 14 (.take 15 .done)))) .stop) (.alt 10 (.take 12 (.alt 5 (.take 13 (.take 14 (.take 15 .done))) .stop)) .stop))))))))))))
set_option maxRecDepth 100000 in
theorem eq_task (a b c d : Int) (w : World) : (Op.equalIn 10000 69 (.agg [Value.int .i64 a, .int .i64 b].toArray) (.agg [Value.int .i64 c, .int .i64 d].toArray)).run Try.prog w = .ok (a == c && b == d) w := by
  have u3 := Try.underlying3
  have a3 := Try.isAgg3
  have z3 := Try.sizeOf3
  have hS : Try.prog.underlying 69 = some (.struct (Try.prog.fieldsOf 69)) := by kernel_rfl
  have hp : Try.prog.stoodInHeld 69 = false := by kernel_rfl
  rw [show (10000 : Nat) = 9999 + 1 from rfl, run_equalIn_agg w 9999 69 _ _ hS hp]
  simp only [Program.fieldsOf, Try.underlying69]
  go_simp
  by_cases h1 : a = c <;> by_cases h2 : b = d <;> simp [h1, h2]
theorem guard_task : Try.prog.eqGuardType Try.prog.depth 69 = false := by kernel_rfl
def mineB (l : List Mrk) (s : List Scr) (ts : List (Int × Int)) (k id : Int) (x : Scr) : Bool := (hasP (commF s k) x.number || ts.any fun t => t.1 == x.number && t.2 == id) && eligB l id x
def rqF (l : List Mrk) (s : List Scr) (ts : List (Int × Int)) (k id : Int) (q : List Scr) : List Int := (q.filter (mineB l s ts k id)).map (·.number)
theorem commF_len {s : List Scr} {k : Int} : (commF s k).length ≤ s.length := by unfold commF; rw [List.length_map]; exact idxs_len
theorem rQueue_ok (l : List Mrk) (s : List Scr) (ts : List (Int × Int)) (k id : Int) (ht : ts.length ≤ 1000) (hl : MksOk l) (hs : ScsOk s) (hk64 : k ≤ 9223372036854775807) : Good Try.prog TT false 23 [mrksV l, scrsV s, tasksV ts, .int .i64 k, .int .i64 id] (· = .own 0 3 1 ((rqF l s ts k id s).map encI)) := by
  have LS : (s.map encR).length = s.length := List.length_map ..
  have LT : (ts.map encT).length = ts.length := List.length_map ..
  refine good_of mixed tabOk Try.func23 rfl rfl Try.ntmps23 Try.results23 rfl rfl ?_
  (conv => whnf); (repeat' (first | (refine arith_i ⟨by omega, by omega⟩ ?_; conv => whnf) | (refine arith_u ⟨by omega, by omega⟩ ?_; conv => whnf) | (refine arith_8 ⟨by omega, by omega⟩ ?_; conv => whnf) | (refine need_i (by first | omega | (simp only [List.length_cons, List.length_nil]; omega) | (simp only [List.length_append, List.length_cons, List.length_nil, List.length_map, List.length_replicate, List.length_modify]; omega)) ?_; conv => whnf) | ((with_reducible first | refine branch_tt ?_ | refine branch_ff ?_); conv => whnf) | (with_reducible refine branch_not ?_) | ((refine call_e (rCheck_ok l hl) ?_); conv => whnf) | ((refine call_e (rCheckS_ok s hs) ?_); conv => whnf) | ((refine call_e (rCommon_ok s k hs) ?_); conv => whnf) | ((with_reducible first | refine slc_e ?_ | refine callS_a ?_ | refine bld_a ?_ | refine own_e ?_ | refine mkmap_b ?_ | refine lnk_a ?_); conv => whnf) | (refine draw_i 16 plGL26h_0 (by decide +kernel) ?_; (conv => whnf); fail_if_success (guard_target =~ False)) | (refine draw_i 16 plGL26h_1 (by decide +kernel) ?_; (conv => whnf); fail_if_success (guard_target =~ False)) | ((with_reducible refine And.intro ?_ ?_) <;> (conv => whnf)) | (with_reducible exact trivial) | ((with_reducible first | refine branch_d (fun hq => ?_) (fun hq => ?_) | refine branch_e (fun hq => ?_) (fun hq => ?_) | refine branch_n (fun hq => ?_) (fun hq => ?_) | refine branch_i (fun hq => ?_) (fun hq => ?_)) <;> (try (exfalso; omega)) <;> (conv => whnf))))
  have h60 := hs.len
  have hcl := commF_len (s := s) (k := k)
  refine loop_i (fun i : Nat => i ≤ s.length) (fun i => mkSt [(0, mrksV l), (1, scrsV s), (2, tasksV ts), (4, .int .i64 id), (11, .own 200 3 1 ((rqF l s ts k id (s.take i)).map encI)), (12, .own 26 3 1 ((commF s k).map encI)), (13, .int .i64 i)] [] false) (fun i => s.length - i) 0 (Nat.zero_le _) (Le.trans (le_adopt 11 200 3 1 rfl) (le_mk ⟨rfl, rfl, rfl, rfl, rfl, rfl, rfl, trivial⟩ trivial rfl)) ?_
  intro i hi
  rcases Nat.lt_or_ge i s.length with hil | hil
  · obtain ⟨x, hx⟩ : ∃ x, s[i]? = some x := ⟨_, List.getElem?_eq_getElem hil⟩
    (conv => whnf); (repeat' (first | (refine arith_i ⟨by omega, by omega⟩ ?_; conv => whnf) | (refine arith_u ⟨by omega, by omega⟩ ?_; conv => whnf) | (refine arith_8 ⟨by omega, by omega⟩ ?_; conv => whnf) | (refine need_i (by first | omega | (simp only [List.length_cons, List.length_nil]; omega) | (simp only [List.length_append, List.length_cons, List.length_nil, List.length_map, List.length_replicate, List.length_modify]; omega)) ?_; conv => whnf) | ((with_reducible first | refine branch_tt ?_ | refine branch_ff ?_); conv => whnf) | (with_reducible refine branch_not ?_) | ((refine idx_cs hx ?_); conv => whnf) | ((refine call_e (rHas_ok (commF s k) x.number (by omega)) ?_); conv => whnf) | ((with_reducible first | refine slc_e ?_ | refine callS_a ?_ | refine bld_a ?_ | refine own_e ?_ | refine mkmap_b ?_ | refine lnk_a ?_); conv => whnf) | (refine draw_i 16 plGL26h_0 (by decide +kernel) ?_; (conv => whnf); fail_if_success (guard_target =~ False)) | (refine draw_i 16 plGL26h_1 (by decide +kernel) ?_; (conv => whnf); fail_if_success (guard_target =~ False)) | ((with_reducible refine And.intro ?_ ?_) <;> (conv => whnf)) | (with_reducible exact trivial) | ((with_reducible first | refine branch_d (fun hq => ?_) (fun hq => ?_) | refine branch_e (fun hq => ?_) (fun hq => ?_) | refine branch_n (fun hq => ?_) (fun hq => ?_) | refine branch_i (fun hq => ?_) (fun hq => ?_)) <;> (try (exfalso; omega)) <;> (conv => whnf))))
    have LQ : (rqF l s ts k id (s.take i)).length ≤ 60 := by
      unfold rqF; rw [List.length_map]
      have := List.length_filter_le (mineB l s ts k id) (s.take i)
      have h2 : (s.take i).length ≤ s.length := by simp; omega
      omega
    have LQ2 : ((rqF l s ts k id (s.take i)).map encI).length = (rqF l s ts k id (s.take i)).length := List.length_map ..
    refine loop_i (fun j : Nat => j ≤ ts.length) (fun j => mkSt [(0, mrksV l), (1, scrsV s), (2, tasksV ts), (4, .int .i64 id), (11, .own 200 3 1 ((rqF l s ts k id (s.take i)).map encI)), (12, .own 26 3 1 ((commF s k).map encI)), (13, .int .i64 i), (14, .bool (hasP (commF s k) x.number || (ts.take j).any fun t => t.1 == x.number && t.2 == id)), (15, .int .i64 j)] [] false) (fun j => ts.length - j) 0 (Nat.zero_le _) (le_mk ⟨rfl, rfl, rfl, rfl, rfl, rfl, rfl, bool_eq (by simp), rfl, trivial⟩ trivial rfl) ?_
    intro j hj
    rcases Nat.lt_or_ge j ts.length with hjl | hjl
    · obtain ⟨t, ht'⟩ : ∃ t, ts[j]? = some t := ⟨_, List.getElem?_eq_getElem hjl⟩
      have hn : ((ts.take (j + 1)).any fun t => t.1 == x.number && t.2 == id) = (((ts.take j).any fun t => t.1 == x.number && t.2 == id) || (t.1 == x.number && t.2 == id)) := by rw [List.take_add_one, ht', List.any_append]; simp
      (conv => whnf); (repeat' (first | (refine arith_i ⟨by omega, by omega⟩ ?_; conv => whnf) | (refine arith_u ⟨by omega, by omega⟩ ?_; conv => whnf) | (refine arith_8 ⟨by omega, by omega⟩ ?_; conv => whnf) | (refine need_i (by first | omega | (simp only [List.length_cons, List.length_nil]; omega) | (simp only [List.length_append, List.length_cons, List.length_nil, List.length_map, List.length_replicate, List.length_modify]; omega)) ?_; conv => whnf) | ((with_reducible first | refine branch_tt ?_ | refine branch_ff ?_); conv => whnf) | (with_reducible refine branch_not ?_) | ((refine draw_i 16 (.take 0 (.take 1 (.take 2 (.take 3 (.take 4 (.take 5 (.take 6 (.take 7 (.take 8 (.take 9 (.take 10 (.take 11 (.take 12 (.alt 13 (.take 14 (.take 15 .done)) .stop)))))))))))))) (by decide +kernel) ?_); conv => whnf) | ((((with_reducible refine And.intro ?_ ?_) <;> (conv => whnf))); conv => whnf) | (((with_reducible exact trivial)); conv => whnf) | ((refine idx_cs ht' ?_); conv => whnf) | ((refine idx_cs hx ?_); conv => whnf) | ((refine eq_i guard_task (fun w => eq_task _ _ _ _ w) ?_); conv => whnf) | ((with_reducible first | refine slc_e ?_ | refine callS_a ?_ | refine bld_a ?_ | refine own_e ?_ | refine mkmap_b ?_ | refine lnk_a ?_); conv => whnf) | (refine draw_i 16 plGL26h_0 (by decide +kernel) ?_; (conv => whnf); fail_if_success (guard_target =~ False)) | (refine draw_i 16 plGL26h_1 (by decide +kernel) ?_; (conv => whnf); fail_if_success (guard_target =~ False)) | ((with_reducible refine And.intro ?_ ?_) <;> (conv => whnf)) | (with_reducible exact trivial) | ((with_reducible first | refine branch_d (fun hq => ?_) (fun hq => ?_) | refine branch_e (fun hq => ?_) (fun hq => ?_) | refine branch_n (fun hq => ?_) (fun hq => ?_) | refine branch_i (fun hq => ?_) (fun hq => ?_)) <;> (try (exfalso; omega)) <;> (conv => whnf))))
      all_goals exact ⟨j + 1, by omega, le_mk ⟨rfl, rfl, rfl, rfl, rfl, rfl, rfl, bool_eq (by rw [hn, ← Bool.or_assoc, hq]; simp), rfl, trivial⟩ trivial rfl, by omega⟩
    · rw [List.take_of_length_le hjl]
      have hN : rqF l s ts k id (s.take (i + 1)) = rqF l s ts k id (s.take i) ++ if mineB l s ts k id x = true then [x.number] else [] := by
        unfold rqF; rw [List.take_add_one, hx, List.filter_append, List.map_append]
        by_cases g : mineB l s ts k id x = true <;> simp [g]
      (conv => whnf); (repeat' (first | (refine arith_i ⟨by omega, by omega⟩ ?_; conv => whnf) | (refine arith_u ⟨by omega, by omega⟩ ?_; conv => whnf) | (refine arith_8 ⟨by omega, by omega⟩ ?_; conv => whnf) | (refine need_i (by first | omega | (simp only [List.length_cons, List.length_nil]; omega) | (simp only [List.length_append, List.length_cons, List.length_nil, List.length_map, List.length_replicate, List.length_modify]; omega)) ?_; conv => whnf) | ((with_reducible first | refine branch_tt ?_ | refine branch_ff ?_); conv => whnf) | (with_reducible refine branch_not ?_) | ((refine idx_cs hx ?_); conv => whnf) | ((refine call_e (rElig_ok l id x hl) ?_); conv => whnf) | ((with_reducible first | refine slc_e ?_ | refine callS_a ?_ | refine bld_a ?_ | refine own_e ?_ | refine mkmap_b ?_ | refine lnk_a ?_); conv => whnf) | (refine draw_i 16 plGL26h_0 (by decide +kernel) ?_; (conv => whnf); fail_if_success (guard_target =~ False)) | (refine draw_i 16 plGL26h_1 (by decide +kernel) ?_; (conv => whnf); fail_if_success (guard_target =~ False)) | ((with_reducible refine And.intro ?_ ?_) <;> (conv => whnf)) | (with_reducible exact trivial) | ((with_reducible first | refine branch_d (fun hq => ?_) (fun hq => ?_) | refine branch_e (fun hq => ?_) (fun hq => ?_) | refine branch_n (fun hq => ?_) (fun hq => ?_) | refine branch_i (fun hq => ?_) (fun hq => ?_)) <;> (try (exfalso; omega)) <;> (conv => whnf))))
      all_goals first
        | (have hm : mineB l s ts k id x = true := by unfold mineB; rw [Bool.and_eq_true]; exact ⟨by assumption, by assumption⟩
           rw [hm, if_pos rfl] at hN
           have e1 : (rqF l s ts k id (s.take (i + 1))).map encI = (rqF l s ts k id (s.take i)).map encI ++ [[.int .i64 x.number]] := by rw [hN, List.map_append]; rfl
           exact ⟨i + 1, by omega, by rw [e1]; exact (le_mk (by repeat' (first | exact trivial | rfl | apply And.intro)) (by repeat' (first | exact trivial | rfl | apply And.intro)) rfl), by omega⟩)
        | (have hm : mineB l s ts k id x = false := by
             unfold mineB; rw [Bool.and_eq_false_iff]
             first | exact .inl (by assumption) | exact .inr (by assumption)
           rw [hm, if_neg (by simp), List.append_nil] at hN
           exact ⟨i + 1, by omega, by rw [hN]; exact (le_mk (by repeat' (first | exact trivial | rfl | apply And.intro)) (by repeat' (first | exact trivial | rfl | apply And.intro)) rfl), by omega⟩)
  · (conv => whnf); (repeat' (first | (refine arith_i ⟨by omega, by omega⟩ ?_; conv => whnf) | (refine arith_u ⟨by omega, by omega⟩ ?_; conv => whnf) | (refine arith_8 ⟨by omega, by omega⟩ ?_; conv => whnf) | (refine need_i (by first | omega | (simp only [List.length_cons, List.length_nil]; omega) | (simp only [List.length_append, List.length_cons, List.length_nil, List.length_map, List.length_replicate, List.length_modify]; omega)) ?_; conv => whnf) | ((with_reducible first | refine branch_tt ?_ | refine branch_ff ?_); conv => whnf) | (with_reducible refine branch_not ?_) | ((with_reducible first | refine slc_e ?_ | refine callS_a ?_ | refine bld_a ?_ | refine own_e ?_ | refine mkmap_b ?_ | refine lnk_a ?_); conv => whnf) | (refine draw_i 16 plGL26h_0 (by decide +kernel) ?_; (conv => whnf); fail_if_success (guard_target =~ False)) | (refine draw_i 16 plGL26h_1 (by decide +kernel) ?_; (conv => whnf); fail_if_success (guard_target =~ False)) | ((with_reducible refine And.intro ?_ ?_) <;> (conv => whnf)) | (with_reducible exact trivial) | ((with_reducible first | refine branch_d (fun hq => ?_) (fun hq => ?_) | refine branch_e (fun hq => ?_) (fun hq => ?_) | refine branch_n (fun hq => ?_) (fun hq => ?_) | refine branch_i (fun hq => ?_) (fun hq => ?_)) <;> (try (exfalso; omega)) <;> (conv => whnf))))
    rw [List.take_of_length_le hil]
    exact ret_o rfl
end Go.Proofs.Ythgnomniboindaa
end

/- Layer 26, plainly: merged lists have the members of both, in order. -/
section
namespace Go.Proofs.Ythgnomniboindaa
set_option linter.unusedVariables false
set_option linter.unusedSimpArgs false
theorem merge_mem {n : Int} : ∀ {us vs : List Int}, n ∈ mergeF us vs ↔ n ∈ us ∨ n ∈ vs
  | [], vs => by simp [mergeF]
  | a :: us, [] => by simp [mergeF]
  | a :: us, b :: vs => by
    rw [mergeF]
    split
    · rw [List.mem_cons, merge_mem (us := us) (vs := b :: vs)]; simp only [List.mem_cons]; grind
    · split
      · rw [List.mem_cons, merge_mem (us := a :: us) (vs := vs)]; simp only [List.mem_cons]; grind
      · have : a = b := by omega
        subst this
        rw [List.mem_cons, merge_mem (us := us) (vs := vs)]; simp only [List.mem_cons]; grind
termination_by us vs => us.length + vs.length
theorem merge_asc : ∀ {us vs : List Int}, us.Pairwise (· < ·) → vs.Pairwise (· < ·) → (mergeF us vs).Pairwise (· < ·)
  | [], vs, _, h => by rw [merge_nil2]; exact h
  | a :: us, [], h, _ => by rw [merge_nil]; exact h
  | a :: us, b :: vs, hu, hv => by
    have hu' := List.pairwise_cons.1 hu
    have hv' := List.pairwise_cons.1 hv
    rw [mergeF]
    split
    · next g =>
      refine List.pairwise_cons.2 ⟨fun c hc => ?_, merge_asc hu'.2 hv⟩
      rcases merge_mem.1 hc with h | h
      · exact hu'.1 c h
      · rcases List.mem_cons.1 h with rfl | h
        · exact g
        · have := hv'.1 c h; omega
    · split
      · next g1 g =>
        refine List.pairwise_cons.2 ⟨fun c hc => ?_, merge_asc hu hv'.2⟩
        rcases merge_mem.1 hc with h | h
        · rcases List.mem_cons.1 h with rfl | h
          · exact g
          · have := hu'.1 c h; omega
        · exact hv'.1 c h
      · next g1 g2 =>
        refine List.pairwise_cons.2 ⟨fun c hc => ?_, merge_asc hu'.2 hv'.2⟩
        rcases merge_mem.1 hc with h | h
        · exact hu'.1 c h
        · have := hv'.1 c h; omega
termination_by us vs => us.length + vs.length
theorem asc_eq : ∀ {us vs : List Int}, us.Pairwise (· < ·) → vs.Pairwise (· < ·) → (∀ n, n ∈ us ↔ n ∈ vs) → us = vs
  | [], [], _, _, _ => rfl
  | [], b :: vs, _, _, h => absurd ((h b).2 (List.mem_cons_self ..)) (by simp)
  | a :: us, [], _, _, h => absurd ((h a).1 (List.mem_cons_self ..)) (by simp)
  | a :: us, b :: vs, hu, hv, h => by
    have hu' := List.pairwise_cons.1 hu
    have hv' := List.pairwise_cons.1 hv
    have e : a = b := by
      rcases List.mem_cons.1 ((h a).1 (List.mem_cons_self ..)) with h1 | h1
      · exact h1
      · rcases List.mem_cons.1 ((h b).2 (List.mem_cons_self ..)) with h2 | h2
        · exact h2.symm
        · have := hv'.1 a h1; have := hu'.1 b h2; omega
    subst e
    rw [asc_eq hu'.2 hv'.2 fun n => ?_]
    constructor
    · intro hn
      rcases List.mem_cons.1 ((h n).1 (List.mem_cons_of_mem _ hn)) with rfl | h1
      · have := hu'.1 n hn; omega
      · exact h1
    · intro hn
      rcases List.mem_cons.1 ((h n).2 (List.mem_cons_of_mem _ hn)) with rfl | h1
      · have := hv'.1 n hn; omega
      · exact h1
end Go.Proofs.Ythgnomniboindaa
end

/- Layer 25, plainly: what an allocation is like. -/
section
namespace Go.Proofs.Ythgnomniboindaa
set_option linter.unusedVariables false
set_option linter.unusedSimpArgs false
set_option linter.unnecessarySimpa false
set_option linter.unusedSectionVars false
set_option maxRecDepth 10000
section
variable {l : List Mrk} {s : List Scr} {A : Nat → Nat → Bool}
theorem numF_lt (hA : AscS s) {i j : Nat} (h : i < j) (hj : j < s.length) : numF s i < numF s j := by
  obtain ⟨x, hx⟩ : ∃ x, s[i]? = some x := ⟨_, List.getElem?_eq_getElem (by omega)⟩
  obtain ⟨y, hy⟩ : ∃ y, s[j]? = some y := ⟨_, List.getElem?_eq_getElem hj⟩
  rw [numF_at hx, numF_at hy]; exact asc_lt hA hx hy h
theorem rowT_fst {i : Nat} : ∀ {k : Nat}, ∀ t ∈ rowT l s A i k, t.1 = numF s i ∧ ∃ m, m < k ∧ t.2 = idF l m ∧ A i m = true
  | 0, t, h => by simp [rowT] at h
  | k + 1, t, h => by
    rw [rowT_next, List.mem_append] at h
    rcases h with h | h
    · obtain ⟨h1, m, h2, h3⟩ := rowT_fst t h
      exact ⟨h1, m, by omega, h3⟩
    · split at h
      · next g =>
        simp only [List.mem_singleton] at h
        subst h; exact ⟨rfl, k, by omega, rfl, g⟩
      · simp at h
theorem tasksT_mem : ∀ {n : Nat}, ∀ t ∈ tasksT l s A n, ∃ i m, i < n ∧ m < l.length ∧ t = (numF s i, idF l m) ∧ A i m = true
  | 0, t, h => by simp [tasksT] at h
  | n + 1, t, h => by
    rw [tasksT_next, List.mem_append] at h
    rcases h with h | h
    · obtain ⟨i, m, h1, h2⟩ := tasksT_mem t h
      exact ⟨i, m, by omega, h2⟩
    · obtain ⟨h1, m, h2, h3, h4⟩ := rowT_fst t h
      exact ⟨n, m, by omega, h2, Prod.ext h1 h3, h4⟩
theorem findS_num (hA : AscS s) {i : Nat} (hi : i < s.length) : findS s (numF s i) = some i := by
  obtain ⟨x, hx⟩ : ∃ x, s[i]? = some x := ⟨_, List.getElem?_eq_getElem hi⟩
  exact idx_some (fun k y hk hy => by have := asc_lt hA hy hx hk; rw [numF_at hx]; omega) hx (numF_at hx).symm
end
end Go.Proofs.Ythgnomniboindaa
end

/- Layer 11, plainly: sorting and compacting; maps as lists. -/
section
namespace Go.Proofs.Ythgnomniboindaa
set_option linter.unusedVariables false
set_option linter.unusedSimpArgs false
set_option linter.unnecessarySimpa false
set_option linter.unusedSectionVars false
open Go.RowKit
theorem comp_sorted {d : Array Int} (hs : ∀ i j, i ≤ j → j < d.size → d[i]! ≤ d[j]!) : ∀ m, m ≤ d.size → (Lib.compactUpTo d m).Pairwise (· < ·) ∧ (∀ x ∈ Lib.compactUpTo d m, 0 < m ∧ x ≤ d[m - 1]!) ∧ ∀ x, x ∈ Lib.compactUpTo d m ↔ ∃ j, j < m ∧ d[j]! = x
  | 0, _ => by simp [Lib.compactUpTo]
  | m + 1, h => by
    obtain ⟨h1, h2, h3⟩ := comp_sorted hs m (by omega)
    have hm : d[m - 1]! ≤ d[m]! := hs _ _ (by omega) (by omega)
    rw [Lib.compactUpTo_succ]
    by_cases hk : Lib.keeps d m = true
    · rw [if_pos hk]
      refine ⟨?_, ?_, ?_⟩
      · rw [List.pairwise_append]
        refine ⟨h1, List.pairwise_singleton .., fun x hx y hy => ?_⟩
        rw [List.mem_singleton] at hy
        subst hy
        obtain ⟨hp, hle⟩ := h2 x hx
        have : d[m]! ≠ d[m - 1]! := by
          unfold Lib.keeps at hk
          rw [decide_eq_true_iff] at hk
          exact hk.resolve_left (by omega)
        omega
      · intro x hx
        rw [List.mem_append, List.mem_singleton] at hx
        refine ⟨by omega, ?_⟩
        show x ≤ d[m]!
        rcases hx with hx | rfl
        · have := (h2 x hx).2; omega
        · exact Int.le_refl _
      · intro x
        rw [List.mem_append, List.mem_singleton, h3]
        constructor
        · rintro (⟨j, hj, e⟩ | rfl)
          · exact ⟨j, by omega, e⟩
          · exact ⟨m, by omega, rfl⟩
        · rintro ⟨j, hj, e⟩
          rcases Nat.lt_or_ge j m with h' | h'
          · exact .inl ⟨j, h', e⟩
          · obtain rfl : j = m := by omega
            exact .inr e.symm
    · rw [if_neg hk, List.append_nil]
      unfold Lib.keeps at hk
      rw [decide_eq_true_iff] at hk
      have h0 : m ≠ 0 := fun e => hk (.inl e)
      have e1 : d[m]! = d[m - 1]! := Classical.byContradiction fun e => hk (.inr e)
      refine ⟨h1, fun x hx => ⟨by omega, ?_⟩, fun x => ?_⟩
      · show x ≤ d[m]!
        have := (h2 x hx).2; omega
      · rw [h3]
        constructor
        · rintro ⟨j, hj, e⟩; exact ⟨j, by omega, e⟩
        · rintro ⟨j, hj, e⟩
          rcases Nat.lt_or_ge j m with h' | h'
          · exact ⟨j, h', e⟩
          · obtain rfl : j = m := by omega
            exact ⟨j - 1, by omega, by rw [← e1]; exact e⟩
theorem comp_sort (xs : List Int) : (Lib.compact (xs.mergeSort fun x y => decide (x ≤ y))).Pairwise (· < ·) ∧ ∀ x, x ∈ Lib.compact (xs.mergeSort fun x y => decide (x ≤ y)) ↔ x ∈ xs := by
  have hp := List.pairwise_mergeSort (le := fun x y : Int => decide (x ≤ y)) (fun a b c h1 h2 => by simp at *; omega) (fun a b => by simp; omega) xs
  have hm : ∀ x, x ∈ xs.mergeSort (fun x y => decide (x ≤ y)) ↔ x ∈ xs := fun x => List.mem_mergeSort
  generalize xs.mergeSort (fun x y => decide (x ≤ y)) = zs at hp hm ⊢
  have get : ∀ i, i < zs.length → zs.toArray[i]! = zs[i]! := fun i hi => by simp
  obtain ⟨h1, -, h3⟩ := comp_sorted (d := zs.toArray) (fun i j hij hj => by
    have hj' : j < zs.length := by simpa using hj
    rcases Nat.lt_or_ge i j with h | h
    · have := List.pairwise_iff_getElem.1 hp i j (by omega) hj' h
      simp only [List.getElem!_toArray]
      rw [getElem!_pos zs i (by omega), getElem!_pos zs j hj']
      simpa using this
    · obtain rfl : i = j := by omega
      exact Int.le_refl _) zs.length (by simp)
  refine ⟨h1, fun x => ?_⟩
  rw [← hm]
  show x ∈ Lib.compactUpTo zs.toArray zs.length ↔ _
  rw [h3, List.mem_iff_getElem]
  constructor
  · rintro ⟨j, hj, e⟩
    exact ⟨j, hj, by rw [← e]; simp only [List.getElem!_toArray]; rw [getElem!_pos zs j hj]⟩
  · rintro ⟨j, hj, e⟩
    exact ⟨j, hj, by rw [← e]; simp only [List.getElem!_toArray]; rw [getElem!_pos zs j hj]⟩
section
variable {α : Type}
end
end Go.Proofs.Ythgnomniboindaa
end

/- Layer 26, plainly: the queue is the scripts in order that are own or common and may be marked. -/
section
namespace Go.Proofs.Ythgnomniboindaa
set_option linter.unusedVariables false
set_option linter.unusedSimpArgs false
set_option linter.unnecessarySimpa false
set_option linter.unusedSectionVars false
set_option maxRecDepth 10000
open Go.RowKit
theorem idxs_mem {n : Nat} {k x : Int} : x ∈ idxsF n k ↔ 1 ≤ k ∧ 0 ≤ x ∧ x < n ∧ x % k = 0 := by
  unfold idxsF
  split
  · next h => simp; omega
  · next h =>
    have hk : 1 ≤ k := by omega
    unfold mulF
    rw [List.mem_map]
    constructor
    · rintro ⟨j, hj, rfl⟩
      have := (cntI_lt hk).1 (List.mem_range.1 hj)
      exact ⟨hk, Int.mul_nonneg (by omega) (by omega), this, by rw [Int.mul_emod_left]⟩
    · rintro ⟨-, h0, h1, h2⟩
      have e : x / k * k = x := by have := Int.ediv_mul_add_emod x k; omega
      have hd : 0 ≤ x / k := Int.ediv_nonneg h0 (by omega)
      refine ⟨(x / k).toNat, List.mem_range.2 ((cntI_lt hk).2 ?_), ?_⟩
      · rw [Int.toNat_of_nonneg hd, e]; exact h1
      · rw [Int.toNat_of_nonneg hd, e]
theorem idxs_asc {n : Nat} {k : Int} : (idxsF n k).Pairwise (· < ·) := by
  unfold idxsF
  split
  · exact List.Pairwise.nil
  · unfold mulF
    rw [List.pairwise_map]
    refine List.pairwise_lt_range.imp fun {a b} h => ?_
    exact Int.mul_lt_mul_of_pos_right (by omega) (by omega)
theorem comQ_asc {l : List Mrk} {s : List Scr} {id : Int} (hs : ScsOk s) {k : Int} : (comQ l s id (idxsF s.length k)).Pairwise (· < ·) := by
  unfold comQ
  rw [List.pairwise_map]
  refine (List.Pairwise.filter _ (List.Pairwise.and_mem.1 (idxs_asc (n := s.length) (k := k)))).imp fun {a b} h => ?_
  obtain ⟨h1, h2, h3⟩ := h
  have ha := idxs_mem.1 h1
  have hb := idxs_mem.1 h2
  exact numF_lt hs.asc (by omega) (by omega)
theorem rq_asc {l : List Mrk} {s : List Scr} {ts : List (Int × Int)} {k id : Int} (hs : ScsOk s) : (rqF l s ts k id s).Pairwise (· < ·) := by
  unfold rqF
  rw [List.pairwise_map]
  refine List.Pairwise.filter _ ?_
  rw [List.pairwise_iff_getElem]
  intro i j hi hj hij
  exact asc_lt hs.asc (List.getElem?_eq_getElem hi) (List.getElem?_eq_getElem hj) hij
theorem hasP_mem {l : List Int} {p : Int} : hasP l p = true ↔ p ∈ l := by
  unfold hasP; rw [List.any_eq_true]
  exact ⟨fun ⟨x, h1, h2⟩ => by rw [beq_iff_eq] at h2; rw [h2]; exact h1, fun h => ⟨p, h, by simp⟩⟩
theorem queue_eq {l : List Mrk} {s : List Scr} {ts : List (Int × Int)} {k id : Int} (hs : ScsOk s) : queueF l s ts k id = rqF l s ts k id s := by
  have hc := comp_sort (ownQ l s id ts)
  refine asc_eq (merge_asc hc.1 (comQ_asc hs)) (rq_asc hs) fun n => ?_
  unfold queueF
  rw [merge_mem, hc.2 n]
  have hfind : ∀ {p : Nat} {x : Scr}, s[p]? = some x → findS s x.number = some p := fun {p x} hx => by
    have := findS_num hs.asc (List.getElem?_eq_some_iff.1 hx).1
    rwa [numF_at hx] at this
  constructor
  · rintro (h | h)
    · unfold ownQ at h
      rw [List.mem_map] at h
      obtain ⟨t, ht, rfl⟩ := h
      rw [List.mem_filter] at ht
      obtain ⟨ht1, ht2⟩ := ht
      unfold ownB at ht2
      rw [Bool.and_eq_true, beq_iff_eq] at ht2
      obtain ⟨hid, ht2⟩ := ht2
      cases hf : findS s t.1 with
      | none => rw [hf] at ht2; cases ht2
      | some p =>
        obtain ⟨x, hx, hn⟩ := findS_at hf
        rw [hf] at ht2
        simp only [ownB.elM, hx] at ht2
        unfold rqF
        rw [List.mem_map]
        refine ⟨x, List.mem_filter.2 ⟨List.mem_of_getElem? hx, ?_⟩, hn⟩
        unfold mineB
        rw [ht2, Bool.and_true, Bool.or_eq_true]
        exact .inr (List.any_eq_true.2 ⟨t, ht1, by rw [hn, hid]; simp⟩)
    · unfold comQ at h
      rw [List.mem_map] at h
      obtain ⟨i, hi, rfl⟩ := h
      rw [List.mem_filter] at hi
      have hm := idxs_mem.1 hi.1
      obtain ⟨x, hx⟩ : ∃ x, s[i.toNat]? = some x := ⟨_, List.getElem?_eq_getElem (by omega)⟩
      have he := hi.2
      simp only [ownB.elM, hx] at he
      unfold rqF
      rw [List.mem_map]
      refine ⟨x, List.mem_filter.2 ⟨List.mem_of_getElem? hx, ?_⟩, (numF_at hx).symm⟩
      unfold mineB
      rw [he, Bool.and_true, Bool.or_eq_true]
      refine .inl (hasP_mem.2 ?_)
      unfold commF
      exact List.mem_map.2 ⟨i, hi.1, numF_at hx⟩
  · intro h
    unfold rqF at h
    rw [List.mem_map] at h
    obtain ⟨x, hx, rfl⟩ := h
    rw [List.mem_filter] at hx
    obtain ⟨hx1, hx2⟩ := hx
    obtain ⟨p, hp⟩ := List.getElem?_of_mem hx1
    unfold mineB at hx2
    rw [Bool.and_eq_true, Bool.or_eq_true] at hx2
    obtain ⟨hx2, he⟩ := hx2
    rcases hx2 with h | h
    · right
      have h := hasP_mem.1 h
      unfold commF at h
      rw [List.mem_map] at h
      obtain ⟨i, hi, hn⟩ := h
      have hm := idxs_mem.1 hi
      have e : findS s (numF s i.toNat) = some i.toNat := findS_num hs.asc (by omega)
      rw [hn, hfind hp] at e
      injection e with e
      unfold comQ
      rw [List.mem_map]
      refine ⟨i, List.mem_filter.2 ⟨hi, ?_⟩, hn⟩
      simp only [ownB.elM, ← e, hp]; exact he
    · left
      rw [List.any_eq_true] at h
      obtain ⟨t, ht, h⟩ := h
      rw [Bool.and_eq_true, beq_iff_eq, beq_iff_eq] at h
      unfold ownQ
      rw [List.mem_map]
      refine ⟨t, List.mem_filter.2 ⟨ht, ?_⟩, h.1⟩
      unfold ownB
      rw [h.1, hfind hp, h.2]
      simp only [beq_self_eq_true, Bool.true_and, ownB.elM, hp]; exact he
end Go.Proofs.Ythgnomniboindaa
end

/- Layer 26: the check of seeds: of the program. -/
section
namespace Go.Proofs.Ythgnomniboindaa
set_option linter.unusedVariables false
set_option linter.unusedSimpArgs false
set_option linter.unnecessarySimpa false
set_option linter.unusedSectionVars false
set_option maxRecDepth 10000
open Go.RowKit
def plGL26q_0 : Plan := (.take 0 (.take 1 (.take 2 (.take 3 (.take 4 (.take 5 (.take 6 (.take 7 (.take 8 (.take 9 (.take 10 (.take 11 (.take 12 .done)))))))))))))
def plGL26q_1 : Plan := (.take 0 (.take 1 (.take 2 (.take 3 (.take 4 (.take 5 (.take 6 (.take 7 (.take 9 (.take 10 (.alt 8 (.take 11 (.take 12 .done)) .stop)))))))))))
def plGL26q_2 : Plan := (.take 0 (.take 1 (.take 2 (.take 3 (.take 4 (.take 5 (.take 6 (.take 7 (.take 9 (.alt 8 (.alt 10 (.take 11 (.take 12 .done)) .stop) (.alt 10 (.alt 8 (.take 11 (.take 12 .done)) .stop) .stop)))))))))))
def plGL26q_3 : Plan := (.take 0 (.take 1 (.take 2 (.take 3 (.take 4 (.take 5 (.take 6 (.take 7 (.take 8 (.alt 9 (.take 10 (.take 11 .done)) .stop))))))))))
def plGL26q_4 : Plan := (.take 0 (.take 1 (.take 2 (.take 3 (.take 4 (.take 5 (.take 7 (.take 8 (.alt 6 (.alt 9 (.take 10 (.take 11 .done)) .stop) .stop)))))))))
def plGL26q_5 : Plan := (.take 0 (.take 1 (.take 2 (.take 3 (.take 4 (.take 5 (.take 7 (.alt 6 (.alt 8 (.alt 9 (.take 10 (.take 11 .done)) .stop) .stop) (.alt 8 (.alt 6 (.alt 9 (.take 10 (.take 11 .done)) .stop) .stop) .stop)))))))))
theorem fitsPap_ok (p : Pap) (x : Scr) : Good Try.prog TT false 41 [.agg (encPap p), .ref (encR x)] (· = .bool (papM x p)) := by
  refine good_of mixed tabOk Try.func41 rfl rfl Try.ntmps41 Try.results41 rfl rfl ?_
  (conv => whnf); (repeat' (first | (refine arith_i ⟨by omega, by omega⟩ ?_; conv => whnf) | (refine arith_u ⟨by omega, by omega⟩ ?_; conv => whnf) | (refine arith_8 ⟨by omega, by omega⟩ ?_; conv => whnf) | (refine need_i (by first | omega | (simp only [List.length_cons, List.length_nil]; omega) | (simp only [List.length_append, List.length_cons, List.length_nil, List.length_map, List.length_replicate, List.length_modify]; omega)) ?_; conv => whnf) | ((with_reducible first | refine branch_tt ?_ | refine branch_ff ?_); conv => whnf) | (with_reducible refine branch_not ?_) | ((with_reducible first | refine slc_e ?_ | refine callS_a ?_ | refine bld_a ?_ | refine own_e ?_ | refine mkmap_b ?_ | refine lnk_a ?_); conv => whnf) | ((with_reducible first | refine branch_d (fun hq => ?_) (fun hq => ?_) | refine branch_e (fun hq => ?_) (fun hq => ?_) | refine branch_n (fun hq => ?_) (fun hq => ?_) | refine branch_i (fun hq => ?_) (fun hq => ?_)) <;> (try (exfalso; omega)) <;> (conv => whnf))))
  all_goals first
    | (refine ret_p rfl (bool_eq ?_); unfold papM; simp_all; done)

def idxPap (ps : List Pap) (x : Scr) : Option Nat := ps.findIdx? (papM x)
def idxV (o : Option Nat) : AV := match o with
  | some i => .int .i64 i
  | none => .int .i64 (-1)
theorem indexPap_ok (ps : List Pap) (x : Scr) (hl : ps.length ≤ 1000) : Good Try.prog TT false 40 [.lst 3 (ps.map encPap), .fn 41 [.ref (encR x)]] (· = idxV (idxPap ps x)) := by
  have L : (ps.map encPap).length = ps.length := List.length_map ..
  refine good_of mixed tabOk Try.func40 rfl rfl Try.ntmps40 Try.results40 rfl rfl ?_
  (conv => whnf); (repeat' (first | (refine arith_i ⟨by omega, by omega⟩ ?_; conv => whnf) | (refine arith_u ⟨by omega, by omega⟩ ?_; conv => whnf) | (refine arith_8 ⟨by omega, by omega⟩ ?_; conv => whnf) | (refine need_i (by first | omega | (simp only [List.length_cons, List.length_nil]; omega) | (simp only [List.length_append, List.length_cons, List.length_nil, List.length_map, List.length_replicate, List.length_modify]; omega)) ?_; conv => whnf) | ((with_reducible first | refine branch_tt ?_ | refine branch_ff ?_); conv => whnf) | (with_reducible refine branch_not ?_) | ((with_reducible first | refine slc_e ?_ | refine callS_a ?_ | refine bld_a ?_ | refine own_e ?_ | refine mkmap_b ?_ | refine lnk_a ?_); conv => whnf) | ((with_reducible first | refine branch_d (fun hq => ?_) (fun hq => ?_) | refine branch_e (fun hq => ?_) (fun hq => ?_) | refine branch_n (fun hq => ?_) (fun hq => ?_) | refine branch_i (fun hq => ?_) (fun hq => ?_)) <;> (try (exfalso; omega)) <;> (conv => whnf))))
  refine loop_i (fun i : Nat => i ≤ ps.length ∧ ∀ j p, j < i → ps[j]? = some p → papM x p = false) (fun i => mkSt [(0, .lst 3 (ps.map encPap)), (1, .fn 41 [.ref (encR x)]), (7, .int .i64 ps.length), (8, .int .i64 i)] [] false) (fun i => ps.length - i) 0 ⟨Nat.zero_le _, nofun⟩ (le_mk ⟨rfl, rfl, int_eq (by rw [L]), rfl, trivial⟩ trivial rfl) ?_
  rintro i ⟨hi, hno⟩
  rcases Nat.lt_or_ge i ps.length with hil | hil
  · obtain ⟨p, hp⟩ : ∃ p, ps[i]? = some p := ⟨_, List.getElem?_eq_getElem hil⟩
    have hstep : papM x p = false → ∀ j p', j < i + 1 → ps[j]? = some p' → papM x p' = false := fun h j p' hj hp' => by
      rcases Nat.lt_or_ge j i with g | g
      · exact hno j p' g hp'
      · obtain rfl : j = i := by omega
        rw [hp] at hp'; injection hp' with hp'; rw [← hp']; exact h
    (conv => whnf); (repeat' (first | (refine arith_i ⟨by omega, by omega⟩ ?_; conv => whnf) | (refine arith_u ⟨by omega, by omega⟩ ?_; conv => whnf) | (refine arith_8 ⟨by omega, by omega⟩ ?_; conv => whnf) | (refine need_i (by first | omega | (simp only [List.length_cons, List.length_nil]; omega) | (simp only [List.length_append, List.length_cons, List.length_nil, List.length_map, List.length_replicate, List.length_modify]; omega)) ?_; conv => whnf) | ((with_reducible first | refine branch_tt ?_ | refine branch_ff ?_); conv => whnf) | (with_reducible refine branch_not ?_) | ((refine idx_cs hp ?_); conv => whnf) | ((refine call_e (fitsPap_ok p x) ?_); conv => whnf) | ((with_reducible first | refine slc_e ?_ | refine callS_a ?_ | refine bld_a ?_ | refine own_e ?_ | refine mkmap_b ?_ | refine lnk_a ?_); conv => whnf) | ((with_reducible first | refine branch_d (fun hq => ?_) (fun hq => ?_) | refine branch_e (fun hq => ?_) (fun hq => ?_) | refine branch_n (fun hq => ?_) (fun hq => ?_) | refine branch_i (fun hq => ?_) (fun hq => ?_)) <;> (try (exfalso; omega)) <;> (conv => whnf))))
    all_goals first
      | (have hf : idxPap ps x = some i := by
           unfold idxPap
           rw [List.findIdx?_eq_some_iff_getElem]
           refine ⟨hil, by rw [(List.getElem?_eq_some_iff.1 hp).2]; exact hq, fun j hj => ?_⟩
           rw [hno j _ hj (List.getElem?_eq_getElem (by omega))]; simp
         rw [hf]
         exact ret_p rfl rfl)
      | exact ⟨i + 1, ⟨by omega, hstep hq⟩, (le_mk (by repeat' (first | exact trivial | rfl | apply And.intro)) (by repeat' (first | exact trivial | rfl | apply And.intro)) rfl), by omega⟩
  · (conv => whnf); (repeat' (first | (refine arith_i ⟨by omega, by omega⟩ ?_; conv => whnf) | (refine arith_u ⟨by omega, by omega⟩ ?_; conv => whnf) | (refine arith_8 ⟨by omega, by omega⟩ ?_; conv => whnf) | (refine need_i (by first | omega | (simp only [List.length_cons, List.length_nil]; omega) | (simp only [List.length_append, List.length_cons, List.length_nil, List.length_map, List.length_replicate, List.length_modify]; omega)) ?_; conv => whnf) | ((with_reducible first | refine branch_tt ?_ | refine branch_ff ?_); conv => whnf) | (with_reducible refine branch_not ?_) | ((with_reducible first | refine slc_e ?_ | refine callS_a ?_ | refine bld_a ?_ | refine own_e ?_ | refine mkmap_b ?_ | refine lnk_a ?_); conv => whnf) | ((with_reducible first | refine branch_d (fun hq => ?_) (fun hq => ?_) | refine branch_e (fun hq => ?_) (fun hq => ?_) | refine branch_n (fun hq => ?_) (fun hq => ?_) | refine branch_i (fun hq => ?_) (fun hq => ?_)) <;> (try (exfalso; omega)) <;> (conv => whnf))))
    have hf : idxPap ps x = none := by
      unfold idxPap
      rw [List.findIdx?_eq_none_iff]
      intro p hp
      obtain ⟨j, hj⟩ := List.getElem?_of_mem hp
      exact hno j p (by have := (List.getElem?_eq_some_iff.1 hj).1; omega) hj
    rw [hf]
    exact ret_p rfl rfl
def mvB (q : Pap) (ms : List Int) : Bool := decide (ms.length = q.parts.length) && vmB q.parts ms q.parts.length
def prevS (sds : List Sed) (i : Nat) : Int := match sds[i - 1]? with | some y => y.script | none => 0
def seedE (s : List Scr) (ps : List Pap) (k : Int) (sds : List Sed) (i : Nat) : Int := match sds[i]? with
  | none => 0
  | some y => if hasP (commF s k) y.script = false then 4 else if 0 < i ∧ y.script ≤ prevS sds i then 43 else match papF ps (scrN s y.script) with
    | none => 1
    | some q => if mvB q y.marks = true then 0 else 1
def chkE (s : List Scr) (ps : List Pap) (k : Int) (sds : List Sed) : Nat → Int
  | 0 => 0
  | i + 1 => if chkE s ps k sds i = 0 then seedE s ps k sds i else chkE s ps k sds i
def check26V (s : List Scr) (ps : List Pap) (k : Int) (sds : List Sed) : Int := if k < 1 then 2 else if 12 < sds.length then 3 else chkE s ps k sds sds.length
theorem chkE_bad {s : List Scr} {ps : List Pap} {k : Int} {sds : List Sed} {i j : Nat} (hij : i ≤ j) (h : chkE s ps k sds i ≠ 0) : chkE s ps k sds j = chkE s ps k sds i := by
  induction hij with
  | refl => rfl
  | step _ ih => rw [chkE, ih, if_neg h]
theorem papF_idx {ps : List Pap} {x : Scr} : papF ps x = (idxPap ps x).bind fun j => ps[j]? := by
  unfold papF idxPap
  cases h : ps.findIdx? (papM x) with
  | none =>
    rw [List.findIdx?_eq_none_iff] at h
    rw [Option.bind_none, List.find?_eq_none]
    intro p hp
    rw [h p hp]; simp
  | some i =>
    rw [List.findIdx?_eq_some_iff_getElem] at h
    obtain ⟨h1, h2, h3⟩ := h
    rw [Option.bind_some, List.getElem?_eq_getElem h1, List.find?_eq_some_iff_getElem]
    exact ⟨h2, i, h1, rfl, fun j hj => by have := h3 j hj; simpa using this⟩
theorem comm_find {s : List Scr} (hs : ScsOk s) {k n : Int} (h : hasP (commF s k) n = true) : ∃ p x, findS s n = some p ∧ s[p]? = some x ∧ x.number = n ∧ scrN s n = x := by
  have h := hasP_mem.1 h
  unfold commF at h
  rw [List.mem_map] at h
  obtain ⟨i, hi, hn⟩ := h
  have hm := idxs_mem.1 hi
  have e : findS s (numF s i.toNat) = some i.toNat := findS_num hs.asc (by omega)
  rw [hn] at e
  obtain ⟨x, hx⟩ : ∃ x, s[i.toNat]? = some x := ⟨_, List.getElem?_eq_getElem (by omega)⟩
  refine ⟨i.toNat, x, e, hx, by rw [numF_at hx] at hn; exact hn, ?_⟩
  unfold scrN
  rw [e]; simp only [hx, Option.getD_some]
theorem chk_next {s : List Scr} {ps : List Pap} {k : Int} {sds : List Sed} {i : Nat} (h : chkE s ps k sds i = 0) : chkE s ps k sds (i + 1) = seedE s ps k sds i := by rw [chkE, if_pos h]
set_option maxHeartbeats 4000000 in
theorem sCheck_ok (s : List Scr) (ps : List Pap) (k : Int) (sds : List Sed) (hs : ScsOk s) (hps : ps.length ≤ 1000) (hpo : ∀ (k : Nat) (p : Pap), ps[k]? = some p → p.parts.length ≤ 1000) (hsl : sds.length ≤ 1000) (hsm : ∀ (k : Nat) (y : Sed), sds[k]? = some y → y.marks.length ≤ 17592186044416) (hk64 : k ≤ 9223372036854775807) : Good Try.prog TT false 18 [scrsV s, .lst 3 (ps.map encPap), .int .i64 k, sedsV sds] (· = .int .i64 (check26V s ps k sds)) := by
  have LS : (s.map encR).length = s.length := List.length_map ..
  have LP : (ps.map encPap).length = ps.length := List.length_map ..
  have LD : (sds.map encSd).length = sds.length := List.length_map ..
  have hC := checkScripts_ok s s.length hs.len (Nat.le_refl _) (fun k x h => (hs.all k x h).1) (fun k x _ h => (hs.all k x h).2) (fun x h => by rw [List.getElem?_eq_none (Nat.le_refl _)] at h; cases h) hs.asc
  rw [if_pos rfl] at hC
  refine good_of mixed tabOk Try.func18 rfl rfl Try.ntmps18 Try.results18 rfl rfl ?_
  (conv => whnf); (repeat' (first | (refine arith_i ⟨by omega, by omega⟩ ?_; conv => whnf) | (refine arith_u ⟨by omega, by omega⟩ ?_; conv => whnf) | (refine arith_8 ⟨by omega, by omega⟩ ?_; conv => whnf) | (refine need_i (by first | omega | (simp only [List.length_cons, List.length_nil]; omega) | (simp only [List.length_append, List.length_cons, List.length_nil, List.length_map, List.length_replicate, List.length_modify]; omega)) ?_; conv => whnf) | ((with_reducible first | refine branch_tt ?_ | refine branch_ff ?_); conv => whnf) | (with_reducible refine branch_not ?_) | ((refine call_e hC ?_); conv => whnf) | ((refine call_e (common_ok s k hs hk64) ?_); conv => whnf) | ((with_reducible first | refine slc_e ?_ | refine callS_a ?_ | refine bld_a ?_ | refine own_e ?_ | refine mkmap_b ?_ | refine lnk_a ?_); conv => whnf) | (refine draw_i 13 plGL26q_0 (by decide +kernel) ?_; (conv => whnf); fail_if_success (guard_target =~ False)) | (refine draw_i 13 plGL26q_1 (by decide +kernel) ?_; (conv => whnf); fail_if_success (guard_target =~ False)) | (refine draw_i 13 plGL26q_2 (by decide +kernel) ?_; (conv => whnf); fail_if_success (guard_target =~ False)) | (refine draw_i 12 plGL26q_3 (by decide +kernel) ?_; (conv => whnf); fail_if_success (guard_target =~ False)) | (refine draw_i 12 plGL26q_4 (by decide +kernel) ?_; (conv => whnf); fail_if_success (guard_target =~ False)) | (refine draw_i 12 plGL26q_5 (by decide +kernel) ?_; (conv => whnf); fail_if_success (guard_target =~ False)) | ((with_reducible refine And.intro ?_ ?_) <;> (conv => whnf)) | (with_reducible exact trivial) | ((with_reducible first | refine branch_d (fun hq => ?_) (fun hq => ?_) | refine branch_e (fun hq => ?_) (fun hq => ?_) | refine branch_n (fun hq => ?_) (fun hq => ?_) | refine branch_i (fun hq => ?_) (fun hq => ?_)) <;> (try (exfalso; omega)) <;> (conv => whnf))))
  · exact ret_p rfl (int_eq (by unfold check26V; rw [if_pos hq]))
  · exact ret_p rfl (int_eq (by unfold check26V; rw [if_neg (by assumption), if_pos (by omega)]))
  have hV : check26V s ps k sds = chkE s ps k sds sds.length := by unfold check26V; rw [if_neg (by assumption), if_neg (by omega)]
  rw [hV]
  refine loop_i (fun i : Nat => i ≤ sds.length ∧ chkE s ps k sds i = 0) (fun i => mkSt [(0, scrsV s), (1, .lst 3 (ps.map encPap)), (3, sedsV sds), (10, ints (commF s k)), (29, sedsV sds), (30, .int .i64 sds.length), (31, .int .i64 i)] [] false) (fun i => sds.length - i) 0 ⟨Nat.zero_le _, rfl⟩ (Le.trans (le_erase 28) (le_mk ⟨rfl, rfl, rfl, rfl, rfl, int_eq (by rw [LD]), rfl, trivial⟩ trivial rfl)) ?_
  rintro i ⟨hi, hz⟩
  have hcl := commF_len (s := s) (k := k)
  have h60 := hs.len
  rcases Nat.lt_or_ge i sds.length with hil | hil
  · obtain ⟨y, hy⟩ : ∃ y, sds[i]? = some y := ⟨_, List.getElem?_eq_getElem hil⟩
    have hnx := chk_next hz
    have hbad : ∀ e : Int, seedE s ps k sds i = e → e ≠ 0 → AV.int .i64 e = .int .i64 (chkE s ps k sds sds.length) := fun e he h0 => int_eq (by rw [chkE_bad (i := i + 1) (by omega) (by rw [hnx, he]; exact h0), hnx, he])
    have hsd : seedE s ps k sds i = if hasP (commF s k) y.script = false then 4 else if 0 < i ∧ y.script ≤ prevS sds i then 43 else match papF ps (scrN s y.script) with
      | none => 1
      | some q => if mvB q y.marks = true then 0 else 1 := by unfold seedE; rw [hy]
    have hCT := contains_ok (commF s k) y.script (by omega)
    cases hc : hasP (commF s k) y.script with
    | false =>
      rw [hc, if_pos rfl] at hsd
      rw [hc] at hCT
      cases hf : findS s y.script with
      | none =>
        (conv => whnf); (repeat' (first | (refine arith_i ⟨by omega, by omega⟩ ?_; conv => whnf) | (refine arith_u ⟨by omega, by omega⟩ ?_; conv => whnf) | (refine arith_8 ⟨by omega, by omega⟩ ?_; conv => whnf) | (refine need_i (by first | omega | (simp only [List.length_cons, List.length_nil]; omega) | (simp only [List.length_append, List.length_cons, List.length_nil, List.length_map, List.length_replicate, List.length_modify]; omega)) ?_; conv => whnf) | ((with_reducible first | refine branch_tt ?_ | refine branch_ff ?_); conv => whnf) | (with_reducible refine branch_not ?_) | ((refine idx_cs hy ?_); conv => whnf) | (((refine call_e ((sFind_ok s y.script hs).mono fun r h => (by unfold ScriptR at h; rw [hf] at h; exact h : r = .tup [scr0R, .bool false])) ?_)); conv => whnf) | ((with_reducible first | refine slc_e ?_ | refine callS_a ?_ | refine bld_a ?_ | refine own_e ?_ | refine mkmap_b ?_ | refine lnk_a ?_); conv => whnf) | (refine draw_i 13 plGL26q_0 (by decide +kernel) ?_; (conv => whnf); fail_if_success (guard_target =~ False)) | (refine draw_i 13 plGL26q_1 (by decide +kernel) ?_; (conv => whnf); fail_if_success (guard_target =~ False)) | (refine draw_i 13 plGL26q_2 (by decide +kernel) ?_; (conv => whnf); fail_if_success (guard_target =~ False)) | (refine draw_i 12 plGL26q_3 (by decide +kernel) ?_; (conv => whnf); fail_if_success (guard_target =~ False)) | (refine draw_i 12 plGL26q_4 (by decide +kernel) ?_; (conv => whnf); fail_if_success (guard_target =~ False)) | (refine draw_i 12 plGL26q_5 (by decide +kernel) ?_; (conv => whnf); fail_if_success (guard_target =~ False)) | ((with_reducible refine And.intro ?_ ?_) <;> (conv => whnf)) | (with_reducible exact trivial) | ((with_reducible first | refine branch_d (fun hq => ?_) (fun hq => ?_) | refine branch_e (fun hq => ?_) (fun hq => ?_) | refine branch_n (fun hq => ?_) (fun hq => ?_) | refine branch_i (fun hq => ?_) (fun hq => ?_)) <;> (try (exfalso; omega)) <;> (conv => whnf))))
        all_goals first | exact ret_p rfl (hbad 4 hsd (by decide))
      | some p =>
        obtain ⟨x, hx, hn⟩ := findS_at hf
        have hScr : Good Try.prog TT false 38 [scrsV s, .int .i64 y.script] (· = .tup [.agg (encR x), .bool true]) := (sFind_ok s y.script hs).mono fun r h => by
          unfold ScriptR at h; rw [hf] at h; obtain ⟨x', hx', h⟩ := h; rw [hx] at hx'; injection hx' with hx'; rw [hx']; exact h
        (conv => whnf); (repeat' (first | (refine arith_i ⟨by omega, by omega⟩ ?_; conv => whnf) | (refine arith_u ⟨by omega, by omega⟩ ?_; conv => whnf) | (refine arith_8 ⟨by omega, by omega⟩ ?_; conv => whnf) | (refine need_i (by first | omega | (simp only [List.length_cons, List.length_nil]; omega) | (simp only [List.length_append, List.length_cons, List.length_nil, List.length_map, List.length_replicate, List.length_modify]; omega)) ?_; conv => whnf) | ((with_reducible first | refine branch_tt ?_ | refine branch_ff ?_); conv => whnf) | (with_reducible refine branch_not ?_) | ((refine idx_cs hy ?_); conv => whnf) | ((refine call_e hScr ?_); conv => whnf) | ((refine call_e hCT ?_); conv => whnf) | ((with_reducible first | refine slc_e ?_ | refine callS_a ?_ | refine bld_a ?_ | refine own_e ?_ | refine mkmap_b ?_ | refine lnk_a ?_); conv => whnf) | (refine draw_i 13 plGL26q_0 (by decide +kernel) ?_; (conv => whnf); fail_if_success (guard_target =~ False)) | (refine draw_i 13 plGL26q_1 (by decide +kernel) ?_; (conv => whnf); fail_if_success (guard_target =~ False)) | (refine draw_i 13 plGL26q_2 (by decide +kernel) ?_; (conv => whnf); fail_if_success (guard_target =~ False)) | (refine draw_i 12 plGL26q_3 (by decide +kernel) ?_; (conv => whnf); fail_if_success (guard_target =~ False)) | (refine draw_i 12 plGL26q_4 (by decide +kernel) ?_; (conv => whnf); fail_if_success (guard_target =~ False)) | (refine draw_i 12 plGL26q_5 (by decide +kernel) ?_; (conv => whnf); fail_if_success (guard_target =~ False)) | ((with_reducible refine And.intro ?_ ?_) <;> (conv => whnf)) | (with_reducible exact trivial) | ((with_reducible first | refine branch_d (fun hq => ?_) (fun hq => ?_) | refine branch_e (fun hq => ?_) (fun hq => ?_) | refine branch_n (fun hq => ?_) (fun hq => ?_) | refine branch_i (fun hq => ?_) (fun hq => ?_)) <;> (try (exfalso; omega)) <;> (conv => whnf))))
        all_goals first | exact ret_p rfl (hbad 4 hsd (by decide))
    | true =>
      rw [hc, if_neg (by simp)] at hsd
      rw [hc] at hCT
      obtain ⟨p, x, hf, hx, hn, hsn⟩ := comm_find hs hc
      rw [hsn, papF_idx] at hsd
      have hScr : Good Try.prog TT false 38 [scrsV s, .int .i64 y.script] (· = .tup [.agg (encR x), .bool true]) := (sFind_ok s y.script hs).mono fun r h => by
        unfold ScriptR at h; rw [hf] at h; obtain ⟨x', hx', h⟩ := h; rw [hx] at hx'; injection hx' with hx'; rw [hx']; exact h
      have hIP := indexPap_ok ps x hps
      have hym := hsm i y hy
      have hend : (¬ (0 < i ∧ y.script ≤ prevS sds i)) → (idxPap ps x = none → AV.int .i64 1 = .int .i64 (chkE s ps k sds sds.length)) ∧ ∀ j q, idxPap ps x = some j → ps[j]? = some q → (mvB q y.marks = false → AV.int .i64 1 = .int .i64 (chkE s ps k sds sds.length)) ∧ (mvB q y.marks = true → chkE s ps k sds (i + 1) = 0) := fun ho => by
        rw [if_neg ho] at hsd
        refine ⟨fun h => ?_, fun j q hj hq => ⟨fun h => ?_, fun h => ?_⟩⟩
        · rw [h] at hsd; exact hbad 1 hsd (by decide)
        · rw [hj, Option.bind_some, hq] at hsd; simp only [h] at hsd; exact hbad 1 hsd (by decide)
        · rw [hj, Option.bind_some, hq] at hsd; simp only [h, if_true] at hsd; rw [hnx, hsd]
      have hpat : ∀ j, idxPap ps x = some j → ∃ q, ps[j]? = some q := fun j h => by
        unfold idxPap at h
        rw [List.findIdx?_eq_some_iff_getElem] at h
        exact ⟨_, List.getElem?_eq_getElem h.1⟩
      by_cases ho : 0 < i ∧ y.script ≤ prevS sds i
      · rw [if_pos ho] at hsd
        obtain ⟨z, hzp⟩ : ∃ z, sds[i - 1]? = some z := ⟨_, List.getElem?_eq_getElem (by omega)⟩
        have hpv : prevS sds i = z.script := by unfold prevS; rw [hzp]
        rw [hpv] at ho
        (conv => whnf); (repeat' (first | (refine arith_i ⟨by omega, by omega⟩ ?_; conv => whnf) | (refine arith_u ⟨by omega, by omega⟩ ?_; conv => whnf) | (refine arith_8 ⟨by omega, by omega⟩ ?_; conv => whnf) | (refine need_i (by first | omega | (simp only [List.length_cons, List.length_nil]; omega) | (simp only [List.length_append, List.length_cons, List.length_nil, List.length_map, List.length_replicate, List.length_modify]; omega)) ?_; conv => whnf) | ((with_reducible first | refine branch_tt ?_ | refine branch_ff ?_); conv => whnf) | (with_reducible refine branch_not ?_) | ((refine idx_cs hy ?_); conv => whnf) | ((refine idx_ms (by omega) (by rw [show ((i : Int) - 1).toNat = i - 1 by omega]; exact hzp) ?_); conv => whnf) | ((refine call_e hScr ?_); conv => whnf) | ((refine call_e hCT ?_); conv => whnf) | ((with_reducible first | refine slc_e ?_ | refine callS_a ?_ | refine bld_a ?_ | refine own_e ?_ | refine mkmap_b ?_ | refine lnk_a ?_); conv => whnf) | (refine draw_i 13 plGL26q_0 (by decide +kernel) ?_; (conv => whnf); fail_if_success (guard_target =~ False)) | (refine draw_i 13 plGL26q_1 (by decide +kernel) ?_; (conv => whnf); fail_if_success (guard_target =~ False)) | (refine draw_i 13 plGL26q_2 (by decide +kernel) ?_; (conv => whnf); fail_if_success (guard_target =~ False)) | (refine draw_i 12 plGL26q_3 (by decide +kernel) ?_; (conv => whnf); fail_if_success (guard_target =~ False)) | (refine draw_i 12 plGL26q_4 (by decide +kernel) ?_; (conv => whnf); fail_if_success (guard_target =~ False)) | (refine draw_i 12 plGL26q_5 (by decide +kernel) ?_; (conv => whnf); fail_if_success (guard_target =~ False)) | ((with_reducible refine And.intro ?_ ?_) <;> (conv => whnf)) | (with_reducible exact trivial) | ((with_reducible first | refine branch_d (fun hq => ?_) (fun hq => ?_) | refine branch_e (fun hq => ?_) (fun hq => ?_) | refine branch_n (fun hq => ?_) (fun hq => ?_) | refine branch_i (fun hq => ?_) (fun hq => ?_)) <;> (try (exfalso; omega)) <;> (conv => whnf))))
        all_goals exact ret_p rfl (hbad 43 hsd (by decide))
      · obtain ⟨hE1, hE2⟩ := hend ho
        cases hj : idxPap ps x with
        | none =>
          rw [hj] at hIP
          rcases Nat.eq_zero_or_pos i with hi0 | hi0
          · (conv => whnf); (repeat' (first | (refine arith_i ⟨by omega, by omega⟩ ?_; conv => whnf) | (refine arith_u ⟨by omega, by omega⟩ ?_; conv => whnf) | (refine arith_8 ⟨by omega, by omega⟩ ?_; conv => whnf) | (refine need_i (by first | omega | (simp only [List.length_cons, List.length_nil]; omega) | (simp only [List.length_append, List.length_cons, List.length_nil, List.length_map, List.length_replicate, List.length_modify]; omega)) ?_; conv => whnf) | ((with_reducible first | refine branch_tt ?_ | refine branch_ff ?_); conv => whnf) | (with_reducible refine branch_not ?_) | ((refine idx_cs hy ?_); conv => whnf) | ((refine call_e hScr ?_); conv => whnf) | ((refine call_e hCT ?_); conv => whnf) | ((refine call_e hIP ?_); conv => whnf) | ((with_reducible first | refine slc_e ?_ | refine callS_a ?_ | refine bld_a ?_ | refine own_e ?_ | refine mkmap_b ?_ | refine lnk_a ?_); conv => whnf) | (refine draw_i 13 plGL26q_0 (by decide +kernel) ?_; (conv => whnf); fail_if_success (guard_target =~ False)) | (refine draw_i 13 plGL26q_1 (by decide +kernel) ?_; (conv => whnf); fail_if_success (guard_target =~ False)) | (refine draw_i 13 plGL26q_2 (by decide +kernel) ?_; (conv => whnf); fail_if_success (guard_target =~ False)) | (refine draw_i 12 plGL26q_3 (by decide +kernel) ?_; (conv => whnf); fail_if_success (guard_target =~ False)) | (refine draw_i 12 plGL26q_4 (by decide +kernel) ?_; (conv => whnf); fail_if_success (guard_target =~ False)) | (refine draw_i 12 plGL26q_5 (by decide +kernel) ?_; (conv => whnf); fail_if_success (guard_target =~ False)) | ((with_reducible refine And.intro ?_ ?_) <;> (conv => whnf)) | (with_reducible exact trivial) | ((with_reducible first | refine branch_d (fun hq => ?_) (fun hq => ?_) | refine branch_e (fun hq => ?_) (fun hq => ?_) | refine branch_n (fun hq => ?_) (fun hq => ?_) | refine branch_i (fun hq => ?_) (fun hq => ?_)) <;> (try (exfalso; omega)) <;> (conv => whnf))))
            all_goals exact ret_p rfl (hE1 hj)
          · obtain ⟨z, hzp⟩ : ∃ z, sds[i - 1]? = some z := ⟨_, List.getElem?_eq_getElem (by omega)⟩
            have hpv : prevS sds i = z.script := by unfold prevS; rw [hzp]
            rw [hpv] at ho
            (conv => whnf); (repeat' (first | (refine arith_i ⟨by omega, by omega⟩ ?_; conv => whnf) | (refine arith_u ⟨by omega, by omega⟩ ?_; conv => whnf) | (refine arith_8 ⟨by omega, by omega⟩ ?_; conv => whnf) | (refine need_i (by first | omega | (simp only [List.length_cons, List.length_nil]; omega) | (simp only [List.length_append, List.length_cons, List.length_nil, List.length_map, List.length_replicate, List.length_modify]; omega)) ?_; conv => whnf) | ((with_reducible first | refine branch_tt ?_ | refine branch_ff ?_); conv => whnf) | (with_reducible refine branch_not ?_) | ((refine idx_cs hy ?_); conv => whnf) | ((refine idx_ms (by omega) (by rw [show ((i : Int) - 1).toNat = i - 1 by omega]; exact hzp) ?_); conv => whnf) | ((refine call_e hScr ?_); conv => whnf) | ((refine call_e hCT ?_); conv => whnf) | ((refine call_e hIP ?_); conv => whnf) | ((with_reducible first | refine slc_e ?_ | refine callS_a ?_ | refine bld_a ?_ | refine own_e ?_ | refine mkmap_b ?_ | refine lnk_a ?_); conv => whnf) | (refine draw_i 13 plGL26q_0 (by decide +kernel) ?_; (conv => whnf); fail_if_success (guard_target =~ False)) | (refine draw_i 13 plGL26q_1 (by decide +kernel) ?_; (conv => whnf); fail_if_success (guard_target =~ False)) | (refine draw_i 13 plGL26q_2 (by decide +kernel) ?_; (conv => whnf); fail_if_success (guard_target =~ False)) | (refine draw_i 12 plGL26q_3 (by decide +kernel) ?_; (conv => whnf); fail_if_success (guard_target =~ False)) | (refine draw_i 12 plGL26q_4 (by decide +kernel) ?_; (conv => whnf); fail_if_success (guard_target =~ False)) | (refine draw_i 12 plGL26q_5 (by decide +kernel) ?_; (conv => whnf); fail_if_success (guard_target =~ False)) | ((with_reducible refine And.intro ?_ ?_) <;> (conv => whnf)) | (with_reducible exact trivial) | ((with_reducible first | refine branch_d (fun hq => ?_) (fun hq => ?_) | refine branch_e (fun hq => ?_) (fun hq => ?_) | refine branch_n (fun hq => ?_) (fun hq => ?_) | refine branch_i (fun hq => ?_) (fun hq => ?_)) <;> (try (exfalso; omega)) <;> (conv => whnf))))
            all_goals exact ret_p rfl (hE1 hj)
        | some j =>
          rw [hj] at hIP
          obtain ⟨q, hqj⟩ := hpat j hj
          obtain ⟨hE3, hE4⟩ := hE2 j q hj hqj
          have hVM := validMarks_ok q y.marks (hpo j q hqj) hym
          have hmv : (decide (y.marks.length = q.parts.length) && vmB q.parts y.marks q.parts.length) = mvB q y.marks := rfl
          rw [hmv] at hVM
          rcases Nat.eq_zero_or_pos i with hi0 | hi0
          · cases hmb : mvB q y.marks with
            | true =>
              rw [hmb] at hVM
              (conv => whnf); (repeat' (first | (refine arith_i ⟨by omega, by omega⟩ ?_; conv => whnf) | (refine arith_u ⟨by omega, by omega⟩ ?_; conv => whnf) | (refine arith_8 ⟨by omega, by omega⟩ ?_; conv => whnf) | (refine need_i (by first | omega | (simp only [List.length_cons, List.length_nil]; omega) | (simp only [List.length_append, List.length_cons, List.length_nil, List.length_map, List.length_replicate, List.length_modify]; omega)) ?_; conv => whnf) | ((with_reducible first | refine branch_tt ?_ | refine branch_ff ?_); conv => whnf) | (with_reducible refine branch_not ?_) | ((refine idx_cs hy ?_); conv => whnf) | ((refine call_e hScr ?_); conv => whnf) | ((refine call_e hCT ?_); conv => whnf) | ((refine call_e hIP ?_); conv => whnf) | ((refine idx_cs hqj ?_); conv => whnf) | ((refine call_e hVM ?_); conv => whnf) | ((with_reducible first | refine slc_e ?_ | refine callS_a ?_ | refine bld_a ?_ | refine own_e ?_ | refine mkmap_b ?_ | refine lnk_a ?_); conv => whnf) | (refine draw_i 13 plGL26q_0 (by decide +kernel) ?_; (conv => whnf); fail_if_success (guard_target =~ False)) | (refine draw_i 13 plGL26q_1 (by decide +kernel) ?_; (conv => whnf); fail_if_success (guard_target =~ False)) | (refine draw_i 13 plGL26q_2 (by decide +kernel) ?_; (conv => whnf); fail_if_success (guard_target =~ False)) | (refine draw_i 12 plGL26q_3 (by decide +kernel) ?_; (conv => whnf); fail_if_success (guard_target =~ False)) | (refine draw_i 12 plGL26q_4 (by decide +kernel) ?_; (conv => whnf); fail_if_success (guard_target =~ False)) | (refine draw_i 12 plGL26q_5 (by decide +kernel) ?_; (conv => whnf); fail_if_success (guard_target =~ False)) | ((with_reducible refine And.intro ?_ ?_) <;> (conv => whnf)) | (with_reducible exact trivial) | ((with_reducible first | refine branch_d (fun hq => ?_) (fun hq => ?_) | refine branch_e (fun hq => ?_) (fun hq => ?_) | refine branch_n (fun hq => ?_) (fun hq => ?_) | refine branch_i (fun hq => ?_) (fun hq => ?_)) <;> (try (exfalso; omega)) <;> (conv => whnf))))
              all_goals exact ⟨i + 1, ⟨by omega, hE4 hmb⟩, (le_mk (by repeat' (first | exact trivial | rfl | apply And.intro)) (by repeat' (first | exact trivial | rfl | apply And.intro)) rfl), by omega⟩
            | false =>
              rw [hmb] at hVM
              (conv => whnf); (repeat' (first | (refine arith_i ⟨by omega, by omega⟩ ?_; conv => whnf) | (refine arith_u ⟨by omega, by omega⟩ ?_; conv => whnf) | (refine arith_8 ⟨by omega, by omega⟩ ?_; conv => whnf) | (refine need_i (by first | omega | (simp only [List.length_cons, List.length_nil]; omega) | (simp only [List.length_append, List.length_cons, List.length_nil, List.length_map, List.length_replicate, List.length_modify]; omega)) ?_; conv => whnf) | ((with_reducible first | refine branch_tt ?_ | refine branch_ff ?_); conv => whnf) | (with_reducible refine branch_not ?_) | ((refine idx_cs hy ?_); conv => whnf) | ((refine call_e hScr ?_); conv => whnf) | ((refine call_e hCT ?_); conv => whnf) | ((refine call_e hIP ?_); conv => whnf) | ((refine idx_cs hqj ?_); conv => whnf) | ((refine call_e hVM ?_); conv => whnf) | ((with_reducible first | refine slc_e ?_ | refine callS_a ?_ | refine bld_a ?_ | refine own_e ?_ | refine mkmap_b ?_ | refine lnk_a ?_); conv => whnf) | (refine draw_i 13 plGL26q_0 (by decide +kernel) ?_; (conv => whnf); fail_if_success (guard_target =~ False)) | (refine draw_i 13 plGL26q_1 (by decide +kernel) ?_; (conv => whnf); fail_if_success (guard_target =~ False)) | (refine draw_i 13 plGL26q_2 (by decide +kernel) ?_; (conv => whnf); fail_if_success (guard_target =~ False)) | (refine draw_i 12 plGL26q_3 (by decide +kernel) ?_; (conv => whnf); fail_if_success (guard_target =~ False)) | (refine draw_i 12 plGL26q_4 (by decide +kernel) ?_; (conv => whnf); fail_if_success (guard_target =~ False)) | (refine draw_i 12 plGL26q_5 (by decide +kernel) ?_; (conv => whnf); fail_if_success (guard_target =~ False)) | ((with_reducible refine And.intro ?_ ?_) <;> (conv => whnf)) | (with_reducible exact trivial) | ((with_reducible first | refine branch_d (fun hq => ?_) (fun hq => ?_) | refine branch_e (fun hq => ?_) (fun hq => ?_) | refine branch_n (fun hq => ?_) (fun hq => ?_) | refine branch_i (fun hq => ?_) (fun hq => ?_)) <;> (try (exfalso; omega)) <;> (conv => whnf))))
              all_goals exact ret_p rfl (hE3 hmb)
          · obtain ⟨z, hzp⟩ : ∃ z, sds[i - 1]? = some z := ⟨_, List.getElem?_eq_getElem (by omega)⟩
            have hpv : prevS sds i = z.script := by unfold prevS; rw [hzp]
            rw [hpv] at ho
            cases hmb : mvB q y.marks with
            | true =>
              rw [hmb] at hVM
              (conv => whnf); (repeat' (first | (refine arith_i ⟨by omega, by omega⟩ ?_; conv => whnf) | (refine arith_u ⟨by omega, by omega⟩ ?_; conv => whnf) | (refine arith_8 ⟨by omega, by omega⟩ ?_; conv => whnf) | (refine need_i (by first | omega | (simp only [List.length_cons, List.length_nil]; omega) | (simp only [List.length_append, List.length_cons, List.length_nil, List.length_map, List.length_replicate, List.length_modify]; omega)) ?_; conv => whnf) | ((with_reducible first | refine branch_tt ?_ | refine branch_ff ?_); conv => whnf) | (with_reducible refine branch_not ?_) | ((refine idx_cs hy ?_); conv => whnf) | ((refine idx_ms (by omega) (by rw [show ((i : Int) - 1).toNat = i - 1 by omega]; exact hzp) ?_); conv => whnf) | ((refine call_e hScr ?_); conv => whnf) | ((refine call_e hCT ?_); conv => whnf) | ((refine call_e hIP ?_); conv => whnf) | ((refine idx_cs hqj ?_); conv => whnf) | ((refine call_e hVM ?_); conv => whnf) | ((with_reducible first | refine slc_e ?_ | refine callS_a ?_ | refine bld_a ?_ | refine own_e ?_ | refine mkmap_b ?_ | refine lnk_a ?_); conv => whnf) | (refine draw_i 13 plGL26q_0 (by decide +kernel) ?_; (conv => whnf); fail_if_success (guard_target =~ False)) | (refine draw_i 13 plGL26q_1 (by decide +kernel) ?_; (conv => whnf); fail_if_success (guard_target =~ False)) | (refine draw_i 13 plGL26q_2 (by decide +kernel) ?_; (conv => whnf); fail_if_success (guard_target =~ False)) | (refine draw_i 12 plGL26q_3 (by decide +kernel) ?_; (conv => whnf); fail_if_success (guard_target =~ False)) | (refine draw_i 12 plGL26q_4 (by decide +kernel) ?_; (conv => whnf); fail_if_success (guard_target =~ False)) | (refine draw_i 12 plGL26q_5 (by decide +kernel) ?_; (conv => whnf); fail_if_success (guard_target =~ False)) | ((with_reducible refine And.intro ?_ ?_) <;> (conv => whnf)) | (with_reducible exact trivial) | ((with_reducible first | refine branch_d (fun hq => ?_) (fun hq => ?_) | refine branch_e (fun hq => ?_) (fun hq => ?_) | refine branch_n (fun hq => ?_) (fun hq => ?_) | refine branch_i (fun hq => ?_) (fun hq => ?_)) <;> (try (exfalso; omega)) <;> (conv => whnf))))
              all_goals exact ⟨i + 1, ⟨by omega, hE4 hmb⟩, (le_mk (by repeat' (first | exact trivial | rfl | apply And.intro)) (by repeat' (first | exact trivial | rfl | apply And.intro)) rfl), by omega⟩
            | false =>
              rw [hmb] at hVM
              (conv => whnf); (repeat' (first | (refine arith_i ⟨by omega, by omega⟩ ?_; conv => whnf) | (refine arith_u ⟨by omega, by omega⟩ ?_; conv => whnf) | (refine arith_8 ⟨by omega, by omega⟩ ?_; conv => whnf) | (refine need_i (by first | omega | (simp only [List.length_cons, List.length_nil]; omega) | (simp only [List.length_append, List.length_cons, List.length_nil, List.length_map, List.length_replicate, List.length_modify]; omega)) ?_; conv => whnf) | ((with_reducible first | refine branch_tt ?_ | refine branch_ff ?_); conv => whnf) | (with_reducible refine branch_not ?_) | ((refine idx_cs hy ?_); conv => whnf) | ((refine idx_ms (by omega) (by rw [show ((i : Int) - 1).toNat = i - 1 by omega]; exact hzp) ?_); conv => whnf) | ((refine call_e hScr ?_); conv => whnf) | ((refine call_e hCT ?_); conv => whnf) | ((refine call_e hIP ?_); conv => whnf) | ((refine idx_cs hqj ?_); conv => whnf) | ((refine call_e hVM ?_); conv => whnf) | ((with_reducible first | refine slc_e ?_ | refine callS_a ?_ | refine bld_a ?_ | refine own_e ?_ | refine mkmap_b ?_ | refine lnk_a ?_); conv => whnf) | (refine draw_i 13 plGL26q_0 (by decide +kernel) ?_; (conv => whnf); fail_if_success (guard_target =~ False)) | (refine draw_i 13 plGL26q_1 (by decide +kernel) ?_; (conv => whnf); fail_if_success (guard_target =~ False)) | (refine draw_i 13 plGL26q_2 (by decide +kernel) ?_; (conv => whnf); fail_if_success (guard_target =~ False)) | (refine draw_i 12 plGL26q_3 (by decide +kernel) ?_; (conv => whnf); fail_if_success (guard_target =~ False)) | (refine draw_i 12 plGL26q_4 (by decide +kernel) ?_; (conv => whnf); fail_if_success (guard_target =~ False)) | (refine draw_i 12 plGL26q_5 (by decide +kernel) ?_; (conv => whnf); fail_if_success (guard_target =~ False)) | ((with_reducible refine And.intro ?_ ?_) <;> (conv => whnf)) | (with_reducible exact trivial) | ((with_reducible first | refine branch_d (fun hq => ?_) (fun hq => ?_) | refine branch_e (fun hq => ?_) (fun hq => ?_) | refine branch_n (fun hq => ?_) (fun hq => ?_) | refine branch_i (fun hq => ?_) (fun hq => ?_)) <;> (try (exfalso; omega)) <;> (conv => whnf))))
              all_goals exact ret_p rfl (hE3 hmb)
  · (conv => whnf); (repeat' (first | (refine arith_i ⟨by omega, by omega⟩ ?_; conv => whnf) | (refine arith_u ⟨by omega, by omega⟩ ?_; conv => whnf) | (refine arith_8 ⟨by omega, by omega⟩ ?_; conv => whnf) | (refine need_i (by first | omega | (simp only [List.length_cons, List.length_nil]; omega) | (simp only [List.length_append, List.length_cons, List.length_nil, List.length_map, List.length_replicate, List.length_modify]; omega)) ?_; conv => whnf) | ((with_reducible first | refine branch_tt ?_ | refine branch_ff ?_); conv => whnf) | (with_reducible refine branch_not ?_) | ((with_reducible first | refine slc_e ?_ | refine callS_a ?_ | refine bld_a ?_ | refine own_e ?_ | refine mkmap_b ?_ | refine lnk_a ?_); conv => whnf) | (refine draw_i 13 plGL26q_0 (by decide +kernel) ?_; (conv => whnf); fail_if_success (guard_target =~ False)) | (refine draw_i 13 plGL26q_1 (by decide +kernel) ?_; (conv => whnf); fail_if_success (guard_target =~ False)) | (refine draw_i 13 plGL26q_2 (by decide +kernel) ?_; (conv => whnf); fail_if_success (guard_target =~ False)) | (refine draw_i 12 plGL26q_3 (by decide +kernel) ?_; (conv => whnf); fail_if_success (guard_target =~ False)) | (refine draw_i 12 plGL26q_4 (by decide +kernel) ?_; (conv => whnf); fail_if_success (guard_target =~ False)) | (refine draw_i 12 plGL26q_5 (by decide +kernel) ?_; (conv => whnf); fail_if_success (guard_target =~ False)) | ((with_reducible refine And.intro ?_ ?_) <;> (conv => whnf)) | (with_reducible exact trivial) | ((with_reducible first | refine branch_d (fun hq => ?_) (fun hq => ?_) | refine branch_e (fun hq => ?_) (fun hq => ?_) | refine branch_n (fun hq => ?_) (fun hq => ?_) | refine branch_i (fun hq => ?_) (fun hq => ?_)) <;> (try (exfalso; omega)) <;> (conv => whnf))))
    obtain rfl : i = sds.length := by omega
    exact ret_p rfl (int_eq hz.symm)
end Go.Proofs.Ythgnomniboindaa
end
