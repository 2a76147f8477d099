/- Layer 10: each goes through all choices that meet a program, in ascending order. (Printed by wip/mk10c.py.) -/
import Derived.Test.YtjgaacjfoaohnaaGL10b
namespace Go.Proofs.Ytjgaacjfoaohnaa
set_option linter.unusedVariables false
set_option linter.unusedSimpArgs false
set_option linter.unnecessarySimpa false
set_option linter.unusedSectionVars false
set_option maxRecDepth 10000
open Go.RowKit
def plGL10c_0 : Plan := (.take 0 (.take 1 (.take 2 (.take 3 (.take 4 (.take 5 (.take 6 (.take 7 (.take 8 (.take 9 (.alt 10 .done .stop)))))))))))
def plGL10c_1 : Plan := (.take 0 (.take 1 (.take 2 (.take 3 (.take 4 (.take 5 (.take 6 (.take 7 (.alt 8 (.take 9 (.alt 10 .done .stop)) .stop)))))))))
def plGL10c_2 : Plan := (.take 1 (.take 2 (.take 3 (.take 4 (.take 6 (.alt 0 (.alt 5 (.take 7 (.alt 8 (.take 9 (.alt 10 .done .stop)) .stop)) .stop) (.alt 5 (.take 7 (.alt 0 (.alt 8 (.take 9 (.alt 10 .done .stop)) .stop) (.alt 8 (.take 9 (.alt 0 (.alt 10 .done .stop) .stop)) .stop))) .stop)))))))
def plGL10c_3 : Plan := (.take 1 (.take 2 (.take 3 (.take 4 (.take 6 (.alt 0 (.alt 5 (.take 7 (.alt 8 (.take 9 (.altM 10 .done .stop)) .stop)) .stop) (.alt 5 (.take 7 (.alt 0 (.alt 8 (.take 9 (.altM 10 .done .stop)) .stop) (.alt 8 (.take 9 (.alt 0 (.altM 10 .done .stop) .stop)) .stop))) .stop)))))))
def sumsF (P : Prog) (ch : List Int) : List Int := P.rows.map fun r => sumOf r.coefs ch
def srchA : List AV := [.ptr 1003 0, .ptr 1005 0, .ptr 1004 0, .ptr 1000 0, .ptr 1002 0, .ptr 1006 0]
theorem sumsF_len {P : Prog} {ch : List Int} : (sumsF P ch).length = P.rows.length := by simp [sumsF]
theorem sumsF_nth {P : Prog} {ch : List Int} {j : Nat} (h : j < P.rows.length) : nth (sumsF P ch) j = sumOf (rowAt P.rows j).coefs ch := by
  simp [sumsF, nth, rowAt, List.getD_eq_getElem?_getD, h]
theorem sums_met {P : Prog} {ch : List Int} : sumsOkB P.rows (sumsF P ch) = metB P ch := by
  cases h : metB P ch with
  | true =>
    refine sumsOk_good fun k hk => ?_
    have := List.all_eq_true.1 h _ (rowAt_mem hk)
    simp only [meetB, Bool.and_eq_true, decide_eq_true_eq] at this
    rw [sumsF_nth hk]
    exact this
  | false =>
    cases hs : sumsOkB P.rows (sumsF P ch) with
    | false => rfl
    | true =>
      have : metB P ch = true := by
        refine AllR.full (k := P.rows.length) (fun j hj => ?_) (Nat.le_refl _)
        have := List.all_eq_true.1 hs j (List.mem_range.2 hj)
        rw [sumsF_nth hj] at this
        simpa [meetB] using this
      rw [h] at this
      cases this
theorem here_met {P : Prog} {ch : List Int} (h : sumsOkB P.rows (sumsF P ch) = true) : here P ch = [ch] := by rw [here, if_pos]; rw [← sums_met]; exact h
theorem here_not {P : Prog} {ch : List Int} (h : sumsOkB P.rows (sumsF P ch) = false) : here P ch = [] := by rw [here, if_neg]; rw [← sums_met, h]; decide
theorem vis_snoc {P : Prog} {ch : List Int} {k : Nat} (hk : k < P.costs.length) : loopF P (P.costs.length - k) ch k = visF P (ch ++ [(k : Int)]) (k + 1) ++ loopF P (P.costs.length - (k + 1)) ch (k + 1) := by
  rw [show P.costs.length - k = (P.costs.length - (k + 1)) + 1 by omega, loopF, visF]
theorem asc_len {lo hi : Nat} {ch : List Int} (h : Asc lo hi ch) : ch.length ≤ hi - lo := by
  obtain ⟨h1, h2⟩ := h
  induction ch generalizing lo with
  | nil => simp
  | cons x ch ih =>
    have hp := List.pairwise_cons.1 h1
    have hx := h2 x (by simp)
    have := ih (lo := x.toNat + 1) hp.2 fun y hy => by have := hp.1 y hy; have := h2 y (by simp [hy]); omega
    simp only [List.length_cons]
    omega
theorem sum_in {P : Prog} (hv : validB P = true) {ch : List Int} (h : Asc 0 P.costs.length ch) {r : Row} (hr : r ∈ P.rows) : -1000000 ≤ sumOf r.coefs ch ∧ sumOf r.coefs ch ≤ 1000000 := by
  have h1 := valid_rows hv hr
  have h2 := asc_len h
  have h3 := (validB_parts hv).1
  have := sumTo_bd (vs := r.coefs) (ch := ch) (n := r.coefs.length) h1.2.1 ch.length fun i hi => by
    have := h.2 _ (nth_mem hi); omega
  unfold sumOf
  omega
theorem costs_sum {P : Prog} (hv : validB P = true) {ch : List Int} (h : Asc 0 P.costs.length ch) : -1000000 ≤ sumOf P.costs ch ∧ sumOf P.costs ch ≤ 1000000 := by
  have h2 := asc_len h
  have h3 := (validB_parts hv).1
  have := sumTo_bd (vs := P.costs) (ch := ch) (n := P.costs.length) (fun i hi => costs_in hv i hi) ch.length fun i hi => by
    have := h.2 _ (nth_mem hi); omega
  unfold sumOf
  omega
theorem sumsF_in {P : Prog} (hv : validB P = true) {ch : List Int} (h : Asc 0 P.costs.length ch) : ∀ j, j < (sumsF P ch).length → -1000000 ≤ nth (sumsF P ch) j ∧ nth (sumsF P ch) j ≤ 1000000 := fun j hj => by
  rw [sumsF_len] at hj
  rw [sumsF_nth hj]
  exact sum_in hv h (rowAt_mem hj)
theorem addF_on {P : Prog} {ch : List Int} {k : Nat} : addF P.rows (sumsF P ch) k 1 = sumsF P (ch ++ [(k : Int)]) := by
  refine nth_ext (by rw [addF_len, sumsF_len, sumsF_len]) fun j hj => ?_
  rw [addF_len, sumsF_len] at hj
  rw [addF_nth (by rw [sumsF_len]; exact hj), sumsF_nth hj, sumsF_nth hj, sumOf_snoc]
  omega
theorem addF_off {P : Prog} {ch : List Int} {k : Nat} : addF P.rows (sumsF P (ch ++ [(k : Int)])) k (-1) = sumsF P ch := by
  refine nth_ext (by rw [addF_len, sumsF_len, sumsF_len]) fun j hj => ?_
  rw [addF_len, sumsF_len] at hj
  rw [addF_nth (by rw [sumsF_len]; exact hj), sumsF_nth hj, sumsF_nth hj, sumOf_snoc]
  omega
theorem addOn_ok (P : Prog) (ch : List Int) (k : Nat) (hv : validB P = true) (ha : Asc 0 P.costs.length ch) (hk : k < P.costs.length) : GoodM Try.prog TT false 77 [.int .i64 k, .int .i64 1, .ptr 1000 0, .ptr 1001 0] [(1000, [ints P.costs, rowsV P.rows]), (1001, [.own 1101 3 1 ((sumsF P ch).map encI)])]
    (fun r ov bx => r = .tup [] ∧ ov = [] ∧ bx = [(1000, [ints P.costs, rowsV P.rows]), (1001, [.own 1101 3 1 ((sumsF P (ch ++ [(k : Int)])).map encI)])]) := by
  have := add_ok P (sumsF P ch) k 1 hv (by omega) (.inl rfl) (sumsF_in hv ha) sumsF_len
  rwa [addF_on] at this
theorem addOff_ok (P : Prog) (ch : List Int) (k : Nat) (hv : validB P = true) (ha : Asc 0 P.costs.length (ch ++ [(k : Int)])) (hk : k < P.costs.length) : GoodM Try.prog TT false 77 [.int .i64 k, .int .i64 (-1), .ptr 1000 0, .ptr 1001 0] [(1000, [ints P.costs, rowsV P.rows]), (1001, [.own 1101 3 1 ((sumsF P (ch ++ [(k : Int)])).map encI)])]
    (fun r ov bx => r = .tup [] ∧ ov = [] ∧ bx = [(1000, [ints P.costs, rowsV P.rows]), (1001, [.own 1101 3 1 ((sumsF P ch).map encI)])]) := by
  have := add_ok P (sumsF P (ch ++ [(k : Int)])) k (-1) hv (by omega) (.inr rfl) (sumsF_in hv ha) sumsF_len
  rwa [addF_off] at this
theorem snocI' {xs : List Int} {x : Int} : xs.map encI ++ [[AV.int .i64 x]] = (xs ++ [x]).map encI := by simp [encI]
theorem less_I {xs : List Int} {x y : Int} (h : y = ((xs ++ [x]).map encI).length - 1) : ((((xs ++ [x]).map encI).take y.toNat).drop (Int.toNat 0)) = xs.map encI := by
  have : y.toNat = (xs.map encI).length := by rw [h]; simp
  rw [this, List.map_append, List.take_left]
  rfl
theorem repl_sums (P : Prog) : List.replicate ((P.rows.map encRow).length : Int).toNat [AV.int .i64 0] = (sumsF P []).map encI := by
  have e : sumsF P [] = List.replicate P.rows.length 0 := by
    rw [sumsF]
    refine List.ext_getElem? fun i => ?_
    rw [List.getElem?_map, List.getElem?_replicate]
    split
    · next h => rw [List.getElem?_eq_getElem h]; rfl
    · next h => rw [List.getElem?_eq_none (by omega)]; rfl
  rw [e, List.map_replicate, List.length_map, Int.toNat_natCast]
  rfl
def vcA (σ : List (List Int)) : List AV := [.own 1110 22 1 (σ.map encS)]
def vstepA (P : Prog) (σ : List (List Int)) (ch : List Int) : List (List Int) := σ ++ [ch]
def cndA (σ : List (List Int)) (L : List (List Int)) : Prop := (σ.length + L.length ≤ 100000)
theorem cndA_app {P : Prog} {a b : List (List Int)} {σ : List (List Int)} (h : cndA σ (a ++ b)) : cndA σ a ∧ cndA (a.foldl (vstepA P) σ) b := by
  unfold cndA at *
  first
    | exact ⟨trivial, trivial⟩
    | (have e : ∀ (a : List (List Int)) (σ : List (List Int)), a.foldl (vstepA P) σ = σ ++ a := fun a => by
         induction a with
         | nil => intro σ; simp
         | cons x a ih => intro σ; rw [List.foldl_cons, ih]; simp [vstepA]
       rw [e]
       simp at h ⊢
       omega)
def vcS (σ : Bool × Int × List Int) : List AV := plC σ
def vstepS (P : Prog) (σ : Bool × Int × List Int) (ch : List Int) : Bool × Int × List Int := bestS P σ ch
def cndS (σ : Bool × Int × List Int) (L : List (List Int)) : Prop := True
def sBxS (P : Prog) (ch : List Int) (σ : Bool × Int × List Int) : List (Nat × List AV) := [(1000, [ints P.costs, rowsV P.rows]), (1001, [.own 1101 3 1 ((sumsF P ch).map encI)]), (1002, [.fn 77 [.ptr 1000 0, .ptr 1001 0]]), (1003, [.fn 78 [.ptr 1000 0, .ptr 1001 0]]), (1004, [.own 1104 3 1 (ch.map encI)]), (1005, [.fn 54 [.ptr 1010 0]]), (1006, [.fn 79 srchA]), (1010, vcS σ)]
theorem cndS_app {P : Prog} {a b : List (List Int)} {σ : Bool × Int × List Int} (h : cndS σ (a ++ b)) : cndS σ a ∧ cndS (a.foldl (vstepS P) σ) b := by
  unfold cndS at *
  first
    | exact ⟨trivial, trivial⟩
    | (have e : ∀ (a : List (List Int)) (σ : List (List Int)), a.foldl (vstepS P) σ = σ ++ a := fun a => by
         induction a with
         | nil => intro σ; simp
         | cons x a ih => intro σ; rw [List.foldl_cons, ih]; simp [vstepS]
       rw [e]
       simp at h ⊢
       omega)
set_option maxHeartbeats 4000000 in
theorem searchS_ok (P : Prog) (hv : validB P = true) : ∀ (m : Nat) (ch : List Int) (i : Nat) (cost : Int) (σ : Bool × Int × List Int), m = P.costs.length - i → i ≤ P.costs.length → Asc 0 i ch → cost = sumOf P.costs ch → cndS σ (visF P ch i) →
    GoodM Try.prog TT false 79 (.int .i64 i :: .int .i64 cost :: srchA) (sBxS P ch σ) (fun r ov bx => r = .tup [] ∧ ov = [] ∧ bx = sBxS P ch ((visF P ch i).foldl (vstepS P) σ)) := by
  have hr := (validB_parts hv).2.1
  have hcl := (validB_parts hv).1
  have LP : (P.costs.map encI).length = P.costs.length := List.length_map ..
  intro m
  induction m using Nat.strongRecOn with
  | ind m IH =>
    intro ch i cost τ hm hi ha hc hcnd0
    have hlen := asc_len ha
    have hcnd1 := cndS_app (P := P) hcnd0
    have hvis : visF P ch i = here P ch ++ loopF P (P.costs.length - i) ch i := rfl
    subst hc
    have hcnd := hcnd1.1
    refine good_of_m (fun _ => false) mixed tabOk Try.func79 rfl rfl Try.ntmps79 Try.results79 rfl rfl ?_
    (conv => whnf); (repeat' (first | (refine arith_i ⟨by omega, by omega⟩ ?_; conv => whnf) | (refine arith_u ⟨by omega, by omega⟩ ?_; conv => whnf) | (refine arith_8 ⟨by omega, by omega⟩ ?_; conv => whnf) | (refine need_i (by first | omega | (simp only [List.length_append, List.length_cons, List.length_nil, List.length_map, List.length_replicate, List.length_modify]; omega)) ?_; conv => whnf) | ((with_reducible refine branch_tt ?_); conv => whnf) | ((with_reducible refine branch_ff ?_); conv => whnf) | (with_reducible refine branch_not ?_) | ((refine call_e (met_ok P (sumsF P ch) sumsF_len hr) ?_); conv => whnf) | (((rw [here_met hq] at hcnd; unfold cndS at hcnd; (try simp only [List.length_singleton] at hcnd); refine mcall_e [(1010, 1010)] [(1105, 1104)] (visSolve_ok P ch τ (by omega)) rfl rfl rfl ⟨⟨_, rfl, rfl, rfl⟩, trivial⟩ rfl ?_)); conv => whnf) | ((with_reducible refine slc_e ?_); conv => whnf) | ((with_reducible refine callS_a ?_); conv => whnf) | ((with_reducible refine own_e ?_); conv => whnf) | (refine draw_i 0 plGL10c_3 (by decide +kernel) ?_; (conv => whnf); fail_if_success (guard_target =~ False)) | (refine draw_i 11 plGL10c_0 (by decide +kernel) ?_; (conv => whnf); fail_if_success (guard_target =~ False)) | (refine draw_i 11 plGL10c_1 (by decide +kernel) ?_; (conv => whnf); fail_if_success (guard_target =~ False)) | (refine draw_i 11 plGL10c_2 (by decide +kernel) ?_; (conv => whnf); fail_if_success (guard_target =~ False)) | ((with_reducible refine And.intro ?_ ?_) <;> (conv => whnf)) | (with_reducible exact trivial) | ((with_reducible refine branch_d (fun hq => ?_) (fun hq => ?_)) <;> (try (exfalso; omega)) <;> (conv => whnf)) | ((with_reducible refine branch_e (fun hq => ?_) (fun hq => ?_)) <;> (try (exfalso; omega)) <;> (conv => whnf)) | ((with_reducible refine branch_n (fun hq => ?_) (fun hq => ?_)) <;> (try (exfalso; omega)) <;> (conv => whnf)) | ((with_reducible refine branch_i (fun hq => ?_) (fun hq => ?_)) <;> (try (exfalso; omega)) <;> (conv => whnf))))
    all_goals
      refine loop_i2 (fun (k : Nat) (τ' : Bool × Int × List Int) => i ≤ k ∧ k ≤ P.costs.length ∧ cndS τ' (loopF P (P.costs.length - k) ch k) ∧ (loopF P (P.costs.length - k) ch k).foldl (vstepS P) τ' = (visF P ch i).foldl (vstepS P) τ)
        (fun k τ' => mkSt [(1, .int .i64 (sumOf P.costs ch)), (4, .ptr 1004 0), (5, .ptr 1000 0), (6, .ptr 1002 0), (7, .ptr 1006 0), (10, .int .i64 k)] (sBxS P ch τ') false) (fun k _ => P.costs.length - k) i ((here P ch).foldl (vstepS P) τ) ⟨Nat.le_refl _, hi, hcnd1.2, by rw [hvis, List.foldl_append]⟩ ?_ ?_
      · first
          | (rw [here_met hq]; exact (le_mk (by repeat' (first | exact trivial | rfl | apply And.intro)) (by repeat' (first | exact trivial | rfl | apply And.intro)) rfl))
          | (rw [here_not hq]; exact (le_mk (by repeat' (first | exact trivial | rfl | apply And.intro)) (by repeat' (first | exact trivial | rfl | apply And.intro)) rfl))
      rintro k τ' ⟨hik, hkn, hcn, hfold⟩
      have haN : Asc 0 P.costs.length ch := ha.mono hi
      have hsum := costs_sum hv haN
      have hspl := fun h : k < P.costs.length => vis_snoc (P := P) (ch := ch) h
      (conv => whnf); (repeat' (first | (refine arith_i ⟨by omega, by omega⟩ ?_; conv => whnf) | (refine arith_u ⟨by omega, by omega⟩ ?_; conv => whnf) | (refine arith_8 ⟨by omega, by omega⟩ ?_; conv => whnf) | (refine need_i (by first | omega | (simp only [List.length_append, List.length_cons, List.length_nil, List.length_map, List.length_replicate, List.length_modify]; omega)) ?_; conv => whnf) | ((with_reducible refine branch_tt ?_); conv => whnf) | ((with_reducible refine branch_ff ?_); conv => whnf) | (with_reducible refine branch_not ?_) | (((refine idx_c (xs := P.costs) (by omega) fun y hy => ?_; have hyc := nth_eq hy; have hyb := costs_in hv k (by omega); have hkl : k < P.costs.length := (by omega); have hsp := hspl hkl; rw [hsp] at hcn hfold; have hcn2 := cndS_app (P := P) hcn; rw [List.foldl_append] at hfold; have hak : Asc 0 (k + 1) (ch ++ [(k : Int)]) := (ha.mono hik).snoc hkl; have LK : ((ch ++ [(k : Int)]).map encI).length = ch.length + 1 := (by simp))); conv => whnf) | ((simp only [snocI']); conv => whnf) | ((refine mcall_e [(1000, 1000), (1001, 1001)] [(1101, 1101)] (addOn_ok P ch k hv haN (by omega)) rfl rfl rfl ⟨⟨_, rfl, rfl, rfl⟩, ⟨_, rfl, rfl, rfl⟩, trivial⟩ rfl ?_); conv => whnf) | ((refine mcall_e [(1000, 1000), (1001, 1001), (1002, 1002), (1003, 1003), (1004, 1004), (1005, 1005), (1006, 1006), (1010, 1010)] [(1101, 1101), (1104, 1104)] (IH (P.costs.length - (k + 1)) (by omega) (ch ++ [(k : Int)]) (k + 1) (sumOf P.costs ch + y) τ' rfl (by omega) hak (by rw [sumOf_snoc, Int.toNat_natCast, hyc]) hcn2.1) rfl rfl rfl ⟨⟨_, rfl, rfl, rfl⟩, ⟨_, rfl, rfl, rfl⟩, ⟨_, rfl, rfl, rfl⟩, ⟨_, rfl, rfl, rfl⟩, ⟨_, rfl, rfl, rfl⟩, ⟨_, rfl, rfl, rfl⟩, ⟨_, rfl, rfl, rfl⟩, ⟨_, rfl, rfl, rfl⟩, trivial⟩ rfl ?_); conv => whnf) | ((refine mcall_e [(1000, 1000), (1001, 1001)] [(1101, 1101)] (addOff_ok P ch k hv (hak.mono hkl) (by omega)) rfl rfl rfl ⟨⟨_, rfl, rfl, rfl⟩, ⟨_, rfl, rfl, rfl⟩, trivial⟩ rfl ?_); conv => whnf) | ((refine slc_o ?_); conv => whnf) | (((refine sub_i ⟨by omega, by omega, by omega⟩ ?_; rw [less_I rfl])); conv => whnf) | ((with_reducible refine slc_e ?_); conv => whnf) | ((with_reducible refine callS_a ?_); conv => whnf) | ((with_reducible refine own_e ?_); conv => whnf) | (refine draw_i 0 plGL10c_3 (by decide +kernel) ?_; (conv => whnf); fail_if_success (guard_target =~ False)) | (refine draw_i 11 plGL10c_0 (by decide +kernel) ?_; (conv => whnf); fail_if_success (guard_target =~ False)) | (refine draw_i 11 plGL10c_1 (by decide +kernel) ?_; (conv => whnf); fail_if_success (guard_target =~ False)) | (refine draw_i 11 plGL10c_2 (by decide +kernel) ?_; (conv => whnf); fail_if_success (guard_target =~ False)) | ((with_reducible refine And.intro ?_ ?_) <;> (conv => whnf)) | (with_reducible exact trivial) | ((with_reducible refine branch_d (fun hq => ?_) (fun hq => ?_)) <;> (try (exfalso; omega)) <;> (conv => whnf)) | ((with_reducible refine branch_e (fun hq => ?_) (fun hq => ?_)) <;> (try (exfalso; omega)) <;> (conv => whnf)) | ((with_reducible refine branch_n (fun hq => ?_) (fun hq => ?_)) <;> (try (exfalso; omega)) <;> (conv => whnf)) | ((with_reducible refine branch_i (fun hq => ?_) (fun hq => ?_)) <;> (try (exfalso; omega)) <;> (conv => whnf))))
      all_goals first
        | (have hkk : k = P.costs.length := by omega
           rw [hkk, Nat.sub_self] at hfold
           have hfold' : τ' = (visF P ch i).foldl (vstepS P) τ := hfold
           rw [← hfold']
           exact retM_i (.tup []) [] (sBxS P ch τ') rfl (le_mk (by repeat' (first | exact trivial | rfl | apply And.intro)) (by repeat' (first | exact trivial | rfl | apply And.intro)) rfl) rfl ⟨rfl, rfl, rfl⟩)
        | exact ⟨k + 1, (visF P (ch ++ [(k : Int)]) (k + 1)).foldl (vstepS P) τ', ⟨by omega, by omega, hcn2.2, hfold⟩, (le_mk (by repeat' (first | exact trivial | rfl | apply And.intro)) (by repeat' (first | exact trivial | rfl | apply And.intro)) rfl), by omega⟩
set_option maxHeartbeats 4000000 in
theorem eachS_ok (P : Prog) (σ : Bool × Int × List Int) (hv : validB P = true) (hc : cndS σ (allF P)) : GoodM Try.prog TT false 53 [progV P, .fn 54 [.ptr 1010 0]] [(1010, vcS σ)] (fun r ov bx => r = .tup [] ∧ ov = [] ∧ bx = [(1010, vcS ((allF P).foldl (vstepS P) σ))]) := by
  have hr := (validB_parts hv).2.1
  have LR : (P.rows.map encRow).length = P.rows.length := List.length_map ..
  refine good_of_m (fun _ => false) mixed tabOk Try.func53 rfl rfl Try.ntmps53 Try.results53 rfl rfl ?_
  (conv => whnf)
  repeat (first | (refine arith_i ⟨by omega, by omega⟩ ?_; conv => whnf) | (refine need_i (by omega) ?_; conv => whnf))
  refine mcall_i [(1000, 2), (1001, 4), (1002, 5), (1003, 6), (1004, 7), (1005, 3), (1006, 8), (1010, 1010)] [(1101, 12), (1104, 1104)] _ (le_adoptBox 7 0 1104 3 1 rfl rfl) (searchS_ok P hv (P.costs.length - 0) [] 0 0 σ rfl (Nat.zero_le _) ⟨List.Pairwise.nil, by simp⟩ rfl hc) rfl rfl rfl ⟨⟨_, rfl, rfl, rfl⟩, ⟨_, rfl, by rw [← repl_sums P]; rfl, rfl⟩, ⟨_, rfl, rfl, rfl⟩, ⟨_, rfl, rfl, rfl⟩, ⟨_, rfl, rfl, rfl⟩, ⟨_, rfl, rfl, rfl⟩, ⟨_, rfl, rfl, rfl⟩, ⟨_, rfl, rfl, rfl⟩, trivial⟩ ?_
  rintro r ov bx' ⟨rfl, rfl, rfl⟩
  refine ⟨rfl, ?_⟩
  conv => whnf
  exact retM_i (.tup []) [] [(1010, vcS ((allF P).foldl (vstepS P) σ))] rfl (le_mk (by repeat' (first | exact trivial | rfl | apply And.intro)) (by repeat' (first | exact trivial | rfl | apply And.intro)) rfl) rfl ⟨rfl, rfl, rfl⟩
end Go.Proofs.Ytjgaacjfoaohnaa
