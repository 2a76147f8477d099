/- Layer 5: Path of both sides, Under of the reference. -/
import Derived.Test.YtkmagoljpfpgmaaGL05r
namespace Go.Proofs.Ytkmagoljpfpgmaa
set_option linter.unusedVariables false
set_option linter.unusedSimpArgs false
set_option linter.unnecessarySimpa false
set_option linter.unusedSectionVars false
set_option maxRecDepth 10000
open Go.RowKit
theorem filt_succ {q : Nat → Bool} {k : Nat} : (List.range (k + 1)).filter q = (List.range k).filter q ++ (if q k = true then [k] else []) := by
  rw [List.range_succ, List.filter_append]
  cases h : q k <;> simp [h]
theorem filt_len {q : Nat → Bool} {k : Nat} : ((List.range k).filter q).length ≤ k := Nat.le_trans (List.length_filter_le ..) (by simp)
theorem toI_len {l : List Nat} : (toI l).length = l.length := by simp [toI]
def pathF (s : Syl) (a : Int) : List Int := if topB s a = true then toI (pathN (parF s) s.tops.length a.toNat) else []
theorem up_fuel {p : Nat → Int} (hp : ∀ k, -1 ≤ p k ∧ p k < k) : ∀ {f g t : Nat}, t < f → t < g → upN p f t = upN p g t
  | 0, _, t, h, _ => by omega
  | f + 1, 0, t, _, h => by omega
  | f + 1, g + 1, t, h1, h2 => by
    have := hp t
    rw [upN, upN]
    by_cases h0 : p t < 0
    · rw [if_pos h0, if_pos h0]
    · rw [if_neg h0, if_neg h0, up_fuel hp (f := f) (g := g) (by omega) (by omega)]
def upI (p : Nat → Int) (b : Int) : List Nat := if b < 0 then [] else upN p (b.toNat + 1) b.toNat
theorem upI_step {p : Nat → Int} (hp : ∀ k, -1 ≤ p k ∧ p k < k) {b : Int} (hb : 0 ≤ b) : upI p b = b.toNat :: upI p (p b.toNat) := by
  have := hp b.toNat
  rw [upI, if_neg (by omega), upN, upI]
  by_cases h0 : p b.toNat < 0
  · rw [if_pos h0, if_pos h0]
  · rw [if_neg h0, if_neg h0, up_fuel hp (f := b.toNat) (g := (p b.toNat).toNat + 1) (t := (p b.toNat).toNat) (by omega) (by omega)]
theorem up_len {p : Nat → Int} : ∀ {f t : Nat}, (upN p f t).length ≤ f
  | 0, _ => by simp [upN]
  | f + 1, t => by
    rw [upN]
    split
    · simp
    · have := up_len (p := p) (f := f) (t := (p t).toNat); simp; omega
set_option maxHeartbeats 2000000 in
theorem rUnder_ok (s : Syl) (hs : ShortS s) (a : Int) : Good Try.prog TT false 14 [sylV s, .int .i64 a] (· = ints (underF s a)) := by
  have L1 : (s.tops.map encTpc).length = s.tops.length := List.length_map ..
  refine good_of mixed tabOk Try.func14 rfl rfl Try.ntmps14 Try.results14 rfl rfl ?_
  (conv => whnf); (repeat' (first | (refine arith_i ⟨by omega, by omega⟩ ?_; conv => whnf) | (refine arith_u ⟨by omega, by omega⟩ ?_; conv => whnf) | (refine arith_8 ⟨by omega, by omega⟩ ?_; conv => whnf) | (refine need_i (by first | omega | (simp only [List.length_append, List.length_cons, List.length_nil, List.length_map, List.length_replicate, List.length_modify]; omega)) ?_; conv => whnf) | ((with_reducible refine branch_tt ?_); conv => whnf) | ((with_reducible refine branch_ff ?_); conv => whnf) | (with_reducible refine branch_not ?_) | ((refine call_e (rtopic_ok s hs a) ?_); conv => whnf) | ((with_reducible refine slc_e ?_); conv => whnf) | ((with_reducible refine callS_a ?_); conv => whnf) | ((with_reducible refine bld_a ?_); conv => whnf) | ((with_reducible refine own_e ?_); conv => whnf) | ((with_reducible refine mkmap_b ?_); conv => whnf) | ((with_reducible refine branch_d (fun hq => ?_) (fun hq => ?_)) <;> (try (exfalso; omega)) <;> (conv => whnf)) | ((with_reducible refine branch_e (fun hq => ?_) (fun hq => ?_)) <;> (try (exfalso; omega)) <;> (conv => whnf)) | ((with_reducible refine branch_n (fun hq => ?_) (fun hq => ?_)) <;> (try (exfalso; omega)) <;> (conv => whnf)) | ((with_reducible refine branch_i (fun hq => ?_) (fun hq => ?_)) <;> (try (exfalso; omega)) <;> (conv => whnf))))
  · have htp : topB s a = true := by simp_all
    obtain ⟨⟨ha, ha'⟩, hc⟩ := topB_parts htp
    obtain ⟨t, rfl⟩ : ∃ t : Nat, a = t := ⟨a.toNat, by omega⟩
    have hV := par_valid hc
    have h1000 := hs.1
    refine loop_i (fun k : Nat => k ≤ s.tops.length) (fun k => mkSt [(1, .int .i64 t), (2, .ptr 2 0), (5, .own 900 3 1 ((toI ((List.range k).filter (Ab (parF s) t))).map encI)), (6, .int .i64 k)] [(2, sylC s)] false) (fun k => s.tops.length - k) 0 (Nat.zero_le _) (Le.trans (le_adopt 5 900 3 1 rfl) (le_mk (by repeat' (first | exact trivial | rfl | apply And.intro)) (by repeat' (first | exact trivial | rfl | apply And.intro)) rfl)) ?_
    intro k hk
    have hfl := filt_len (q := (Ab (parF s) t)) (k := k)
    have LL : ((toI ((List.range k).filter (Ab (parF s) t))).map encI).length = ((List.range k).filter (Ab (parF s) t)).length := by simp [toI]
    have hnd : ((toI ((List.range k).filter (Ab (parF s) t))).map encI).length + 1 ≤ 1000000 := by rw [LL]; omega
    (conv => whnf); (repeat' (first | (refine arith_i ⟨by omega, by omega⟩ ?_; conv => whnf) | (refine arith_u ⟨by omega, by omega⟩ ?_; conv => whnf) | (refine arith_8 ⟨by omega, by omega⟩ ?_; conv => whnf) | (refine need_i (by first | omega | (simp only [List.length_append, List.length_cons, List.length_nil, List.length_map, List.length_replicate, List.length_modify]; omega)) ?_; conv => whnf) | ((with_reducible refine branch_tt ?_); conv => whnf) | ((with_reducible refine branch_ff ?_); conv => whnf) | (with_reducible refine branch_not ?_) | ((refine call_e (above_ok s t k hV h1000 (by omega)) ?_); conv => whnf) | ((with_reducible refine slc_e ?_); conv => whnf) | ((with_reducible refine callS_a ?_); conv => whnf) | ((with_reducible refine bld_a ?_); conv => whnf) | ((with_reducible refine own_e ?_); conv => whnf) | ((with_reducible refine mkmap_b ?_); conv => whnf) | ((with_reducible refine branch_d (fun hq => ?_) (fun hq => ?_)) <;> (try (exfalso; omega)) <;> (conv => whnf)) | ((with_reducible refine branch_e (fun hq => ?_) (fun hq => ?_)) <;> (try (exfalso; omega)) <;> (conv => whnf)) | ((with_reducible refine branch_n (fun hq => ?_) (fun hq => ?_)) <;> (try (exfalso; omega)) <;> (conv => whnf)) | ((with_reducible refine branch_i (fun hq => ?_) (fun hq => ?_)) <;> (try (exfalso; omega)) <;> (conv => whnf))))
    all_goals first
      | (refine ⟨k + 1, by omega, ?_, by omega⟩
         have e : toI ((List.range (k + 1)).filter (Ab (parF s) t)) = toI ((List.range k).filter (Ab (parF s) t)) ++ [(k : Int)] := by rw [filt_succ, if_pos (by assumption)]; simp [toI]
         rw [e, ← toI_snoc, Int.natCast_add]; exact (le_mk (by repeat' (first | exact trivial | rfl | apply And.intro)) (by repeat' (first | exact trivial | rfl | apply And.intro)) rfl))
      | (refine ⟨k + 1, by omega, ?_, by omega⟩
         have e : (List.range (k + 1)).filter (Ab (parF s) t) = (List.range k).filter (Ab (parF s) t) := by rw [filt_succ, if_neg (by simp_all)]; simp
         rw [e, Int.natCast_add]; exact (le_mk (by repeat' (first | exact trivial | rfl | apply And.intro)) (by repeat' (first | exact trivial | rfl | apply And.intro)) rfl))
      | (have e : k = s.tops.length := by omega
         subst e
         exact ret_ol (by rw [underF, if_pos htp, Int.toNat_natCast]; rfl))
  · exact ret_nl (by rw [underF, if_neg (by simp_all)]; rfl)
set_option maxHeartbeats 2000000 in
theorem rPath_ok (s : Syl) (hs : ShortS s) (a : Int) : Good Try.prog TT false 16 [sylV s, .int .i64 a] (· = ints (pathF s a)) := by
  have L1 : (s.tops.map encTpc).length = s.tops.length := List.length_map ..
  refine good_of mixed tabOk Try.func16 rfl rfl Try.ntmps16 Try.results16 rfl rfl ?_
  (conv => whnf); (repeat' (first | (refine arith_i ⟨by omega, by omega⟩ ?_; conv => whnf) | (refine arith_u ⟨by omega, by omega⟩ ?_; conv => whnf) | (refine arith_8 ⟨by omega, by omega⟩ ?_; conv => whnf) | (refine need_i (by first | omega | (simp only [List.length_append, List.length_cons, List.length_nil, List.length_map, List.length_replicate, List.length_modify]; omega)) ?_; conv => whnf) | ((with_reducible refine branch_tt ?_); conv => whnf) | ((with_reducible refine branch_ff ?_); conv => whnf) | (with_reducible refine branch_not ?_) | ((refine call_e (rtopic_ok s hs a) ?_); conv => whnf) | ((with_reducible refine slc_e ?_); conv => whnf) | ((with_reducible refine callS_a ?_); conv => whnf) | ((with_reducible refine bld_a ?_); conv => whnf) | ((with_reducible refine own_e ?_); conv => whnf) | ((with_reducible refine mkmap_b ?_); conv => whnf) | ((with_reducible refine branch_d (fun hq => ?_) (fun hq => ?_)) <;> (try (exfalso; omega)) <;> (conv => whnf)) | ((with_reducible refine branch_e (fun hq => ?_) (fun hq => ?_)) <;> (try (exfalso; omega)) <;> (conv => whnf)) | ((with_reducible refine branch_n (fun hq => ?_) (fun hq => ?_)) <;> (try (exfalso; omega)) <;> (conv => whnf)) | ((with_reducible refine branch_i (fun hq => ?_) (fun hq => ?_)) <;> (try (exfalso; omega)) <;> (conv => whnf))))
  · have htp : topB s a = true := by simp_all
    obtain ⟨⟨ha, ha'⟩, hc⟩ := topB_parts htp
    obtain ⟨t, rfl⟩ : ∃ t : Nat, a = t := ⟨a.toNat, by omega⟩
    have hV := par_valid hc
    have h1000 := hs.1
    refine loop_i (fun k : Nat => k ≤ s.tops.length) (fun k => mkSt [(1, .int .i64 t), (2, .ptr 2 0), (5, .own 900 3 1 ((toI ((List.range k).filter (fun i => Ab (parF s) i t))).map encI)), (6, .int .i64 k)] [(2, sylC s)] false) (fun k => s.tops.length - k) 0 (Nat.zero_le _) (Le.trans (le_adopt 5 900 3 1 rfl) (le_mk (by repeat' (first | exact trivial | rfl | apply And.intro)) (by repeat' (first | exact trivial | rfl | apply And.intro)) rfl)) ?_
    intro k hk
    have hfl := filt_len (q := (fun i => Ab (parF s) i t)) (k := k)
    have LL : ((toI ((List.range k).filter (fun i => Ab (parF s) i t))).map encI).length = ((List.range k).filter (fun i => Ab (parF s) i t)).length := by simp [toI]
    have hnd : ((toI ((List.range k).filter (fun i => Ab (parF s) i t))).map encI).length + 1 ≤ 1000000 := by rw [LL]; omega
    (conv => whnf); (repeat' (first | (refine arith_i ⟨by omega, by omega⟩ ?_; conv => whnf) | (refine arith_u ⟨by omega, by omega⟩ ?_; conv => whnf) | (refine arith_8 ⟨by omega, by omega⟩ ?_; conv => whnf) | (refine need_i (by first | omega | (simp only [List.length_append, List.length_cons, List.length_nil, List.length_map, List.length_replicate, List.length_modify]; omega)) ?_; conv => whnf) | ((with_reducible refine branch_tt ?_); conv => whnf) | ((with_reducible refine branch_ff ?_); conv => whnf) | (with_reducible refine branch_not ?_) | ((refine call_e (above_ok s k t hV h1000 (by omega)) ?_); conv => whnf) | ((with_reducible refine slc_e ?_); conv => whnf) | ((with_reducible refine callS_a ?_); conv => whnf) | ((with_reducible refine bld_a ?_); conv => whnf) | ((with_reducible refine own_e ?_); conv => whnf) | ((with_reducible refine mkmap_b ?_); conv => whnf) | ((with_reducible refine branch_d (fun hq => ?_) (fun hq => ?_)) <;> (try (exfalso; omega)) <;> (conv => whnf)) | ((with_reducible refine branch_e (fun hq => ?_) (fun hq => ?_)) <;> (try (exfalso; omega)) <;> (conv => whnf)) | ((with_reducible refine branch_n (fun hq => ?_) (fun hq => ?_)) <;> (try (exfalso; omega)) <;> (conv => whnf)) | ((with_reducible refine branch_i (fun hq => ?_) (fun hq => ?_)) <;> (try (exfalso; omega)) <;> (conv => whnf))))
    all_goals first
      | (refine ⟨k + 1, by omega, ?_, by omega⟩
         have e : toI ((List.range (k + 1)).filter (fun i => Ab (parF s) i t)) = toI ((List.range k).filter (fun i => Ab (parF s) i t)) ++ [(k : Int)] := by rw [filt_succ, if_pos (by assumption)]; simp [toI]
         rw [e, ← toI_snoc, Int.natCast_add]; exact (le_mk (by repeat' (first | exact trivial | rfl | apply And.intro)) (by repeat' (first | exact trivial | rfl | apply And.intro)) rfl))
      | (refine ⟨k + 1, by omega, ?_, by omega⟩
         have e : (List.range (k + 1)).filter (fun i => Ab (parF s) i t) = (List.range k).filter (fun i => Ab (parF s) i t) := by rw [filt_succ, if_neg (by simp_all)]; simp
         rw [e, Int.natCast_add]; exact (le_mk (by repeat' (first | exact trivial | rfl | apply And.intro)) (by repeat' (first | exact trivial | rfl | apply And.intro)) rfl))
      | (have e : k = s.tops.length := by omega
         subst e
         exact ret_ol (by rw [pathF, if_pos htp, Int.toNat_natCast]; rfl))
  · exact ret_nl (by rw [pathF, if_neg (by simp_all)]; rfl)
set_option maxHeartbeats 2000000 in
theorem path_ok (s : Syl) (hs : ShortS s) (a : Int) : Good Try.prog TT false 15 [sylV s, .int .i64 a] (· = ints (pathF s a)) := by
  have L1 : (s.tops.map encTpc).length = s.tops.length := List.length_map ..
  refine good_of mixed tabOk Try.func15 rfl rfl Try.ntmps15 Try.results15 rfl rfl ?_
  (conv => whnf); (repeat' (first | (refine arith_i ⟨by omega, by omega⟩ ?_; conv => whnf) | (refine arith_u ⟨by omega, by omega⟩ ?_; conv => whnf) | (refine arith_8 ⟨by omega, by omega⟩ ?_; conv => whnf) | (refine need_i (by first | omega | (simp only [List.length_append, List.length_cons, List.length_nil, List.length_map, List.length_replicate, List.length_modify]; omega)) ?_; conv => whnf) | ((with_reducible refine branch_tt ?_); conv => whnf) | ((with_reducible refine branch_ff ?_); conv => whnf) | (with_reducible refine branch_not ?_) | ((refine call_e (isTopicG_ok s hs a) ?_); conv => whnf) | ((with_reducible refine slc_e ?_); conv => whnf) | ((with_reducible refine callS_a ?_); conv => whnf) | ((with_reducible refine bld_a ?_); conv => whnf) | ((with_reducible refine own_e ?_); conv => whnf) | ((with_reducible refine mkmap_b ?_); conv => whnf) | ((with_reducible refine branch_d (fun hq => ?_) (fun hq => ?_)) <;> (try (exfalso; omega)) <;> (conv => whnf)) | ((with_reducible refine branch_e (fun hq => ?_) (fun hq => ?_)) <;> (try (exfalso; omega)) <;> (conv => whnf)) | ((with_reducible refine branch_n (fun hq => ?_) (fun hq => ?_)) <;> (try (exfalso; omega)) <;> (conv => whnf)) | ((with_reducible refine branch_i (fun hq => ?_) (fun hq => ?_)) <;> (try (exfalso; omega)) <;> (conv => whnf))))
  · have htp : topB s a = true := by simp_all
    obtain ⟨⟨ha, ha'⟩, hc⟩ := topB_parts htp
    have hV := par_valid hc
    have h1000 := hs.1
    have hul : (upI (parF s) a).length ≤ 1000 := by rw [upI, if_neg (by omega)]; have := up_len (p := parF s) (f := a.toNat + 1) (t := a.toNat); omega
    refine loop_i2 (fun (b : Int) (l : List Nat) => (-1 ≤ b ∧ b < s.tops.length) ∧ l ++ upI (parF s) b = upI (parF s) a) (fun b l => mkSt [(2, .ptr 2 0), (5, .own 900 3 1 ((toI l).map encI)), (6, .int .i64 b)] [(2, sylC s)] false) (fun b _ => (b + 1).toNat) a [] ⟨by omega, rfl⟩ (Le.trans (le_adopt 5 900 3 1 rfl) (le_mk (by repeat' (first | exact trivial | rfl | apply And.intro)) (by repeat' (first | exact trivial | rfl | apply And.intro)) rfl)) ?_
    rintro b l ⟨hb, hE⟩
    have hll : l.length ≤ 1000 := by rw [← hE, List.length_append] at hul; omega
    have LL : ((toI l).map encI).length = l.length := by simp [toI]
    have hnd : ((toI l).map encI).length + 1 ≤ 1000000 := by rw [LL]; omega
    (conv => whnf); (repeat' (first | (refine arith_i ⟨by omega, by omega⟩ ?_; conv => whnf) | (refine arith_u ⟨by omega, by omega⟩ ?_; conv => whnf) | (refine arith_8 ⟨by omega, by omega⟩ ?_; conv => whnf) | (refine need_i (by first | omega | (simp only [List.length_append, List.length_cons, List.length_nil, List.length_map, List.length_replicate, List.length_modify]; omega)) ?_; conv => whnf) | ((with_reducible refine branch_tt ?_); conv => whnf) | ((with_reducible refine branch_ff ?_); conv => whnf) | (with_reducible refine branch_not ?_) | (((refine idx_m (xs := s.tops) (by omega) (by omega) fun y hy => ?_)); conv => whnf) | (((have hsz : (toI l).length ≤ 1000000 := (by simp [toI]; omega); refine mcall_e [] [(0, 900)] (revI_ok (toI l) hsz) rfl rfl rfl trivial rfl ?_)); conv => whnf) | ((with_reducible refine slc_e ?_); conv => whnf) | ((with_reducible refine callS_a ?_); conv => whnf) | ((with_reducible refine bld_a ?_); conv => whnf) | ((with_reducible refine own_e ?_); conv => whnf) | ((with_reducible refine mkmap_b ?_); conv => whnf) | ((with_reducible refine branch_d (fun hq => ?_) (fun hq => ?_)) <;> (try (exfalso; omega)) <;> (conv => whnf)) | ((with_reducible refine branch_e (fun hq => ?_) (fun hq => ?_)) <;> (try (exfalso; omega)) <;> (conv => whnf)) | ((with_reducible refine branch_n (fun hq => ?_) (fun hq => ?_)) <;> (try (exfalso; omega)) <;> (conv => whnf)) | ((with_reducible refine branch_i (fun hq => ?_) (fun hq => ?_)) <;> (try (exfalso; omega)) <;> (conv => whnf))))
    all_goals first
      | (have e := par_at hy
         have v := hV b.toNat
         rw [upI_step hV (by omega)] at hE
         obtain ⟨m, rfl⟩ : ∃ m : Nat, b = m := ⟨b.toNat, by omega⟩
         refine ⟨y.parent, l ++ [m], ⟨by omega, by rw [← hE, ← e]; simp⟩, ?_, by omega⟩
         have e2 : toI (l ++ [m]) = toI l ++ [(m : Int)] := by simp [toI]
         rw [e2, ← toI_snoc]; exact (le_mk (by repeat' (first | exact trivial | rfl | apply And.intro)) (by repeat' (first | exact trivial | rfl | apply And.intro)) rfl))
      | (rw [upI, if_pos (by omega), List.append_nil] at hE
         have e3 : (toI l).reverse = pathF s a := by
           rw [pathF, if_pos htp, ← path_eq hV (n := s.tops.length) (t := a.toNat) (by omega), hE, upI, if_neg (by omega)]
           simp [toI]
         rw [← e3]
         exact ret_ol rfl)
  · exact ret_nl (by rw [pathF, if_neg (by simp_all)]; rfl)
end Go.Proofs.Ytkmagoljpfpgmaa
