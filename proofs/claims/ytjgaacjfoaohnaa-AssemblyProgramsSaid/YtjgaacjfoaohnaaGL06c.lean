/- Layer 6: the generators of items. -/
import Derived.Test.YtjgaacjfoaohnaaGL06a
namespace Go.Proofs.Ytjgaacjfoaohnaa
set_option linter.unusedVariables false
set_option linter.unusedSimpArgs false
set_option linter.unnecessarySimpa false
set_option linter.unusedSectionVars false
set_option maxRecDepth 10000
open Go.RowKit
def plGL06c_0 : Plan := (.take 0 (.take 1 (.take 2 (.alt 3 (.alt 4 (.alt 5 (.take 6 (.alt 7 .done .stop)) .stop) .stop) .stop))))
def plGL06c_1 : Plan := (.take 0 (.take 2 (.alt 1 (.alt 3 (.alt 4 (.alt 5 (.take 6 (.alt 7 .done .stop)) .stop) .stop) .stop) (.alt 3 (.alt 1 (.alt 4 (.alt 5 (.take 6 (.alt 7 .done .stop)) .stop) .stop) (.alt 4 (.alt 1 (.alt 5 (.take 6 (.alt 7 .done .stop)) .stop) .stop) .stop)) .stop))))
def plGL06c_2 : Plan := (.take 0 (.take 1 (.take 2 (.take 3 (.alt 4 (.alt 5 (.alt 6 (.alt 7 (.take 8 (.alt 9 .done .stop)) .stop) .stop) .stop) .stop)))))
def plGL06c_3 : Plan := (.take 0 (.take 2 (.take 3 (.alt 1 (.alt 4 (.alt 5 (.alt 6 (.alt 7 (.take 8 (.alt 9 .done .stop)) .stop) .stop) .stop) .stop) (.alt 4 (.alt 1 (.alt 5 (.alt 6 (.alt 7 (.take 8 (.alt 9 .done .stop)) .stop) .stop) .stop) (.alt 5 (.alt 1 (.alt 6 (.alt 7 (.take 8 (.alt 9 .done .stop)) .stop) .stop) (.alt 6 (.alt 1 (.alt 7 (.take 8 (.alt 9 .done .stop)) .stop) .stop) .stop)) .stop)) .stop)))))
def plGL06c_4 : Plan := (.take 0 (.take 1 (.take 2 (.take 3 (.take 4 (.take 5 (.take 6 (.take 7 (.take 8 (.take 9 (.take 10 (.take 11 (.take 12 (.take 13 (.take 14 (.take 15 (.take 16 (.take 17 (.take 18 (.take 19 (.take 20 (.take 21 (.take 22 (.take 23 (.take 24 (.take 25 (.alt 26 (.alt 27 (.take 28 (.alt 29 .done .stop)) .stop) .stop)))))))))))))))))))))))))))
def plGL06c_5 : Plan := (.take 0 (.take 2 (.alt 1 (.altM 3 (.alt 4 (.alt 5 (.take 6 (.alt 7 .done .stop)) .stop) .stop) .stop) (.altM 3 (.alt 1 (.alt 4 (.alt 5 (.take 6 (.alt 7 .done .stop)) .stop) .stop) (.alt 4 (.alt 1 (.alt 5 (.take 6 (.alt 7 .done .stop)) .stop) .stop) .stop)) .stop))))
def plGL06c_6 : Plan := (.take 0 (.take 2 (.take 3 (.alt 1 (.alt 4 (.altM 5 (.alt 6 (.alt 7 (.take 8 (.alt 9 .done .stop)) .stop) .stop) .stop) .stop) (.alt 4 (.alt 1 (.altM 5 (.alt 6 (.alt 7 (.take 8 (.alt 9 .done .stop)) .stop) .stop) .stop) (.altM 5 (.alt 1 (.alt 6 (.alt 7 (.take 8 (.alt 9 .done .stop)) .stop) .stop) (.alt 6 (.alt 1 (.alt 7 (.take 8 (.alt 9 .done .stop)) .stop) .stop) .stop)) .stop)) .stop)))))
theorem snocI6 {xs : List Int} {x : Int} : xs.map encI ++ [[AV.int .i64 x]] = (xs ++ [x]).map encI := by simp [encI]
theorem strOf_one (n : Int) : (strOf [n]).size = 1 := by simp [strOf]
/-- A text of letters. -/
def goodS (s : ByteArray) : Prop := s.data.toList.all prB = true
theorem goodS_empty : goodS ⟨#[]⟩ := rfl
theorem goodS_q : goodS ⟨#[113]⟩ := rfl
theorem goodS_app {a b : ByteArray} (h1 : goodS a) (h2 : goodS b) : goodS (a ++ b) := by
  unfold goodS at *
  rw [ByteArray.data_append, Array.toList_append, List.all_append, h1, h2]; rfl
theorem goodS_one {n : Int} (h : 0 ≤ n ∧ n < 3) : goodS (strOf [97 + n]) := by
  have : n = 0 ∨ n = 1 ∨ n = 2 := by omega
  rcases this with rfl | rfl | rfl <;> rfl
theorem goodS_print {s : ByteArray} (h : goodS s) : printB s = true :=
  print_good fun i b hi hb => by
    unfold goodS at h
    rw [List.all_eq_true] at h
    refine h b ?_
    rw [getElem?_pos s i hi] at hb
    injection hb with hb
    rw [← hb]
    exact Array.mem_toList_iff.2 (Array.getElem_mem (xs := s.data) hi)
theorem emB_q {s : ByteArray} : emB ((⟨#[113]⟩ : ByteArray) ++ s) = false := by
  unfold emB
  rw [ByteArray.toList_eq, ByteArray.toList_eq, ByteArray.data_append, Array.toList_append]
  rfl
set_option maxHeartbeats 4000000 in
theorem word_ok (n : Int) (hn : 1 ≤ n ∧ n ≤ 30) : Good Try.prog TT true 18 [.tape, .int .i64 n] (fun r => ∃ s : ByteArray, r = .str s ∧ s.size ≤ 30 ∧ goodS s) := by
  refine good_of mixed tabOk Try.func18 rfl rfl Try.ntmps18 Try.results18 rfl rfl ?_
  (conv => whnf); (repeat' (first | (refine arith_i ⟨by omega, by omega⟩ ?_; conv => whnf) | (refine arith_u ⟨by omega, by omega⟩ ?_; conv => whnf) | (refine arith_8 ⟨by omega, by omega⟩ ?_; conv => whnf) | (refine need_i (by first | omega | (simp only [List.length_append, List.length_cons, List.length_nil, List.length_map, List.length_replicate, List.length_modify]; omega)) ?_; conv => whnf) | ((with_reducible refine branch_tt ?_); conv => whnf) | ((with_reducible refine branch_ff ?_); conv => whnf) | (with_reducible refine branch_not ?_) | (((refine call_i (range_ok _ _ (by omega) (by omega)) fun r hr => ?_; obtain ⟨m1, rfl, -, h6⟩ := hr; have hm1 := h6 (by omega))); conv => whnf) | ((with_reducible refine slc_e ?_); conv => whnf) | ((with_reducible refine callS_a ?_); conv => whnf) | ((with_reducible refine own_e ?_); conv => whnf) | ((with_reducible refine branch_d (fun hq => ?_) (fun hq => ?_)) <;> (try (exfalso; omega)) <;> (conv => whnf)) | ((with_reducible refine branch_e (fun hq => ?_) (fun hq => ?_)) <;> (try (exfalso; omega)) <;> (conv => whnf)) | ((with_reducible refine branch_n (fun hq => ?_) (fun hq => ?_)) <;> (try (exfalso; omega)) <;> (conv => whnf)) | ((with_reducible refine branch_i (fun hq => ?_) (fun hq => ?_)) <;> (try (exfalso; omega)) <;> (conv => whnf))))
  refine loop_i2 (fun (k : Nat) (s : ByteArray) => (k : Int) ≤ m1 ∧ (s.size : Int) = m1 - k ∧ goodS s) (fun k s => mkSt [(0, .tape), (5, .str s), (6, .int .i64 k)] [] true) (fun k _ => k) m1.toNat ⟨#[]⟩ ⟨by omega, by show ((0 : Nat) : Int) = _; omega, goodS_empty⟩ (by rw [show ((m1.toNat : Nat) : Int) = m1 by omega]; exact (le_mk (by repeat' (first | exact trivial | rfl | apply And.intro)) (by repeat' (first | exact trivial | rfl | apply And.intro)) rfl)) ?_
  rintro k s ⟨hk, hs, hg⟩
  (conv => whnf); (repeat' (first | (refine arith_i ⟨by omega, by omega⟩ ?_; conv => whnf) | (refine arith_u ⟨by omega, by omega⟩ ?_; conv => whnf) | (refine arith_8 ⟨by omega, by omega⟩ ?_; conv => whnf) | (refine need_i (by first | omega | (simp only [List.length_append, List.length_cons, List.length_nil, List.length_map, List.length_replicate, List.length_modify]; omega)) ?_; conv => whnf) | ((with_reducible refine branch_tt ?_); conv => whnf) | ((with_reducible refine branch_ff ?_); conv => whnf) | (with_reducible refine branch_not ?_) | (((refine call_i (next_ok _ (by omega)) fun r hr => ?_; obtain ⟨m2, rfl, -, h6⟩ := hr; have hm2 := h6 (by omega))); conv => whnf) | (((refine toStr_i [97 + m2] rfl ?_; have hs1 := strOf_one (97 + m2))); conv => whnf) | ((with_reducible refine slc_e ?_); conv => whnf) | ((with_reducible refine callS_a ?_); conv => whnf) | ((with_reducible refine own_e ?_); conv => whnf) | ((with_reducible refine branch_d (fun hq => ?_) (fun hq => ?_)) <;> (try (exfalso; omega)) <;> (conv => whnf)) | ((with_reducible refine branch_e (fun hq => ?_) (fun hq => ?_)) <;> (try (exfalso; omega)) <;> (conv => whnf)) | ((with_reducible refine branch_n (fun hq => ?_) (fun hq => ?_)) <;> (try (exfalso; omega)) <;> (conv => whnf)) | ((with_reducible refine branch_i (fun hq => ?_) (fun hq => ?_)) <;> (try (exfalso; omega)) <;> (conv => whnf))))
  · refine ⟨k - 1, s ++ strOf [97 + m2], ⟨by omega, by rw [ByteArray.size_append]; omega, goodS_app hg (goodS_one hm2)⟩, ?_, by omega⟩
    rw [show ((k - 1 : Nat) : Int) = (k : Int) - 1 by omega]
    exact (le_mk (by repeat' (first | exact trivial | rfl | apply And.intro)) (by repeat' (first | exact trivial | rfl | apply And.intro)) rfl)
  · exact ret_p rfl ⟨s, rfl, by omega, hg⟩
theorem part_r {a b c d e f : Int} {n : Int} (h : n = 0 → vPartB ⟨a, b, c, d, e, f⟩ = true) : aret (.agg [.int .i64 a, .int .i64 b, .int .i64 c, .int .i64 d, .int .i64 e, .int .i64 f]) (fun r => ∃ p, r = .agg (encPt p) ∧ (n = 0 → vPartB p = true)) := ret_a (cs' := encPt ⟨a, b, c, d, e, f⟩) ⟨rc_p rfl, rc_p rfl, rc_p rfl, rc_p rfl, rc_p rfl, rc_p rfl, trivial⟩ ⟨⟨a, b, c, d, e, f⟩, rfl, h⟩
set_option maxHeartbeats 4000000 in
theorem part_ok (n : Int) (hn : 0 ≤ n ∧ n ≤ 100) : Good Try.prog TT true 19 [.tape, .int .i64 n] (fun r => ∃ p, r = .agg (encPt p) ∧ (n = 0 → vPartB p = true)) := by
  refine good_of mixed tabOk Try.func19 rfl rfl Try.ntmps19 Try.results19 rfl rfl ?_
  (conv => whnf); (repeat' (first | (refine arith_i ⟨by omega, by omega⟩ ?_; conv => whnf) | (refine arith_u ⟨by omega, by omega⟩ ?_; conv => whnf) | (refine arith_8 ⟨by omega, by omega⟩ ?_; conv => whnf) | (refine need_i (by first | omega | (simp only [List.length_append, List.length_cons, List.length_nil, List.length_map, List.length_replicate, List.length_modify]; omega)) ?_; conv => whnf) | ((with_reducible refine branch_tt ?_); conv => whnf) | ((with_reducible refine branch_ff ?_); conv => whnf) | (with_reducible refine branch_not ?_) | (((refine call_i (range_ok _ _ (by omega) (by omega)) fun r hr => ?_; obtain ⟨m1, rfl, -, h6⟩ := hr; have hm1 := h6 (by omega))); conv => whnf) | (((refine call_i (next_ok _ (by omega)) fun r hr => ?_; obtain ⟨m1, rfl, -, h6⟩ := hr; have hm1 := h6 (by omega))); conv => whnf) | (((refine call_i (one_ok _ (by omega)) fun r hr => ?_; obtain ⟨b1, rfl⟩ := hr)); conv => whnf) | (((refine call_i (pick_ok [0, 40, 41, -1] (by decide) (by decide)) fun r hr => ?_; obtain ⟨x, rfl, hx⟩ := hr)); conv => whnf) | (((refine call_i wild_ok fun r hr => ?_; obtain ⟨x, rfl, hx⟩ := hr)); conv => whnf) | ((with_reducible refine slc_e ?_); conv => whnf) | ((with_reducible refine callS_a ?_); conv => whnf) | ((with_reducible refine own_e ?_); conv => whnf) | ((with_reducible refine branch_d (fun hq => ?_) (fun hq => ?_)) <;> (try (exfalso; omega)) <;> (conv => whnf)) | ((with_reducible refine branch_e (fun hq => ?_) (fun hq => ?_)) <;> (try (exfalso; omega)) <;> (conv => whnf)) | ((with_reducible refine branch_n (fun hq => ?_) (fun hq => ?_)) <;> (try (exfalso; omega)) <;> (conv => whnf)) | ((with_reducible refine branch_i (fun hq => ?_) (fun hq => ?_)) <;> (try (exfalso; omega)) <;> (conv => whnf))))
  all_goals first
    | exact part_r (fun h0 => by exfalso; omega)
    | exact part_r (fun h0 => decide_eq_true (by dsimp only; omega))
    | trace_state
theorem item_zero {x : Itm} (h1 : 0 ≤ x.id ∧ x.id ≤ 9999) (h2 : 1 ≤ x.ver ∧ x.ver ≤ 8) (h3 : x.stem.size ≤ 40) (h4 : emB x.stem = false) (h5 : printB x.stem = true) (h6 : 1 ≤ x.parts.length ∧ x.parts.length ≤ 6) (h7 : ∀ p ∈ x.parts, vPartB p = true) (h8 : x.foes.length ≤ 8) (h9 : foesB x.id x.foes = true) : itemF x = 0 := by
  have h70 : x.parts.all vPartB = true := List.all_eq_true.2 h7
  unfold itemF
  rw [if_neg (by omega), if_neg (by omega), if_neg (by simp [h4, h5]), if_neg (by omega), if_neg (by simp [h70]), if_neg (by simp [h9])]
/-- Enemies of the tape ascend below j, without id. -/
def FoeG (id : Int) (j : Nat) (fs : List Int) : Prop := (∀ x ∈ fs, 0 ≤ x ∧ x < j ∧ x ≠ id) ∧ fs.Pairwise (· < ·)
theorem FoeG.nil {id : Int} {j : Nat} : FoeG id j [] := ⟨by simp, .nil⟩
theorem FoeG.skip {id : Int} {j : Nat} {fs : List Int} (h : FoeG id j fs) : FoeG id (j + 1) fs := ⟨fun r hr => by have := h.1 r hr; omega, h.2⟩
theorem FoeG.snoc {id : Int} {j : Nat} {fs : List Int} (h : FoeG id j fs) (hj : (j : Int) ≠ id) : FoeG id (j + 1) (fs ++ [(j : Int)]) := by
  refine ⟨fun r hr => ?_, List.pairwise_append.2 ⟨h.2, List.pairwise_singleton .., fun x hx y hy => ?_⟩⟩
  · rcases List.mem_append.1 hr with hr | hr
    · have := h.1 r hr; omega
    · rw [List.mem_singleton.1 hr]; omega
  · rw [List.mem_singleton.1 hy]
    have := h.1 x hx
    omega
theorem FoeG.foes {id : Int} {j : Nat} {fs : List Int} (h : FoeG id j fs) (hj : j ≤ 100) : foesB id fs = true :=
  foes_good fun k hk => by
    have h2 : fs[k]? = some fs[k] := List.getElem?_eq_getElem hk
    have m := h.1 fs[k] (List.getElem_mem hk)
    have e2 := nth_eq h2
    rw [foeB, decide_eq_true_eq, e2]
    refine ⟨by omega, by omega, m.2.2, ?_⟩
    rcases Nat.eq_zero_or_pos k with h0 | h0
    · exact .inl h0
    · refine .inr ?_
      rw [nth_eq (show fs[k - 1]? = some fs[k - 1] from List.getElem?_eq_getElem (by omega))]
      exact List.pairwise_iff_getElem.1 h.2 (k - 1) k (by omega) hk (by omega)
theorem idx3 {a b c : List AV} {n : Int} {K : List AV → Prop} (h0 : 0 ≤ n) (h1 : n < 3) (ha : K a) (hb : K b) (hc : K c) : idx [a, b, c] n K := by
  have : n = 0 ∨ n = 1 ∨ n = 2 := by omega
  rcases this with rfl | rfl | rfl
  · exact ⟨⟨by omega, a, rfl, ha⟩⟩
  · exact ⟨⟨by omega, b, rfl, hb⟩⟩
  · exact ⟨⟨by omega, c, rfl, hc⟩⟩
/-- An item of the tape; without a mistake it is valid. -/
structure ItmG (n id ver : Int) (x : Itm) : Prop where
  small : ItmS x
  ok : n = 0 → 0 ≤ id ∧ id ≤ 9999 → 1 ≤ ver ∧ ver ≤ 8 → itemF x = 0 ∧ x.id = id ∧ x.ver = ver
theorem item_ret {n id ver : Int} {a b : Int} {s : ByteArray} {t e t' e' : Nat} {es fe : List (List AV)} {ps : List Prt} {fs : List Int} (hp : es = ps.map encPt) (hf : fe = fs.map encI) (h1 : s.size ≤ 1000) (h2 : ps.length ≤ 1000) (h3 : fs.length ≤ 1000) (h4 : n = 0 → 0 ≤ id ∧ id ≤ 9999 → 1 ≤ ver ∧ ver ≤ 8 → itemF ⟨a, b, s, ps, fs⟩ = 0 ∧ a = id ∧ b = ver) :
    aret (.agg [.int .i64 a, .int .i64 b, .str s, .own t e 6 es, .own t' e' 1 fe]) (fun r => ∃ x, r = itmV x ∧ ItmG n id ver x) := by
  subst hp hf
  exact ret_a (cs' := encX ⟨a, b, s, ps, fs⟩) ⟨rc_p rfl, rc_p rfl, rc_p rfl, rc_o' rfl, rc_o' rfl, trivial⟩ ⟨_, rfl, ⟨h1, h2, h3⟩, h4⟩
theorem item_retn {n id ver : Int} {a b : Int} {s : ByteArray} {t' e' : Nat} {fe : List (List AV)} {fs : List Int} (hf : fe = fs.map encI) (h1 : s.size ≤ 1000) (h3 : fs.length ≤ 1000) (hn : n ≠ 0) :
    aret (.agg [.int .i64 a, .int .i64 b, .str s, .nil, .own t' e' 1 fe]) (fun r => ∃ x, r = itmV x ∧ ItmG n id ver x) := by
  subst hf
  exact ret_a (cs' := encX ⟨a, b, s, [], fs⟩) ⟨rc_p rfl, rc_p rfl, rc_p rfl, rc_n, rc_o' rfl, trivial⟩ ⟨_, rfl, ⟨h1, Nat.zero_le _, h3⟩, fun h => absurd h hn⟩
theorem six_map {ps : List Prt} {pp : Prt} : ps.map encPt ++ [encPt pp, encPt pp, encPt pp, encPt pp, encPt pp, encPt pp] = (ps ++ [pp, pp, pp, pp, pp, pp]).map encPt := by rw [List.map_append]; rfl
set_option maxHeartbeats 8000000 in
theorem item_ok (id ver n : Int) (hi : -100000 ≤ id ∧ id ≤ 100000) (hn : 0 ≤ n ∧ n ≤ 100) : Good Try.prog TT true 8 [.tape, .int .i64 id, .int .i64 ver, .int .i64 n] (fun r => ∃ x, r = itmV x ∧ ItmG n id ver x) := by
  refine good_of mixed tabOk Try.func8 rfl rfl Try.ntmps8 Try.results8 rfl rfl ?_
  (conv => whnf); (repeat' (first | (refine arith_i ⟨by omega, by omega⟩ ?_; conv => whnf) | (refine arith_u ⟨by omega, by omega⟩ ?_; conv => whnf) | (refine arith_8 ⟨by omega, by omega⟩ ?_; conv => whnf) | (refine need_i (by first | omega | (simp only [List.length_append, List.length_cons, List.length_nil, List.length_map, List.length_replicate, List.length_modify]; omega)) ?_; conv => whnf) | ((with_reducible refine branch_tt ?_); conv => whnf) | ((with_reducible refine branch_ff ?_); conv => whnf) | (with_reducible refine branch_not ?_) | (((refine call_i (range_ok _ _ (by omega) (by omega)) fun r hr => ?_; obtain ⟨m1, rfl, -, h6⟩ := hr; have hm1 := h6 (by omega))); conv => whnf) | (((refine call_i (next_ok _ (by omega)) fun r hr => ?_; obtain ⟨m1, rfl, -, h6⟩ := hr; have hm1 := h6 (by omega))); conv => whnf) | (((refine call_i (one_ok _ (by omega)) fun r hr => ?_; obtain ⟨b1, rfl⟩ := hr)); conv => whnf) | (((refine call_i (pick_ok [0, 8, 9, -1] (by decide) (by decide)) fun r hr => ?_; obtain ⟨x, rfl, hx⟩ := hr)); conv => whnf) | (((refine call_i (pick_ok [0, id, -1, 10000, 3] (by simp) (by simp)) fun r hr => ?_; obtain ⟨x, rfl, hx⟩ := hr)); conv => whnf) | (((refine call_i wild_ok fun r hr => ?_; obtain ⟨x, rfl, hx⟩ := hr)); conv => whnf) | (((refine call_i (word_ok _ (by omega)) fun r hr => ?_; obtain ⟨sw, rfl, hsw, hgw⟩ := hr)); conv => whnf) | (((refine call_i (part_ok _ (by omega)) fun r hr => ?_; obtain ⟨p0, rfl, hp0⟩ := hr)); conv => whnf) | (((have h1q : 1 + sw.size ≤ 1000000 := (by omega); refine need_i h1q ?_)); conv => whnf) | ((with_reducible refine slc_e ?_); conv => whnf) | ((with_reducible refine callS_a ?_); conv => whnf) | ((with_reducible refine own_e ?_); conv => whnf) | (refine draw_i 7 plGL06c_0 (by decide +kernel) ?_; (conv => whnf); fail_if_success (guard_target =~ False)) | (refine draw_i 7 plGL06c_1 (by decide +kernel) ?_; (conv => whnf); fail_if_success (guard_target =~ False)) | (refine draw_i 7 plGL06c_0 (by decide +kernel) ?_; (conv => whnf); fail_if_success (guard_target =~ False)) | (refine draw_i 7 plGL06c_1 (by decide +kernel) ?_; (conv => whnf); fail_if_success (guard_target =~ False)) | (refine draw_i 9 plGL06c_2 (by decide +kernel) ?_; (conv => whnf); fail_if_success (guard_target =~ False)) | (refine draw_i 9 plGL06c_3 (by decide +kernel) ?_; (conv => whnf); fail_if_success (guard_target =~ False)) | (refine draw_i 29 plGL06c_4 (by decide +kernel) ?_; (conv => whnf); fail_if_success (guard_target =~ False)) | ((with_reducible refine And.intro ?_ ?_) <;> (conv => whnf)) | (with_reducible exact trivial) | ((with_reducible refine branch_d (fun hq => ?_) (fun hq => ?_)) <;> (try (exfalso; omega)) <;> (conv => whnf)) | ((with_reducible refine branch_e (fun hq => ?_) (fun hq => ?_)) <;> (try (exfalso; omega)) <;> (conv => whnf)) | ((with_reducible refine branch_n (fun hq => ?_) (fun hq => ?_)) <;> (try (exfalso; omega)) <;> (conv => whnf)) | ((with_reducible refine branch_i (fun hq => ?_) (fun hq => ?_)) <;> (try (exfalso; omega)) <;> (conv => whnf))))
  have hpr : printB ((⟨#[113]⟩ : ByteArray) ++ sw) = true := goodS_print (goodS_app goodS_q hgw)
  have hem : emB ((⟨#[113]⟩ : ByteArray) ++ sw) = false := emB_q
  have hsz : ((⟨#[113]⟩ : ByteArray) ++ sw).size = 1 + sw.size := by rw [ByteArray.size_append]; rfl
  generalize hst : (⟨#[113]⟩ : ByteArray) ++ sw = st at *
  refine loop_i2 (fun (k : Nat) (ps : List Prt) => (k : Int) ≤ m1 ∧ (ps.length : Int) = m1 - k ∧ ∀ p ∈ ps, vPartB p = true) (fun k ps => mkSt [(0, .tape), (1, .int .i64 id), (3, .int .i64 n), (8, .ptr 8 0), (9, .ptr 9 0), (10, .int .i64 k)] [(8, [.int .i64 0, .int .i64 0, .str ⟨#[]⟩, .nil, .nil]), (9, [.int .i64 id, .int .i64 ver, .str st, .own 900 61 6 (ps.map encPt), .nil])] true) (fun k _ => k) m1.toNat [] ⟨by omega, by simp; omega, by simp⟩ (by rw [show ((m1.toNat : Nat) : Int) = m1 by omega, ← hst]; exact Le.trans (le_adoptBox 9 3 900 61 6 rfl rfl) (le_mk (by repeat' (first | exact trivial | rfl | apply And.intro)) (by repeat' (first | exact trivial | rfl | apply And.intro)) rfl)) ?_
  rintro k ps ⟨hk, hps, hpv⟩
  have LP : (ps.map encPt).length = ps.length := List.length_map ..
  (conv => whnf); (repeat' (first | (refine arith_i ⟨by omega, by omega⟩ ?_; conv => whnf) | (refine arith_u ⟨by omega, by omega⟩ ?_; conv => whnf) | (refine arith_8 ⟨by omega, by omega⟩ ?_; conv => whnf) | (refine need_i (by first | omega | (simp only [List.length_append, List.length_cons, List.length_nil, List.length_map, List.length_replicate, List.length_modify]; omega)) ?_; conv => whnf) | ((with_reducible refine branch_tt ?_); conv => whnf) | ((with_reducible refine branch_ff ?_); conv => whnf) | (with_reducible refine branch_not ?_) | (((refine call_i (part_ok _ (by omega)) fun r hr => ?_; obtain ⟨p0, rfl, hp0⟩ := hr)); conv => whnf) | ((with_reducible refine slc_e ?_); conv => whnf) | ((with_reducible refine callS_a ?_); conv => whnf) | ((with_reducible refine own_e ?_); conv => whnf) | (refine draw_i 7 plGL06c_0 (by decide +kernel) ?_; (conv => whnf); fail_if_success (guard_target =~ False)) | (refine draw_i 7 plGL06c_1 (by decide +kernel) ?_; (conv => whnf); fail_if_success (guard_target =~ False)) | (refine draw_i 7 plGL06c_0 (by decide +kernel) ?_; (conv => whnf); fail_if_success (guard_target =~ False)) | (refine draw_i 7 plGL06c_1 (by decide +kernel) ?_; (conv => whnf); fail_if_success (guard_target =~ False)) | (refine draw_i 9 plGL06c_2 (by decide +kernel) ?_; (conv => whnf); fail_if_success (guard_target =~ False)) | (refine draw_i 9 plGL06c_3 (by decide +kernel) ?_; (conv => whnf); fail_if_success (guard_target =~ False)) | (refine draw_i 29 plGL06c_4 (by decide +kernel) ?_; (conv => whnf); fail_if_success (guard_target =~ False)) | ((with_reducible refine And.intro ?_ ?_) <;> (conv => whnf)) | (with_reducible exact trivial) | ((with_reducible refine branch_d (fun hq => ?_) (fun hq => ?_)) <;> (try (exfalso; omega)) <;> (conv => whnf)) | ((with_reducible refine branch_e (fun hq => ?_) (fun hq => ?_)) <;> (try (exfalso; omega)) <;> (conv => whnf)) | ((with_reducible refine branch_n (fun hq => ?_) (fun hq => ?_)) <;> (try (exfalso; omega)) <;> (conv => whnf)) | ((with_reducible refine branch_i (fun hq => ?_) (fun hq => ?_)) <;> (try (exfalso; omega)) <;> (conv => whnf))))
  · refine ⟨k - 1, ps ++ [p0], ⟨by omega, by simp; omega, fun p hp => ?_⟩, ?_, by omega⟩
    · rcases List.mem_append.1 hp with hp | hp
      · exact hpv p hp
      · rw [List.mem_singleton.1 hp]; exact hp0 rfl
    · rw [show ((k - 1 : Nat) : Int) = (k : Int) - 1 by omega]
      rw [List.map_append]
      exact (le_mk (by repeat' (first | exact trivial | rfl | apply And.intro)) (by repeat' (first | exact trivial | rfl | apply And.intro)) rfl)
  have hpl : 1 ≤ ps.length ∧ ps.length ≤ 3 := by omega
  clear hst hgw
  refine loop_i2 (fun (j : Nat) (fs : List Int) => j ≤ 6 ∧ fs.length ≤ j ∧ FoeG id j fs) (fun j fs => mkSt [(0, .tape), (1, .int .i64 id), (3, .int .i64 n), (8, .ptr 8 0), (9, .ptr 9 0), (11, .int .i64 j)] [(8, [.int .i64 0, .int .i64 0, .str ⟨#[]⟩, .nil, .nil]), (9, [.int .i64 id, .int .i64 ver, .str st, .own 900 61 6 (ps.map encPt), .own 901 3 1 (fs.map encI)])] true) (fun j _ => 6 - j) 0 [] ⟨by omega, by simp, FoeG.nil⟩ (Le.trans (le_adoptBox 9 4 901 3 1 rfl rfl) (le_mk (by repeat' (first | exact trivial | rfl | apply And.intro)) (by repeat' (first | exact trivial | rfl | apply And.intro)) rfl)) ?_
  rintro j fs ⟨hj, hfs, hfg⟩
  have LF : (fs.map encI).length = fs.length := List.length_map ..
  obtain ⟨pp, hpp⟩ : ∃ pp, ps[0]? = some pp := ⟨ps[0], List.getElem?_eq_getElem (by omega)⟩
  (conv => whnf); (repeat' (first | (refine arith_i ⟨by omega, by omega⟩ ?_; conv => whnf) | (refine arith_u ⟨by omega, by omega⟩ ?_; conv => whnf) | (refine arith_8 ⟨by omega, by omega⟩ ?_; conv => whnf) | (refine need_i (by first | omega | (simp only [List.length_append, List.length_cons, List.length_nil, List.length_map, List.length_replicate, List.length_modify]; omega)) ?_; conv => whnf) | ((with_reducible refine branch_tt ?_); conv => whnf) | ((with_reducible refine branch_ff ?_); conv => whnf) | (with_reducible refine branch_not ?_) | (((refine call_i (range_ok _ _ (by omega) (by omega)) fun r hr => ?_; obtain ⟨m1, rfl, -, h6⟩ := hr; have hm1 := h6 (by omega))); conv => whnf) | (((refine call_i (next_ok _ (by omega)) fun r hr => ?_; obtain ⟨m1, rfl, -, h6⟩ := hr; have hm1 := h6 (by omega))); conv => whnf) | (((refine call_i (one_ok _ (by omega)) fun r hr => ?_; obtain ⟨b1, rfl⟩ := hr)); conv => whnf) | (((refine call_i (pick_ok [0, 8, 9, -1] (by decide) (by decide)) fun r hr => ?_; obtain ⟨x, rfl, hx⟩ := hr)); conv => whnf) | (((refine call_i (pick_ok [0, id, -1, 10000, 3] (by simp) (by simp)) fun r hr => ?_; obtain ⟨x, rfl, hx⟩ := hr)); conv => whnf) | (((refine call_i wild_ok fun r hr => ?_; obtain ⟨x, rfl, hx⟩ := hr)); conv => whnf) | (((refine call_i (word_ok _ (by omega)) fun r hr => ?_; obtain ⟨sw, rfl, hsw, hgw⟩ := hr)); conv => whnf) | (((refine call_i (part_ok _ (by omega)) fun r hr => ?_; obtain ⟨p0, rfl, hp0⟩ := hr)); conv => whnf) | (((have h1q : 1 + sw.size ≤ 1000000 := (by omega); refine need_i h1q ?_)); conv => whnf) | ((refine draw_i 28 (.take 0 (.take 1 (.take 2 (.take 3 (.take 4 (.take 6 (.take 7 (.take 8 (.take 10 (.take 11 (.take 12 (.take 14 (.take 15 (.take 16 (.take 18 (.take 19 (.take 20 (.take 22 (.take 23 (.take 24 (.takeQ 5 (.takeQ 9 (.takeQ 13 (.takeQ 17 (.takeQ 21 (.takeQ 25 (.alt 26 (.alt 27 (.take 28 (.alt 29 .done .stop)) .stop) .stop))))))))))))))))))))))))))) (by decide +kernel) ?_); conv => whnf) | ((refine idx_ms (x := pp) (by omega) hpp ?_); conv => whnf) | ((refine idx3 (by omega) (by omega) ?_ ?_ ?_); conv => whnf) | ((with_reducible refine slc_e ?_); conv => whnf) | ((with_reducible refine callS_a ?_); conv => whnf) | ((with_reducible refine own_e ?_); conv => whnf) | (refine draw_i 7 plGL06c_0 (by decide +kernel) ?_; (conv => whnf); fail_if_success (guard_target =~ False)) | (refine draw_i 7 plGL06c_1 (by decide +kernel) ?_; (conv => whnf); fail_if_success (guard_target =~ False)) | (refine draw_i 7 plGL06c_0 (by decide +kernel) ?_; (conv => whnf); fail_if_success (guard_target =~ False)) | (refine draw_i 7 plGL06c_1 (by decide +kernel) ?_; (conv => whnf); fail_if_success (guard_target =~ False)) | (refine draw_i 9 plGL06c_2 (by decide +kernel) ?_; (conv => whnf); fail_if_success (guard_target =~ False)) | (refine draw_i 9 plGL06c_3 (by decide +kernel) ?_; (conv => whnf); fail_if_success (guard_target =~ False)) | (refine draw_i 29 plGL06c_4 (by decide +kernel) ?_; (conv => whnf); fail_if_success (guard_target =~ False)) | ((with_reducible refine And.intro ?_ ?_) <;> (conv => whnf)) | (with_reducible exact trivial) | ((with_reducible refine branch_d (fun hq => ?_) (fun hq => ?_)) <;> (try (exfalso; omega)) <;> (conv => whnf)) | ((with_reducible refine branch_e (fun hq => ?_) (fun hq => ?_)) <;> (try (exfalso; omega)) <;> (conv => whnf)) | ((with_reducible refine branch_n (fun hq => ?_) (fun hq => ?_)) <;> (try (exfalso; omega)) <;> (conv => whnf)) | ((with_reducible refine branch_i (fun hq => ?_) (fun hq => ?_)) <;> (try (exfalso; omega)) <;> (conv => whnf))))
  all_goals first
    | ((refine ⟨j + 1, fs, ⟨by omega, by omega, hfg.skip⟩, le_mk ?_ ?_ rfl, by omega⟩ <;> (repeat' (first | exact trivial | rfl | apply And.intro))); done)
    | (refine ⟨j + 1, fs ++ [(j : Int)], ⟨by omega, by simp; omega, hfg.snoc (by omega)⟩, ?_, by omega⟩
       rw [← snocI6]
       exact (le_mk (by repeat' (first | exact trivial | rfl | apply And.intro)) (by repeat' (first | exact trivial | rfl | apply And.intro)) rfl))
    | exact item_ret (ps := ps) (fs := fs) rfl rfl (by first | omega | decide) (by omega) (by omega) (fun h0 h1 h2 => ⟨item_zero h1 h2 (by show st.size ≤ 40; omega) hem hpr ⟨hpl.1, by show ps.length ≤ 6; omega⟩ hpv (by show fs.length ≤ 8; omega) (hfg.foes (by omega)), rfl, rfl⟩)
    | exact item_ret (ps := ps) (fs := fs) rfl rfl (by first | omega | decide) (by omega) (by omega) (fun h0 => by exfalso; omega)
    | exact item_retn (fs := fs) rfl (by first | omega | decide) (by omega) (by omega)
    | exact item_ret (ps := ps ++ [p0]) (fs := fs) (by rw [List.map_append]; rfl) rfl (by first | omega | decide) (by simp; omega) (by omega) (fun h0 => by exfalso; omega)
    | exact item_ret (ps := ps) (fs := fs ++ [x]) rfl (by rw [List.map_append]; rfl) (by first | omega | decide) (by omega) (by simp; omega) (fun h0 => by exfalso; omega)
    | exact item_ret (ps := ps ++ [pp, pp, pp, pp, pp, pp]) (fs := fs) six_map rfl (by first | omega | decide) (by simp; omega) (by omega) (fun h0 => by exfalso; omega)
    | trace_state
end Go.Proofs.Ytjgaacjfoaohnaa

