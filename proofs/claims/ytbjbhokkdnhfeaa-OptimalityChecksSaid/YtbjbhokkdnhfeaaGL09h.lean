/- Layer 9: States. -/
import Derived.Test.YtbjbhokkdnhfeaaGL09rep
import Derived.Test.YtbjbhokkdnhfeaaGL09g
import Derived.Test.YtbjbhokkdnhfeaaMC
namespace Go.Proofs.Ytbjbhokkdnhfeaa
set_option linter.unusedVariables false
set_option linter.unusedSimpArgs false
set_option linter.unnecessarySimpa false
set_option linter.unusedSectionVars false
set_option maxRecDepth 10000
open Go.RowKit
def plGL09h_0 : Plan := (.take 0 (.take 1 (.take 3 (.take 4 (.take 5 (.alt 2 (.alt 6 (.take 7 (.altE 8 (.take 9 (.altE 10 .done .stop)) .stop)) .stop) .stop))))))
def plGL09h_1 : Plan := (.take 0 (.take 3 (.alt 1 (.alt 2 (.alt 4 (.take 5 (.alt 6 (.take 7 (.alt 8 (.take 9 (.alt 10 .done .stop)) .stop)) .stop)) .stop) (.alt 4 (.take 5 (.alt 2 (.alt 6 (.take 7 (.alt 8 (.take 9 (.alt 10 .done .stop)) .stop)) .stop) .stop)) .stop)) (.alt 2 (.alt 1 (.alt 4 (.take 5 (.alt 6 (.take 7 (.alt 8 (.take 9 (.alt 10 .done .stop)) .stop)) .stop)) .stop) (.alt 4 (.take 5 (.alt 1 (.alt 6 (.take 7 (.alt 8 (.take 9 (.alt 10 .done .stop)) .stop)) .stop) (.alt 6 (.take 7 (.alt 1 (.alt 8 (.take 9 (.alt 10 .done .stop)) .stop) (.alt 8 (.alt 1 (.take 9 (.alt 10 .done .stop)) .stop) .stop))) .stop))) .stop)) (.alt 4 (.take 5 (.alt 1 (.alt 2 (.alt 6 (.take 7 (.alt 8 (.take 9 (.alt 10 .done .stop)) .stop)) .stop) .stop) (.alt 2 (.alt 1 (.alt 6 (.take 7 (.alt 8 (.take 9 (.alt 10 .done .stop)) .stop)) .stop) (.alt 6 (.take 7 (.alt 1 (.alt 8 (.take 9 (.alt 10 .done .stop)) .stop) (.alt 8 (.alt 1 (.take 9 (.alt 10 .done .stop)) .stop) .stop))) .stop)) .stop))) .stop)))))
def plGL09h_2 : Plan := (.take 0 (.take 1 (.take 2 (.take 3 (.take 4 (.take 5 (.take 6 (.take 7 (.take 8 (.take 9 (.take 10 (.take 11 (.take 12 (.take 13 (.take 14 (.take 15 (.take 16 (.take 17 (.take 18 (.take 19 (.take 20 (.take 21 .done))))))))))))))))))))))
def plGL09h_3 : Plan := (.take 0 (.take 1 (.take 2 (.take 3 (.take 4 (.take 5 (.take 6 (.take 7 (.take 8 (.take 9 (.take 10 (.take 11 (.take 12 (.take 13 (.take 14 (.take 16 (.take 17 (.alt 15 (.take 18 (.alt 19 (.take 20 (.take 21 .done)) .stop)) .stop))))))))))))))))))
def plGL09h_4 : Plan := (.take 0 (.alt 1 (.take 2 (.take 3 (.take 4 (.take 6 (.alt 5 (.alt 7 (.take 8 (.take 9 (.take 10 (.take 11 (.take 12 (.take 13 (.take 14 (.take 16 (.alt 15 (.alt 17 (.take 18 (.alt 19 (.take 20 (.take 21 .done)) .stop)) .stop) (.alt 17 (.alt 15 (.take 18 (.alt 19 (.take 20 (.take 21 .done)) .stop)) .stop) .stop)))))))))) .stop) (.alt 7 (.take 8 (.alt 5 (.take 9 (.take 10 (.take 11 (.take 12 (.take 13 (.take 14 (.take 16 (.alt 15 (.alt 17 (.take 18 (.alt 19 (.take 20 (.take 21 .done)) .stop)) .stop) (.alt 17 (.alt 15 (.take 18 (.alt 19 (.take 20 (.take 21 .done)) .stop)) .stop) .stop))))))))) .stop)) .stop)))))) .stop))
def plGL09h_5 : Plan := (.take 0 (.take 1 (.take 2 (.take 3 (.take 4 (.take 5 (.take 6 (.take 7 (.take 8 (.take 9 (.take 10 (.take 11 (.alt 12 (.take 13 (.altE 14 (.take 15 (.altE 16 .done .stop)) .stop)) .stop)))))))))))))
def plGL09h_6 : Plan := (.take 0 (.take 1 (.take 2 (.take 3 (.take 4 (.take 5 (.take 6 (.take 7 (.take 8 (.take 10 (.take 11 (.alt 9 (.alt 12 (.take 13 (.altE 14 (.take 15 (.altE 16 .done .stop)) .stop)) .stop) .stop))))))))))))
def plGL09h_7 : Plan := (.take 0 (.take 3 (.alt 1 (.alt 2 (.alt 4 (.take 5 (.altM 6 (.take 7 (.alt 8 (.take 9 (.alt 10 .done .stop)) .stop)) .stop)) .stop) (.alt 4 (.take 5 (.alt 2 (.altM 6 (.take 7 (.alt 8 (.take 9 (.alt 10 .done .stop)) .stop)) .stop) .stop)) .stop)) (.alt 2 (.alt 1 (.alt 4 (.take 5 (.altM 6 (.take 7 (.alt 8 (.take 9 (.alt 10 .done .stop)) .stop)) .stop)) .stop) (.alt 4 (.take 5 (.alt 1 (.altM 6 (.take 7 (.alt 8 (.take 9 (.alt 10 .done .stop)) .stop)) .stop) (.altM 6 (.take 7 (.alt 1 (.alt 8 (.take 9 (.alt 10 .done .stop)) .stop) (.alt 8 (.alt 1 (.take 9 (.alt 10 .done .stop)) .stop) .stop))) .stop))) .stop)) (.alt 4 (.take 5 (.alt 1 (.alt 2 (.altM 6 (.take 7 (.alt 8 (.take 9 (.alt 10 .done .stop)) .stop)) .stop) .stop) (.alt 2 (.alt 1 (.altM 6 (.take 7 (.alt 8 (.take 9 (.alt 10 .done .stop)) .stop)) .stop) (.altM 6 (.take 7 (.alt 1 (.alt 8 (.take 9 (.alt 10 .done .stop)) .stop) (.alt 8 (.alt 1 (.take 9 (.alt 10 .done .stop)) .stop) .stop))) .stop)) .stop))) .stop)))))
def encB (b : Bool) : List AV := [.bool b]
theorem later_ok (nodes : List Nd) (rs : List Bool) (c i : Int) (hl : nodes.length ≤ 1000000) (hr : rs.length = nodes.length) (hi : 0 ≤ i) : Good Try.prog TT false 30 [.int .i64 c, .int .i64 i, .ref [ndsV nodes], .ref [.lst 1 (rs.map encB)]] (· = .bool (decide (i < c ∧ c < nodes.length ∧ rs.getD c.toNat false = false))) := by
  have L : (nodes.map encN).length = nodes.length := List.length_map ..
  have LB : (rs.map encB).length = rs.length := List.length_map ..
  refine good_of mixed tabOk Try.func30 rfl rfl Try.ntmps30 Try.results30 rfl rfl ?_
  (conv => whnf); (repeat' (first | (refine arith_i ⟨by omega, by omega⟩ ?_; conv => whnf) | (refine arith_u ⟨by omega, by omega⟩ ?_; conv => whnf) | (refine arith_8 ⟨by omega, by omega⟩ ?_; conv => whnf) | (refine need_i (by first | omega | (simp only [List.length_append, List.length_cons, List.length_nil, List.length_map, List.length_replicate, List.length_modify]; omega)) ?_; conv => whnf) | ((with_reducible refine branch_tt ?_); conv => whnf) | ((with_reducible refine branch_ff ?_); conv => whnf) | (with_reducible refine branch_not ?_) | ((refine idx_m (by omega) (by omega) fun y hy => ?_); conv => whnf) | ((with_reducible refine slc_e ?_); conv => whnf) | ((with_reducible refine callS_a ?_); conv => whnf) | ((with_reducible refine bld_a ?_); conv => whnf) | ((with_reducible refine own_e ?_); conv => whnf) | ((with_reducible refine branch_d (fun hq => ?_) (fun hq => ?_)) <;> (try (exfalso; omega)) <;> (conv => whnf)) | ((with_reducible refine branch_e (fun hq => ?_) (fun hq => ?_)) <;> (try (exfalso; omega)) <;> (conv => whnf)) | ((with_reducible refine branch_n (fun hq => ?_) (fun hq => ?_)) <;> (try (exfalso; omega)) <;> (conv => whnf)) | ((with_reducible refine branch_i (fun hq => ?_) (fun hq => ?_)) <;> (try (exfalso; omega)) <;> (conv => whnf))))
  all_goals first
    | exact ret_p rfl (bool_eq (by simp [*]; try omega))
    | exact ret_p rfl (bool_eq (by rw [Bool.eq_iff_iff]; simp [List.getD_eq_getElem?_getD, hy]; omega))
/-- A branch as it should be. -/
def brC (c N i : Nat) (n : Nd) (out : List (List Int)) (kn : List Bool) : Prop := (i : Int) < n.zero ∧ n.zero < N ∧ (i : Int) < n.one ∧ n.one < N ∧ n.zero ≠ n.one ∧ 0 ≤ n.var ∧ n.var < c ∧ kn.getD n.zero.toNat false = false ∧ kn.getD n.one.toNat false = false ∧ nth (out.getD i []) n.var.toNat = -1
instance (c N i : Nat) (n : Nd) (out : List (List Int)) (kn : List Bool) : Decidable (brC c N i n out kn) := by unfold brC; infer_instance
/-- One node of a tree: the states and what is known behind it. -/
def stepS (c rows N : Nat) (i : Nat) (n : Nd) (out : List (List Int)) (kn : List Bool) : Option (List (List Int) × List Bool) :=
  if kn.getD i false = false then none
  else if n.kind ≠ 1 then if (infB rows n || bndB rows n) = true then some (out, kn) else none
  else if brC c N i n out kn then
    some ((out.set n.zero.toNat ((out.getD i []).set n.var.toNat 0)).set n.one.toNat ((out.getD i []).set n.var.toNat 1), (kn.set n.zero.toNat true).set n.one.toNat true)
  else none
def goS (c rows N : Nat) : Nat → List (List Int) → List Bool → List Nd → Option (List (List Int))
  | _, out, _, [] => some out
  | i, out, kn, n :: ns => match stepS c rows N i n out kn with
    | none => none
    | some (o, k) => goS c rows N (i + 1) o k ns
def statesF (P : Prog) (nodes : List Nd) : Option (List (List Int)) × Int :=
  if validB P = false then (none, 1) else if 8191 < nodes.length then (none, 3) else if nodes.length = 0 then (none, 29)
  else match goS P.costs.length P.rows.length nodes.length 0 ((List.replicate nodes.length []).set 0 (List.replicate P.costs.length (-1))) ((List.replicate nodes.length false).set 0 true) nodes with
    | none => (none, 29)
    | some o => (some o, 0)
def encS (st : List Int) : List AV := [ints st]
def statesV (P : Prog) (nodes : List Nd) : AV := .tup [.lst 1 (((statesF P nodes).1.getD []).map encS), .int .i64 (statesF P nodes).2]
theorem st_none {P : Prog} {nodes : List Nd} {e : Int} (h : statesF P nodes = (none, e)) : aret (.tup [.nil, .int .i64 e]) (· = statesV P nodes) :=
  ret_t (rs := [.lst 1 [], .int .i64 e]) ⟨.inl rc_n, (rc_p rfl).g, trivial⟩ (by rw [statesV, h]; rfl)
theorem encS_set {st : List Int} (out : List (List Int)) (i : Nat) : (out.map encS).modify i (fun c => c.set 0 (ints st)) = (out.set i st).map encS := by
  rw [map_modify (enc := encS) (g := fun _ => st) (fun x => rfl)]
  congr 1
  induction out generalizing i with
  | nil => simp
  | cons x l ih => cases i <;> simp [List.modify_zero_cons, List.modify_succ_cons, ih]
theorem encB_set {b : Bool} (kn : List Bool) (i : Nat) : (kn.map encB).modify i (fun c => c.set 0 (.bool b)) = (kn.set i b).map encB := by
  rw [map_modify (enc := encB) (g := fun _ => b) (fun x => rfl)]
  congr 1
  induction kn generalizing i with
  | nil => simp
  | cons x l ih => cases i <;> simp [List.modify_zero_cons, List.modify_succ_cons, ih]
theorem repl_S (n : Nat) : List.replicate n [AV.lst 1 []] = (List.replicate n []).map encS := by simp [encS, ints]
theorem repl_B (n : Nat) : List.replicate n [AV.bool false] = (List.replicate n false).map encB := by simp [encB]
theorem go_none {c rows N i : Nat} {n : Nd} {out : List (List Int)} {kn : List Bool} {ns : List Nd} (h : stepS c rows N i n out kn = none) : goS c rows N i out kn (n :: ns) = none := by simp only [goS, h]
theorem go_some {c rows N i : Nat} {n : Nd} {out o : List (List Int)} {kn k : List Bool} {ns : List Nd} (h : stepS c rows N i n out kn = some (o, k)) : goS c rows N i out kn (n :: ns) = goS c rows N (i + 1) o k ns := by simp only [goS, h]
theorem step_un {c rows N i : Nat} {n : Nd} {out : List (List Int)} {kn : List Bool} (h : kn[i]? = some false) : stepS c rows N i n out kn = none := by
  rw [stepS, if_pos (by simp [List.getD_eq_getElem?_getD, h])]
theorem step_leaf {c rows N i : Nat} {n : Nd} {out : List (List Int)} {kn : List Bool} (h : kn[i]? = some true) (hk : n.kind ≠ 1) : stepS c rows N i n out kn = if (infB rows n || bndB rows n) = true then some (out, kn) else none := by
  rw [stepS, if_neg (by simp [List.getD_eq_getElem?_getD, h]), if_pos hk]
theorem step_br {c rows N i : Nat} {n : Nd} {out : List (List Int)} {kn : List Bool} (h : kn[i]? = some true) (hk : n.kind = 1) : stepS c rows N i n out kn = if brC c N i n out kn then
    some ((out.set n.zero.toNat ((out.getD i []).set n.var.toNat 0)).set n.one.toNat ((out.getD i []).set n.var.toNat 1), (kn.set n.zero.toNat true).set n.one.toNat true) else none := by
  rw [stepS, if_neg (by simp [List.getD_eq_getElem?_getD, h]), if_neg (by simp [hk])]
theorem getD_some {α : Type} {xs : List α} {i : Nat} {x d : α} (h : xs[i]? = some x) : xs.getD i d = x := by simp [List.getD_eq_getElem?_getD, h]
theorem known_set {c N : Nat} {out : List (List Int)} {kn : List Bool} {z : Nat} {st : List Int} (ho : out.length = N) (hk : kn.length = N) (hz : z < N) (hst : st.length = c) (h : ∀ j : Nat, kn.getD j false = true → (out.getD j []).length = c) : ∀ j : Nat, (kn.set z true).getD j false = true → ((out.set z st).getD j []).length = c := fun j hj => by
  by_cases e : z = j
  · subst e
    rw [List.getD_eq_getElem?_getD, List.getElem?_set_self (by omega)]
    exact hst
  · rw [List.getD_eq_getElem?_getD, List.getElem?_set_ne e, ← List.getD_eq_getElem?_getD]
    rw [List.getD_eq_getElem?_getD, List.getElem?_set_ne e, ← List.getD_eq_getElem?_getD] at hj
    exact h j hj
theorem idx_mod_ne {es : List (List AV)} {i : Nat} {f : List AV → List AV} {n : Int} {K : List AV → Prop} (h : n.toNat ≠ i) (hi : idx es n K) : idx (es.modify i f) n K := by
  rw [idx_iff] at hi ⊢
  obtain ⟨h0, cs, h1, h2⟩ := hi
  exact ⟨h0, cs, by rw [List.getElem?_modify, h1]; simp; intro e; exact absurd e.symm h, h2⟩
set_option maxHeartbeats 2000000 in
theorem states_ok (P : Prog) (nodes : List Nd) (hP : Fits P) (hl : nodes.length ≤ 1000000) : Good Try.prog TT false 10 [progV P, ndsV nodes] (· = statesV P nodes) := by
  have L : (P.costs.map encI).length = P.costs.length := List.length_map ..
  have LR : (P.rows.map encRow).length = P.rows.length := List.length_map ..
  have LN : (nodes.map encN).length = nodes.length := List.length_map ..
  have eN : (((nodes.map encN).length : Int)).toNat = nodes.length := by simp
  refine good_of mixed tabOk Try.func10 rfl rfl Try.ntmps10 Try.results10 rfl rfl ?_
  (conv => whnf); (repeat' (first | (refine arith_i ⟨by omega, by omega⟩ ?_; conv => whnf) | (refine arith_u ⟨by omega, by omega⟩ ?_; conv => whnf) | (refine arith_8 ⟨by omega, by omega⟩ ?_; conv => whnf) | (refine need_i (by first | omega | (simp only [List.length_append, List.length_cons, List.length_nil, List.length_map, List.length_replicate, List.length_modify]; omega)) ?_; conv => whnf) | ((with_reducible refine branch_tt ?_); conv => whnf) | ((with_reducible refine branch_ff ?_); conv => whnf) | (with_reducible refine branch_not ?_) | ((refine call_e (valid_ok P hP.1 hP.2.1 hP.2.2) ?_); conv => whnf) | ((rw [L]; refine call_e (repeat_ok P.costs.length (validB_parts (by assumption)).1) ?_); conv => whnf) | ((refine nils_i [.lst 1 []] ⟨pc_nil 1, trivial⟩ ?_); conv => whnf) | ((refine idx_r (by omega) (by omega) ?_); conv => whnf) | ((with_reducible refine slc_e ?_); conv => whnf) | ((with_reducible refine callS_a ?_); conv => whnf) | ((with_reducible refine bld_a ?_); conv => whnf) | ((with_reducible refine own_e ?_); conv => whnf) | (refine draw_i 11 plGL09h_0 (by decide +kernel) ?_; (conv => whnf); fail_if_success (guard_target =~ False)) | (refine draw_i 0 plGL09h_1 (by decide +kernel) ?_; (conv => whnf); fail_if_success (guard_target =~ False)) | (refine draw_i 22 plGL09h_2 (by decide +kernel) ?_; (conv => whnf); fail_if_success (guard_target =~ False)) | (refine draw_i 22 plGL09h_3 (by decide +kernel) ?_; (conv => whnf); fail_if_success (guard_target =~ False)) | (refine draw_i 22 plGL09h_4 (by decide +kernel) ?_; (conv => whnf); fail_if_success (guard_target =~ False)) | (refine draw_i 17 plGL09h_5 (by decide +kernel) ?_; (conv => whnf); fail_if_success (guard_target =~ False)) | (refine draw_i 17 plGL09h_6 (by decide +kernel) ?_; (conv => whnf); fail_if_success (guard_target =~ False)) | (refine draw_i 17 plGL09h_5 (by decide +kernel) ?_; (conv => whnf); fail_if_success (guard_target =~ False)) | (refine draw_i 17 plGL09h_6 (by decide +kernel) ?_; (conv => whnf); fail_if_success (guard_target =~ False)) | ((with_reducible refine And.intro ?_ ?_) <;> (conv => whnf)) | (with_reducible exact trivial) | ((with_reducible refine branch_d (fun hq => ?_) (fun hq => ?_)) <;> (try (exfalso; omega)) <;> (conv => whnf)) | ((with_reducible refine branch_e (fun hq => ?_) (fun hq => ?_)) <;> (try (exfalso; omega)) <;> (conv => whnf)) | ((with_reducible refine branch_n (fun hq => ?_) (fun hq => ?_)) <;> (try (exfalso; omega)) <;> (conv => whnf)) | ((with_reducible refine branch_i (fun hq => ?_) (fun hq => ?_)) <;> (try (exfalso; omega)) <;> (conv => whnf))))
  · exact st_none (by rw [statesF, if_neg (by simp [*]), if_pos (by omega)])
  · exact st_none (by rw [statesF, if_neg (by simp [*]), if_neg (by omega), if_pos (by omega)])
  · rename_i hv _
    have hc := (validB_parts hv).1
    refine loop_i3 (fun (i : Nat) (out : List (List Int)) (kn : List Bool) => i ≤ nodes.length ∧ out.length = nodes.length ∧ kn.length = nodes.length ∧ (∀ j : Nat, kn.getD j false = true → (out.getD j []).length = P.costs.length) ∧
        statesF P nodes = (match goS P.costs.length P.rows.length nodes.length i out kn (nodes.drop i) with | none => (none, 29) | some o => (some o, 0)))
      (fun i out kn => mkSt [(2, .ptr 2 0), (6, .own 22 22 1 (out.map encS)), (7, .ptr 7 0), (8, .fn 30 [.ptr 3 0, .ptr 7 0]), (36, ndsV nodes), (37, .int .i64 (nodes.map encN).length), (38, .int .i64 i)] [(2, [ints P.costs, rowsV P.rows]), (3, [ndsV nodes]), (7, [.own 25 4 1 (kn.map encB)])] false)
      (fun i _ _ => nodes.length - i) 0 ((List.replicate nodes.length []).set 0 (List.replicate P.costs.length (-1))) ((List.replicate nodes.length false).set 0 true) ⟨Nat.zero_le _, by simp, by simp, ?_, ?_⟩
      (le_mk ⟨rfl, by rw [← encS_set, ← repl_S, ← eN]; rfl, rfl, rfl, rfl, rfl, rfl, trivial⟩ ⟨rfl, rfl, by rw [← encB_set, ← repl_B, ← eN]; rfl, trivial⟩ rfl) ?_
    · refine known_set (N := nodes.length) (by simp) (by simp) (by omega) (by simp) fun j hj => ?_
      rw [List.getD_eq_getElem?_getD, List.getElem?_replicate] at hj
      split at hj <;> simp at hj
    · rw [statesF, if_neg (by simp [hv]), if_neg (by omega), if_neg (by omega)]; rfl
    rintro i out kn ⟨hi, ho, hk, hlen, hF⟩
    have LO : (out.map encS).length = out.length := List.length_map ..
    have LK : (kn.map encB).length = kn.length := List.length_map ..
    (conv => whnf); (repeat' (first | (refine arith_i ⟨by omega, by omega⟩ ?_; conv => whnf) | (refine arith_u ⟨by omega, by omega⟩ ?_; conv => whnf) | (refine arith_8 ⟨by omega, by omega⟩ ?_; conv => whnf) | (refine need_i (by first | omega | (simp only [List.length_append, List.length_cons, List.length_nil, List.length_map, List.length_replicate, List.length_modify]; omega)) ?_; conv => whnf) | ((with_reducible refine branch_tt ?_); conv => whnf) | ((with_reducible refine branch_ff ?_); conv => whnf) | (with_reducible refine branch_not ?_) | ((first | refine idx_cs (by assumption) ?_ | refine idx_ms (by omega) (by assumption) ?_ | (refine idx_c (xs := nodes) (by omega) fun y hy => ?_; rw [drop_at hy] at hF) | (refine idx_c (xs := kn) (by omega) fun z hz => ?_) | (refine idx_c (xs := out) (by omega) fun st hst => ?_; have hsl := hlen i (by rw [getD_some hz]; assumption); rw [getD_some hst] at hsl; have LS : (st.map encI).length = st.length := List.length_map ..) | (refine idx_m (enc := encI) (by omega) (by omega) fun v hvv => ?_) | (refine idx_m (by omega) (by omega) fun u hu => ?_) | refine idx_mod_ne (by omega) ?_); conv => whnf) | ((refine call_e (oInf_ok P _) ?_); conv => whnf) | ((refine call_e (oBound_ok P _) ?_); conv => whnf) | ((refine call_e (later_ok nodes kn _ i hl hk (by omega)) ?_); conv => whnf) | ((refine call_e (with_ok _ _ _ (by omega) (by omega)) ?_); conv => whnf) | ((with_reducible refine slc_e ?_); conv => whnf) | ((with_reducible refine callS_a ?_); conv => whnf) | ((with_reducible refine bld_a ?_); conv => whnf) | ((with_reducible refine own_e ?_); conv => whnf) | (refine draw_i 11 plGL09h_0 (by decide +kernel) ?_; (conv => whnf); fail_if_success (guard_target =~ False)) | (refine draw_i 0 plGL09h_1 (by decide +kernel) ?_; (conv => whnf); fail_if_success (guard_target =~ False)) | (refine draw_i 22 plGL09h_3 (by decide +kernel) ?_; (conv => whnf); fail_if_success (guard_target =~ False)) | (refine draw_i 22 plGL09h_4 (by decide +kernel) ?_; (conv => whnf); fail_if_success (guard_target =~ False)) | (refine draw_i 22 plGL09h_2 (by decide +kernel) ?_; (conv => whnf); fail_if_success (guard_target =~ False)) | (refine draw_i 17 plGL09h_6 (by decide +kernel) ?_; (conv => whnf); fail_if_success (guard_target =~ False)) | (refine draw_i 17 plGL09h_5 (by decide +kernel) ?_; (conv => whnf); fail_if_success (guard_target =~ False)) | (refine draw_i 17 plGL09h_6 (by decide +kernel) ?_; (conv => whnf); fail_if_success (guard_target =~ False)) | (refine draw_i 17 plGL09h_5 (by decide +kernel) ?_; (conv => whnf); fail_if_success (guard_target =~ False)) | ((with_reducible refine And.intro ?_ ?_) <;> (conv => whnf)) | (with_reducible exact trivial) | ((with_reducible refine branch_d (fun hq => ?_) (fun hq => ?_)) <;> (try (exfalso; omega)) <;> (conv => whnf)) | ((with_reducible refine branch_e (fun hq => ?_) (fun hq => ?_)) <;> (try (exfalso; omega)) <;> (conv => whnf)) | ((with_reducible refine branch_n (fun hq => ?_) (fun hq => ?_)) <;> (try (exfalso; omega)) <;> (conv => whnf)) | ((with_reducible refine branch_i (fun hq => ?_) (fun hq => ?_)) <;> (try (exfalso; omega)) <;> (conv => whnf))))
    all_goals first
      | (have e1 : kn[i]? = some false := by rw [hz]; simp only [*]
         exact st_none (hF.trans (by rw [go_none (step_un e1)])))
      | (have e1 : kn[i]? = some true := by rw [hz]; simp only [*]
         have e2 : y.kind ≠ 1 := by assumption
         have e3 : stepS P.costs.length P.rows.length nodes.length i y out kn = none := by rw [step_leaf e1 e2]; simp [*]
         exact st_none (hF.trans (by rw [go_none e3])))
      | (have e1 : kn[i]? = some true := by rw [hz]; simp only [*]
         have e2 : y.kind = 1 := by assumption
         have e4 : ¬ brC P.costs.length nodes.length i y out kn := by
           rintro ⟨b1, b2, b3, b4, b5, b6, b7, b8, b9, b10⟩
           first | omega | exact hq ⟨b1, b2, b8⟩ | exact hq ⟨b3, b4, b9⟩ | (rw [getD_some hst, nth_eq hvv] at b10; exact hq b10)
         have e3 : stepS P.costs.length P.rows.length nodes.length i y out kn = none := by rw [step_br e1 e2, if_neg e4]
         exact st_none (hF.trans (by rw [go_none e3])))
      | (have e1 : kn[i]? = some true := by rw [hz]; simp only [*]
         have e2 : y.kind ≠ 1 := by assumption
         have e3 : stepS P.costs.length P.rows.length nodes.length i y out kn = some (out, kn) := by rw [step_leaf e1 e2]; simp [*]
         exact ⟨i + 1, out, kn, ⟨by omega, ho, hk, hlen, hF.trans (by rw [go_some e3])⟩, (le_mk (by repeat' (first | exact trivial | rfl | apply And.intro)) (by repeat' (first | exact trivial | rfl | apply And.intro)) rfl), by omega⟩)
      | (have e1 : kn[i]? = some true := by rw [hz]; simp only [*]
         have e2 : y.kind = 1 := by assumption
         have e4 : brC P.costs.length nodes.length i y out kn := ⟨by omega, by omega, by omega, by omega, by omega, by omega, by omega, by simp only [*], by simp only [*], by rw [getD_some hst, nth_eq hvv]; exact hq⟩
         have e3 := step_br (c := P.costs.length) (rows := P.rows.length) (N := nodes.length) e1 e2 (out := out)
         rw [if_pos e4, getD_some hst] at e3
         refine ⟨i + 1, _, _, ⟨by omega, ?_, ?_, ?_, hF.trans (by rw [go_some e3])⟩, le_mk ⟨rfl, by rw [← encS_set, ← encS_set]; rfl, rfl, rfl, rfl, rfl, rfl, trivial⟩ ⟨rfl, rfl, by rw [← encB_set, ← encB_set]; rfl, trivial⟩ rfl, by omega⟩
         · simp; exact ho
         · simp; exact hk
         · exact known_set (N := nodes.length) (by simp; exact ho) (by simp; exact hk) (by omega) (by simp; exact hsl) (known_set ho hk (by omega) (by simp; exact hsl) hlen))
      | (have e0 : nodes.drop i = [] := drop_end (by omega)
         rw [e0] at hF
         exact ret_t (rs := [.lst 1 (out.map encS), .int .i64 0]) ⟨.inl rc_o, (rc_p rfl).g, trivial⟩ (by rw [statesV, hF]; rfl))
  · exact st_none (by simp [statesF, *])
end Go.Proofs.Ytbjbhokkdnhfeaa
