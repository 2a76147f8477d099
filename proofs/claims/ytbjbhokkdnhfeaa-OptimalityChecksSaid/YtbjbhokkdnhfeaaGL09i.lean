/- Layer 9: Proved. -/
import Derived.Test.YtbjbhokkdnhfeaaGL09h
import Derived.Test.YtbjbhokkdnhfeaaGL09g
import Derived.Test.YtbjbhokkdnhfeaaMC
namespace Go.Proofs.Ytbjbhokkdnhfeaa
set_option linter.unusedVariables false
set_option linter.unusedSimpArgs false
set_option linter.unnecessarySimpa false
set_option linter.unusedSectionVars false
set_option maxRecDepth 10000
open Go.RowKit
def plGL09i_0 : Plan := (.take 0 (.take 1 (.take 2 (.take 3 (.take 4 (.alt 5 (.take 6 (.take 7 (.take 8 (.take 9 (.take 10 (.take 11 (.take 12 .done))))))) .stop))))))
def plGL09i_1 : Plan := (.take 0 (.take 1 (.take 2 (.take 3 (.alt 4 (.alt 5 (.take 6 (.take 7 (.take 8 (.take 9 (.take 10 (.take 11 (.take 12 .done))))))) .stop) .stop)))))
def plGL09i_2 : Plan := (.take 1 (.take 2 (.take 3 (.alt 0 (.alt 4 (.alt 5 (.take 6 (.take 7 (.take 8 (.take 9 (.take 10 (.take 11 (.take 12 .done))))))) .stop) .stop) (.alt 4 (.alt 0 (.alt 5 (.take 6 (.take 7 (.take 8 (.take 9 (.take 10 (.take 11 (.take 12 .done))))))) .stop) .stop) .stop)))))
def plGL09i_3 : Plan := (.take 0 (.take 1 (.take 2 (.take 3 (.take 4 (.take 5 (.alt 6 (.take 7 .done) .stop)))))))
def plGL09i_4 : Plan := (.take 0 (.take 1 (.take 2 (.take 3 (.take 5 (.alt 4 (.alt 6 (.take 7 .done) .stop) .stop))))))
def plGL09i_5 : Plan := (.take 1 (.take 2 (.take 3 (.alt 0 (.alt 4 (.alt 5 (.alt 6 (.take 7 .done) .stop) .stop) (.alt 5 (.alt 4 (.alt 6 (.take 7 .done) .stop) .stop) .stop)) (.alt 4 (.alt 0 (.alt 5 (.alt 6 (.take 7 .done) .stop) .stop) (.alt 5 (.alt 0 (.alt 6 (.take 7 .done) .stop) .stop) .stop)) (.alt 5 (.alt 0 (.alt 4 (.alt 6 (.take 7 .done) .stop) .stop) (.alt 4 (.alt 0 (.alt 6 (.take 7 .done) .stop) .stop) .stop)) .stop))))))
def plGL09i_6 : Plan := (.take 1 (.take 2 (.take 3 (.alt 0 (.alt 4 (.altM 5 (.take 6 (.take 7 (.take 8 (.take 9 (.take 10 (.take 11 (.take 12 .done))))))) .stop) .stop) (.alt 4 (.alt 0 (.altM 5 (.take 6 (.take 7 (.take 8 (.take 9 (.take 10 (.take 11 (.take 12 .done))))))) .stop) .stop) .stop)))))
def plGL09i_7 : Plan := (.take 1 (.take 2 (.take 3 (.alt 0 (.alt 4 (.alt 5 (.altM 6 (.take 7 .done) .stop) .stop) (.alt 5 (.alt 4 (.altM 6 (.take 7 .done) .stop) .stop) .stop)) (.alt 4 (.alt 0 (.alt 5 (.altM 6 (.take 7 .done) .stop) .stop) (.alt 5 (.alt 0 (.altM 6 (.take 7 .done) .stop) .stop) .stop)) (.alt 5 (.alt 0 (.alt 4 (.altM 6 (.take 7 .done) .stop) .stop) (.alt 4 (.alt 0 (.altM 6 (.take 7 .done) .stop) .stop) .stop)) .stop))))))

theorem known_tri {c N : Nat} {out : List (List Int)} {kn : List Bool} {z : Nat} {st : List Int} (ho : out.length = N) (hk : kn.length = N) (hz : z < N) (hst : stOB st c = true) (h : ∀ (j : Nat) s, kn[j]? = some true → out[j]? = some s → stOB s c = true) : ∀ (j : Nat) s, (kn.set z true)[j]? = some true → (out.set z st)[j]? = some s → stOB s c = true := fun j s hj hs => by
  by_cases e : z = j
  · subst e
    rw [List.getElem?_set_self (by omega)] at hs
    injection hs with hs
    exact hs ▸ hst
  · rw [List.getElem?_set_ne e] at hj hs
    exact h j s hj hs
theorem stO_set {c : Nat} {st : List Int} {v : Nat} {x : Int} (h : stOB st c = true) (hx : -1 ≤ x ∧ x ≤ 1) : stOB (st.set v x) c = true := by
  simp only [stOB, Bool.and_eq_true, decide_eq_true_eq, List.length_set, List.all_eq_true] at h ⊢
  refine ⟨h.1, fun y hy => ?_⟩
  rcases List.mem_or_eq_of_mem_set hy with h' | rfl
  · exact h.2 y h'
  · simp [tri9]; omega
def NodeOk (rows : Nat) (n : Nd) : Prop := n.kind ≠ 1 → (infB rows n || bndB rows n) = true
theorem goS_good {c rows : Nat} {nodes : List Nd} {o : List (List Int)} : ∀ (m i : Nat) (out : List (List Int)) (kn : List Bool), m = nodes.length - i → i ≤ nodes.length → out.length = nodes.length → kn.length = nodes.length → (∀ (j : Nat) s, kn[j]? = some true → out[j]? = some s → stOB s c = true) → (∀ (j : Nat) n, j < i → nodes[j]? = some n → kn[j]? = some true ∧ NodeOk rows n) →
    goS c rows nodes.length i out kn (nodes.drop i) = some o → o.length = nodes.length ∧ ∀ (j : Nat) s n, o[j]? = some s → nodes[j]? = some n → stOB s c = true ∧ NodeOk rows n := by
  intro m
  induction m with
  | zero =>
    intro i out kn hm hi ho hk hst hno hgo
    rw [drop_end (by omega)] at hgo
    simp only [goS, Option.some.injEq] at hgo
    subst hgo
    exact ⟨ho, fun j s n h1 h2 => by
      have hj := (List.getElem?_eq_some_iff.1 h2).1
      have := hno j n (by omega) h2
      exact ⟨hst j s this.1 h1, this.2⟩⟩
  | succ m ih =>
    intro i out kn hm hi ho hk hst hno hgo
    have hlt : i < nodes.length := by omega
    obtain ⟨y, hy⟩ : ∃ y, nodes[i]? = some y := ⟨_, List.getElem?_eq_getElem hlt⟩
    obtain ⟨b, hb⟩ : ∃ b, kn[i]? = some b := ⟨_, List.getElem?_eq_getElem (by omega)⟩
    rw [drop_at hy] at hgo
    cases b with
    | false => rw [go_none (step_un hb)] at hgo; cases hgo
    | true =>
      by_cases hkind : y.kind = 1
      · have e := step_br (c := c) (rows := rows) (N := nodes.length) hb hkind (out := out)
        by_cases hbr : brC c nodes.length i y out kn
        · rw [if_pos hbr] at e
          rw [go_some e] at hgo
          obtain ⟨b1, b2, b3, b4, b5, b6, b7, b8, b9, b10⟩ := hbr
          obtain ⟨st, hs⟩ : ∃ st, out[i]? = some st := ⟨_, List.getElem?_eq_getElem (by omega)⟩
          have ht := hst i st hb hs
          rw [getD_some hs] at hgo
          refine ih (i + 1) _ _ (by omega) (by omega) (by simp; exact ho) (by simp; exact hk) (known_tri (N := nodes.length) (by simp; exact ho) (by simp; exact hk) (by omega) (stO_set ht (by omega)) (known_tri ho hk (by omega) (stO_set ht (by omega)) hst)) (fun j n hj hn => ?_) hgo
          by_cases hji : j = i
          · subst hji
            rw [hy] at hn
            injection hn with hn
            subst hn
            refine ⟨?_, fun h => absurd hkind h⟩
            rw [List.getElem?_set_ne (by omega), List.getElem?_set_ne (by omega)]
            exact hb
          · have := hno j n (by omega) hn
            refine ⟨?_, this.2⟩
            by_cases e1 : y.one.toNat = j
            · subst e1; rw [List.getElem?_set_self (by simp; omega)]
            · rw [List.getElem?_set_ne e1]
              by_cases e2 : y.zero.toNat = j
              · subst e2; rw [List.getElem?_set_self (by omega)]
              · rw [List.getElem?_set_ne e2]; exact this.1
        · rw [if_neg hbr] at e
          rw [go_none e] at hgo
          cases hgo
      · have e := step_leaf (c := c) (rows := rows) (N := nodes.length) hb hkind (out := out)
        by_cases hl : (infB rows y || bndB rows y) = true
        · rw [if_pos hl] at e
          rw [go_some e] at hgo
          refine ih (i + 1) _ _ (by omega) (by omega) ho hk hst (fun j n hj hn => ?_) hgo
          by_cases hji : j = i
          · subst hji
            rw [hy] at hn
            injection hn with hn
            subst hn
            exact ⟨hb, fun _ => hl⟩
          · exact hno j n (by omega) hn
        · rw [if_neg hl] at e
          rw [go_none e] at hgo
          cases hgo
theorem states_good {P : Prog} {nodes : List Nd} {o : List (List Int)} {e : Int} (h : statesF P nodes = (some o, e)) : e = 0 ∧ validB P = true ∧ 0 < nodes.length ∧ nodes.length ≤ 8191 ∧ o.length = nodes.length ∧ ∀ (j : Nat) s n, o[j]? = some s → nodes[j]? = some n → stOB s P.costs.length = true ∧ NodeOk P.rows.length n := by
  unfold statesF at h
  split at h
  · cases h
  · next hv =>
    split at h
    · cases h
    · next h1 =>
      split at h
      · cases h
      · next h2 =>
        split at h
        · cases h
        · next o' ho =>
          simp only [Prod.mk.injEq, Option.some.injEq] at h
          obtain ⟨rfl, rfl⟩ := h
          refine ⟨rfl, by simpa using hv, by omega, by omega, ?_⟩
          refine goS_good (nodes.length - 0) 0 ((List.replicate nodes.length []).set 0 (List.replicate P.costs.length (-1))) ((List.replicate nodes.length false).set 0 true) rfl (Nat.zero_le _) (by simp) (by simp) ?_ (fun j n hj => by omega) (by simpa using ho)
          refine known_tri (N := nodes.length) (by simp) (by simp) (by omega) ?_ (fun j s hj => ?_)
          · simp [stOB, tri9]
          · rw [List.getElem?_replicate] at hj
            split at hj <;> simp at hj
/-- What a tree proves: the least bound of its leaves. -/
def goP (P : Prog) : List (List Int) → List Nd → Int → Bool → Int × Bool × Int
  | s :: ss, n :: ns, best, sm => if n.kind = 2 then (if blockedB s (rowAt P.rows n.row.toNat) = false then (0, false, 29) else goP P ss ns best sm)
    else if n.kind = 3 then goP P ss ns (if sm = false ∨ boundF P s n < best then boundF P s n else best) true
    else goP P ss ns best sm
  | _, _, best, sm => (best, sm, 0)
def provedF (P : Prog) (nodes : List Nd) : Int × Bool × Int := match statesF P nodes with
  | (none, e) => (0, false, e)
  | (some o, _) => goP P o nodes 0 false
def provedV (P : Prog) (nodes : List Nd) : AV := .tup [.int .i64 (provedF P nodes).1, .bool (provedF P nodes).2.1, .int .i64 (provedF P nodes).2.2]
theorem proved_ret {P : Prog} {nodes : List Nd} {b e : Int} {s : Bool} (h : provedF P nodes = (b, s, e)) : aret (.tup [.int .i64 b, .bool s, .int .i64 e]) (· = provedV P nodes) :=
  ret_t (rs := [.int .i64 b, .bool s, .int .i64 e]) ⟨(rc_p rfl).g, (rc_p rfl).g, (rc_p rfl).g, trivial⟩ (by rw [provedV, h])
theorem states_err {P : Prog} {nodes : List Nd} : (∃ o, statesF P nodes = (some o, 0)) ∨ (∃ e, e ≠ 0 ∧ statesF P nodes = (none, e)) := by
  unfold statesF
  split
  · exact .inr ⟨1, by omega, rfl⟩
  · split
    · exact .inr ⟨3, by omega, rfl⟩
    · split
      · exact .inr ⟨29, by omega, rfl⟩
      · split
        · exact .inr ⟨29, by omega, rfl⟩
        · exact .inl ⟨_, rfl⟩
theorem blocked_span {P : Prog} {st : List Int} {r : Row} (hv : validB P = true) (hr : r ∈ P.rows) (hs : stOB st P.costs.length = true) : spanB r.coefs st = true ∧ blockedB st r = !(decide ((spanF r.coefs st).1 ≤ r.most ∧ r.least ≤ (spanF r.coefs st).2 ∧ r.least ≤ r.most)) := by
  have h1 := valid_rows hv hr
  have hb : spanB r.coefs st = true := by
    have := (validB_parts hv).1
    rw [spanB, Bool.and_eq_true, ← stO_state (by omega), h1.1]
    refine ⟨hs, ?_⟩
    rw [validCoefsB, List.all_eq_true]
    intro x hx
    obtain ⟨i, hi, e⟩ := mem_nth hx
    rw [coefB_iff, ← e]
    exact h1.2.1 i hi
  refine ⟨hb, ?_⟩
  rw [Bool.eq_iff_iff]
  simp [blockedB, hb]
  omega
theorem node_cases {rows : Nat} {n : Nd} (h : NodeOk rows n) : (n.kind = 2 → 0 ≤ n.row ∧ n.row < rows) ∧ (n.kind = 3 → bndB rows n = true) := by
  refine ⟨fun hk => ?_, fun hk => ?_⟩
  · have := h (by omega)
    simp [infB, bnd_row, hk] at this
    exact this
  · have := h (by omega)
    simp [infB, hk] at this
    exact this
theorem st_len {st : List Int} {c : Nat} (h : stOB st c = true) : st.length = c := by simp [stOB] at h; omega
set_option maxHeartbeats 2000000 in
theorem proved_ok (P : Prog) (nodes : List Nd) (hP : Fits P) (hl : nodes.length ≤ 1000000) : Good Try.prog TT false 15 [progV P, ndsV nodes] (· = provedV P nodes) := by
  have L : (P.costs.map encI).length = P.costs.length := List.length_map ..
  have LR : (P.rows.map encRow).length = P.rows.length := List.length_map ..
  have LN : (nodes.map encN).length = nodes.length := List.length_map ..
  rcases states_err (P := P) (nodes := nodes) with ⟨o, ho⟩ | ⟨e, he, ho⟩
  · have hS : Good Try.prog TT false 10 [progV P, ndsV nodes] (· = .tup [.lst 1 (o.map encS), .int .i64 0]) := (states_ok P nodes hP hl).mono fun r h => h.trans (by rw [statesV, ho]; rfl)
    obtain ⟨-, hv, h0, h8, hol, hgood⟩ := states_good ho
    have hpf : provedF P nodes = goP P o nodes 0 false := by rw [provedF, ho]
    have hc12 := (validB_parts hv).1
    have LO : (o.map encS).length = o.length := List.length_map ..
    refine good_of mixed tabOk Try.func15 rfl rfl Try.ntmps15 Try.results15 rfl rfl ?_
    (conv => whnf); (repeat' (first | (refine arith_i ⟨by omega, by omega⟩ ?_; conv => whnf) | (refine arith_u ⟨by omega, by omega⟩ ?_; conv => whnf) | (refine arith_8 ⟨by omega, by omega⟩ ?_; conv => whnf) | (refine need_i (by first | omega | (simp only [List.length_append, List.length_cons, List.length_nil, List.length_map, List.length_replicate, List.length_modify]; omega)) ?_; conv => whnf) | ((with_reducible refine branch_tt ?_); conv => whnf) | ((with_reducible refine branch_ff ?_); conv => whnf) | (with_reducible refine branch_not ?_) | ((refine call_e hS ?_); conv => whnf) | ((with_reducible refine slc_e ?_); conv => whnf) | ((with_reducible refine callS_a ?_); conv => whnf) | ((with_reducible refine bld_a ?_); conv => whnf) | ((with_reducible refine own_e ?_); conv => whnf) | (refine draw_i 13 plGL09i_0 (by decide +kernel) ?_; (conv => whnf); fail_if_success (guard_target =~ False)) | (refine draw_i 13 plGL09i_1 (by decide +kernel) ?_; (conv => whnf); fail_if_success (guard_target =~ False)) | (refine draw_i 13 plGL09i_2 (by decide +kernel) ?_; (conv => whnf); fail_if_success (guard_target =~ False)) | (refine draw_i 8 plGL09i_3 (by decide +kernel) ?_; (conv => whnf); fail_if_success (guard_target =~ False)) | (refine draw_i 8 plGL09i_4 (by decide +kernel) ?_; (conv => whnf); fail_if_success (guard_target =~ False)) | (refine draw_i 8 plGL09i_5 (by decide +kernel) ?_; (conv => whnf); fail_if_success (guard_target =~ False)) | ((with_reducible refine And.intro ?_ ?_) <;> (conv => whnf)) | (with_reducible exact trivial) | ((with_reducible refine branch_d (fun hq => ?_) (fun hq => ?_)) <;> (try (exfalso; omega)) <;> (conv => whnf)) | ((with_reducible refine branch_e (fun hq => ?_) (fun hq => ?_)) <;> (try (exfalso; omega)) <;> (conv => whnf)) | ((with_reducible refine branch_n (fun hq => ?_) (fun hq => ?_)) <;> (try (exfalso; omega)) <;> (conv => whnf)) | ((with_reducible refine branch_i (fun hq => ?_) (fun hq => ?_)) <;> (try (exfalso; omega)) <;> (conv => whnf))))
    refine loop_i3 (fun (i : Nat) (best : Int) (sm : Bool) => i ≤ nodes.length ∧ provedF P nodes = goP P (o.drop i) (nodes.drop i) best sm)
      (fun i best sm => mkSt [(2, .ptr 2 0), (4, .int .i64 best), (5, .bool sm), (7, .lst 1 (o.map encS)), (24, ndsV nodes), (25, .int .i64 (nodes.map encN).length), (26, .int .i64 i)] [(2, [ints P.costs, rowsV P.rows])] false)
      (fun i _ _ => nodes.length - i) 0 0 false ⟨Nat.zero_le _, by simpa using hpf⟩ (le_mk (by repeat' (first | exact trivial | rfl | apply And.intro)) (by repeat' (first | exact trivial | rfl | apply And.intro)) rfl) ?_
    rintro i best sm ⟨hi, hF⟩
    (conv => whnf); (repeat' (first | (refine arith_i ⟨by omega, by omega⟩ ?_; conv => whnf) | (refine arith_u ⟨by omega, by omega⟩ ?_; conv => whnf) | (refine arith_8 ⟨by omega, by omega⟩ ?_; conv => whnf) | (refine need_i (by first | omega | (simp only [List.length_append, List.length_cons, List.length_nil, List.length_map, List.length_replicate, List.length_modify]; omega)) ?_; conv => whnf) | ((with_reducible refine branch_tt ?_); conv => whnf) | ((with_reducible refine branch_ff ?_); conv => whnf) | (with_reducible refine branch_not ?_) | ((first | refine idx_cs (by assumption) ?_ | refine idx_ms (by omega) (by assumption) ?_ | (refine idx_c (xs := nodes) (by omega) fun y hy => ?_; obtain ⟨st, hst⟩ : ∃ st, o[i]? = some st := ⟨_, List.getElem?_eq_getElem (by omega)⟩; rw [drop_at hy, drop_at hst, goP] at hF; have hg := hgood i st y hst hy; have hsl := st_len hg.1; have hnc := node_cases hg.2) | (refine idx_m (xs := P.rows) (by omega) (by omega) fun u hu => ?_; have hur := rowAt_eq hu; have hbs := blocked_span hv (List.mem_of_getElem? hu) hg.1; have hspl := (valid_rows hv (List.mem_of_getElem? hu)).1)); conv => whnf) | ((refine call_e (boundOf_ok P _ _ hv hsl (hnc.2 (by assumption))) ?_); conv => whnf) | ((refine call_e (span_ok u.coefs st u.least u.most (by omega) (by omega)) ?_); conv => whnf) | ((with_reducible refine slc_e ?_); conv => whnf) | ((with_reducible refine callS_a ?_); conv => whnf) | ((with_reducible refine bld_a ?_); conv => whnf) | ((with_reducible refine own_e ?_); conv => whnf) | (refine draw_i 13 plGL09i_0 (by decide +kernel) ?_; (conv => whnf); fail_if_success (guard_target =~ False)) | (refine draw_i 13 plGL09i_1 (by decide +kernel) ?_; (conv => whnf); fail_if_success (guard_target =~ False)) | (refine draw_i 13 plGL09i_2 (by decide +kernel) ?_; (conv => whnf); fail_if_success (guard_target =~ False)) | (refine draw_i 8 plGL09i_3 (by decide +kernel) ?_; (conv => whnf); fail_if_success (guard_target =~ False)) | (refine draw_i 8 plGL09i_4 (by decide +kernel) ?_; (conv => whnf); fail_if_success (guard_target =~ False)) | (refine draw_i 8 plGL09i_5 (by decide +kernel) ?_; (conv => whnf); fail_if_success (guard_target =~ False)) | ((with_reducible refine And.intro ?_ ?_) <;> (conv => whnf)) | (with_reducible exact trivial) | ((with_reducible refine branch_d (fun hq => ?_) (fun hq => ?_)) <;> (try (exfalso; omega)) <;> (conv => whnf)) | ((with_reducible refine branch_e (fun hq => ?_) (fun hq => ?_)) <;> (try (exfalso; omega)) <;> (conv => whnf)) | ((with_reducible refine branch_n (fun hq => ?_) (fun hq => ?_)) <;> (try (exfalso; omega)) <;> (conv => whnf)) | ((with_reducible refine branch_i (fun hq => ?_) (fun hq => ?_)) <;> (try (exfalso; omega)) <;> (conv => whnf))))
    all_goals first
      | (have e : blockedB st u = false := by rw [hbs.2]; simp; omega
         rw [if_pos (by assumption), hur, if_pos e] at hF
         exact proved_ret hF)
      | (have e : ¬ blockedB st u = false := by rw [hbs.2]; simp; omega
         rw [if_pos (by assumption), hur, if_neg e] at hF
         exact ⟨i + 1, best, sm, ⟨by omega, hF⟩, (le_mk (by repeat' (first | exact trivial | rfl | apply And.intro)) (by repeat' (first | exact trivial | rfl | apply And.intro)) rfl), by omega⟩)
      | (rw [if_neg (by omega), if_pos (by assumption), if_pos (by first | (left; assumption) | (right; assumption))] at hF
         exact ⟨i + 1, boundF P st y, true, ⟨by omega, hF⟩, (le_mk (by repeat' (first | exact trivial | rfl | apply And.intro)) (by repeat' (first | exact trivial | rfl | apply And.intro)) rfl), by omega⟩)
      | (have e : sm = true := by assumption
         have e5 : ¬ (sm = false ∨ boundF P st y < best) := fun h => h.elim (fun h => by rw [e] at h; cases h) (fun h => by omega)
         rw [if_neg (by omega), if_pos (by assumption), if_neg e5] at hF
         rw [← e] at hF
         exact ⟨i + 1, best, sm, ⟨by omega, hF⟩, (le_mk (by repeat' (first | exact trivial | rfl | apply And.intro)) (by repeat' (first | exact trivial | rfl | apply And.intro)) rfl), by omega⟩)
      | (rw [if_neg (by omega), if_neg (by omega)] at hF
         exact ⟨i + 1, best, sm, ⟨by omega, hF⟩, (le_mk (by repeat' (first | exact trivial | rfl | apply And.intro)) (by repeat' (first | exact trivial | rfl | apply And.intro)) rfl), by omega⟩)
      | (rw [drop_end (by omega), drop_end (by omega)] at hF
         exact proved_ret hF)
  · have hS : Good Try.prog TT false 10 [progV P, ndsV nodes] (· = .tup [.lst 1 [], .int .i64 e]) := (states_ok P nodes hP hl).mono fun r h => h.trans (by rw [statesV, ho]; rfl)
    have hpf : provedF P nodes = (0, false, e) := by rw [provedF, ho]
    refine good_of mixed tabOk Try.func15 rfl rfl Try.ntmps15 Try.results15 rfl rfl ?_
    (conv => whnf); (repeat' (first | (refine arith_i ⟨by omega, by omega⟩ ?_; conv => whnf) | (refine arith_u ⟨by omega, by omega⟩ ?_; conv => whnf) | (refine arith_8 ⟨by omega, by omega⟩ ?_; conv => whnf) | (refine need_i (by first | omega | (simp only [List.length_append, List.length_cons, List.length_nil, List.length_map, List.length_replicate, List.length_modify]; omega)) ?_; conv => whnf) | ((with_reducible refine branch_tt ?_); conv => whnf) | ((with_reducible refine branch_ff ?_); conv => whnf) | (with_reducible refine branch_not ?_) | ((refine call_e hS ?_); conv => whnf) | ((with_reducible refine slc_e ?_); conv => whnf) | ((with_reducible refine callS_a ?_); conv => whnf) | ((with_reducible refine bld_a ?_); conv => whnf) | ((with_reducible refine own_e ?_); conv => whnf) | (refine draw_i 13 plGL09i_0 (by decide +kernel) ?_; (conv => whnf); fail_if_success (guard_target =~ False)) | (refine draw_i 13 plGL09i_1 (by decide +kernel) ?_; (conv => whnf); fail_if_success (guard_target =~ False)) | (refine draw_i 13 plGL09i_2 (by decide +kernel) ?_; (conv => whnf); fail_if_success (guard_target =~ False)) | (refine draw_i 8 plGL09i_3 (by decide +kernel) ?_; (conv => whnf); fail_if_success (guard_target =~ False)) | (refine draw_i 8 plGL09i_4 (by decide +kernel) ?_; (conv => whnf); fail_if_success (guard_target =~ False)) | (refine draw_i 8 plGL09i_5 (by decide +kernel) ?_; (conv => whnf); fail_if_success (guard_target =~ False)) | ((with_reducible refine And.intro ?_ ?_) <;> (conv => whnf)) | (with_reducible exact trivial) | ((with_reducible refine branch_d (fun hq => ?_) (fun hq => ?_)) <;> (try (exfalso; omega)) <;> (conv => whnf)) | ((with_reducible refine branch_e (fun hq => ?_) (fun hq => ?_)) <;> (try (exfalso; omega)) <;> (conv => whnf)) | ((with_reducible refine branch_n (fun hq => ?_) (fun hq => ?_)) <;> (try (exfalso; omega)) <;> (conv => whnf)) | ((with_reducible refine branch_i (fun hq => ?_) (fun hq => ?_)) <;> (try (exfalso; omega)) <;> (conv => whnf))))
    exact proved_ret hpf
end Go.Proofs.Ytbjbhokkdnhfeaa
