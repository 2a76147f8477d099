/- Several texts in one: GL09i, GL09j, GL10b, GL10c, GL08b2, GL10d, GBr, GBr2, GL09k, GL09l, GL10e, GL06b, GL10f, GL10g, GL10h, GL10i, GL09m, GL09n, GL09o, GL09p, GBr3, GL09q. -/
import Derived.Test.YtengafkfgcdpeaaV3
import Derived.Test.YtengafkfgcdpeaaMC
import Derived.Test.YtengafkfgcdpeaaV1
import Derived.Test.YtengafkfgcdpeaaFrame
import Derived.Test.YtengafkfgcdpeaaV2
import Derived.Deep.Slices
import Derived.Deep.Fields
import Derived.ChangeSame
/- Layer 9: Proved. -/
section
namespace Go.Proofs.Ytengafkfgcdpeaa
set_option linter.unusedVariables false
set_option linter.unusedSimpArgs false
set_option linter.unnecessarySimpa false
set_option linter.unusedSectionVars false
set_option maxRecDepth 10000
open Go.RowKit
def plGL09i_0 : Plan := (.take 0 (.take 1 (.take 2 (.take 3 (.take 4 (.alt 5 (.take 6 (.take 7 (.take 8 (.take 9 (.take 10 (.take 11 (.take 12 .done))))))) .stop))))))
def plGL09i_1 : Plan := (.take 0 (.take 1 (.take 2 (.take 3 (.alt 4 (.alt 5 (.take 6 (.take 7 (.take 8 (.take 9 (.take 10 (.take 11 (.take 12 .done))))))) .stop) .stop)))))
def plGL09i_2 : Plan := (.take 1 (.take 2 (.take 3 (.alt 0 (.alt 4 (.alt 5 (.take 6 (.take 7 (.take 8 (.take 9 (.take 10 (.take 11 (.take 12 .done))))))) .stop) .stop) (.alt 4 (.alt 0 (.alt 5 (.take 6 (.take 7 (.take 8 (.take 9 (.take 10 (.take 11 (.take 12 .done))))))) .stop) .stop) .stop)))))
def plGL09i_3 : Plan := (.take 0 (.take 1 (.take 2 (.take 3 (.take 4 (.take 5 (.alt 6 (.take 7 .done) .stop)))))))
def plGL09i_4 : Plan := (.take 0 (.take 1 (.take 2 (.take 3 (.take 5 (.alt 4 (.alt 6 (.take 7 .done) .stop) .stop))))))
def plGL09i_5 : Plan := (.take 1 (.take 2 (.take 3 (.alt 0 (.alt 4 (.alt 5 (.alt 6 (.take 7 .done) .stop) .stop) (.alt 5 (.alt 4 (.alt 6 (.take 7 .done) .stop) .stop) .stop)) (.alt 4 (.alt 0 (.alt 5 (.alt 6 (.take 7 .done) .stop) .stop) (.alt 5 (.alt 0 (.alt 6 (.take 7 .done) .stop) .stop) .stop)) (.alt 5 (.alt 0 (.alt 4 (.alt 6 (.take 7 .done) .stop) .stop) (.alt 4 (.alt 0 (.alt 6 (.take 7 .done) .stop) .stop) .stop)) .stop))))))
theorem known_tri {c N : Nat} {out : List (List Int)} {kn : List Bool} {z : Nat} {st : List Int} (ho : out.length = N) (hk : kn.length = N) (hz : z < N) (hst : stOB st c = true) (h : ∀ (j : Nat) s, kn[j]? = some true → out[j]? = some s → stOB s c = true) : ∀ (j : Nat) s, (kn.set z true)[j]? = some true → (out.set z st)[j]? = some s → stOB s c = true := fun j s hj hs => by
  by_cases e : z = j
  · subst e
    rw [List.getElem?_set_self (by omega)] at hs
    injection hs with hs
    exact hs ▸ hst
  · rw [List.getElem?_set_ne e] at hj hs
    exact h j s hj hs
theorem stO_set {c : Nat} {st : List Int} {v : Nat} {x : Int} (h : stOB st c = true) (hx : -1 ≤ x ∧ x ≤ 1) : stOB (st.set v x) c = true := by
  simp only [stOB, Bool.and_eq_true, decide_eq_true_eq, List.length_set, List.all_eq_true] at h ⊢
  refine ⟨h.1, fun y hy => ?_⟩
  rcases List.mem_or_eq_of_mem_set hy with h' | rfl
  · exact h.2 y h'
  · simp [tri9]; omega
def NodeOk (rows : Nat) (n : Nd) : Prop := n.kind ≠ 1 → (infB rows n || bndB rows n) = true
theorem goS_good {c rows : Nat} {nodes : List Nd} {o : List (List Int)} : ∀ (m i : Nat) (out : List (List Int)) (kn : List Bool), m = nodes.length - i → i ≤ nodes.length → out.length = nodes.length → kn.length = nodes.length → (∀ (j : Nat) s, kn[j]? = some true → out[j]? = some s → stOB s c = true) → (∀ (j : Nat) n, j < i → nodes[j]? = some n → kn[j]? = some true ∧ NodeOk rows n) →
    goS c rows nodes.length i out kn (nodes.drop i) = some o → o.length = nodes.length ∧ ∀ (j : Nat) s n, o[j]? = some s → nodes[j]? = some n → stOB s c = true ∧ NodeOk rows n := by
  intro m
  induction m with
  | zero =>
    intro i out kn hm hi ho hk hst hno hgo
    rw [drop_end (by omega)] at hgo
    simp only [goS, Option.some.injEq] at hgo
    subst hgo
    exact ⟨ho, fun j s n h1 h2 => by
      have hj := (List.getElem?_eq_some_iff.1 h2).1
      have := hno j n (by omega) h2
      exact ⟨hst j s this.1 h1, this.2⟩⟩
  | succ m ih =>
    intro i out kn hm hi ho hk hst hno hgo
    have hlt : i < nodes.length := by omega
    obtain ⟨y, hy⟩ : ∃ y, nodes[i]? = some y := ⟨_, List.getElem?_eq_getElem hlt⟩
    obtain ⟨b, hb⟩ : ∃ b, kn[i]? = some b := ⟨_, List.getElem?_eq_getElem (by omega)⟩
    rw [drop_at hy] at hgo
    cases b with
    | false => rw [go_none (step_un hb)] at hgo; cases hgo
    | true =>
      by_cases hkind : y.kind = 1
      · have e := step_br (c := c) (rows := rows) (N := nodes.length) hb hkind (out := out)
        by_cases hbr : brC c nodes.length i y out kn
        · rw [if_pos hbr] at e
          rw [go_some e] at hgo
          obtain ⟨b1, b2, b3, b4, b5, b6, b7, b8, b9, b10⟩ := hbr
          obtain ⟨st, hs⟩ : ∃ st, out[i]? = some st := ⟨_, List.getElem?_eq_getElem (by omega)⟩
          have ht := hst i st hb hs
          rw [getD_some hs] at hgo
          refine ih (i + 1) _ _ (by omega) (by omega) (by simp; exact ho) (by simp; exact hk) (known_tri (N := nodes.length) (by simp; exact ho) (by simp; exact hk) (by omega) (stO_set ht (by omega)) (known_tri ho hk (by omega) (stO_set ht (by omega)) hst)) (fun j n hj hn => ?_) hgo
          by_cases hji : j = i
          · subst hji
            rw [hy] at hn
            injection hn with hn
            subst hn
            refine ⟨?_, fun h => absurd hkind h⟩
            rw [List.getElem?_set_ne (by omega), List.getElem?_set_ne (by omega)]
            exact hb
          · have := hno j n (by omega) hn
            refine ⟨?_, this.2⟩
            by_cases e1 : y.one.toNat = j
            · subst e1; rw [List.getElem?_set_self (by simp; omega)]
            · rw [List.getElem?_set_ne e1]
              by_cases e2 : y.zero.toNat = j
              · subst e2; rw [List.getElem?_set_self (by omega)]
              · rw [List.getElem?_set_ne e2]; exact this.1
        · rw [if_neg hbr] at e
          rw [go_none e] at hgo
          cases hgo
      · have e := step_leaf (c := c) (rows := rows) (N := nodes.length) hb hkind (out := out)
        by_cases hl : (infB rows y || bndB rows y) = true
        · rw [if_pos hl] at e
          rw [go_some e] at hgo
          refine ih (i + 1) _ _ (by omega) (by omega) ho hk hst (fun j n hj hn => ?_) hgo
          by_cases hji : j = i
          · subst hji
            rw [hy] at hn
            injection hn with hn
            subst hn
            exact ⟨hb, fun _ => hl⟩
          · exact hno j n (by omega) hn
        · rw [if_neg hl] at e
          rw [go_none e] at hgo
          cases hgo
theorem states_good {P : Prog} {nodes : List Nd} {o : List (List Int)} {e : Int} (h : statesF P nodes = (some o, e)) : e = 0 ∧ validB P = true ∧ 0 < nodes.length ∧ nodes.length ≤ 8191 ∧ o.length = nodes.length ∧ ∀ (j : Nat) s n, o[j]? = some s → nodes[j]? = some n → stOB s P.costs.length = true ∧ NodeOk P.rows.length n := by
  unfold statesF at h
  split at h
  · cases h
  · next hv =>
    split at h
    · cases h
    · next h1 =>
      split at h
      · cases h
      · next h2 =>
        split at h
        · cases h
        · next o' ho =>
          simp only [Prod.mk.injEq, Option.some.injEq] at h
          obtain ⟨rfl, rfl⟩ := h
          refine ⟨rfl, by simpa using hv, by omega, by omega, ?_⟩
          refine goS_good (nodes.length - 0) 0 ((List.replicate nodes.length []).set 0 (List.replicate P.costs.length (-1))) ((List.replicate nodes.length false).set 0 true) rfl (Nat.zero_le _) (by simp) (by simp) ?_ (fun j n hj => by omega) (by simpa using ho)
          refine known_tri (N := nodes.length) (by simp) (by simp) (by omega) ?_ (fun j s hj => ?_)
          · simp [stOB, tri9]
          · rw [List.getElem?_replicate] at hj
            split at hj <;> simp at hj
/-- What a tree proves: the least bound of its leaves. -/
def goP (P : Prog) : List (List Int) → List Nd → Int → Bool → Int × Bool × Int
  | s :: ss, n :: ns, best, sm => if n.kind = 2 then (if blockedB s (rowAt P.rows n.row.toNat) = false then (0, false, 29) else goP P ss ns best sm)
    else if n.kind = 3 then goP P ss ns (if sm = false ∨ boundF P s n < best then boundF P s n else best) true
    else goP P ss ns best sm
  | _, _, best, sm => (best, sm, 0)
def provedF (P : Prog) (nodes : List Nd) : Int × Bool × Int := match statesF P nodes with
  | (none, e) => (0, false, e)
  | (some o, _) => goP P o nodes 0 false
def provedV (P : Prog) (nodes : List Nd) : AV := .tup [.int .i64 (provedF P nodes).1, .bool (provedF P nodes).2.1, .int .i64 (provedF P nodes).2.2]
theorem proved_ret {P : Prog} {nodes : List Nd} {b e : Int} {s : Bool} (h : provedF P nodes = (b, s, e)) : aret (.tup [.int .i64 b, .bool s, .int .i64 e]) (· = provedV P nodes) :=
  ret_t (rs := [.int .i64 b, .bool s, .int .i64 e]) ⟨(rc_p rfl).g, (rc_p rfl).g, (rc_p rfl).g, trivial⟩ (by rw [provedV, h])
theorem states_err {P : Prog} {nodes : List Nd} : (∃ o, statesF P nodes = (some o, 0)) ∨ (∃ e, e ≠ 0 ∧ statesF P nodes = (none, e)) := by
  unfold statesF
  split
  · exact .inr ⟨1, by omega, rfl⟩
  · split
    · exact .inr ⟨3, by omega, rfl⟩
    · split
      · exact .inr ⟨29, by omega, rfl⟩
      · split
        · exact .inr ⟨29, by omega, rfl⟩
        · exact .inl ⟨_, rfl⟩
theorem blocked_span {P : Prog} {st : List Int} {r : Row} (hv : validB P = true) (hr : r ∈ P.rows) (hs : stOB st P.costs.length = true) : spanB r.coefs st = true ∧ blockedB st r = !(decide ((spanF r.coefs st).1 ≤ r.most ∧ r.least ≤ (spanF r.coefs st).2 ∧ r.least ≤ r.most)) := by
  have h1 := valid_rows hv hr
  have hb : spanB r.coefs st = true := by
    have := (validB_parts hv).1
    rw [spanB, Bool.and_eq_true, ← stO_state (by omega), h1.1]
    refine ⟨hs, ?_⟩
    rw [validCoefsB, List.all_eq_true]
    intro x hx
    obtain ⟨i, hi, e⟩ := mem_nth hx
    rw [coefB_iff, ← e]
    exact h1.2.1 i hi
  refine ⟨hb, ?_⟩
  rw [Bool.eq_iff_iff]
  simp [blockedB, hb]
  omega
theorem node_cases {rows : Nat} {n : Nd} (h : NodeOk rows n) : (n.kind = 2 → 0 ≤ n.row ∧ n.row < rows) ∧ (n.kind = 3 → bndB rows n = true) := by
  refine ⟨fun hk => ?_, fun hk => ?_⟩
  · have := h (by omega)
    simp [infB, bnd_row, hk] at this
    exact this
  · have := h (by omega)
    simp [infB, hk] at this
    exact this
theorem st_len {st : List Int} {c : Nat} (h : stOB st c = true) : st.length = c := by simp [stOB] at h; omega
set_option maxHeartbeats 2000000 in
theorem proved_ok (P : Prog) (nodes : List Nd) (hP : Fits P) (hl : nodes.length ≤ 1000000) : Good Try.prog TT false 67 [progV P, ndsV nodes] (· = provedV P nodes) := by
  have L : (P.costs.map encI).length = P.costs.length := List.length_map ..
  have LR : (P.rows.map encRow).length = P.rows.length := List.length_map ..
  have LN : (nodes.map encN).length = nodes.length := List.length_map ..
  rcases states_err (P := P) (nodes := nodes) with ⟨o, ho⟩ | ⟨e, he, ho⟩
  · have hS : Good Try.prog TT false 86 [progV P, ndsV nodes] (· = .tup [.lst 1 (o.map encS), .int .i64 0]) := (states_ok P nodes hP hl).mono fun r h => h.trans (by rw [statesV, ho]; rfl)
    obtain ⟨-, hv, h0, h8, hol, hgood⟩ := states_good ho
    have hpf : provedF P nodes = goP P o nodes 0 false := by rw [provedF, ho]
    have hc12 := (validB_parts hv).1
    have LO : (o.map encS).length = o.length := List.length_map ..
    refine good_of mixed tabOk Try.func67 rfl rfl Try.ntmps67 Try.results67 rfl rfl ?_
    (conv => whnf); (repeat' (first | (refine arith_i ⟨by omega, by omega⟩ ?_; conv => whnf) | (refine arith_u ⟨by omega, by omega⟩ ?_; conv => whnf) | (refine arith_8 ⟨by omega, by omega⟩ ?_; conv => whnf) | (refine need_i (by first | omega | (simp only [List.length_cons, List.length_nil]; omega) | (simp only [List.length_append, List.length_cons, List.length_nil, List.length_map, List.length_replicate, List.length_modify]; omega)) ?_; conv => whnf) | ((with_reducible refine branch_tt ?_); conv => whnf) | ((with_reducible refine branch_ff ?_); conv => whnf) | (with_reducible refine branch_not ?_) | ((refine call_e hS ?_); conv => whnf) | ((with_reducible refine slc_e ?_); conv => whnf) | ((with_reducible refine callS_a ?_); conv => whnf) | ((with_reducible refine bld_a ?_); conv => whnf) | ((with_reducible refine own_e ?_); conv => whnf) | ((with_reducible refine mkmap_b ?_); conv => whnf) | (refine draw_i 13 plGL09i_0 (by decide +kernel) ?_; (conv => whnf); fail_if_success (guard_target =~ False)) | (refine draw_i 13 plGL09i_1 (by decide +kernel) ?_; (conv => whnf); fail_if_success (guard_target =~ False)) | (refine draw_i 13 plGL09i_2 (by decide +kernel) ?_; (conv => whnf); fail_if_success (guard_target =~ False)) | (refine draw_i 8 plGL09i_3 (by decide +kernel) ?_; (conv => whnf); fail_if_success (guard_target =~ False)) | (refine draw_i 8 plGL09i_4 (by decide +kernel) ?_; (conv => whnf); fail_if_success (guard_target =~ False)) | (refine draw_i 8 plGL09i_5 (by decide +kernel) ?_; (conv => whnf); fail_if_success (guard_target =~ False)) | ((with_reducible refine And.intro ?_ ?_) <;> (conv => whnf)) | (with_reducible exact trivial) | ((with_reducible refine branch_d (fun hq => ?_) (fun hq => ?_)) <;> (try (exfalso; omega)) <;> (conv => whnf)) | ((with_reducible refine branch_e (fun hq => ?_) (fun hq => ?_)) <;> (try (exfalso; omega)) <;> (conv => whnf)) | ((with_reducible refine branch_n (fun hq => ?_) (fun hq => ?_)) <;> (try (exfalso; omega)) <;> (conv => whnf)) | ((with_reducible refine branch_i (fun hq => ?_) (fun hq => ?_)) <;> (try (exfalso; omega)) <;> (conv => whnf))))
    refine loop_i3 (fun (i : Nat) (best : Int) (sm : Bool) => i ≤ nodes.length ∧ provedF P nodes = goP P (o.drop i) (nodes.drop i) best sm)
      (fun i best sm => mkSt [(2, .ptr 2 0), (4, .int .i64 best), (5, .bool sm), (7, .lst 1 (o.map encS)), (24, ndsV nodes), (25, .int .i64 (nodes.map encN).length), (26, .int .i64 i)] [(2, [ints P.costs, rowsV P.rows])] false)
      (fun i _ _ => nodes.length - i) 0 0 false ⟨Nat.zero_le _, by simpa using hpf⟩ (le_mk (by repeat' (first | exact trivial | rfl | apply And.intro)) (by repeat' (first | exact trivial | rfl | apply And.intro)) rfl) ?_
    rintro i best sm ⟨hi, hF⟩
    (conv => whnf); (repeat' (first | (refine arith_i ⟨by omega, by omega⟩ ?_; conv => whnf) | (refine arith_u ⟨by omega, by omega⟩ ?_; conv => whnf) | (refine arith_8 ⟨by omega, by omega⟩ ?_; conv => whnf) | (refine need_i (by first | omega | (simp only [List.length_cons, List.length_nil]; omega) | (simp only [List.length_append, List.length_cons, List.length_nil, List.length_map, List.length_replicate, List.length_modify]; omega)) ?_; conv => whnf) | ((with_reducible refine branch_tt ?_); conv => whnf) | ((with_reducible refine branch_ff ?_); conv => whnf) | (with_reducible refine branch_not ?_) | ((first | refine idx_cs (by assumption) ?_ | refine idx_ms (by omega) (by assumption) ?_ | (refine idx_c (xs := nodes) (by omega) fun y hy => ?_; obtain ⟨st, hst⟩ : ∃ st, o[i]? = some st := ⟨_, List.getElem?_eq_getElem (by omega)⟩; rw [drop_at hy, drop_at hst, goP] at hF; have hg := hgood i st y hst hy; have hsl := st_len hg.1; have hnc := node_cases hg.2) | (refine idx_m (xs := P.rows) (by omega) (by omega) fun u hu => ?_; have hur := rowAt_eq hu; have hbs := blocked_span hv (List.mem_of_getElem? hu) hg.1; have hspl := (valid_rows hv (List.mem_of_getElem? hu)).1)); conv => whnf) | ((refine call_e (boundOf_ok P _ _ hv hsl (hnc.2 (by assumption))) ?_); conv => whnf) | ((refine call_e (span_ok u.coefs st u.least u.most (by omega) (by omega)) ?_); conv => whnf) | ((with_reducible refine slc_e ?_); conv => whnf) | ((with_reducible refine callS_a ?_); conv => whnf) | ((with_reducible refine bld_a ?_); conv => whnf) | ((with_reducible refine own_e ?_); conv => whnf) | ((with_reducible refine mkmap_b ?_); conv => whnf) | (refine draw_i 13 plGL09i_0 (by decide +kernel) ?_; (conv => whnf); fail_if_success (guard_target =~ False)) | (refine draw_i 13 plGL09i_1 (by decide +kernel) ?_; (conv => whnf); fail_if_success (guard_target =~ False)) | (refine draw_i 13 plGL09i_2 (by decide +kernel) ?_; (conv => whnf); fail_if_success (guard_target =~ False)) | (refine draw_i 8 plGL09i_3 (by decide +kernel) ?_; (conv => whnf); fail_if_success (guard_target =~ False)) | (refine draw_i 8 plGL09i_4 (by decide +kernel) ?_; (conv => whnf); fail_if_success (guard_target =~ False)) | (refine draw_i 8 plGL09i_5 (by decide +kernel) ?_; (conv => whnf); fail_if_success (guard_target =~ False)) | ((with_reducible refine And.intro ?_ ?_) <;> (conv => whnf)) | (with_reducible exact trivial) | ((with_reducible refine branch_d (fun hq => ?_) (fun hq => ?_)) <;> (try (exfalso; omega)) <;> (conv => whnf)) | ((with_reducible refine branch_e (fun hq => ?_) (fun hq => ?_)) <;> (try (exfalso; omega)) <;> (conv => whnf)) | ((with_reducible refine branch_n (fun hq => ?_) (fun hq => ?_)) <;> (try (exfalso; omega)) <;> (conv => whnf)) | ((with_reducible refine branch_i (fun hq => ?_) (fun hq => ?_)) <;> (try (exfalso; omega)) <;> (conv => whnf))))
    all_goals first
      | (have e : blockedB st u = false := by rw [hbs.2]; simp; omega
         rw [if_pos (by assumption), hur, if_pos e] at hF
         exact proved_ret hF)
      | (have e : ¬ blockedB st u = false := by rw [hbs.2]; simp; omega
         rw [if_pos (by assumption), hur, if_neg e] at hF
         exact ⟨i + 1, best, sm, ⟨by omega, hF⟩, (le_mk (by repeat' (first | exact trivial | rfl | apply And.intro)) (by repeat' (first | exact trivial | rfl | apply And.intro)) rfl), by omega⟩)
      | (rw [if_neg (by omega), if_pos (by assumption), if_pos (by first | (left; assumption) | (right; assumption))] at hF
         exact ⟨i + 1, boundF P st y, true, ⟨by omega, hF⟩, (le_mk (by repeat' (first | exact trivial | rfl | apply And.intro)) (by repeat' (first | exact trivial | rfl | apply And.intro)) rfl), by omega⟩)
      | (have e : sm = true := by assumption
         have e5 : ¬ (sm = false ∨ boundF P st y < best) := fun h => h.elim (fun h => by rw [e] at h; cases h) (fun h => by omega)
         rw [if_neg (by omega), if_pos (by assumption), if_neg e5] at hF
         rw [← e] at hF
         exact ⟨i + 1, best, sm, ⟨by omega, hF⟩, (le_mk (by repeat' (first | exact trivial | rfl | apply And.intro)) (by repeat' (first | exact trivial | rfl | apply And.intro)) rfl), by omega⟩)
      | (rw [if_neg (by omega), if_neg (by omega)] at hF
         exact ⟨i + 1, best, sm, ⟨by omega, hF⟩, (le_mk (by repeat' (first | exact trivial | rfl | apply And.intro)) (by repeat' (first | exact trivial | rfl | apply And.intro)) rfl), by omega⟩)
      | (rw [drop_end (by omega), drop_end (by omega)] at hF
         exact proved_ret hF)
  · have hS : Good Try.prog TT false 86 [progV P, ndsV nodes] (· = .tup [.lst 1 [], .int .i64 e]) := (states_ok P nodes hP hl).mono fun r h => h.trans (by rw [statesV, ho]; rfl)
    have hpf : provedF P nodes = (0, false, e) := by rw [provedF, ho]
    refine good_of mixed tabOk Try.func67 rfl rfl Try.ntmps67 Try.results67 rfl rfl ?_
    (conv => whnf); (repeat' (first | (refine arith_i ⟨by omega, by omega⟩ ?_; conv => whnf) | (refine arith_u ⟨by omega, by omega⟩ ?_; conv => whnf) | (refine arith_8 ⟨by omega, by omega⟩ ?_; conv => whnf) | (refine need_i (by first | omega | (simp only [List.length_cons, List.length_nil]; omega) | (simp only [List.length_append, List.length_cons, List.length_nil, List.length_map, List.length_replicate, List.length_modify]; omega)) ?_; conv => whnf) | ((with_reducible refine branch_tt ?_); conv => whnf) | ((with_reducible refine branch_ff ?_); conv => whnf) | (with_reducible refine branch_not ?_) | ((refine call_e hS ?_); conv => whnf) | ((with_reducible refine slc_e ?_); conv => whnf) | ((with_reducible refine callS_a ?_); conv => whnf) | ((with_reducible refine bld_a ?_); conv => whnf) | ((with_reducible refine own_e ?_); conv => whnf) | ((with_reducible refine mkmap_b ?_); conv => whnf) | (refine draw_i 13 plGL09i_0 (by decide +kernel) ?_; (conv => whnf); fail_if_success (guard_target =~ False)) | (refine draw_i 13 plGL09i_1 (by decide +kernel) ?_; (conv => whnf); fail_if_success (guard_target =~ False)) | (refine draw_i 13 plGL09i_2 (by decide +kernel) ?_; (conv => whnf); fail_if_success (guard_target =~ False)) | (refine draw_i 8 plGL09i_3 (by decide +kernel) ?_; (conv => whnf); fail_if_success (guard_target =~ False)) | (refine draw_i 8 plGL09i_4 (by decide +kernel) ?_; (conv => whnf); fail_if_success (guard_target =~ False)) | (refine draw_i 8 plGL09i_5 (by decide +kernel) ?_; (conv => whnf); fail_if_success (guard_target =~ False)) | ((with_reducible refine And.intro ?_ ?_) <;> (conv => whnf)) | (with_reducible exact trivial) | ((with_reducible refine branch_d (fun hq => ?_) (fun hq => ?_)) <;> (try (exfalso; omega)) <;> (conv => whnf)) | ((with_reducible refine branch_e (fun hq => ?_) (fun hq => ?_)) <;> (try (exfalso; omega)) <;> (conv => whnf)) | ((with_reducible refine branch_n (fun hq => ?_) (fun hq => ?_)) <;> (try (exfalso; omega)) <;> (conv => whnf)) | ((with_reducible refine branch_i (fun hq => ?_) (fun hq => ?_)) <;> (try (exfalso; omega)) <;> (conv => whnf))))
    exact proved_ret hpf
end Go.Proofs.Ytengafkfgcdpeaa
end

/- Layer 9: Check. -/
section
namespace Go.Proofs.Ytengafkfgcdpeaa
set_option linter.unusedVariables false
set_option linter.unusedSimpArgs false
set_option linter.unnecessarySimpa false
set_option linter.unusedSectionVars false
set_option maxRecDepth 10000
open Go.RowKit


structure Pln where
  found : Bool
  chosen : List Int
  cost : Int
  nodes : List Nd
def planV (p : Pln) : AV := .agg [.bool p.found, ints p.chosen, .int .i64 p.cost, ndsV p.nodes]
/-- The error of a plan. -/
def checkF (P : Prog) (p : Pln) : Int :=
  if validB P = false then 1
  else if p.found = true ∧ (meetsB P p.chosen = false ∨ costF P p.chosen ≠ p.cost) then 10
  else if p.found = false ∧ (p.chosen.length ≠ 0 ∨ p.cost ≠ 0) then 10
  else if (provedF P p.nodes).2.2 ≠ 0 then (provedF P p.nodes).2.2
  else if (p.found = true ∧ ((provedF P p.nodes).2.1 = false ∨ (provedF P p.nodes).1 < p.cost)) ∨ (p.found = false ∧ (provedF P p.nodes).2.1 = true) then 30
  else 0
set_option maxHeartbeats 2000000 in
theorem check_ok (P : Prog) (p : Pln) (hP : Fits P) (hl : p.nodes.length ≤ 1000000) (hc : p.chosen.length ≤ 1000000) : Good Try.prog TT false 39 [progV P, planV p] (· = .int .i64 (checkF P p)) := by
  have L : (P.costs.map encI).length = P.costs.length := List.length_map ..
  have LR : (P.rows.map encRow).length = P.rows.length := List.length_map ..
  have LN : (p.nodes.map encN).length = p.nodes.length := List.length_map ..
  have LC : (p.chosen.map encI).length = p.chosen.length := List.length_map ..
  refine good_of mixed tabOk Try.func39 rfl rfl Try.ntmps39 Try.results39 rfl rfl ?_
  (conv => whnf); (repeat' (first | (refine arith_i ⟨by omega, by omega⟩ ?_; conv => whnf) | (refine arith_u ⟨by omega, by omega⟩ ?_; conv => whnf) | (refine arith_8 ⟨by omega, by omega⟩ ?_; conv => whnf) | (refine need_i (by first | omega | (simp only [List.length_cons, List.length_nil]; omega) | (simp only [List.length_append, List.length_cons, List.length_nil, List.length_map, List.length_replicate, List.length_modify]; omega)) ?_; conv => whnf) | ((with_reducible refine branch_tt ?_); conv => whnf) | ((with_reducible refine branch_ff ?_); conv => whnf) | (with_reducible refine branch_not ?_) | ((refine call_e (valid_ok P hP.1 hP.2.1 hP.2.2) ?_); conv => whnf) | ((refine call_e (cost_ok P p.chosen hP hc) ?_); conv => whnf) | ((refine call_e (meets_ok P p.chosen hP hc) ?_); conv => whnf) | ((refine call_e (proved_ok P p.nodes hP hl) ?_); conv => whnf) | ((with_reducible refine slc_e ?_); conv => whnf) | ((with_reducible refine callS_a ?_); conv => whnf) | ((with_reducible refine bld_a ?_); conv => whnf) | ((with_reducible refine own_e ?_); conv => whnf) | ((with_reducible refine mkmap_b ?_); conv => whnf) | ((with_reducible refine branch_d (fun hq => ?_) (fun hq => ?_)) <;> (try (exfalso; omega)) <;> (conv => whnf)) | ((with_reducible refine branch_e (fun hq => ?_) (fun hq => ?_)) <;> (try (exfalso; omega)) <;> (conv => whnf)) | ((with_reducible refine branch_n (fun hq => ?_) (fun hq => ?_)) <;> (try (exfalso; omega)) <;> (conv => whnf)) | ((with_reducible refine branch_i (fun hq => ?_) (fun hq => ?_)) <;> (try (exfalso; omega)) <;> (conv => whnf))))
  all_goals first
    | (exfalso; simp_all; done)
    | (refine ret_p rfl (int_eq ?_); simp [checkF, *]; done)
    | (have e1 : p.chosen.length ≠ 0 := by omega
       refine ret_p rfl (int_eq ?_); simp only [checkF]; simp_all; done)
    | (have e1 : p.chosen.length = 0 := by omega
       have e2 : p.chosen = [] := List.eq_nil_of_length_eq_zero e1
       refine ret_p rfl (int_eq ?_); simp only [checkF]; simp_all; done)
    | (refine ret_p rfl (int_eq ?_); simp only [checkF]; simp_all; done)
end Go.Proofs.Ytengafkfgcdpeaa
end

/- Layer 10: what is done with each choice: All keeps it, Solve keeps the cheapest. -/
section
namespace Go.Proofs.Ytengafkfgcdpeaa
set_option linter.unusedVariables false
set_option linter.unusedSimpArgs false
set_option linter.unnecessarySimpa false
set_option linter.unusedSectionVars false
set_option maxRecDepth 10000
open Go.RowKit
theorem scal_ints (xs : List Int) : scalE (xs.map encI) := fun c hc v hv => by
  obtain ⟨x, _, rfl⟩ := List.mem_map.1 hc
  rw [List.mem_singleton.1 hv]; rfl
/-- The plan so far. -/
def plC (σ : Bool × Int × List Int) : List AV := [.bool σ.1, ints σ.2.2, .int .i64 σ.2.1, .nil]
set_option maxHeartbeats 2000000 in
theorem visSolve_ok (P : Prog) (ch : List Int) (σ : Bool × Int × List Int) (hc : ch.length ≤ 1000) : GoodM Try.prog TT false 75 [.own 1105 3 1 (ch.map encI), .int .i64 (sumOf P.costs ch), .ptr 1010 0] [(1010, plC σ)]
    (fun r ov bx => r = .tup [] ∧ ov = [(1000, .own 1105 3 1 (ch.map encI))] ∧ bx = [(1010, plC (bestS P σ ch))]) := by
  refine good_of_m (fun _ => false) mixed tabOk Try.func75 rfl rfl Try.ntmps75 Try.results75 rfl rfl ?_
  (conv => whnf); (repeat' (first | (refine arith_i ⟨by omega, by omega⟩ ?_; conv => whnf) | (refine arith_u ⟨by omega, by omega⟩ ?_; conv => whnf) | (refine arith_8 ⟨by omega, by omega⟩ ?_; conv => whnf) | (refine need_i (by first | omega | (simp only [List.length_cons, List.length_nil]; omega) | (simp only [List.length_append, List.length_cons, List.length_nil, List.length_map, List.length_replicate, List.length_modify]; omega)) ?_; conv => whnf) | ((with_reducible refine branch_tt ?_); conv => whnf) | ((with_reducible refine branch_ff ?_); conv => whnf) | (with_reducible refine branch_not ?_) | ((refine call_e (clone_ok ch (by omega)) ?_); conv => whnf) | ((refine own_k (scal_ints ch) ?_); conv => whnf) | ((with_reducible refine slc_e ?_); conv => whnf) | ((with_reducible refine callS_a ?_); conv => whnf) | ((with_reducible refine bld_a ?_); conv => whnf) | ((with_reducible refine own_e ?_); conv => whnf) | ((with_reducible refine mkmap_b ?_); conv => whnf) | ((with_reducible refine branch_d (fun hq => ?_) (fun hq => ?_)) <;> (try (exfalso; omega)) <;> (conv => whnf)) | ((with_reducible refine branch_e (fun hq => ?_) (fun hq => ?_)) <;> (try (exfalso; omega)) <;> (conv => whnf)) | ((with_reducible refine branch_n (fun hq => ?_) (fun hq => ?_)) <;> (try (exfalso; omega)) <;> (conv => whnf)) | ((with_reducible refine branch_i (fun hq => ?_) (fun hq => ?_)) <;> (try (exfalso; omega)) <;> (conv => whnf))))
  all_goals first
    | (have e : bestS P σ ch = (true, sumOf P.costs ch, ch) := by rw [bestS, if_pos (by first | (left; assumption) | (right; assumption))]
       rw [e]
       exact retM_i (.tup []) [(1000, .own 1105 3 1 (ch.map encI))] [(1010, [.bool true, ints ch, .int .i64 (sumOf P.costs ch), .nil])] rfl (Le.trans (le_erase 16) (le_mk ⟨rfl, rfl, trivial⟩ ⟨rfl, trivial⟩ rfl)) rfl ⟨rfl, rfl, rfl⟩)
    | (have e : bestS P σ ch = σ := by
         rw [bestS, if_neg]
         rintro (h | h)
         · simp_all
         · omega
       rw [e]
       exact retM_i (.tup []) [(1000, .own 1105 3 1 (ch.map encI))] [(1010, plC σ)] rfl (le_mk ⟨rfl, rfl, trivial⟩ ⟨rfl, trivial⟩ rfl) rfl ⟨rfl, rfl, rfl⟩)
end Go.Proofs.Ytengafkfgcdpeaa
end

/- Layer 10: each goes through all choices that meet a program, in ascending order. (Printed by wip/mk10c.py.) -/
section
namespace Go.Proofs.Ytengafkfgcdpeaa
set_option linter.unusedVariables false
set_option linter.unusedSimpArgs false
set_option linter.unnecessarySimpa false
set_option linter.unusedSectionVars false
set_option maxRecDepth 10000
open Go.RowKit
def plGL10c_0 : Plan := (.take 0 (.take 1 (.take 2 (.take 3 (.take 4 (.take 5 (.take 6 (.take 7 (.take 8 (.take 9 (.alt 10 .done .stop)))))))))))
def plGL10c_1 : Plan := (.take 0 (.take 1 (.take 2 (.take 3 (.take 4 (.take 5 (.take 6 (.take 7 (.alt 8 (.take 9 (.alt 10 .done .stop)) .stop)))))))))
def plGL10c_2 : Plan := (.take 1 (.take 2 (.take 3 (.take 4 (.take 6 (.alt 0 (.alt 5 (.take 7 (.alt 8 (.take 9 (.alt 10 .done .stop)) .stop)) .stop) (.alt 5 (.take 7 (.alt 0 (.alt 8 (.take 9 (.alt 10 .done .stop)) .stop) (.alt 8 (.take 9 (.alt 0 (.alt 10 .done .stop) .stop)) .stop))) .stop)))))))
def plGL10c_3 : Plan := (.take 1 (.take 2 (.take 3 (.take 4 (.take 6 (.alt 0 (.alt 5 (.take 7 (.alt 8 (.take 9 (.altM 10 .done .stop)) .stop)) .stop) (.alt 5 (.take 7 (.alt 0 (.alt 8 (.take 9 (.altM 10 .done .stop)) .stop) (.alt 8 (.take 9 (.alt 0 (.altM 10 .done .stop) .stop)) .stop))) .stop)))))))
def sumsF (P : Prog) (ch : List Int) : List Int := P.rows.map fun r => sumOf r.coefs ch
def srchA : List AV := [.ptr 1003 0, .ptr 1005 0, .ptr 1004 0, .ptr 1000 0, .ptr 1002 0, .ptr 1006 0]
theorem sumsF_len {P : Prog} {ch : List Int} : (sumsF P ch).length = P.rows.length := by simp [sumsF]
theorem sumsF_nth {P : Prog} {ch : List Int} {j : Nat} (h : j < P.rows.length) : nth (sumsF P ch) j = sumOf (rowAt P.rows j).coefs ch := by
  simp [sumsF, nth, rowAt, List.getD_eq_getElem?_getD, h]
theorem sums_met {P : Prog} {ch : List Int} : sumsOkB P.rows (sumsF P ch) = metB P ch := by
  cases h : metB P ch with
  | true =>
    refine sumsOk_good fun k hk => ?_
    have := List.all_eq_true.1 h _ (rowAt_mem hk)
    simp only [meetB, Bool.and_eq_true, decide_eq_true_eq] at this
    rw [sumsF_nth hk]
    exact this
  | false =>
    cases hs : sumsOkB P.rows (sumsF P ch) with
    | false => rfl
    | true =>
      have : metB P ch = true := by
        refine AllR.full (k := P.rows.length) (fun j hj => ?_) (Nat.le_refl _)
        have := List.all_eq_true.1 hs j (List.mem_range.2 hj)
        rw [sumsF_nth hj] at this
        simpa [meetB] using this
      rw [h] at this
      cases this
theorem here_met {P : Prog} {ch : List Int} (h : sumsOkB P.rows (sumsF P ch) = true) : here P ch = [ch] := by rw [here, if_pos]; rw [← sums_met]; exact h
theorem here_not {P : Prog} {ch : List Int} (h : sumsOkB P.rows (sumsF P ch) = false) : here P ch = [] := by rw [here, if_neg]; rw [← sums_met, h]; decide
theorem vis_snoc {P : Prog} {ch : List Int} {k : Nat} (hk : k < P.costs.length) : loopF P (P.costs.length - k) ch k = visF P (ch ++ [(k : Int)]) (k + 1) ++ loopF P (P.costs.length - (k + 1)) ch (k + 1) := by
  rw [show P.costs.length - k = (P.costs.length - (k + 1)) + 1 by omega, loopF, visF]
theorem asc_len {lo hi : Nat} {ch : List Int} (h : Asc lo hi ch) : ch.length ≤ hi - lo := by
  obtain ⟨h1, h2⟩ := h
  induction ch generalizing lo with
  | nil => simp
  | cons x ch ih =>
    have hp := List.pairwise_cons.1 h1
    have hx := h2 x (by simp)
    have := ih (lo := x.toNat + 1) hp.2 fun y hy => by have := hp.1 y hy; have := h2 y (by simp [hy]); omega
    simp only [List.length_cons]
    omega
theorem sum_in {P : Prog} (hv : validB P = true) {ch : List Int} (h : Asc 0 P.costs.length ch) {r : Row} (hr : r ∈ P.rows) : -1000000 ≤ sumOf r.coefs ch ∧ sumOf r.coefs ch ≤ 1000000 := by
  have h1 := valid_rows hv hr
  have h2 := asc_len h
  have h3 := (validB_parts hv).1
  have := sumTo_bd (vs := r.coefs) (ch := ch) (n := r.coefs.length) h1.2.1 ch.length fun i hi => by
    have := h.2 _ (nth_mem hi); omega
  unfold sumOf
  omega
theorem costs_sum {P : Prog} (hv : validB P = true) {ch : List Int} (h : Asc 0 P.costs.length ch) : -1000000 ≤ sumOf P.costs ch ∧ sumOf P.costs ch ≤ 1000000 := by
  have h2 := asc_len h
  have h3 := (validB_parts hv).1
  have := sumTo_bd (vs := P.costs) (ch := ch) (n := P.costs.length) (fun i hi => costs_in hv i hi) ch.length fun i hi => by
    have := h.2 _ (nth_mem hi); omega
  unfold sumOf
  omega
theorem sumsF_in {P : Prog} (hv : validB P = true) {ch : List Int} (h : Asc 0 P.costs.length ch) : ∀ j, j < (sumsF P ch).length → -1000000 ≤ nth (sumsF P ch) j ∧ nth (sumsF P ch) j ≤ 1000000 := fun j hj => by
  rw [sumsF_len] at hj
  rw [sumsF_nth hj]
  exact sum_in hv h (rowAt_mem hj)
theorem addF_on {P : Prog} {ch : List Int} {k : Nat} : addF P.rows (sumsF P ch) k 1 = sumsF P (ch ++ [(k : Int)]) := by
  refine nth_ext (by rw [addF_len, sumsF_len, sumsF_len]) fun j hj => ?_
  rw [addF_len, sumsF_len] at hj
  rw [addF_nth (by rw [sumsF_len]; exact hj), sumsF_nth hj, sumsF_nth hj, sumOf_snoc]
  omega
theorem addF_off {P : Prog} {ch : List Int} {k : Nat} : addF P.rows (sumsF P (ch ++ [(k : Int)])) k (-1) = sumsF P ch := by
  refine nth_ext (by rw [addF_len, sumsF_len, sumsF_len]) fun j hj => ?_
  rw [addF_len, sumsF_len] at hj
  rw [addF_nth (by rw [sumsF_len]; exact hj), sumsF_nth hj, sumsF_nth hj, sumOf_snoc]
  omega
theorem addOn_ok (P : Prog) (ch : List Int) (k : Nat) (hv : validB P = true) (ha : Asc 0 P.costs.length ch) (hk : k < P.costs.length) : GoodM Try.prog TT false 89 [.int .i64 k, .int .i64 1, .ptr 1000 0, .ptr 1001 0] [(1000, [ints P.costs, rowsV P.rows]), (1001, [.own 1101 3 1 ((sumsF P ch).map encI)])]
    (fun r ov bx => r = .tup [] ∧ ov = [] ∧ bx = [(1000, [ints P.costs, rowsV P.rows]), (1001, [.own 1101 3 1 ((sumsF P (ch ++ [(k : Int)])).map encI)])]) := by
  have := add_ok P (sumsF P ch) k 1 hv (by omega) (.inl rfl) (sumsF_in hv ha) sumsF_len
  rwa [addF_on] at this
theorem addOff_ok (P : Prog) (ch : List Int) (k : Nat) (hv : validB P = true) (ha : Asc 0 P.costs.length (ch ++ [(k : Int)])) (hk : k < P.costs.length) : GoodM Try.prog TT false 89 [.int .i64 k, .int .i64 (-1), .ptr 1000 0, .ptr 1001 0] [(1000, [ints P.costs, rowsV P.rows]), (1001, [.own 1101 3 1 ((sumsF P (ch ++ [(k : Int)])).map encI)])]
    (fun r ov bx => r = .tup [] ∧ ov = [] ∧ bx = [(1000, [ints P.costs, rowsV P.rows]), (1001, [.own 1101 3 1 ((sumsF P ch).map encI)])]) := by
  have := add_ok P (sumsF P (ch ++ [(k : Int)])) k (-1) hv (by omega) (.inr rfl) (sumsF_in hv ha) sumsF_len
  rwa [addF_off] at this
theorem snocI' {xs : List Int} {x : Int} : xs.map encI ++ [[AV.int .i64 x]] = (xs ++ [x]).map encI := by simp [encI]
theorem less_I {xs : List Int} {x y : Int} (h : y = ((xs ++ [x]).map encI).length - 1) : ((((xs ++ [x]).map encI).take y.toNat).drop (Int.toNat 0)) = xs.map encI := by
  have : y.toNat = (xs.map encI).length := by rw [h]; simp
  rw [this, List.map_append, List.take_left]
  rfl
theorem repl_sums (P : Prog) : List.replicate ((P.rows.map encRow).length : Int).toNat [AV.int .i64 0] = (sumsF P []).map encI := by
  have e : sumsF P [] = List.replicate P.rows.length 0 := by
    rw [sumsF]
    refine List.ext_getElem? fun i => ?_
    rw [List.getElem?_map, List.getElem?_replicate]
    split
    · next h => rw [List.getElem?_eq_getElem h]; rfl
    · next h => rw [List.getElem?_eq_none (by omega)]; rfl
  rw [e, List.map_replicate, List.length_map, Int.toNat_natCast]
  rfl
def vcS (σ : Bool × Int × List Int) : List AV := plC σ
def vstepS (P : Prog) (σ : Bool × Int × List Int) (ch : List Int) : Bool × Int × List Int := bestS P σ ch
def cndS (σ : Bool × Int × List Int) (L : List (List Int)) : Prop := True
def sBxS (P : Prog) (ch : List Int) (σ : Bool × Int × List Int) : List (Nat × List AV) := [(1000, [ints P.costs, rowsV P.rows]), (1001, [.own 1101 3 1 ((sumsF P ch).map encI)]), (1002, [.fn 89 [.ptr 1000 0, .ptr 1001 0]]), (1003, [.fn 90 [.ptr 1000 0, .ptr 1001 0]]), (1004, [.own 1104 3 1 (ch.map encI)]), (1005, [.fn 75 [.ptr 1010 0]]), (1006, [.fn 91 srchA]), (1010, vcS σ)]
theorem cndS_app {P : Prog} {a b : List (List Int)} {σ : Bool × Int × List Int} (h : cndS σ (a ++ b)) : cndS σ a ∧ cndS (a.foldl (vstepS P) σ) b := by
  unfold cndS at *
  first
    | exact ⟨trivial, trivial⟩
    | (have e : ∀ (a : List (List Int)) (σ : List (List Int)), a.foldl (vstepS P) σ = σ ++ a := fun a => by
         induction a with
         | nil => intro σ; simp
         | cons x a ih => intro σ; rw [List.foldl_cons, ih]; simp [vstepS]
       rw [e]
       simp at h ⊢
       omega)
set_option maxHeartbeats 4000000 in
theorem searchS_ok (P : Prog) (hv : validB P = true) : ∀ (m : Nat) (ch : List Int) (i : Nat) (cost : Int) (σ : Bool × Int × List Int), m = P.costs.length - i → i ≤ P.costs.length → Asc 0 i ch → cost = sumOf P.costs ch → cndS σ (visF P ch i) →
    GoodM Try.prog TT false 91 (.int .i64 i :: .int .i64 cost :: srchA) (sBxS P ch σ) (fun r ov bx => r = .tup [] ∧ ov = [] ∧ bx = sBxS P ch ((visF P ch i).foldl (vstepS P) σ)) := by
  have hr := (validB_parts hv).2.1
  have hcl := (validB_parts hv).1
  have LP : (P.costs.map encI).length = P.costs.length := List.length_map ..
  intro m
  induction m using Nat.strongRecOn with
  | ind m IH =>
    intro ch i cost τ hm hi ha hc hcnd0
    have hlen := asc_len ha
    have hcnd1 := cndS_app (P := P) hcnd0
    have hvis : visF P ch i = here P ch ++ loopF P (P.costs.length - i) ch i := rfl
    subst hc
    have hcnd := hcnd1.1
    refine good_of_m (fun _ => false) mixed tabOk Try.func91 rfl rfl Try.ntmps91 Try.results91 rfl rfl ?_
    (conv => whnf); (repeat' (first | (refine arith_i ⟨by omega, by omega⟩ ?_; conv => whnf) | (refine arith_u ⟨by omega, by omega⟩ ?_; conv => whnf) | (refine arith_8 ⟨by omega, by omega⟩ ?_; conv => whnf) | (refine need_i (by first | omega | (simp only [List.length_cons, List.length_nil]; omega) | (simp only [List.length_append, List.length_cons, List.length_nil, List.length_map, List.length_replicate, List.length_modify]; omega)) ?_; conv => whnf) | ((with_reducible refine branch_tt ?_); conv => whnf) | ((with_reducible refine branch_ff ?_); conv => whnf) | (with_reducible refine branch_not ?_) | ((refine call_e (met_ok P (sumsF P ch) sumsF_len hr) ?_); conv => whnf) | (((rw [here_met hq] at hcnd; unfold cndS at hcnd; (try simp only [List.length_singleton] at hcnd); refine mcall_e [(1010, 1010)] [(1105, 1104)] (visSolve_ok P ch τ (by omega)) rfl rfl rfl ⟨⟨_, rfl, rfl, rfl⟩, trivial⟩ rfl ?_)); conv => whnf) | ((with_reducible refine slc_e ?_); conv => whnf) | ((with_reducible refine callS_a ?_); conv => whnf) | ((with_reducible refine bld_a ?_); conv => whnf) | ((with_reducible refine own_e ?_); conv => whnf) | ((with_reducible refine mkmap_b ?_); conv => whnf) | (refine draw_i 0 plGL10c_3 (by decide +kernel) ?_; (conv => whnf); fail_if_success (guard_target =~ False)) | (refine draw_i 11 plGL10c_0 (by decide +kernel) ?_; (conv => whnf); fail_if_success (guard_target =~ False)) | (refine draw_i 11 plGL10c_1 (by decide +kernel) ?_; (conv => whnf); fail_if_success (guard_target =~ False)) | (refine draw_i 11 plGL10c_2 (by decide +kernel) ?_; (conv => whnf); fail_if_success (guard_target =~ False)) | ((with_reducible refine And.intro ?_ ?_) <;> (conv => whnf)) | (with_reducible exact trivial) | ((with_reducible refine branch_d (fun hq => ?_) (fun hq => ?_)) <;> (try (exfalso; omega)) <;> (conv => whnf)) | ((with_reducible refine branch_e (fun hq => ?_) (fun hq => ?_)) <;> (try (exfalso; omega)) <;> (conv => whnf)) | ((with_reducible refine branch_n (fun hq => ?_) (fun hq => ?_)) <;> (try (exfalso; omega)) <;> (conv => whnf)) | ((with_reducible refine branch_i (fun hq => ?_) (fun hq => ?_)) <;> (try (exfalso; omega)) <;> (conv => whnf))))
    all_goals
      refine loop_i2 (fun (k : Nat) (τ' : Bool × Int × List Int) => i ≤ k ∧ k ≤ P.costs.length ∧ cndS τ' (loopF P (P.costs.length - k) ch k) ∧ (loopF P (P.costs.length - k) ch k).foldl (vstepS P) τ' = (visF P ch i).foldl (vstepS P) τ)
        (fun k τ' => mkSt [(1, .int .i64 (sumOf P.costs ch)), (4, .ptr 1004 0), (5, .ptr 1000 0), (6, .ptr 1002 0), (7, .ptr 1006 0), (10, .int .i64 k)] (sBxS P ch τ') false) (fun k _ => P.costs.length - k) i ((here P ch).foldl (vstepS P) τ) ⟨Nat.le_refl _, hi, hcnd1.2, by rw [hvis, List.foldl_append]⟩ ?_ ?_
      · first
          | (rw [here_met hq]; exact (le_mk (by repeat' (first | exact trivial | rfl | apply And.intro)) (by repeat' (first | exact trivial | rfl | apply And.intro)) rfl))
          | (rw [here_not hq]; exact (le_mk (by repeat' (first | exact trivial | rfl | apply And.intro)) (by repeat' (first | exact trivial | rfl | apply And.intro)) rfl))
      rintro k τ' ⟨hik, hkn, hcn, hfold⟩
      have haN : Asc 0 P.costs.length ch := ha.mono hi
      have hsum := costs_sum hv haN
      have hspl := fun h : k < P.costs.length => vis_snoc (P := P) (ch := ch) h
      (conv => whnf); (repeat' (first | (refine arith_i ⟨by omega, by omega⟩ ?_; conv => whnf) | (refine arith_u ⟨by omega, by omega⟩ ?_; conv => whnf) | (refine arith_8 ⟨by omega, by omega⟩ ?_; conv => whnf) | (refine need_i (by first | omega | (simp only [List.length_cons, List.length_nil]; omega) | (simp only [List.length_append, List.length_cons, List.length_nil, List.length_map, List.length_replicate, List.length_modify]; omega)) ?_; conv => whnf) | ((with_reducible refine branch_tt ?_); conv => whnf) | ((with_reducible refine branch_ff ?_); conv => whnf) | (with_reducible refine branch_not ?_) | (((refine idx_c (xs := P.costs) (by omega) fun y hy => ?_; have hyc := nth_eq hy; have hyb := costs_in hv k (by omega); have hkl : k < P.costs.length := (by omega); have hsp := hspl hkl; rw [hsp] at hcn hfold; have hcn2 := cndS_app (P := P) hcn; rw [List.foldl_append] at hfold; have hak : Asc 0 (k + 1) (ch ++ [(k : Int)]) := (ha.mono hik).snoc hkl; have LK : ((ch ++ [(k : Int)]).map encI).length = ch.length + 1 := (by simp))); conv => whnf) | ((simp only [snocI']); conv => whnf) | ((refine mcall_e [(1000, 1000), (1001, 1001)] [(1101, 1101)] (addOn_ok P ch k hv haN (by omega)) rfl rfl rfl ⟨⟨_, rfl, rfl, rfl⟩, ⟨_, rfl, rfl, rfl⟩, trivial⟩ rfl ?_); conv => whnf) | ((refine mcall_e [(1000, 1000), (1001, 1001), (1002, 1002), (1003, 1003), (1004, 1004), (1005, 1005), (1006, 1006), (1010, 1010)] [(1101, 1101), (1104, 1104)] (IH (P.costs.length - (k + 1)) (by omega) (ch ++ [(k : Int)]) (k + 1) (sumOf P.costs ch + y) τ' rfl (by omega) hak (by rw [sumOf_snoc, Int.toNat_natCast, hyc]) hcn2.1) rfl rfl rfl ⟨⟨_, rfl, rfl, rfl⟩, ⟨_, rfl, rfl, rfl⟩, ⟨_, rfl, rfl, rfl⟩, ⟨_, rfl, rfl, rfl⟩, ⟨_, rfl, rfl, rfl⟩, ⟨_, rfl, rfl, rfl⟩, ⟨_, rfl, rfl, rfl⟩, ⟨_, rfl, rfl, rfl⟩, trivial⟩ rfl ?_); conv => whnf) | ((refine mcall_e [(1000, 1000), (1001, 1001)] [(1101, 1101)] (addOff_ok P ch k hv (hak.mono hkl) (by omega)) rfl rfl rfl ⟨⟨_, rfl, rfl, rfl⟩, ⟨_, rfl, rfl, rfl⟩, trivial⟩ rfl ?_); conv => whnf) | ((refine slc_o ?_); conv => whnf) | (((refine sub_i ⟨by omega, by omega, by omega⟩ ?_; rw [less_I rfl])); conv => whnf) | ((with_reducible refine slc_e ?_); conv => whnf) | ((with_reducible refine callS_a ?_); conv => whnf) | ((with_reducible refine bld_a ?_); conv => whnf) | ((with_reducible refine own_e ?_); conv => whnf) | ((with_reducible refine mkmap_b ?_); conv => whnf) | (refine draw_i 0 plGL10c_3 (by decide +kernel) ?_; (conv => whnf); fail_if_success (guard_target =~ False)) | (refine draw_i 11 plGL10c_0 (by decide +kernel) ?_; (conv => whnf); fail_if_success (guard_target =~ False)) | (refine draw_i 11 plGL10c_1 (by decide +kernel) ?_; (conv => whnf); fail_if_success (guard_target =~ False)) | (refine draw_i 11 plGL10c_2 (by decide +kernel) ?_; (conv => whnf); fail_if_success (guard_target =~ False)) | ((with_reducible refine And.intro ?_ ?_) <;> (conv => whnf)) | (with_reducible exact trivial) | ((with_reducible refine branch_d (fun hq => ?_) (fun hq => ?_)) <;> (try (exfalso; omega)) <;> (conv => whnf)) | ((with_reducible refine branch_e (fun hq => ?_) (fun hq => ?_)) <;> (try (exfalso; omega)) <;> (conv => whnf)) | ((with_reducible refine branch_n (fun hq => ?_) (fun hq => ?_)) <;> (try (exfalso; omega)) <;> (conv => whnf)) | ((with_reducible refine branch_i (fun hq => ?_) (fun hq => ?_)) <;> (try (exfalso; omega)) <;> (conv => whnf))))
      all_goals first
        | (have hkk : k = P.costs.length := by omega
           rw [hkk, Nat.sub_self] at hfold
           have hfold' : τ' = (visF P ch i).foldl (vstepS P) τ := hfold
           rw [← hfold']
           exact retM_i (.tup []) [] (sBxS P ch τ') rfl (le_mk (by repeat' (first | exact trivial | rfl | apply And.intro)) (by repeat' (first | exact trivial | rfl | apply And.intro)) rfl) rfl ⟨rfl, rfl, rfl⟩)
        | exact ⟨k + 1, (visF P (ch ++ [(k : Int)]) (k + 1)).foldl (vstepS P) τ', ⟨by omega, by omega, hcn2.2, hfold⟩, (le_mk (by repeat' (first | exact trivial | rfl | apply And.intro)) (by repeat' (first | exact trivial | rfl | apply And.intro)) rfl), by omega⟩
set_option maxHeartbeats 4000000 in
theorem eachS_ok (P : Prog) (σ : Bool × Int × List Int) (hv : validB P = true) (hc : cndS σ (allF P)) : GoodM Try.prog TT false 74 [progV P, .fn 75 [.ptr 1010 0]] [(1010, vcS σ)] (fun r ov bx => r = .tup [] ∧ ov = [] ∧ bx = [(1010, vcS ((allF P).foldl (vstepS P) σ))]) := by
  have hr := (validB_parts hv).2.1
  have LR : (P.rows.map encRow).length = P.rows.length := List.length_map ..
  refine good_of_m (fun _ => false) mixed tabOk Try.func74 rfl rfl Try.ntmps74 Try.results74 rfl rfl ?_
  (conv => whnf)
  repeat (first | (refine arith_i ⟨by omega, by omega⟩ ?_; conv => whnf) | (refine need_i (by omega) ?_; conv => whnf))
  refine mcall_i [(1000, 2), (1001, 4), (1002, 5), (1003, 6), (1004, 7), (1005, 3), (1006, 8), (1010, 1010)] [(1101, 12), (1104, 1104)] _ (le_adoptBox 7 0 1104 3 1 rfl rfl) (searchS_ok P hv (P.costs.length - 0) [] 0 0 σ rfl (Nat.zero_le _) ⟨List.Pairwise.nil, by simp⟩ rfl hc) rfl rfl rfl ⟨⟨_, rfl, rfl, rfl⟩, ⟨_, rfl, by rw [← repl_sums P]; rfl, rfl⟩, ⟨_, rfl, rfl, rfl⟩, ⟨_, rfl, rfl, rfl⟩, ⟨_, rfl, rfl, rfl⟩, ⟨_, rfl, rfl, rfl⟩, ⟨_, rfl, rfl, rfl⟩, ⟨_, rfl, rfl, rfl⟩, trivial⟩ ?_
  rintro r ov bx' ⟨rfl, rfl, rfl⟩
  refine ⟨rfl, ?_⟩
  conv => whnf
  exact retM_i (.tup []) [] [(1010, vcS ((allF P).foldl (vstepS P) σ))] rfl (le_mk (by repeat' (first | exact trivial | rfl | apply And.intro)) (by repeat' (first | exact trivial | rfl | apply And.intro)) rfl) rfl ⟨rfl, rfl, rfl⟩
end Go.Proofs.Ytengafkfgcdpeaa
end

/- Layer 8 by the interpreter: isChoice, sumOver, Meets, Span, Dead. -/
section
namespace Go.Proofs.Ytengafkfgcdpeaa
set_option linter.unusedVariables false
set_option linter.unusedSimpArgs false
set_option linter.unnecessarySimpa false
set_option linter.unusedSectionVars false
set_option maxRecDepth 10000

theorem dead_ok (P : Prog) (st : List Int) (hP : Fits P) (hs : st.length ≤ 1000000) : Good Try.prog TT false 94 [progV P, ints st] (· = .int .i64 (deadF P st)) := by
  have L : (P.costs.map encI).length = P.costs.length := List.length_map ..
  have LR : (P.rows.map encRow).length = P.rows.length := List.length_map ..
  obtain ⟨hp1, hp2, hp3⟩ := hP
  refine good_of mixed tabOk Try.func94 rfl rfl Try.ntmps94 Try.results94 rfl rfl ?_
  (conv => whnf); (repeat (first | (refine arith_i ⟨by omega, by omega⟩ ?_; conv => whnf) | (refine need_i (by first | omega | (simp only [List.length_append, List.length_cons, List.length_nil]; omega)) ?_; conv => whnf) | ((with_reducible refine branch_tt ?_); conv => whnf) | ((with_reducible refine branch_ff ?_); conv => whnf) | (with_reducible refine branch_not ?_) | ((with_reducible refine slc_e ?_); conv => whnf) | ((with_reducible refine callS_a ?_); conv => whnf) | ((with_reducible refine bld_a ?_); conv => whnf) | ((with_reducible refine own_e ?_); conv => whnf) | ((with_reducible refine mkmap_b ?_); conv => whnf)))
  refine call_e (valid_ok P hp1 hp2 hp3) ?_
  (conv => whnf); (repeat (first | (refine arith_i ⟨by omega, by omega⟩ ?_; conv => whnf) | (refine need_i (by first | omega | (simp only [List.length_append, List.length_cons, List.length_nil]; omega)) ?_; conv => whnf) | ((with_reducible refine branch_tt ?_); conv => whnf) | ((with_reducible refine branch_ff ?_); conv => whnf) | (with_reducible refine branch_not ?_) | ((with_reducible refine slc_e ?_); conv => whnf) | ((with_reducible refine callS_a ?_); conv => whnf) | ((with_reducible refine bld_a ?_); conv => whnf) | ((with_reducible refine own_e ?_); conv => whnf) | ((with_reducible refine mkmap_b ?_); conv => whnf)))
  cases hv : validB P with
  | false =>
    (conv => whnf); (repeat (first | (refine arith_i ⟨by omega, by omega⟩ ?_; conv => whnf) | (refine need_i (by first | omega | (simp only [List.length_append, List.length_cons, List.length_nil]; omega)) ?_; conv => whnf) | ((with_reducible refine branch_tt ?_); conv => whnf) | ((with_reducible refine branch_ff ?_); conv => whnf) | (with_reducible refine branch_not ?_) | ((with_reducible refine slc_e ?_); conv => whnf) | ((with_reducible refine callS_a ?_); conv => whnf) | ((with_reducible refine bld_a ?_); conv => whnf) | ((with_reducible refine own_e ?_); conv => whnf) | ((with_reducible refine mkmap_b ?_); conv => whnf)))
    exact ret_p rfl (int_eq (by simp [deadF, deadB, hv]))
  | true =>
    (conv => whnf); (repeat (first | (refine arith_i ⟨by omega, by omega⟩ ?_; conv => whnf) | (refine need_i (by first | omega | (simp only [List.length_append, List.length_cons, List.length_nil]; omega)) ?_; conv => whnf) | ((with_reducible refine branch_tt ?_); conv => whnf) | ((with_reducible refine branch_ff ?_); conv => whnf) | (with_reducible refine branch_not ?_) | ((with_reducible refine slc_e ?_); conv => whnf) | ((with_reducible refine callS_a ?_); conv => whnf) | ((with_reducible refine bld_a ?_); conv => whnf) | ((with_reducible refine own_e ?_); conv => whnf) | ((with_reducible refine mkmap_b ?_); conv => whnf)))
    rw [L]
    refine call_e (isState_ok st P.costs.length hs hp1) ?_
    (conv => whnf); (repeat (first | (refine arith_i ⟨by omega, by omega⟩ ?_; conv => whnf) | (refine need_i (by first | omega | (simp only [List.length_append, List.length_cons, List.length_nil]; omega)) ?_; conv => whnf) | ((with_reducible refine branch_tt ?_); conv => whnf) | ((with_reducible refine branch_ff ?_); conv => whnf) | (with_reducible refine branch_not ?_) | ((with_reducible refine slc_e ?_); conv => whnf) | ((with_reducible refine callS_a ?_); conv => whnf) | ((with_reducible refine bld_a ?_); conv => whnf) | ((with_reducible refine own_e ?_); conv => whnf) | ((with_reducible refine mkmap_b ?_); conv => whnf)))
    cases hc : isStateB st P.costs.length with
    | false =>
      (conv => whnf); (repeat (first | (refine arith_i ⟨by omega, by omega⟩ ?_; conv => whnf) | (refine need_i (by first | omega | (simp only [List.length_append, List.length_cons, List.length_nil]; omega)) ?_; conv => whnf) | ((with_reducible refine branch_tt ?_); conv => whnf) | ((with_reducible refine branch_ff ?_); conv => whnf) | (with_reducible refine branch_not ?_) | ((with_reducible refine slc_e ?_); conv => whnf) | ((with_reducible refine callS_a ?_); conv => whnf) | ((with_reducible refine bld_a ?_); conv => whnf) | ((with_reducible refine own_e ?_); conv => whnf) | ((with_reducible refine mkmap_b ?_); conv => whnf)))
      exact ret_p rfl (int_eq (by simp [deadF, deadB, hc]))
    | true =>
      (conv => whnf); (repeat (first | (refine arith_i ⟨by omega, by omega⟩ ?_; conv => whnf) | (refine need_i (by first | omega | (simp only [List.length_append, List.length_cons, List.length_nil]; omega)) ?_; conv => whnf) | ((with_reducible refine branch_tt ?_); conv => whnf) | ((with_reducible refine branch_ff ?_); conv => whnf) | (with_reducible refine branch_not ?_) | ((with_reducible refine slc_e ?_); conv => whnf) | ((with_reducible refine callS_a ?_); conv => whnf) | ((with_reducible refine bld_a ?_); conv => whnf) | ((with_reducible refine own_e ?_); conv => whnf) | ((with_reducible refine mkmap_b ?_); conv => whnf)))
      have hd : deadF P st = firstFrom st 0 P.rows := by simp [deadF, deadB, hv, hc]
      refine loop_i (fun k : Nat => k ≤ P.rows.length ∧ ∀ i, i < k → blockedB st (rowAt P.rows i) = false) (fun k => mkSt [(1, ints st), (22, rowsV P.rows), (23, .int .i64 (P.rows.map encRow).length), (24, .int .i64 k)] [] false) (fun k => P.rows.length - k) 0 ⟨Nat.zero_le _, nofun⟩ (le_mk ⟨rfl, rfl, rfl, rfl, trivial⟩ trivial rfl) ?_
      rintro j ⟨hj, hall⟩
      (conv => whnf); (repeat (first | (refine arith_i ⟨by omega, by omega⟩ ?_; conv => whnf) | (refine need_i (by first | omega | (simp only [List.length_append, List.length_cons, List.length_nil]; omega)) ?_; conv => whnf) | ((with_reducible refine branch_tt ?_); conv => whnf) | ((with_reducible refine branch_ff ?_); conv => whnf) | (with_reducible refine branch_not ?_) | ((with_reducible refine slc_e ?_); conv => whnf) | ((with_reducible refine callS_a ?_); conv => whnf) | ((with_reducible refine bld_a ?_); conv => whnf) | ((with_reducible refine own_e ?_); conv => whnf) | ((with_reducible refine mkmap_b ?_); conv => whnf)))
      refine branch_d (fun h => ?_) (fun h => ?_)
      · (conv => whnf); (repeat (first | (refine arith_i ⟨by omega, by omega⟩ ?_; conv => whnf) | (refine need_i (by first | omega | (simp only [List.length_append, List.length_cons, List.length_nil]; omega)) ?_; conv => whnf) | ((with_reducible refine branch_tt ?_); conv => whnf) | ((with_reducible refine branch_ff ?_); conv => whnf) | (with_reducible refine branch_not ?_) | ((with_reducible refine slc_e ?_); conv => whnf) | ((with_reducible refine callS_a ?_); conv => whnf) | ((with_reducible refine bld_a ?_); conv => whnf) | ((with_reducible refine own_e ?_); conv => whnf) | ((with_reducible refine mkmap_b ?_); conv => whnf)))
        refine idx_m (by omega) (by omega) fun r hr => ?_
        rw [Int.toNat_natCast] at hr
        have hrow := rowAt_eq hr
        have hm := List.mem_of_getElem? hr
        have hit : blockedB st r = true → AV.int .i64 (j : Int) = .int .i64 (deadF P st) := fun hb => int_eq (by
          rw [hd, firstFrom_at P.rows 0 j (by omega) hall (by rw [hrow]; exact hb)]; omega)
        (conv => whnf); (repeat (first | (refine arith_i ⟨by omega, by omega⟩ ?_; conv => whnf) | (refine need_i (by first | omega | (simp only [List.length_append, List.length_cons, List.length_nil]; omega)) ?_; conv => whnf) | ((with_reducible refine branch_tt ?_); conv => whnf) | ((with_reducible refine branch_ff ?_); conv => whnf) | (with_reducible refine branch_not ?_) | ((with_reducible refine slc_e ?_); conv => whnf) | ((with_reducible refine callS_a ?_); conv => whnf) | ((with_reducible refine bld_a ?_); conv => whnf) | ((with_reducible refine own_e ?_); conv => whnf) | ((with_reducible refine mkmap_b ?_); conv => whnf)))
        refine call_e (span_ok r.coefs st r.least r.most (hp3 r hm) hs) ?_
        (conv => whnf); (repeat (first | (refine arith_i ⟨by omega, by omega⟩ ?_; conv => whnf) | (refine need_i (by first | omega | (simp only [List.length_append, List.length_cons, List.length_nil]; omega)) ?_; conv => whnf) | ((with_reducible refine branch_tt ?_); conv => whnf) | ((with_reducible refine branch_ff ?_); conv => whnf) | (with_reducible refine branch_not ?_) | ((with_reducible refine slc_e ?_); conv => whnf) | ((with_reducible refine callS_a ?_); conv => whnf) | ((with_reducible refine bld_a ?_); conv => whnf) | ((with_reducible refine own_e ?_); conv => whnf) | ((with_reducible refine mkmap_b ?_); conv => whnf)))
        have hok : spanB r.coefs st = true := by have := spanB_of hv hc (show j < P.rows.length by omega); rwa [hrow] at this
        rw [hok]
        (conv => whnf); (repeat (first | (refine arith_i ⟨by omega, by omega⟩ ?_; conv => whnf) | (refine need_i (by first | omega | (simp only [List.length_append, List.length_cons, List.length_nil]; omega)) ?_; conv => whnf) | ((with_reducible refine branch_tt ?_); conv => whnf) | ((with_reducible refine branch_ff ?_); conv => whnf) | (with_reducible refine branch_not ?_) | ((with_reducible refine slc_e ?_); conv => whnf) | ((with_reducible refine callS_a ?_); conv => whnf) | ((with_reducible refine bld_a ?_); conv => whnf) | ((with_reducible refine own_e ?_); conv => whnf) | ((with_reducible refine mkmap_b ?_); conv => whnf)))
        refine branch_d (fun h1 => ?_) (fun h1 => ?_)
        · (conv => whnf); (repeat (first | (refine arith_i ⟨by omega, by omega⟩ ?_; conv => whnf) | (refine need_i (by first | omega | (simp only [List.length_append, List.length_cons, List.length_nil]; omega)) ?_; conv => whnf) | ((with_reducible refine branch_tt ?_); conv => whnf) | ((with_reducible refine branch_ff ?_); conv => whnf) | (with_reducible refine branch_not ?_) | ((with_reducible refine slc_e ?_); conv => whnf) | ((with_reducible refine callS_a ?_); conv => whnf) | ((with_reducible refine bld_a ?_); conv => whnf) | ((with_reducible refine own_e ?_); conv => whnf) | ((with_reducible refine mkmap_b ?_); conv => whnf)))
          exact ret_p rfl (hit (by simp [blockedB, hok]; omega))
        · (conv => whnf); (repeat (first | (refine arith_i ⟨by omega, by omega⟩ ?_; conv => whnf) | (refine need_i (by first | omega | (simp only [List.length_append, List.length_cons, List.length_nil]; omega)) ?_; conv => whnf) | ((with_reducible refine branch_tt ?_); conv => whnf) | ((with_reducible refine branch_ff ?_); conv => whnf) | (with_reducible refine branch_not ?_) | ((with_reducible refine slc_e ?_); conv => whnf) | ((with_reducible refine callS_a ?_); conv => whnf) | ((with_reducible refine bld_a ?_); conv => whnf) | ((with_reducible refine own_e ?_); conv => whnf) | ((with_reducible refine mkmap_b ?_); conv => whnf)))
          refine branch_d (fun h2 => ?_) (fun h2 => ?_)
          · (conv => whnf); (repeat (first | (refine arith_i ⟨by omega, by omega⟩ ?_; conv => whnf) | (refine need_i (by first | omega | (simp only [List.length_append, List.length_cons, List.length_nil]; omega)) ?_; conv => whnf) | ((with_reducible refine branch_tt ?_); conv => whnf) | ((with_reducible refine branch_ff ?_); conv => whnf) | (with_reducible refine branch_not ?_) | ((with_reducible refine slc_e ?_); conv => whnf) | ((with_reducible refine callS_a ?_); conv => whnf) | ((with_reducible refine bld_a ?_); conv => whnf) | ((with_reducible refine own_e ?_); conv => whnf) | ((with_reducible refine mkmap_b ?_); conv => whnf)))
            exact ret_p rfl (hit (by simp [blockedB, hok]; omega))
          · (conv => whnf); (repeat (first | (refine arith_i ⟨by omega, by omega⟩ ?_; conv => whnf) | (refine need_i (by first | omega | (simp only [List.length_append, List.length_cons, List.length_nil]; omega)) ?_; conv => whnf) | ((with_reducible refine branch_tt ?_); conv => whnf) | ((with_reducible refine branch_ff ?_); conv => whnf) | (with_reducible refine branch_not ?_) | ((with_reducible refine slc_e ?_); conv => whnf) | ((with_reducible refine callS_a ?_); conv => whnf) | ((with_reducible refine bld_a ?_); conv => whnf) | ((with_reducible refine own_e ?_); conv => whnf) | ((with_reducible refine mkmap_b ?_); conv => whnf)))
            refine branch_d (fun h3 => ?_) (fun h3 => ?_)
            · (conv => whnf); (repeat (first | (refine arith_i ⟨by omega, by omega⟩ ?_; conv => whnf) | (refine need_i (by first | omega | (simp only [List.length_append, List.length_cons, List.length_nil]; omega)) ?_; conv => whnf) | ((with_reducible refine branch_tt ?_); conv => whnf) | ((with_reducible refine branch_ff ?_); conv => whnf) | (with_reducible refine branch_not ?_) | ((with_reducible refine slc_e ?_); conv => whnf) | ((with_reducible refine callS_a ?_); conv => whnf) | ((with_reducible refine bld_a ?_); conv => whnf) | ((with_reducible refine own_e ?_); conv => whnf) | ((with_reducible refine mkmap_b ?_); conv => whnf)))
              exact ret_p rfl (hit (by simp [blockedB, hok]; omega))
            · (conv => whnf); (repeat (first | (refine arith_i ⟨by omega, by omega⟩ ?_; conv => whnf) | (refine need_i (by first | omega | (simp only [List.length_append, List.length_cons, List.length_nil]; omega)) ?_; conv => whnf) | ((with_reducible refine branch_tt ?_); conv => whnf) | ((with_reducible refine branch_ff ?_); conv => whnf) | (with_reducible refine branch_not ?_) | ((with_reducible refine slc_e ?_); conv => whnf) | ((with_reducible refine callS_a ?_); conv => whnf) | ((with_reducible refine bld_a ?_); conv => whnf) | ((with_reducible refine own_e ?_); conv => whnf) | ((with_reducible refine mkmap_b ?_); conv => whnf)))
              refine ⟨j + 1, ⟨by omega, fun i hi => ?_⟩, le_mk ⟨rfl, rfl, rfl, rfl, trivial⟩ trivial rfl, by omega⟩
              rcases Nat.lt_or_ge i j with h' | h'
              · exact hall i h'
              · obtain rfl : i = j := by omega
                rw [hrow]
                simp [blockedB, hok]
                omega
      · (conv => whnf); (repeat (first | (refine arith_i ⟨by omega, by omega⟩ ?_; conv => whnf) | (refine need_i (by first | omega | (simp only [List.length_append, List.length_cons, List.length_nil]; omega)) ?_; conv => whnf) | ((with_reducible refine branch_tt ?_); conv => whnf) | ((with_reducible refine branch_ff ?_); conv => whnf) | (with_reducible refine branch_not ?_) | ((with_reducible refine slc_e ?_); conv => whnf) | ((with_reducible refine callS_a ?_); conv => whnf) | ((with_reducible refine bld_a ?_); conv => whnf) | ((with_reducible refine own_e ?_); conv => whnf) | ((with_reducible refine mkmap_b ?_); conv => whnf)))
        exact ret_p rfl (int_eq (by rw [hd, firstFrom_none P.rows 0 (fun i hi => hall i (by omega))]))
end Go.Proofs.Ytengafkfgcdpeaa
end

/- Layer 10: the certificate's tree. -/
section
namespace Go.Proofs.Ytengafkfgcdpeaa
set_option linter.unusedVariables false
set_option linter.unusedSimpArgs false
set_option linter.unnecessarySimpa false
set_option linter.unusedSectionVars false
set_option maxRecDepth 10000
open Go.RowKit
def plGL10d_0 : Plan := (.take 0 (.take 1 (.take 2 (.take 3 (.take 4 (.take 5 (.take 6 (.take 7 (.altE 8 (.take 9 (.take 10 (.altE 11 .done .stop))) .stop)))))))))
def plGL10d_1 : Plan := (.take 1 (.take 3 (.take 4 (.take 5 (.alt 0 (.take 6 (.take 7 (.alt 2 (.alt 8 (.take 9 (.take 10 (.alt 11 .done .stop))) .stop) (.alt 8 (.alt 2 (.take 9 (.take 10 (.alt 11 .done .stop))) .stop) .stop)))) (.alt 2 (.alt 0 (.take 6 (.take 7 (.alt 8 (.take 9 (.take 10 (.alt 11 .done .stop))) .stop))) .stop) .stop))))))
def plainN : Nd := ⟨3, 0, 0, 0, -1, 0, 1⟩
def leafN (P : Prog) (f : Bool) (b : Int) (o : Nat) (st : List Int) : Option Nd :=
  if 0 ≤ deadF P st then some ⟨2, 0, 0, 0, deadF P st, 0, 0⟩ else if o = st.length ∨ (f = true ∧ b ≤ boundF P st plainN) then some plainN else none
def treeF (P : Prog) (f : Bool) (b : Int) : Nat → Nat → List Int → Nat → List Nd
  | 0, o, st, base => [(leafN P f b o st).getD plainN]
  | m + 1, o, st, base => match leafN P f b o st with
    | some n => [n]
    | none => ⟨1, o, (base + 1 : Nat), (base + 1 + (treeF P f b m (o + 1) (st.set o 0) (base + 1)).length : Nat), 0, 0, 0⟩ :: (treeF P f b m (o + 1) (st.set o 0) (base + 1) ++ treeF P f b m (o + 1) (st.set o 1) (base + 1 + (treeF P f b m (o + 1) (st.set o 0) (base + 1)).length))
theorem tree_len {P : Prog} {f : Bool} {b : Int} : ∀ {m o : Nat} {st : List Int} {base : Nat}, (treeF P f b m o st base).length ≤ 2 ^ (m + 1) - 1
  | 0, o, st, base => by simp [treeF]
  | m + 1, o, st, base => by
    rw [treeF]
    split
    · have := Nat.one_le_two_pow (n := m + 1); rw [Nat.pow_succ]; simp; omega
    · have h1 := tree_len (P := P) (f := f) (b := b) (m := m) (o := o + 1) (st := st.set o 0) (base := base + 1)
      have h2 := tree_len (P := P) (f := f) (b := b) (m := m) (o := o + 1) (st := st.set o 1) (base := base + 1 + (treeF P f b m (o + 1) (st.set o 0) (base + 1)).length)
      have := Nat.one_le_two_pow (n := m + 1)
      rw [Nat.pow_succ]
      simp only [List.length_cons, List.length_append]
      omega
theorem tree_pos {P : Prog} {f : Bool} {b : Int} : ∀ {m o : Nat} {st : List Int} {base : Nat}, 1 ≤ (treeF P f b m o st base).length
  | 0, o, st, base => by simp [treeF]
  | m + 1, o, st, base => by rw [treeF]; split <;> simp
theorem tree_leaf {P : Prog} {f : Bool} {b : Int} {m o : Nat} {st : List Int} {base : Nat} {n : Nd} (h : leafN P f b o st = some n) : treeF P f b m o st base = [n] := by
  cases m with
  | zero => simp [treeF, h]
  | succ m => simp [treeF, h]
def growA : List AV := [.ptr 1000 0, .ptr 1001 0, .ptr 1002 0, .ptr 1003 0, .ptr 1004 0, .ptr 1005 0, .ptr 1006 0]
def gBx (P : Prog) (f : Bool) (b : Int) (st : List Int) (ns : List Nd) : List (Nat × List AV) := [(1000, [.own 1100 123 7 (ns.map encN)]), (1001, [ints P.costs, rowsV P.rows]), (1002, [.own 1102 3 1 (st.map encI)]), (1003, [.int .i64 3, .int .i64 0, .int .i64 0, .int .i64 0, .int .i64 (-1), .int .i64 0, .int .i64 1]), (1004, [.bool f]), (1005, [.int .i64 b]), (1006, [.fn 93 growA])]
theorem bound_plain {P : Prog} {st : List Int} (hv : validB P = true) (hs : stOB st P.costs.length = true) : boundV P st plainN = .tup [.int .i64 (boundF P st plainN), .bool true] := by
  have : okB P st plainN = true := by simp [okB, hv, hs, bndB, plainN]
  rw [boundV, this]
  rfl
theorem fits_of {P : Prog} (hv : validB P = true) : Fits P := by
  have h := validB_parts hv
  exact ⟨by omega, by omega, fun r hr => by have := (valid_rows hv hr).1; omega⟩
theorem snoc7 {xs : List Nd} {a b c d e f g : Int} : xs.map encN ++ [[AV.int .i64 a, AV.int .i64 b, AV.int .i64 c, AV.int .i64 d, AV.int .i64 e, AV.int .i64 f, AV.int .i64 g]] = (xs ++ [(⟨a, b, c, d, e, f, g⟩ : Nd)]).map encN := by simp [encN]
theorem un_set {st : List Int} {n o : Nat} {x : Int} (h : ∀ j, o ≤ j → j < n → nth st j = -1) : ∀ j, o + 1 ≤ j → j < n → nth (st.set o x) j = -1 := fun j h1 h2 => by
  rw [nth_set, if_neg (by omega)]; exact h j (by omega) h2
theorem set_back {st : List Int} {o : Nat} {x : Int} (h : nth st o = -1) (ho : o < st.length) : (st.set o x).set o (-1) = st := by
  rw [List.set_set]
  refine nth_ext (by simp) fun j hj => ?_
  rw [nth_set]
  split
  · next e => rw [e.1, h]
  · rfl
theorem place_at {ns a b : List Nd} {x : Nd} : (ns ++ [x] ++ a ++ b)[(((ns.map encN).length : Nat) : Int).toNat]? = some x := by
  rw [List.length_map, Int.toNat_natCast, List.append_assoc, List.append_assoc, List.getElem?_append_right (Nat.le_refl _), Nat.sub_self]
  rfl
theorem mod_at {ns a b : List Nd} {x : Nd} {g : Nd → Nd} : (ns ++ [x] ++ a ++ b).modify ns.length g = ns ++ [g x] ++ a ++ b := by
  rw [List.append_assoc, List.append_assoc, List.append_assoc, List.append_assoc]
  induction ns with
  | nil => rfl
  | cons y ns ih =>
    rw [List.cons_append, List.length_cons, List.modify_succ_cons, ih]
    rfl
theorem idx_modS {es : List (List AV)} {i : Nat} {f : List AV → List AV} {n : Int} {K : List AV → Prop} {cs : List AV} (h0 : 0 ≤ n) (hi : n.toNat = i) (h : es[i]? = some cs) (k : K (f cs)) : idx (es.modify i f) n K := by
  refine idx_i h0 ?_ k
  rw [hi, List.getElem?_modify, h]
  simp
theorem place_enc {ns a b : List Nd} {x : Nd} : ((ns ++ [x] ++ a ++ b).map encN)[(ns.map encN).length]? = some (encN x) := by
  have := place_at (ns := ns) (a := a) (b := b) (x := x)
  rw [Int.toNat_natCast] at this
  rw [List.getElem?_map, this]
  rfl
set_option maxHeartbeats 4000000 in
theorem grow_ok (P : Prog) (f : Bool) (b : Int) (hv : validB P = true) : ∀ (m o : Nat) (st : List Int) (ns : List Nd), m = P.costs.length - o → o ≤ P.costs.length → stOB st P.costs.length = true → (∀ j, o ≤ j → j < P.costs.length → nth st j = -1) → ns.length + 2 ^ (m + 1) ≤ 100000 →
    GoodM Try.prog TT false 93 (.int .i64 o :: growA) (gBx P f b st ns) (fun r ov bx => r = .int .i64 ns.length ∧ ov = [] ∧ bx = gBx P f b st (ns ++ treeF P f b m o st ns.length)) := by
  have hcl := (validB_parts hv).1
  have hfit := fits_of hv
  intro m
  induction m with
  | zero =>
    intro o st ns hm ho hst hun hns
    have hsl := st_len hst
    have LS : (st.map encI).length = st.length := List.length_map ..
    have LN : (ns.map encN).length = ns.length := List.length_map ..
    have hoe : o = st.length := by omega
    refine good_of_m (fun _ => false) mixed tabOk Try.func93 rfl rfl Try.ntmps93 Try.results93 rfl rfl ?_
    (conv => whnf); (repeat' (first | (refine arith_i ⟨by omega, by omega⟩ ?_; conv => whnf) | (refine arith_u ⟨by omega, by omega⟩ ?_; conv => whnf) | (refine arith_8 ⟨by omega, by omega⟩ ?_; conv => whnf) | (refine need_i (by first | omega | (simp only [List.length_cons, List.length_nil]; omega) | (simp only [List.length_append, List.length_cons, List.length_nil, List.length_map, List.length_replicate, List.length_modify]; omega)) ?_; conv => whnf) | ((with_reducible refine branch_tt ?_); conv => whnf) | ((with_reducible refine branch_ff ?_); conv => whnf) | (with_reducible refine branch_not ?_) | ((refine call_e (dead_ok P st hfit (by omega)) ?_); conv => whnf) | ((refine call_e ((bound_ok P st plainN hfit (by omega)).mono fun r h => h.trans (bound_plain hv hst)) ?_); conv => whnf) | ((simp only [snoc7]); conv => whnf) | ((with_reducible refine slc_e ?_); conv => whnf) | ((with_reducible refine callS_a ?_); conv => whnf) | ((with_reducible refine bld_a ?_); conv => whnf) | ((with_reducible refine own_e ?_); conv => whnf) | ((with_reducible refine mkmap_b ?_); conv => whnf) | (refine draw_i 12 plGL10d_0 (by decide +kernel) ?_; (conv => whnf); fail_if_success (guard_target =~ False)) | (refine draw_i 0 plGL10d_1 (by decide +kernel) ?_; (conv => whnf); fail_if_success (guard_target =~ False)) | ((with_reducible refine And.intro ?_ ?_) <;> (conv => whnf)) | (with_reducible exact trivial) | ((with_reducible refine branch_d (fun hq => ?_) (fun hq => ?_)) <;> (try (exfalso; omega)) <;> (conv => whnf)) | ((with_reducible refine branch_e (fun hq => ?_) (fun hq => ?_)) <;> (try (exfalso; omega)) <;> (conv => whnf)) | ((with_reducible refine branch_n (fun hq => ?_) (fun hq => ?_)) <;> (try (exfalso; omega)) <;> (conv => whnf)) | ((with_reducible refine branch_i (fun hq => ?_) (fun hq => ?_)) <;> (try (exfalso; omega)) <;> (conv => whnf))))
    all_goals first
      | (have hlf : leafN P f b o st = some ⟨2, 0, 0, 0, deadF P st, 0, 0⟩ := by rw [leafN, if_pos (by assumption)]
         rw [tree_leaf hlf]
         exact retM_i (.int .i64 ns.length) [] (gBx P f b st (ns ++ [⟨2, 0, 0, 0, deadF P st, 0, 0⟩])) rfl (le_mk ⟨by rw [← LN]; rfl, trivial⟩ ⟨rfl, rfl, rfl, rfl, rfl, rfl, rfl, trivial⟩ rfl) rfl ⟨rfl, rfl, rfl⟩)
      | (have hlf : leafN P f b o st = some plainN := by rw [leafN, if_neg (by assumption), if_pos (.inl hoe)]
         rw [tree_leaf hlf]
         exact retM_i (.int .i64 ns.length) [] (gBx P f b st (ns ++ [plainN])) rfl (le_mk ⟨by rw [← LN]; rfl, trivial⟩ ⟨rfl, rfl, rfl, rfl, rfl, rfl, rfl, trivial⟩ rfl) rfl ⟨rfl, rfl, rfl⟩)
  | succ m IH =>
    intro o st ns hm ho hst hun hns
    have hsl := st_len hst
    have LS : (st.map encI).length = st.length := List.length_map ..
    have LN : (ns.map encN).length = ns.length := List.length_map ..
    have h2 := Nat.one_le_two_pow (n := m + 1)
    rw [Nat.pow_succ] at hns
    refine good_of_m (fun _ => false) mixed tabOk Try.func93 rfl rfl Try.ntmps93 Try.results93 rfl rfl ?_
    have hIH := fun (x : Int) (ns' : List Nd) (h : -1 ≤ x ∧ x ≤ 1) (h' : ns'.length + 2 ^ (m + 1) ≤ 100000) (ho' : o < P.costs.length) => IH (o + 1) (st.set o x) ns' (by omega) (by omega) (stO_set hst h) (un_set hun) h'
    obtain ⟨n1, hn1⟩ : ∃ n1 : Nd, n1 = ⟨1, o, 0, 0, 0, 0, 0⟩ := ⟨_, rfl⟩
    obtain ⟨ns1, hns1⟩ : ∃ l, l = ns ++ [(⟨1, o, 0, 0, 0, 0, 0⟩ : Nd)] := ⟨_, rfl⟩
    have L1 : ns1.length = ns.length + 1 := by rw [hns1]; simp
    obtain ⟨z, hz⟩ : ∃ l, l = treeF P f b m (o + 1) (st.set o 0) ns1.length := ⟨_, rfl⟩
    have Lz : z.length ≤ 2 ^ (m + 1) - 1 := by rw [hz]; exact tree_len
    obtain ⟨ns2, hns2⟩ : ∃ l, l = ns1 ++ z := ⟨_, rfl⟩
    have L2 : ns2.length = ns1.length + z.length := by rw [hns2]; simp
    have hI1 := fun ho' => hIH 0 ns1 (by omega) (by omega) ho'
    have hI2 := fun ho' => hIH 1 ns2 (by omega) (by omega) ho'
    rw [← hz, ← hns2] at hI1
    (conv => whnf); (repeat' (first | (refine arith_i ⟨by omega, by omega⟩ ?_; conv => whnf) | (refine arith_u ⟨by omega, by omega⟩ ?_; conv => whnf) | (refine arith_8 ⟨by omega, by omega⟩ ?_; conv => whnf) | (refine need_i (by first | omega | (simp only [List.length_cons, List.length_nil]; omega) | (simp only [List.length_append, List.length_cons, List.length_nil, List.length_map, List.length_replicate, List.length_modify]; omega)) ?_; conv => whnf) | ((with_reducible refine branch_tt ?_); conv => whnf) | ((with_reducible refine branch_ff ?_); conv => whnf) | (with_reducible refine branch_not ?_) | ((refine call_e (dead_ok P st hfit (by omega)) ?_); conv => whnf) | ((refine call_e ((bound_ok P st plainN hfit (by omega)).mono fun r h => h.trans (bound_plain hv hst)) ?_); conv => whnf) | (((refine idx_m (xs := st) (by omega) (by omega) fun y hy => ?_)); conv => whnf) | ((simp only [snoc7, Int.toNat_natCast, ← hns1]); conv => whnf) | ((refine mcall_e [(1000, 1000), (1001, 1001), (1002, 1002), (1003, 1003), (1004, 1004), (1005, 1005), (1006, 1006)] [(1100, 1100), (1102, 1102)] (hI1 (by omega)) rfl rfl rfl ⟨⟨_, rfl, rfl, rfl⟩, ⟨_, rfl, rfl, rfl⟩, ⟨_, rfl, by rw [← encI_set (xs := st) (k := o) (y := 0)]; rfl, rfl⟩, ⟨_, rfl, rfl, rfl⟩, ⟨_, rfl, rfl, rfl⟩, ⟨_, rfl, rfl, rfl⟩, ⟨_, rfl, rfl, rfl⟩, trivial⟩ rfl ?_); conv => whnf) | ((refine mcall_e [(1000, 1000), (1001, 1001), (1002, 1002), (1003, 1003), (1004, 1004), (1005, 1005), (1006, 1006)] [(1100, 1100), (1102, 1102)] (hI2 (by omega)) rfl rfl rfl ⟨⟨_, rfl, rfl, rfl⟩, ⟨_, rfl, rfl, rfl⟩, ⟨_, rfl, by rw [show st.set o 1 = (st.set o 0).set o 1 by rw [List.set_set], ← encI_set (xs := st.set o 0) (k := o) (y := 1)]; rfl, rfl⟩, ⟨_, rfl, rfl, rfl⟩, ⟨_, rfl, rfl, rfl⟩, ⟨_, rfl, rfl, rfl⟩, ⟨_, rfl, rfl, rfl⟩, trivial⟩ rfl ?_); conv => whnf) | (((refine idx_m (xs := st.set o 0) (by omega) (by simp; omega) fun y hy => ?_)); conv => whnf) | (((refine idx_m (xs := st.set o 1) (by omega) (by simp; omega) fun y hy => ?_)); conv => whnf) | (((refine idx_ms (x := ⟨1, o, 0, 0, 0, 0, 0⟩) (by omega) (by rw [hns2, hns1]; exact place_at) ?_)); conv => whnf) | (((refine idx_modS (cs := encN ⟨1, o, 0, 0, 0, 0, 0⟩) (by omega) (by omega) (by rw [hns2, hns1]; exact place_enc) ?_)); conv => whnf) | ((with_reducible refine slc_e ?_); conv => whnf) | ((with_reducible refine callS_a ?_); conv => whnf) | ((with_reducible refine bld_a ?_); conv => whnf) | ((with_reducible refine own_e ?_); conv => whnf) | ((with_reducible refine mkmap_b ?_); conv => whnf) | (refine draw_i 12 plGL10d_0 (by decide +kernel) ?_; (conv => whnf); fail_if_success (guard_target =~ False)) | (refine draw_i 0 plGL10d_1 (by decide +kernel) ?_; (conv => whnf); fail_if_success (guard_target =~ False)) | ((with_reducible refine And.intro ?_ ?_) <;> (conv => whnf)) | (with_reducible exact trivial) | ((with_reducible refine branch_d (fun hq => ?_) (fun hq => ?_)) <;> (try (exfalso; omega)) <;> (conv => whnf)) | ((with_reducible refine branch_e (fun hq => ?_) (fun hq => ?_)) <;> (try (exfalso; omega)) <;> (conv => whnf)) | ((with_reducible refine branch_n (fun hq => ?_) (fun hq => ?_)) <;> (try (exfalso; omega)) <;> (conv => whnf)) | ((with_reducible refine branch_i (fun hq => ?_) (fun hq => ?_)) <;> (try (exfalso; omega)) <;> (conv => whnf))))
    all_goals first
      | (have hlf : leafN P f b o st = some ⟨2, 0, 0, 0, deadF P st, 0, 0⟩ := by rw [leafN, if_pos (by assumption)]
         rw [tree_leaf hlf]
         exact retM_i (.int .i64 ns.length) [] (gBx P f b st (ns ++ [⟨2, 0, 0, 0, deadF P st, 0, 0⟩])) rfl (le_mk ⟨by rw [← LN]; rfl, trivial⟩ ⟨rfl, rfl, rfl, rfl, rfl, rfl, rfl, trivial⟩ rfl) rfl ⟨rfl, rfl, rfl⟩)
      | (have hlf : leafN P f b o st = some plainN := by rw [leafN, if_neg (by assumption), if_pos (.inr ⟨by assumption, by assumption⟩)]
         rw [tree_leaf hlf]
         exact retM_i (.int .i64 ns.length) [] (gBx P f b st (ns ++ [plainN])) rfl (le_mk ⟨by rw [← LN]; rfl, trivial⟩ ⟨rfl, rfl, rfl, rfl, rfl, rfl, rfl, trivial⟩ rfl) rfl ⟨rfl, rfl, rfl⟩)
      | (have hlf : leafN P f b o st = none := by
           rw [leafN, if_neg (by assumption), if_neg]
           rintro (h | ⟨h, h'⟩)
           · omega
           · simp_all
         have hfin : ns ++ treeF P f b (m + 1) o st ns.length = ((ns2 ++ treeF P f b m (o + 1) (st.set o 1) ns2.length).modify ns.length (fun n => { n with zero := ns1.length })).modify ns.length (fun n => { n with one := ns2.length }) := by
           rw [treeF, hlf, hns2, hns1, mod_at, mod_at]
           simp only
           rw [← hns1, ← L1, ← hz, ← L2, hns2]
           simp
         have hback := set_back (x := 1) (hun o (Nat.le_refl _) (by omega)) (show o < st.length by omega)
         rw [hfin]
         refine retM_i (.int .i64 ns.length) [] (gBx P f b st (((ns2 ++ treeF P f b m (o + 1) (st.set o 1) ns2.length).modify ns.length (fun n => { n with zero := ns1.length })).modify ns.length (fun n => { n with one := ns2.length }))) rfl (le_mk ⟨by rw [← LN]; rfl, trivial⟩ ⟨?_, rfl, ?_, rfl, rfl, rfl, rfl, trivial⟩ rfl) rfl ⟨rfl, rfl, rfl⟩
         · rw [← map_modify (enc := encN) (f := fun c => c.set 3 (.int .i64 ns2.length)) (fun x => rfl), ← map_modify (enc := encN) (f := fun c => c.set 2 (.int .i64 ns1.length)) (fun x => rfl), ← LN]
           rfl
         · conv => rhs; rw [← hback]
           rw [← encI_set (xs := st.set o 1) (k := o) (y := -1)]
           rfl)
/-- The certificate. -/
def certF (P : Prog) (f : Bool) (b : Int) : List Nd := treeF P f b P.costs.length 0 (List.replicate P.costs.length (-1)) 0
set_option maxHeartbeats 4000000 in
theorem cert_ok (P : Prog) (f : Bool) (b : Int) (hv : validB P = true) : Good Try.prog TT false 76 [progV P, .bool f, .int .i64 b] (· = ndsV (certF P f b)) := by
  have hcl := (validB_parts hv).1
  have LC : (P.costs.map encI).length = P.costs.length := List.length_map ..
  have hpow : 2 ^ (P.costs.length + 1) ≤ 2 ^ 13 := Nat.pow_le_pow_right (by omega) (by omega)
  have hg := grow_ok P f b hv P.costs.length 0 (List.replicate P.costs.length (-1)) [] (by omega) (by omega) (by simp [stOB, tri9]) (fun j _ h => by simp [nth, List.getD_eq_getElem?_getD, h]) (by simp; omega)
  refine good_of mixed tabOk Try.func76 rfl rfl Try.ntmps76 Try.results76 rfl rfl ?_
  (conv => whnf); (repeat' (first | (refine arith_i ⟨by omega, by omega⟩ ?_; conv => whnf) | (refine arith_u ⟨by omega, by omega⟩ ?_; conv => whnf) | (refine arith_8 ⟨by omega, by omega⟩ ?_; conv => whnf) | (refine need_i (by first | omega | (simp only [List.length_cons, List.length_nil]; omega) | (simp only [List.length_append, List.length_cons, List.length_nil, List.length_map, List.length_replicate, List.length_modify]; omega)) ?_; conv => whnf) | ((with_reducible refine branch_tt ?_); conv => whnf) | ((with_reducible refine branch_ff ?_); conv => whnf) | (with_reducible refine branch_not ?_) | (((rw [LC]; refine call_e (repeat_ok P.costs.length hcl) ?_)); conv => whnf) | (((refine mcall_i [(1000, 9), (1001, 3), (1002, 7), (1003, 8), (1004, 4), (1005, 5), (1006, 10)] [(1100, 1100), (1102, 15)] _ (le_adoptBox 9 0 1100 123 7 rfl rfl) hg rfl rfl rfl ⟨⟨_, rfl, rfl, rfl⟩, ⟨_, rfl, rfl, rfl⟩, ⟨_, rfl, rfl, rfl⟩, ⟨_, rfl, rfl, rfl⟩, ⟨_, rfl, rfl, rfl⟩, ⟨_, rfl, rfl, rfl⟩, ⟨_, rfl, rfl, rfl⟩, trivial⟩ ?_; rintro r ov bx' ⟨rfl, rfl, rfl⟩; refine ⟨rfl, ?_⟩)); conv => whnf) | ((with_reducible refine slc_e ?_); conv => whnf) | ((with_reducible refine callS_a ?_); conv => whnf) | ((with_reducible refine bld_a ?_); conv => whnf) | ((with_reducible refine own_e ?_); conv => whnf) | ((with_reducible refine mkmap_b ?_); conv => whnf) | ((with_reducible refine branch_d (fun hq => ?_) (fun hq => ?_)) <;> (try (exfalso; omega)) <;> (conv => whnf)) | ((with_reducible refine branch_e (fun hq => ?_) (fun hq => ?_)) <;> (try (exfalso; omega)) <;> (conv => whnf)) | ((with_reducible refine branch_n (fun hq => ?_) (fun hq => ?_)) <;> (try (exfalso; omega)) <;> (conv => whnf)) | ((with_reducible refine branch_i (fun hq => ?_) (fun hq => ?_)) <;> (try (exfalso; omega)) <;> (conv => whnf))))
  exact ret_ol rfl
/-! Solve and All -/
theorem loop_count {P : Prog} : ∀ {m : Nat} {ch : List Int} {i : Nat}, (loopF P m ch i).length ≤ 2 ^ m - 1
  | 0, ch, i => by simp [loopF]
  | m + 1, ch, i => by
    have h1 := loop_count (P := P) (m := m) (ch := ch ++ [(i : Int)]) (i := i + 1)
    have h2 := loop_count (P := P) (m := m) (ch := ch) (i := i + 1)
    have h3 : (here P (ch ++ [(i : Int)])).length ≤ 1 := by simp only [here]; split <;> simp
    have := Nat.one_le_two_pow (n := m)
    simp only [loopF, List.length_append, Nat.pow_succ]
    omega
theorem all_count {P : Prog} (hv : validB P = true) : (allF P).length ≤ 4096 := by
  have hcl := (validB_parts hv).1
  have h1 := loop_count (P := P) (m := P.costs.length - 0) (ch := []) (i := 0)
  have h3 : (here P []).length ≤ 1 := by simp only [here]; split <;> simp
  have h4 : 2 ^ (P.costs.length - 0) ≤ 2 ^ 12 := Nat.pow_le_pow_right (by omega) (by omega)
  simp only [allF, visF, List.length_append]
  omega
def allV (P : Prog) : AV := if validB P = true then .tup [.lst 1 ((allF P).map encS), .int .i64 0] else .tup [.lst 1 [], .int .i64 1]
/-- What Solve returns. -/
def solveV (P : Prog) : AV := if validB P = true then .tup [.agg [.bool (bestF P).1, ints (bestF P).2.2, .int .i64 (bestF P).2.1, ndsV (certF P (bestF P).1 (bestF P).2.1)], .int .i64 0] else .tup [.agg [.bool false, ints [], .int .i64 0, .lst 7 []], .int .i64 1]
set_option maxHeartbeats 4000000 in
theorem solve_ok (P : Prog) (hP : Fits P) : Good Try.prog TT false 52 [progV P] (· = solveV P) := by
  refine good_of mixed tabOk Try.func52 rfl rfl Try.ntmps52 Try.results52 rfl rfl ?_
  (conv => whnf); (repeat' (first | (refine arith_i ⟨by omega, by omega⟩ ?_; conv => whnf) | (refine arith_u ⟨by omega, by omega⟩ ?_; conv => whnf) | (refine arith_8 ⟨by omega, by omega⟩ ?_; conv => whnf) | (refine need_i (by first | omega | (simp only [List.length_cons, List.length_nil]; omega) | (simp only [List.length_append, List.length_cons, List.length_nil, List.length_map, List.length_replicate, List.length_modify]; omega)) ?_; conv => whnf) | ((with_reducible refine branch_tt ?_); conv => whnf) | ((with_reducible refine branch_ff ?_); conv => whnf) | (with_reducible refine branch_not ?_) | ((refine call_e (valid_ok P hP.1 hP.2.1 hP.2.2) ?_); conv => whnf) | (((have hv : validB P = true := hq; refine mcall_i [(1010, 4)] [] _ (le_nilBox 4 1 1 rfl rfl) (eachS_ok P (false, 0, []) hv trivial) rfl rfl rfl ⟨⟨_, rfl, rfl, rfl⟩, trivial⟩ ?_; rintro r ov bx' ⟨rfl, rfl, rfl⟩; refine ⟨rfl, ?_⟩)); conv => whnf) | ((refine call_e (cert_ok P _ _ hv) ?_); conv => whnf) | ((with_reducible refine slc_e ?_); conv => whnf) | ((with_reducible refine callS_a ?_); conv => whnf) | ((with_reducible refine bld_a ?_); conv => whnf) | ((with_reducible refine own_e ?_); conv => whnf) | ((with_reducible refine mkmap_b ?_); conv => whnf) | ((with_reducible refine branch_d (fun hq => ?_) (fun hq => ?_)) <;> (try (exfalso; omega)) <;> (conv => whnf)) | ((with_reducible refine branch_e (fun hq => ?_) (fun hq => ?_)) <;> (try (exfalso; omega)) <;> (conv => whnf)) | ((with_reducible refine branch_n (fun hq => ?_) (fun hq => ?_)) <;> (try (exfalso; omega)) <;> (conv => whnf)) | ((with_reducible refine branch_i (fun hq => ?_) (fun hq => ?_)) <;> (try (exfalso; omega)) <;> (conv => whnf))))
  · exact ret_t (rs := [.agg [.bool (bestF P).1, ints (bestF P).2.2, .int .i64 (bestF P).2.1, ndsV (certF P (bestF P).1 (bestF P).2.1)], .int .i64 0]) ⟨.inr ⟨_, _, rfl, rfl, rc_p rfl, rc_p rfl, rc_p rfl, rc_p rfl, trivial⟩, (rc_p rfl).g, trivial⟩ (by rw [solveV, if_pos hq])
  · exact ret_t (rs := [.agg [.bool false, ints [], .int .i64 0, .lst 7 []], .int .i64 1]) ⟨.inr ⟨_, _, rfl, rfl, rc_p rfl, rc_n, rc_p rfl, rc_n, trivial⟩, (rc_p rfl).g, trivial⟩ (by rw [solveV, if_neg (by simp [hq])])
end Go.Proofs.Ytengafkfgcdpeaa
end

/- From a contract of the interpreter to a law's call. -/
section
namespace Go.Proofs.Ytengafkfgcdpeaa
set_option linter.unusedVariables false
set_option linter.unusedSimpArgs false
set_option linter.unnecessarySimpa false
set_option linter.unusedSectionVars false
open Go.RowKit

end Go.Proofs.Ytengafkfgcdpeaa
end

/- From a contract of the interpreter to a law's call: any arguments; slices of strings. -/
section
namespace Go.Proofs.Ytengafkfgcdpeaa
set_option linter.unusedVariables false
set_option linter.unusedSimpArgs false
set_option linter.unnecessarySimpa false
set_option linter.unusedSectionVars false
open Go.RowKit

theorem law_all {f : Nat} {args : List AV} (hG : Good Try.prog TT false f args (· = .bool true)) {w : World} {us : List Value} (h : All2 (RepV w No) args us) :
    Calls Try.prog f us.toArray w (fun e w' => e = .returned (.bool true) ∧ Chg No w w') := by
  have hx : ∀ b, GX (G0 none No (none, 0, 0)) b → False := fun b hb => by rcases hb with hb | hb <;> simp_all [GM, G0, No]
  refine Calls.mono (hG.2 w No none us (none, 0, 0) (fun b hb => absurd hb no_) rfl (h.mono fun v u hr => RC.ra (RepV.rc (RepV.move hr (fun _ _ _ => rfl) fun b _ hb => (hx b hb).elim))) nofun) ?_
  rintro e w' ⟨u, r, rfl, rfl, hr, hc, -⟩
  have hu : RepV w' (GX (G0 none No (none, 0, 0))) (.bool true) u := hr
  cases hu
  exact ⟨rfl, hc.mono fun b _ hb => by cases hb⟩
theorem ints_row {w : World} {a : Option Addr} {len cap : Nat} {zs : List Int} (h : Ints w No a len cap zs) : RepV w No (ints zs) (.slice a len cap) := ints_rep h
theorem ints_max {w : World} {a : Option Addr} {len cap : Nat} {zs : List Int} (h : Ints w No a len cap zs) (hc : cap ≤ maxLen) : zs.length ≤ 9223372036854775807 := by
  have h1 := h.len
  have h2 := h.cap
  have h3 : maxLen = 9223372036854775807 := rfl
  omega
end Go.Proofs.Ytengafkfgcdpeaa
end

/- Layer 9: awake; the laws OptimalityMany and OptimalityBounds. -/
section
namespace Go.Proofs.Ytengafkfgcdpeaa
set_option linter.unusedVariables false
set_option linter.unusedSimpArgs false
set_option linter.unnecessarySimpa false
set_option linter.unusedSectionVars false
set_option maxRecDepth 10000
open Go.RowKit



def nd0 : Nd := ⟨0, 0, 0, 0, 0, 0, 0⟩
end Go.Proofs.Ytengafkfgcdpeaa
end

/- Layer 9: Has, complete, Subset; valid programs of the tape. -/
section
namespace Go.Proofs.Ytengafkfgcdpeaa
set_option linter.unusedVariables false
set_option linter.unusedSimpArgs false
set_option linter.unnecessarySimpa false
set_option linter.unusedSectionVars false
set_option maxRecDepth 10000
open Go.RowKit

end Go.Proofs.Ytengafkfgcdpeaa
end

/- Layer 10: comparing lists; Repeat, of the program and of the reference. -/
section
namespace Go.Proofs.Ytengafkfgcdpeaa
set_option linter.unusedVariables false
set_option linter.unusedSimpArgs false
set_option linter.unnecessarySimpa false
set_option linter.unusedSectionVars false
set_option maxRecDepth 10000
open Go.RowKit
/-- The row that excludes a choice. -/
def repCo (n : Nat) (ch : List Int) : List Int := (List.range n).map fun i : Nat => if hasB ch (i : Int) then 1 else -1
def repRow (n : Nat) (ch : List Int) : Row := ⟨repCo n ch, -12, ch.length - 1⟩
end Go.Proofs.Ytengafkfgcdpeaa
end

/- Layer 10: Form. -/
section
namespace Go.Proofs.Ytengafkfgcdpeaa
set_option linter.unusedVariables false
set_option linter.unusedSimpArgs false
set_option linter.unnecessarySimpa false
set_option linter.unusedSectionVars false
set_option maxRecDepth 10000
open Go.RowKit
def plGL06b_0 : Plan := (.take 0 (.take 1 (.take 2 (.take 3 (.take 4 (.take 5 (.take 6 (.take 7 (.take 8 (.take 9 (.take 10 (.take 11 (.take 12 (.take 13 (.take 14 (.take 15 (.take 16 (.take 17 (.take 18 (.take 19 (.take 20 (.take 21 (.take 22 (.take 23 (.take 24 (.take 25 (.take 26 (.take 27 (.take 28 .done)))))))))))))))))))))))))))))
def plGL06b_1 : Plan := (.take 0 (.take 1 (.take 2 (.alt 3 (.take 4 (.take 5 (.take 6 (.take 7 (.take 8 (.take 10 (.alt 9 (.take 11 (.take 12 (.take 13 (.take 14 (.take 15 (.take 16 (.take 17 (.take 18 (.take 19 (.take 20 (.take 22 (.take 23 (.take 24 (.alt 21 (.alt 25 (.take 26 (.take 27 (.take 28 .done))) .stop) (.alt 25 (.alt 21 (.take 26 (.take 27 (.take 28 .done))) .stop) .stop))))))))))))))) .stop))))))) .stop))))
/-! Form -/
theorem choice_elt {ch : List Int} {n k : Nat} {c : Int} (h : choiceB ch n = true) (hc : ch[k]? = some c) : 0 ≤ c ∧ c < n := by
  have hk : k < ch.length := by
    rcases Nat.lt_or_ge k ch.length with h | h
    · exact h
    · rw [List.getElem?_eq_none h] at hc; cases hc
  have := ChTo.of_all h k hk
  rw [choiceAt] at this
  have e := nth_eq hc
  simp at this
  omega
theorem choice_len {ch : List Int} {n : Nat} (h : choiceB ch n = true) : ch.length ≤ n := by
  have key : ∀ i, i < ch.length → (i : Int) ≤ nth ch i ∧ nth ch i < n := by
    intro i
    induction i with
    | zero => intro hi; have := ChTo.of_all h 0 hi; rw [choiceAt] at this; simp at this; omega
    | succ m ih =>
      intro hi
      have h1 := ih (by omega)
      have := ChTo.of_all h (m + 1) hi
      rw [choiceAt] at this
      simp at this
      omega
  rcases Nat.eq_zero_or_pos ch.length with h0 | h0
  · omega
  · have := key (ch.length - 1) (by omega)
    omega
set_option maxHeartbeats 2000000 in
theorem rChoice_any (ch : List Int) (n : Nat) (hl : ch.length ≤ 9223372036854775807) (hn : n ≤ 1000000) : Good Try.prog TT false 48 [.int .i64 n, ints ch] (· = .bool (choiceB ch n)) := by
  have L : (ch.map encI).length = ch.length := List.length_map ..
  refine good_of mixed tabOk Try.func48 rfl rfl Try.ntmps48 Try.results48 rfl rfl ?_
  (conv => whnf); (repeat' (first | (refine arith_i ⟨by omega, by omega⟩ ?_; conv => whnf) | (refine arith_u ⟨by omega, by omega⟩ ?_; conv => whnf) | (refine arith_8 ⟨by omega, by omega⟩ ?_; conv => whnf) | (refine need_i (by first | omega | (simp only [List.length_cons, List.length_nil]; omega) | (simp only [List.length_append, List.length_cons, List.length_nil, List.length_map, List.length_replicate, List.length_modify]; omega)) ?_; conv => whnf) | ((with_reducible refine branch_tt ?_); conv => whnf) | ((with_reducible refine branch_ff ?_); conv => whnf) | (with_reducible refine branch_not ?_) | ((with_reducible refine slc_e ?_); conv => whnf) | ((with_reducible refine callS_a ?_); conv => whnf) | ((with_reducible refine bld_a ?_); conv => whnf) | ((with_reducible refine own_e ?_); conv => whnf) | ((with_reducible refine mkmap_b ?_); conv => whnf) | (refine draw_i 29 plGL06b_0 (by decide +kernel) ?_; (conv => whnf); fail_if_success (guard_target =~ False)) | (refine draw_i 29 plGL06b_1 (by decide +kernel) ?_; (conv => whnf); fail_if_success (guard_target =~ False)) | ((with_reducible refine And.intro ?_ ?_) <;> (conv => whnf)) | (with_reducible exact trivial) | ((with_reducible refine branch_d (fun hq => ?_) (fun hq => ?_)) <;> (try (exfalso; omega)) <;> (conv => whnf)) | ((with_reducible refine branch_e (fun hq => ?_) (fun hq => ?_)) <;> (try (exfalso; omega)) <;> (conv => whnf)) | ((with_reducible refine branch_n (fun hq => ?_) (fun hq => ?_)) <;> (try (exfalso; omega)) <;> (conv => whnf)) | ((with_reducible refine branch_i (fun hq => ?_) (fun hq => ?_)) <;> (try (exfalso; omega)) <;> (conv => whnf))))
  refine loop_i (fun k : Nat => k ≤ ch.length ∧ ChTo ch n k) (fun k => mkSt [(0, .int .i64 n), (1, ints ch), (5, .int .i64 k)] [] false) (fun k => ch.length - k) 0 ⟨Nat.zero_le _, ChTo.zero⟩ (le_mk (by repeat' (first | exact trivial | rfl | apply And.intro)) (by repeat' (first | exact trivial | rfl | apply And.intro)) rfl) ?_
  rintro k ⟨hk, hall⟩
  (conv => whnf); (repeat' (first | (refine arith_i ⟨by omega, by omega⟩ ?_; conv => whnf) | (refine arith_u ⟨by omega, by omega⟩ ?_; conv => whnf) | (refine arith_8 ⟨by omega, by omega⟩ ?_; conv => whnf) | (refine need_i (by first | omega | (simp only [List.length_cons, List.length_nil]; omega) | (simp only [List.length_append, List.length_cons, List.length_nil, List.length_map, List.length_replicate, List.length_modify]; omega)) ?_; conv => whnf) | ((with_reducible refine branch_tt ?_); conv => whnf) | ((with_reducible refine branch_ff ?_); conv => whnf) | (with_reducible refine branch_not ?_) | ((first | refine idx_cs (by assumption) ?_ | (refine idx_c (by omega) fun y hy => ?_; have hn := nth_eq hy) | (refine idx_m (by omega) (by omega) fun z hz => ?_; rw [show ((k : Int) - 1).toNat = k - 1 by omega] at hz; have hnz := nth_eq hz)); conv => whnf) | ((with_reducible refine slc_e ?_); conv => whnf) | ((with_reducible refine callS_a ?_); conv => whnf) | ((with_reducible refine bld_a ?_); conv => whnf) | ((with_reducible refine own_e ?_); conv => whnf) | ((with_reducible refine mkmap_b ?_); conv => whnf) | (refine draw_i 29 plGL06b_0 (by decide +kernel) ?_; (conv => whnf); fail_if_success (guard_target =~ False)) | (refine draw_i 29 plGL06b_1 (by decide +kernel) ?_; (conv => whnf); fail_if_success (guard_target =~ False)) | ((with_reducible refine And.intro ?_ ?_) <;> (conv => whnf)) | (with_reducible exact trivial) | ((with_reducible refine branch_d (fun hq => ?_) (fun hq => ?_)) <;> (try (exfalso; omega)) <;> (conv => whnf)) | ((with_reducible refine branch_e (fun hq => ?_) (fun hq => ?_)) <;> (try (exfalso; omega)) <;> (conv => whnf)) | ((with_reducible refine branch_n (fun hq => ?_) (fun hq => ?_)) <;> (try (exfalso; omega)) <;> (conv => whnf)) | ((with_reducible refine branch_i (fun hq => ?_) (fun hq => ?_)) <;> (try (exfalso; omega)) <;> (conv => whnf))))
  all_goals first
    | exact ret_p rfl (bool_eq (ch_fail (k := k) (by omega) (by simp [choiceAt]; omega)).symm)
    | exact ⟨k + 1, ⟨by omega, hall.step (by simp [choiceAt]; omega)⟩, (le_mk (by repeat' (first | exact trivial | rfl | apply And.intro)) (by repeat' (first | exact trivial | rfl | apply And.intro)) rfl), by omega⟩
    | exact ret_p rfl (bool_eq (hall.full (by omega)).symm)
end Go.Proofs.Ytengafkfgcdpeaa
end

/- Layer 10: awake. -/
section
namespace Go.Proofs.Ytengafkfgcdpeaa
set_option linter.unusedVariables false
set_option linter.unusedSimpArgs false
set_option linter.unnecessarySimpa false
set_option linter.unusedSectionVars false
set_option maxRecDepth 10000
open Go.RowKit
end Go.Proofs.Ytengafkfgcdpeaa
end

/- Layer 10: the reference's All; the law AssemblyAll. -/
section
namespace Go.Proofs.Ytengafkfgcdpeaa
set_option linter.unusedVariables false
set_option linter.unusedSimpArgs false
set_option linter.unnecessarySimpa false
set_option linter.unusedSectionVars false
set_option maxRecDepth 10000
open Go.RowKit
set_option maxHeartbeats 4000000 in
theorem below_ok (P : Prog) (hv : validB P = true) : ∀ (m : Nat) (ch : List Int) (i : Nat), m = P.costs.length - i → i ≤ P.costs.length → Asc 0 i ch → Good Try.prog TT false 123 [progV P, ints ch, .int .i64 i] (· = .lst 1 ((visF P ch i).map encS)) := by
  have hfit := fits_of hv
  have hcl := (validB_parts hv).1
  have LP : (P.costs.map encI).length = P.costs.length := List.length_map ..
  intro m
  induction m using Nat.strongRecOn with
  | ind m IH =>
    intro ch i hm hi ha
    have hlen := asc_len ha
    have haN : Asc 0 P.costs.length ch := ha.mono hi
    have hcm := loop_count (P := P) (m := P.costs.length - i) (ch := ch) (i := i)
    have hvis : visF P ch i = here P ch ++ loopF P (P.costs.length - i) ch i := rfl
    have hpow : 2 ^ (P.costs.length - i) ≤ 2 ^ 12 := Nat.pow_le_pow_right (by omega) (by omega)
    have hmm := meets_asc hv haN
    have hh1 : (here P ch).length ≤ 1 := by simp only [here]; split <;> simp
    refine good_of mixed tabOk Try.func123 rfl rfl Try.ntmps123 Try.results123 rfl rfl ?_
    (conv => whnf); (repeat' (first | (refine arith_i ⟨by omega, by omega⟩ ?_; conv => whnf) | (refine arith_u ⟨by omega, by omega⟩ ?_; conv => whnf) | (refine arith_8 ⟨by omega, by omega⟩ ?_; conv => whnf) | (refine need_i (by first | omega | (simp only [List.length_cons, List.length_nil]; omega) | (simp only [List.length_append, List.length_cons, List.length_nil, List.length_map, List.length_replicate, List.length_modify]; omega)) ?_; conv => whnf) | ((with_reducible refine branch_tt ?_); conv => whnf) | ((with_reducible refine branch_ff ?_); conv => whnf) | (with_reducible refine branch_not ?_) | ((refine call_e (rMeets_ok P ch hfit (by omega)) ?_); conv => whnf) | ((with_reducible refine slc_e ?_); conv => whnf) | ((with_reducible refine callS_a ?_); conv => whnf) | ((with_reducible refine bld_a ?_); conv => whnf) | ((with_reducible refine own_e ?_); conv => whnf) | ((with_reducible refine mkmap_b ?_); conv => whnf) | ((with_reducible refine branch_d (fun hq => ?_) (fun hq => ?_)) <;> (try (exfalso; omega)) <;> (conv => whnf)) | ((with_reducible refine branch_e (fun hq => ?_) (fun hq => ?_)) <;> (try (exfalso; omega)) <;> (conv => whnf)) | ((with_reducible refine branch_n (fun hq => ?_) (fun hq => ?_)) <;> (try (exfalso; omega)) <;> (conv => whnf)) | ((with_reducible refine branch_i (fun hq => ?_) (fun hq => ?_)) <;> (try (exfalso; omega)) <;> (conv => whnf))))
    all_goals
      refine loop_i2 (fun (k : Nat) (l : List (List Int)) => i ≤ k ∧ k ≤ P.costs.length ∧ l ++ loopF P (P.costs.length - k) ch k = visF P ch i) (fun k l => mkSt [(1, ints ch), (3, .ptr 3 0), (7, .own 16 22 1 (l.map encS)), (8, .int .i64 k)] [(3, [ints P.costs, rowsV P.rows])] false) (fun k _ => P.costs.length - k) i (here P ch) ⟨Nat.le_refl _, hi, rfl⟩ ?_ ?_
      · rw [hmm] at hq
        first
          | (have hh : here P ch = [ch] := if_pos hq
             rw [hh]
             exact (le_mk (by repeat' (first | exact trivial | rfl | apply And.intro)) (by repeat' (first | exact trivial | rfl | apply And.intro)) rfl))
          | (have hh : here P ch = [] := if_neg (by rw [hq]; decide)
             rw [hh]
             exact Le.trans (le_adopt 7 16 22 1 rfl) (le_mk (by repeat' (first | exact trivial | rfl | apply And.intro)) (by repeat' (first | exact trivial | rfl | apply And.intro)) rfl))
      rintro k l ⟨hik, hkn, hl⟩
      have hll : l.length ≤ 8192 := by
        have := congrArg List.length hl
        rw [hvis] at this
        simp only [List.length_append] at this
        omega
      have LL : (l.map encS).length = l.length := List.length_map ..
      have LH : (ch.map encI).length = ch.length := List.length_map ..
      have hspl := fun h : k < P.costs.length => vis_snoc (P := P) (ch := ch) h
      have hak := fun h : k < P.costs.length => (ha.mono hik).snoc h
      have hvl := fun h : k < P.costs.length => congrArg List.length (hspl h)
      have hlc := loop_count (P := P) (m := P.costs.length - k) (ch := ch) (i := k)
      have hpw : 2 ^ (P.costs.length - k) ≤ 2 ^ 12 := Nat.pow_le_pow_right (by omega) (by omega)
      (conv => whnf); (repeat' (first | (refine arith_i ⟨by omega, by omega⟩ ?_; conv => whnf) | (refine arith_u ⟨by omega, by omega⟩ ?_; conv => whnf) | (refine arith_8 ⟨by omega, by omega⟩ ?_; conv => whnf) | (refine need_i (by first | omega | (simp only [List.length_cons, List.length_nil]; omega) | (simp only [List.length_append, List.length_cons, List.length_nil, List.length_map, List.length_replicate, List.length_modify]; omega)) ?_; conv => whnf) | ((with_reducible refine branch_tt ?_); conv => whnf) | ((with_reducible refine branch_ff ?_); conv => whnf) | (with_reducible refine branch_not ?_) | ((simp only [snocI']); conv => whnf) | (((have hkl : k < P.costs.length := (by omega); have hvl1 := hvl hkl; rw [List.length_append] at hvl1; have LV : ((visF P (ch ++ [(k : Int)]) (k + 1)).map encS).length = (visF P (ch ++ [(k : Int)]) (k + 1)).length := List.length_map ..; refine call_e (IH (P.costs.length - (k + 1)) (by omega) (ch ++ [(k : Int)]) (k + 1) rfl (by omega) (hak hkl)) ?_)); conv => whnf) | ((with_reducible refine slc_e ?_); conv => whnf) | ((with_reducible refine callS_a ?_); conv => whnf) | ((with_reducible refine bld_a ?_); conv => whnf) | ((with_reducible refine own_e ?_); conv => whnf) | ((with_reducible refine mkmap_b ?_); conv => whnf) | ((with_reducible refine branch_d (fun hq => ?_) (fun hq => ?_)) <;> (try (exfalso; omega)) <;> (conv => whnf)) | ((with_reducible refine branch_e (fun hq => ?_) (fun hq => ?_)) <;> (try (exfalso; omega)) <;> (conv => whnf)) | ((with_reducible refine branch_n (fun hq => ?_) (fun hq => ?_)) <;> (try (exfalso; omega)) <;> (conv => whnf)) | ((with_reducible refine branch_i (fun hq => ?_) (fun hq => ?_)) <;> (try (exfalso; omega)) <;> (conv => whnf))))
      all_goals first
        | (have hkl : k < P.costs.length := by omega
           refine ⟨k + 1, l ++ visF P (ch ++ [(k : Int)]) (k + 1), ⟨by omega, by omega, by rw [List.append_assoc, ← hspl hkl]; exact hl⟩, by rw [show (l ++ visF P (ch ++ [(k : Int)]) (k + 1)).map encS = l.map encS ++ (visF P (ch ++ [(k : Int)]) (k + 1)).map encS from List.map_append]; exact (le_mk (by repeat' (first | exact trivial | rfl | apply And.intro)) (by repeat' (first | exact trivial | rfl | apply And.intro)) rfl), by omega⟩)
        | (have hkk : k = P.costs.length := by omega
           rw [hkk, Nat.sub_self, loopF, List.append_nil] at hl
           rw [hl]
           exact ret_ol rfl)
        | trace_state
/-- All, of the reference. -/
theorem rAll_ok (P : Prog) (hP : Fits P) : Good Try.prog TT false 107 [progV P] (· = allV P) := by
  refine good_of mixed tabOk Try.func107 rfl rfl Try.ntmps107 Try.results107 rfl rfl ?_
  (conv => whnf); (repeat' (first | (refine arith_i ⟨by omega, by omega⟩ ?_; conv => whnf) | (refine arith_u ⟨by omega, by omega⟩ ?_; conv => whnf) | (refine arith_8 ⟨by omega, by omega⟩ ?_; conv => whnf) | (refine need_i (by first | omega | (simp only [List.length_cons, List.length_nil]; omega) | (simp only [List.length_append, List.length_cons, List.length_nil, List.length_map, List.length_replicate, List.length_modify]; omega)) ?_; conv => whnf) | ((with_reducible refine branch_tt ?_); conv => whnf) | ((with_reducible refine branch_ff ?_); conv => whnf) | (with_reducible refine branch_not ?_) | ((refine call_e (rValid_ok P hP) ?_); conv => whnf) | (((have hv : validB P = true := hq; refine call_w (args' := [progV P, ints [], .int .i64 0]) ⟨.inl (.inl rfl), .inl (.inr ⟨rfl, 1, rfl⟩), .inl (.inl rfl), trivial⟩ (below_ok P hv (P.costs.length - 0) [] 0 rfl (Nat.zero_le _) ⟨List.Pairwise.nil, by simp⟩) fun r hr => ?_; subst hr)); conv => whnf) | ((with_reducible refine slc_e ?_); conv => whnf) | ((with_reducible refine callS_a ?_); conv => whnf) | ((with_reducible refine bld_a ?_); conv => whnf) | ((with_reducible refine own_e ?_); conv => whnf) | ((with_reducible refine mkmap_b ?_); conv => whnf) | ((with_reducible refine branch_d (fun hq => ?_) (fun hq => ?_)) <;> (try (exfalso; omega)) <;> (conv => whnf)) | ((with_reducible refine branch_e (fun hq => ?_) (fun hq => ?_)) <;> (try (exfalso; omega)) <;> (conv => whnf)) | ((with_reducible refine branch_n (fun hq => ?_) (fun hq => ?_)) <;> (try (exfalso; omega)) <;> (conv => whnf)) | ((with_reducible refine branch_i (fun hq => ?_) (fun hq => ?_)) <;> (try (exfalso; omega)) <;> (conv => whnf))))
  · exact ret_t (rs := [.lst 1 ((allF P).map encS), .int .i64 0]) ⟨(rc_p rfl).g, (rc_p rfl).g, trivial⟩ (by rw [allV, if_pos hq])
  · exact ret_t (rs := [.lst 1 [], .int .i64 1]) ⟨.inl rc_n, (rc_p rfl).g, trivial⟩ (by rw [allV, if_neg (by simp [hq])])
end Go.Proofs.Ytengafkfgcdpeaa
end

/- Layer 10: the laws AssemblyRepeats and AssemblyFull. -/
section
namespace Go.Proofs.Ytengafkfgcdpeaa
set_option linter.unusedVariables false
set_option linter.unusedSimpArgs false
set_option linter.unnecessarySimpa false
set_option linter.unusedSectionVars false
set_option maxRecDepth 10000
open Go.RowKit
/-! Full -/
end Go.Proofs.Ytengafkfgcdpeaa
end

/- Layer 10: the law AssemblyLeast. -/
section
namespace Go.Proofs.Ytengafkfgcdpeaa
set_option linter.unusedVariables false
set_option linter.unusedSimpArgs false
set_option linter.unnecessarySimpa false
set_option linter.unusedSectionVars false
set_option maxRecDepth 10000
open Go.RowKit
/-- No choice that meets the program is better. -/
theorem least_ok {P : Prog} (hv : validB P = true) {c : List Int} (hc : Asc 0 P.costs.length c) (hm : meetsB P c = true) : (bestF P).1 = true ∧ (bestF P).2.1 ≤ costF P c ∧ ((bestF P).2.1 = costF P c → befB c (bestF P).2.2 = false) := by
  have hb := best_is P
  have hin : c ∈ allF P := all_mem.2 ⟨hc, by rw [← meets_asc hv hc]; exact hm⟩
  have hcost := (all_meets hv hin).2.1
  have h1 : (bestF P).1 = true := by
    cases h : (bestF P).1 with
    | true => rfl
    | false => rw [(hb.none h).1] at hin; simp at hin
  refine ⟨h1, by rw [hcost]; exact hb.least h1 c hin, fun he => ?_⟩
  obtain ⟨l1, l2, h2, h3⟩ := hb.first h1
  rw [h2] at hin
  have hs := all_sorted (P := P)
  rw [h2] at hs
  rcases List.mem_append.1 hin with h | h
  · have := h3 c h; omega
  · rcases List.mem_cons.1 h with rfl | h
    · cases hh : befB (bestF P).2.2 (bestF P).2.2 with
      | false => rfl
      | true => have := bef_asymm hh; rw [hh] at this; cases this
    · exact bef_asymm ((List.pairwise_cons.1 (List.pairwise_append.1 hs).2.1).1 c h)
theorem best_meets {P : Prog} (hv : validB P = true) (h : (bestF P).1 = true) : meetsB P (bestF P).2.2 = true ∧ costF P (bestF P).2.2 = (bestF P).2.1 ∧ Asc 0 P.costs.length (bestF P).2.2 := by
  have hb := best_is P
  have h1 := hb.mem h
  have h2 := all_meets hv h1.1
  exact ⟨h2.1, by rw [h2.2.1, h1.2], h2.2.2⟩
theorem best_len {P : Prog} (hv : validB P = true) : (bestF P).2.2.length ≤ 12 := by
  cases h : (bestF P).1 with
  | true => have := asc_len (best_meets hv h).2.2; have := (validB_parts hv).1; omega
  | false => rw [((best_is P).none h).2]; simp
end Go.Proofs.Ytengafkfgcdpeaa
end

/- Layer 9: the bound is sound; the law OptimalityBoundSound. -/
section
namespace Go.Proofs.Ytengafkfgcdpeaa
set_option linter.unusedVariables false
set_option linter.unusedSimpArgs false
set_option linter.unnecessarySimpa false
set_option linter.unusedSectionVars false
set_option maxRecDepth 10000
open Go.RowKit

theorem ceil_le {a b c : Int} (hb : 1 ≤ b) (h : a ≤ b * c) : ceilF a b ≤ c := by
  unfold ceilF
  have e := Int.mul_tdiv_add_tmod a b
  split
  · next hp =>
    rcases Int.lt_or_le (a.tdiv b) c with h1 | h1
    · omega
    · have := Int.mul_le_mul_of_nonneg_left h1 (show (0 : Int) ≤ b by omega)
      omega
  · next hp =>
    rcases Int.lt_or_le c (a.tdiv b) with h1 | h1
    · exfalso
      have h2 := Int.mul_le_mul_of_nonneg_left (show c + 1 ≤ a.tdiv b by omega) (show (0 : Int) ≤ b by omega)
      have h3 : b * (c + 1) = b * c + b := by rw [Int.mul_add, Int.mul_one]
      have h4 : -b < a.tmod b := by
        have := Int.neg_emod_two b
        have h5 := Int.lt_tmod_of_pos a (show 0 < b by omega)
        exact h5
      omega
    · exact h1
theorem contr_sum {P : Prog} {st : List Int} {n : Nd} {b : Nat} (hc : Compl st b) (ht : AllTo triB st st.length) : ∀ k, k ≤ st.length → sumN (fun i => contr (nth st i) (nodeV P n i)) k ≤ n.den * bitSum P.costs b k - n.num * bitSum (rowOf P n).coefs b k
  | 0, _ => by simp [sumN, bitSum]
  | k + 1, hk => by
    have ih := contr_sum (P := P) (n := n) hc ht k (by omega)
    have hck := hc k (by omega)
    have htk := triB_iff.1 (ht k (by omega))
    simp only [sumN, bitSum, Int.mul_add]
    have hv : nodeV P n k = n.den * nth P.costs k - n.num * nth (rowOf P n).coefs k := rfl
    have key : contr (nth st k) (nodeV P n k) ≤ n.den * (if b.testBit k = true then nth P.costs k else 0) - n.num * (if b.testBit k = true then nth (rowOf P n).coefs k else 0) := by
      unfold contr
      by_cases h1 : nth st k = 1
      · rw [if_pos h1, if_pos (hck.1 h1), if_pos (hck.1 h1)]; omega
      · by_cases h2 : nth st k = -1
        · rw [if_neg h1, if_pos h2]
          by_cases hb : b.testBit k = true
          · rw [if_pos hb, if_pos hb]; omega
          · rw [if_neg hb, if_neg hb]; simp only [Int.mul_zero]; omega
        · have h0 : nth st k = 0 := by omega
          have hb := hck.2 h0
          rw [if_neg h1, if_neg h2, if_neg (by simp [hb]), if_neg (by simp [hb])]
          simp
    omega
theorem bitSum_zero {b n : Nat} : ∀ k, bitSum (List.replicate n 0) b k = 0
  | 0 => rfl
  | k + 1 => by
    have : nth (List.replicate n (0 : Int)) k = 0 := by
      simp only [nth, List.getD_eq_getElem?_getD, List.getElem?_replicate]
      split <;> rfl
    rw [bitSum, bitSum_zero k, this]; simp
/-- Every completion that meets the program costs at least the bound. -/
theorem bound_sound {P : Prog} {st : List Int} {n : Nd} {b : Nat} (hv : validB P = true) (hb : bndB P.rows.length n = true) (hl : st.length = P.costs.length) (ht : AllTo triB st st.length) (hc : Compl st b) (hm : meetsB P (subTo b P.costs.length) = true) : boundF P st n ≤ costF P (subTo b P.costs.length) := by
  have hcost : costF P (subTo b P.costs.length) = bitSum P.costs b P.costs.length := by
    have : costOk P (subTo b P.costs.length) = true := by simp [costOk, hv, sub_choice]
    rw [costF, if_pos this, sumOf_sub]
  obtain ⟨hn, hd⟩ := node_in hb
  rw [hcost, boundF]
  refine ceil_le hd.1 ?_
  have h1 := contr_sum (P := P) (n := n) hc ht st.length (Nat.le_refl _)
  rw [hl] at h1
  unfold totF
  have h2 : startF P n ≤ n.num * bitSum (rowOf P n).coefs b P.costs.length := by
    unfold startF
    by_cases hr : n.row < 0
    · have e : rowOf P n = ⟨List.replicate P.costs.length 0, 0, 0⟩ := by rw [rowOf, if_pos hr]
      rw [e]
      simp only [bitSum_zero]
      split <;> omega
    · have hrow : n.row.toNat < P.rows.length := by
        rw [bnd_row] at hb
        simp [rowOk9] at hb
        omega
      have hmem : rowOf P n ∈ P.rows := by rw [rowOf, if_neg hr]; exact rowAt_mem hrow
      have hmeet : meetB (subTo b P.costs.length) (rowOf P n) = true := by
        simp only [meetsB, Bool.and_eq_true] at hm
        exact List.all_eq_true.1 hm.2 _ hmem
      simp only [meetB, Bool.and_eq_true, decide_eq_true_eq, sumOf_sub] at hmeet
      split
      · next hneg =>
        have := Int.mul_le_mul_of_nonneg_left hmeet.2 (show 0 ≤ -n.num by omega)
        rw [Int.neg_mul, Int.neg_mul] at this
        omega
      · next hneg => exact Int.mul_le_mul_of_nonneg_left hmeet.1 (by omega)
  omega
theorem tri_all {st : List Int} {c : Nat} (h : stOB st c = true) : AllTo triB st st.length := by
  simp only [stOB, Bool.and_eq_true] at h
  exact AllTo.of_all (p := triB) h.2
end Go.Proofs.Ytengafkfgcdpeaa
end

/- Layer 9: the generator Tree. -/
section
namespace Go.Proofs.Ytengafkfgcdpeaa
set_option linter.unusedVariables false
set_option linter.unusedSimpArgs false
set_option linter.unnecessarySimpa false
set_option linter.unusedSectionVars false
set_option maxRecDepth 10000
open Go.RowKit

/-- How many options are undecided. -/
def und : List Int → Nat
  | [] => 0
  | x :: l => (if x = -1 then 1 else 0) + und l
theorem und_set {x : Int} (hx : x ≠ -1) : ∀ {s : List Int} {v : Nat}, s[v]? = some (-1) → und (s.set v x) + 1 = und s
  | [], v, h => by simp at h
  | y :: s, 0, h => by
    simp at h
    subst h
    simp [und, hx]; omega
  | y :: s, v + 1, h => by
    have := und_set hx (s := s) (v := v) (by simpa using h)
    simp only [List.set_cons_succ, und]
    omega
def wt (s : List Int) : Nat := 2 ^ (und s + 1) - 1
def wsum : List (List Int) → Nat
  | [] => 0
  | s :: l => wt s + wsum l
theorem wsum_append (a b : List (List Int)) : wsum (a ++ b) = wsum a + wsum b := by
  induction a with
  | nil => simp [wsum]
  | cons x a ih => simp only [List.cons_append, wsum, ih]; omega
theorem wt_pos (s : List Int) : 1 ≤ wt s := by
  have := Nat.one_le_two_pow (n := und s)
  unfold wt
  rw [Nat.pow_succ]
  omega
theorem len_wsum (l : List (List Int)) : l.length ≤ wsum l := by
  induction l with
  | nil => simp [wsum]
  | cons s l ih => have := wt_pos s; simp only [List.length_cons, wsum]; omega
theorem wt_set {s : List Int} {v : Nat} {x : Int} (hx : x ≠ -1) (h : s[v]? = some (-1)) : 2 * wt (s.set v x) + 1 = wt s := by
  have h1 := und_set hx h
  have h2 := Nat.one_le_two_pow (n := und (s.set v x))
  unfold wt
  rw [← h1, Nat.pow_succ, Nat.pow_succ]
  omega
/-- How many nodes are branches. -/
def brs : List Nd → Nat
  | [] => 0
  | n :: l => (if n.kind = 1 then 1 else 0) + brs l
theorem brs_snoc (l : List Nd) (n : Nd) : brs (l ++ [n]) = brs l + if n.kind = 1 then 1 else 0 := by
  induction l with
  | nil => simp [brs]
  | cons x l ih => simp only [List.cons_append, brs, ih]; omega
/-- A node of a tree as the tape makes it; z: where its children lie, if it is a branch. -/
def TNode (P : Prog) (full : Bool) (S : List (List Int)) (z j : Nat) (n : Nd) (s : List Int) : Prop :=
  (n.kind = 1 ∧ n.zero = z ∧ n.one = z + 1 ∧ j < z ∧ 0 ≤ n.var ∧ n.var < P.costs.length ∧ nth s n.var.toNat = -1 ∧ S[z]? = some (s.set n.var.toNat 0) ∧ S[z + 1]? = some (s.set n.var.toNat 1)) ∨
  (full = true ∧ 0 ≤ deadF P s ∧ n = ⟨2, 0, 0, 0, deadF P s, 0, 0⟩) ∨ (full = true ∧ deadF P s < 0 ∧ (∀ x ∈ s, x ≠ -1) ∧ n = ⟨3, 0, 0, 0, -1, 0, 1⟩) ∨ (full = false ∧ LeafG P s n)
structure TreeInv (P : Prog) (full : Bool) (i : Nat) (S : List (List Int)) (l : List Nd) : Prop where
  li : l.length = i
  iS : i ≤ S.length
  Sl : S.length = 1 + 2 * brs l
  root : S[0]? = some (List.replicate P.costs.length (-1))
  tri : ∀ s ∈ S, stOB s P.costs.length = true
  node : ∀ (j : Nat) n s, l[j]? = some n → S[j]? = some s → TNode P full S (1 + 2 * brs (l.take j)) j n s
  size : i + wsum (S.drop i) ≤ 2 ^ (P.costs.length + 1) - 1
  pre : ∀ j, j < i → j < 1 + 2 * brs (l.take j)
section
variable {P : Prog} {full : Bool} {i : Nat} {S : List (List Int)} {l : List Nd} {s : List Int} {n : Nd}
theorem TreeInv.leaf (h : TreeInv P full i S l) (hs : S[i]? = some s) (hk : n.kind ≠ 1) (hn : (full = true ∧ 0 ≤ deadF P s ∧ n = ⟨2, 0, 0, 0, deadF P s, 0, 0⟩) ∨ (full = true ∧ deadF P s < 0 ∧ (∀ x ∈ s, x ≠ -1) ∧ n = ⟨3, 0, 0, 0, -1, 0, 1⟩) ∨ (full = false ∧ LeafG P s n)) :
    TreeInv P full (i + 1) S (l ++ [n]) ∧ wsum (S.drop (i + 1)) < wsum (S.drop i) := by
  have hlt := (List.getElem?_eq_some_iff.1 hs).1
  have hw : wsum (S.drop i) = wt s + wsum (S.drop (i + 1)) := by rw [drop_at hs, wsum]
  have hp := wt_pos s
  have hli := h.li
  refine ⟨⟨by simp [hli], hlt, by rw [brs_snoc, if_neg hk]; exact h.Sl, h.root, h.tri, fun j n' s' h1 h2 => ?_, by have := h.size; omega, fun j hj => by
      rcases Nat.lt_or_ge j i with hji | hji
      · rw [List.take_append_of_le_length (by omega)]; exact h.pre j hji
      · rw [List.take_append_of_le_length (by omega), List.take_of_length_le (by omega)]; have := h.Sl; omega⟩, by omega⟩
  rcases Nat.lt_or_ge j i with hj | hj
  · rw [List.getElem?_append_left (by omega)] at h1
    rw [List.take_append_of_le_length (by omega)]
    exact h.node j n' s' h1 h2
  · have hjl : j < (l ++ [n]).length := (List.getElem?_eq_some_iff.1 h1).1
    obtain rfl : j = i := by simp at hjl; omega
    have e : n' = n := by
      rw [List.getElem?_append_right (by omega), hli, Nat.sub_self] at h1
      simpa using h1.symm
    rw [hs] at h2
    injection h2 with h2
    subst h2
    subst e
    exact .inr hn
theorem TreeInv.branch (h : TreeInv P full i S l) (hs : S[i]? = some s) {v : Nat} (hv : s[v]? = some (-1)) : TreeInv P full (i + 1) (S ++ [s.set v 0, s.set v 1]) (l ++ [⟨1, v, S.length, S.length + 1, 0, 0, 0⟩]) ∧ wsum ((S ++ [s.set v 0, s.set v 1]).drop (i + 1)) < wsum (S.drop i) := by
  have hlt := (List.getElem?_eq_some_iff.1 hs).1
  have hvl := (List.getElem?_eq_some_iff.1 hv).1
  have hw : wsum (S.drop i) = wt s + wsum (S.drop (i + 1)) := by rw [drop_at hs, wsum]
  have hsO := h.tri s (List.mem_of_getElem? hs)
  have hsl := st_len hsO
  have h0 := wt_set (x := 0) (by omega) hv
  have h1 := wt_set (x := 1) (by omega) hv
  have hd : (S ++ [s.set v 0, s.set v 1]).drop (i + 1) = S.drop (i + 1) ++ [s.set v 0, s.set v 1] := by
    rw [List.drop_append_of_le_length (by omega)]
  have hws : wsum ((S ++ [s.set v 0, s.set v 1]).drop (i + 1)) + 1 = wsum (S.drop i) := by
    rw [hd, wsum_append, hw]
    simp only [wsum]
    omega
  have hli := h.li
  have hSl := h.Sl
  refine ⟨⟨by simp [hli], by simp; omega, by rw [brs_snoc, if_pos rfl]; simp; omega, ?_, fun x hx => ?_, fun j n' s' g1 g2 => ?_, by have := h.size; omega, fun j hj => by
      rcases Nat.lt_or_ge j i with hji | hji
      · rw [List.take_append_of_le_length (by omega)]; exact h.pre j hji
      · rw [List.take_append_of_le_length (by omega), List.take_of_length_le (by omega)]; have := h.Sl; omega⟩, by omega⟩
  · rw [List.getElem?_append_left (by omega)]; exact h.root
  · rcases List.mem_append.1 hx with hx | hx
    · exact h.tri x hx
    · simp at hx
      rcases hx with rfl | rfl
      · exact stO_set hsO (by omega)
      · exact stO_set hsO (by omega)
  · rcases Nat.lt_or_ge j i with hj | hj
    · rw [List.getElem?_append_left (by omega)] at g1
      rw [List.getElem?_append_left (by omega)] at g2
      rw [List.take_append_of_le_length (by omega)]
      rcases h.node j n' s' g1 g2 with ⟨a1, a2, a3, a4, a5, a6, a7, a8, a9⟩ | a
      · refine .inl ⟨a1, a2, a3, a4, a5, a6, a7, ?_, ?_⟩
        · rw [List.getElem?_append_left (List.getElem?_eq_some_iff.1 a8).1]; exact a8
        · rw [List.getElem?_append_left (List.getElem?_eq_some_iff.1 a9).1]; exact a9
      · exact .inr a
    · have hjl := (List.getElem?_eq_some_iff.1 g1).1
      obtain rfl : j = i := by simp at hjl; omega
      have e : n' = ⟨1, v, S.length, S.length + 1, 0, 0, 0⟩ := by
        rw [List.getElem?_append_right (by omega), hli, Nat.sub_self] at g1
        simpa using g1.symm
      rw [List.getElem?_append_left (by omega), hs] at g2
      injection g2 with g2
      subst g2
      subst e
      have et : (l ++ [(⟨1, v, S.length, S.length + 1, 0, 0, 0⟩ : Nd)]).take j = l := by
        rw [List.take_append_of_le_length (by omega), List.take_of_length_le (by omega)]
      rw [et, ← hSl]
      refine .inl ⟨rfl, rfl, rfl, hlt, by show (0 : Int) ≤ v; omega, by show (v : Int) < _; omega, ?_, ?_, ?_⟩
      · show nth s (v : Int).toNat = -1
        rw [Int.toNat_natCast, nth_eq hv]
      · show (S ++ [s.set v 0, s.set v 1])[S.length]? = some (s.set (v : Int).toNat 0)
        rw [List.getElem?_append_right (by omega), Nat.sub_self, Int.toNat_natCast]; rfl
      · show (S ++ [s.set v 0, s.set v 1])[S.length + 1]? = some (s.set (v : Int).toNat 1)
        rw [List.getElem?_append_right (by omega), show S.length + 1 - S.length = 1 by omega, Int.toNat_natCast]; rfl
theorem TreeInv.small (h : TreeInv P full i S l) (hc : P.costs.length ≤ 18) : S.length ≤ 524287 := by
  have h1 := h.size
  have h2 := len_wsum (S.drop i)
  have h3 := h.iS
  have h4 : 2 ^ (P.costs.length + 1) ≤ 2 ^ 19 := Nat.pow_le_pow_right (by omega) (by omega)
  rw [List.length_drop] at h2
  omega
end
end Go.Proofs.Ytengafkfgcdpeaa
end

/- Layer 9: each choice completes exactly one leaf. -/
section
namespace Go.Proofs.Ytengafkfgcdpeaa
set_option linter.unusedVariables false
set_option linter.unusedSimpArgs false
set_option linter.unnecessarySimpa false
set_option linter.unusedSectionVars false
set_option maxRecDepth 10000
open Go.RowKit

theorem sumN_upd (f : Nat → Int) (k : Nat) (x : Int) : ∀ n, sumN (fun j => if j = k then x else f j) n = sumN f n + if k < n then x - f k else 0
  | 0 => by simp [sumN]
  | n + 1 => by
    simp only [sumN, sumN_upd f k x n]
    by_cases h : k < n
    · have h1 : ¬ n = k := by omega
      have h2 : k < n + 1 := by omega
      simp only [h, h1, h2, if_true, if_false]; omega
    · by_cases h' : n = k
      · subst h'; simp; omega
      · have h2 : ¬ k < n + 1 := by omega
        simp only [h, h', h2, if_false]; omega
/-- Whether the choice of the bits t completes a state: 1 or 0. -/
def com (c t : Nat) (s : List Int) : Int := if completeB s (subTo t c) = true then 1 else 0
theorem com_compl {c t : Nat} {s : List Int} (h : s.length = c) : (completeB s (subTo t c) = true) ↔ Compl s t := by subst h; exact com_sub
theorem compl_set {t v : Nat} {s : List Int} {x : Int} (hv : v < s.length) (hs : nth s v = -1) : Compl (s.set v x) t ↔ Compl s t ∧ (x = 1 → t.testBit v = true) ∧ (x = 0 → t.testBit v = false) := by
  constructor
  · intro h
    refine ⟨fun i hi => ?_, fun hx => ?_, fun hx => ?_⟩
    · have := h i (by simpa using hi)
      rw [nth_set] at this
      by_cases e : i = v
      · subst e; rw [hs]; exact ⟨fun h => by omega, fun h => by omega⟩
      · rw [if_neg (fun h => e h.1)] at this; exact this
    · have := (h v (by simpa using hv)).1
      rw [nth_set, if_pos ⟨rfl, hv⟩] at this
      exact this hx
    · have := (h v (by simpa using hv)).2
      rw [nth_set, if_pos ⟨rfl, hv⟩] at this
      exact this hx
  · rintro ⟨h, h1, h0⟩ i hi
    rw [nth_set]
    by_cases e : i = v ∧ v < s.length
    · rw [if_pos e, e.1]; exact ⟨h1, h0⟩
    · rw [if_neg e]; exact h i (by simpa using hi)
theorem com_split {c t v : Nat} {s : List Int} (hl : s.length = c) (hv : v < c) (hs : nth s v = -1) : com c t (s.set v 0) + com c t (s.set v 1) = com c t s := by
  have e0 := (com_compl (t := t) (show (s.set v 0).length = c by simpa using hl)).trans (compl_set (by omega) hs)
  have e1 := (com_compl (t := t) (show (s.set v 1).length = c by simpa using hl)).trans (compl_set (by omega) hs)
  have e := com_compl (t := t) hl
  unfold com
  by_cases hc : Compl s t
  · rw [if_pos (e.2 hc)]
    cases hb : t.testBit v with
    | true => rw [if_neg (fun h => by have := ((e0.1 h).2.2 rfl); rw [hb] at this; cases this), if_pos (e1.2 ⟨hc, fun _ => hb, fun h => by omega⟩)]; rfl
    | false => rw [if_pos (e0.2 ⟨hc, fun h => by omega, fun _ => hb⟩), if_neg (fun h => by have := ((e1.1 h).2.1 rfl); rw [hb] at this; cases this)]; rfl
  · rw [if_neg (fun h => hc (e.1 h)), if_neg (fun h => hc (e0.1 h).1), if_neg (fun h => hc (e1.1 h).1)]; rfl
def leafC (c t : Nat) (nodes : List Nd) (out : List (List Int)) (j : Nat) : Int := if (nodes.getD j nd0).kind ≠ 1 then com c t (out.getD j []) else 0
def pendC (c t : Nat) (nodes : List Nd) (out : List (List Int)) (kn : List Bool) (i j : Nat) : Int := if j < i then leafC c t nodes out j else if kn.getD j false = true then com c t (out.getD j []) else 0
theorem getD_set_self {α : Type} {xs : List α} {k : Nat} {x d : α} (h : k < xs.length) : (xs.set k x).getD k d = x := by rw [List.getD_eq_getElem?_getD, List.getElem?_set_self h]; rfl
theorem getD_set_ne' {α : Type} {xs : List α} {k j : Nat} {x d : α} (h : k ≠ j) : (xs.set k x).getD j d = xs.getD j d := by rw [List.getD_eq_getElem?_getD, List.getElem?_set_ne h, ← List.getD_eq_getElem?_getD]
theorem goS_count {c rows t : Nat} {nodes : List Nd} {o : List (List Int)} : ∀ (m i : Nat) (out : List (List Int)) (kn : List Bool), m = nodes.length - i → i ≤ nodes.length → out.length = nodes.length → kn.length = nodes.length → (∀ (j : Nat) s, kn[j]? = some true → out[j]? = some s → stOB s c = true) → sumN (pendC c t nodes out kn i) nodes.length = 1 →
    goS c rows nodes.length i out kn (nodes.drop i) = some o → sumN (leafC c t nodes o) nodes.length = 1 := by
  intro m
  induction m with
  | zero =>
    intro i out kn hm hi ho hk hst hsum hgo
    rw [drop_end (by omega)] at hgo
    simp only [goS, Option.some.injEq] at hgo
    subst hgo
    rw [← hsum]
    exact sumN_congr fun j hj => by rw [pendC, if_pos (by omega)]
  | succ m ih =>
    intro i out kn hm hi ho hk hst hsum hgo
    have hlt : i < nodes.length := by omega
    obtain ⟨y, hy⟩ : ∃ y, nodes[i]? = some y := ⟨_, List.getElem?_eq_getElem hlt⟩
    obtain ⟨b, hb⟩ : ∃ b, kn[i]? = some b := ⟨_, List.getElem?_eq_getElem (by omega)⟩
    rw [drop_at hy] at hgo
    cases b with
    | false => rw [go_none (step_un hb)] at hgo; cases hgo
    | true =>
      have hkn : kn.getD i false = true := getD_some hb
      have hyd : nodes.getD i nd0 = y := getD_some hy
      by_cases hkind : y.kind = 1
      · have e := step_br (c := c) (rows := rows) (N := nodes.length) hb hkind (out := out)
        by_cases hbr : brC c nodes.length i y out kn
        · rw [if_pos hbr] at e
          rw [go_some e] at hgo
          obtain ⟨b1, b2, b3, b4, b5, b6, b7, b8, b9, b10⟩ := hbr
          obtain ⟨st, hs⟩ : ∃ st, out[i]? = some st := ⟨_, List.getElem?_eq_getElem (by omega)⟩
          have ht := hst i st hb hs
          have hsl := st_len ht
          rw [getD_some hs] at hgo b10
          refine ih (i + 1) _ _ (by omega) (by omega) (by simp; exact ho) (by simp; exact hk) (known_tri (N := nodes.length) (by simp; exact ho) (by simp; exact hk) (by omega) (stO_set ht (by omega)) (known_tri ho hk (by omega) (stO_set ht (by omega)) hst)) ?_ hgo
          have hcs := com_split (t := t) hsl (show y.var.toNat < c by omega) b10
          have key : sumN (pendC c t nodes ((out.set y.zero.toNat (st.set y.var.toNat 0)).set y.one.toNat (st.set y.var.toNat 1)) ((kn.set y.zero.toNat true).set y.one.toNat true) (i + 1)) nodes.length
              = sumN (fun j => if j = y.one.toNat then com c t (st.set y.var.toNat 1) else (fun j => if j = y.zero.toNat then com c t (st.set y.var.toNat 0) else (fun j => if j = i then 0 else pendC c t nodes out kn i j) j) j) nodes.length := sumN_congr fun j hj => by
            by_cases e1 : j = y.one.toNat
            · subst e1
              rw [if_pos rfl, pendC, if_neg (by omega), getD_set_self (by simp; omega), if_pos rfl, getD_set_self (by simp; omega)]
            · rw [if_neg e1]
              by_cases e2 : j = y.zero.toNat
              · subst e2
                simp only [if_true]
                have q1 : ((kn.set y.zero.toNat true).set y.one.toNat true).getD y.zero.toNat false = true := by rw [getD_set_ne' (by omega), getD_set_self (by omega)]
                have q2 : ((out.set y.zero.toNat (st.set y.var.toNat 0)).set y.one.toNat (st.set y.var.toNat 1)).getD y.zero.toNat [] = st.set y.var.toNat 0 := by rw [getD_set_ne' (by omega), getD_set_self (by omega)]
                rw [pendC, if_neg (by omega), q1, if_pos rfl, q2]
              · simp only [if_neg e2]
                have eo : ((out.set y.zero.toNat (st.set y.var.toNat 0)).set y.one.toNat (st.set y.var.toNat 1)).getD j [] = out.getD j [] := by rw [getD_set_ne' (by omega), getD_set_ne' (by omega)]
                have ek : ((kn.set y.zero.toNat true).set y.one.toNat true).getD j false = kn.getD j false := by rw [getD_set_ne' (by omega), getD_set_ne' (by omega)]
                by_cases e3 : j = i
                · subst e3
                  rw [if_pos rfl, pendC, if_pos (by omega), leafC, hyd, if_neg (by simp [hkind])]
                · rw [if_neg e3]
                  unfold pendC leafC
                  rw [eo, ek]
                  by_cases e4 : j < i
                  · rw [if_pos e4, if_pos (by omega)]
                  · rw [if_neg e4, if_neg (by omega)]
          rw [key, sumN_upd, sumN_upd, sumN_upd, hsum]
          have q5 : y.zero.toNat < nodes.length := by omega
          have q6 : y.one.toNat < nodes.length := by omega
          have p1 : pendC c t nodes out kn i i = com c t st := by rw [pendC, if_neg (by omega), if_pos hkn, getD_some hs]
          have p2 : pendC c t nodes out kn i y.zero.toNat = 0 := by rw [pendC, if_neg (by omega), if_neg (by rw [b8]; decide)]
          have p3 : pendC c t nodes out kn i y.one.toNat = 0 := by rw [pendC, if_neg (by omega), if_neg (by rw [b9]; decide)]
          simp only [hlt, q5, q6, if_true, if_neg (show ¬ y.zero.toNat = i by omega), if_neg (show ¬ y.one.toNat = i by omega), if_neg (show ¬ y.one.toNat = y.zero.toNat by omega), p1, p2, p3]
          omega
        · rw [if_neg hbr] at e
          rw [go_none e] at hgo
          cases hgo
      · have e := step_leaf (c := c) (rows := rows) (N := nodes.length) hb hkind (out := out)
        by_cases hl : (infB rows y || bndB rows y) = true
        · rw [if_pos hl] at e
          rw [go_some e] at hgo
          refine ih (i + 1) _ _ (by omega) (by omega) ho hk hst ?_ hgo
          rw [← hsum]
          refine sumN_congr fun j hj => ?_
          unfold pendC
          by_cases e3 : j = i
          · subst e3
            rw [if_pos (by omega), if_neg (by omega), if_pos hkn, leafC, hyd, if_pos hkind]
          · by_cases e4 : j < i
            · rw [if_pos (by omega), if_pos e4]
            · rw [if_neg (by omega), if_neg e4]
        · rw [if_neg hl] at e
          rw [go_none e] at hgo
          cases hgo
theorem sumN_zero' {f : Nat → Int} : ∀ {n : Nat}, (∀ k, k < n → f k = 0) → sumN f n = 0
  | 0, _ => rfl
  | n + 1, h => by rw [sumN, sumN_zero' fun k hk => h k (by omega), h n (by omega)]; rfl
theorem states_count {P : Prog} {nodes : List Nd} {o : List (List Int)} {e : Int} (h : statesF P nodes = (some o, e)) (t : Nat) : sumN (leafC P.costs.length t nodes o) nodes.length = 1 := by
  have hg := states_good h
  unfold statesF at h
  rw [if_neg (by rw [hg.2.1]; decide), if_neg (by omega), if_neg (by omega)] at h
  split at h
  · cases h
  · next o' ho =>
    simp only [Prod.mk.injEq, Option.some.injEq] at h
    obtain ⟨rfl, rfl⟩ := h
    have h0 := hg.2.2.1
    refine goS_count (rows := P.rows.length) (nodes.length - 0) 0 ((List.replicate nodes.length []).set 0 (List.replicate P.costs.length (-1))) ((List.replicate nodes.length false).set 0 true) rfl (Nat.zero_le _) (by simp) (by simp) ?_ ?_ (by simpa using ho)
    · refine known_tri (N := nodes.length) (by simp) (by simp) (by omega) ?_ (fun j s hj => ?_)
      · simp [stOB, tri9]
      · rw [List.getElem?_replicate] at hj
        split at hj <;> simp at hj
    · have hcom : com P.costs.length t (List.replicate P.costs.length (-1)) = 1 := by
        rw [com, if_pos]
        rw [com_compl (by simp)]
        intro i hi
        have : nth (List.replicate P.costs.length (-1)) i = -1 := by
          rw [List.length_replicate] at hi
          simp [nth, List.getD_eq_getElem?_getD, hi]
        rw [this]
        exact ⟨fun h => by omega, fun h => by omega⟩
      have key : sumN (pendC P.costs.length t nodes ((List.replicate nodes.length []).set 0 (List.replicate P.costs.length (-1))) ((List.replicate nodes.length false).set 0 true) 0) nodes.length = sumN (fun j => if j = 0 then 1 else (fun _ => (0 : Int)) j) nodes.length := sumN_congr fun j hj => by
        unfold pendC
        rw [if_neg (by omega)]
        by_cases e : j = 0
        · subst e
          rw [getD_set_self (by simpa using h0), if_pos rfl, getD_set_self (by simpa using h0), if_pos rfl, hcom]
        · rw [getD_set_ne' (by omega), if_neg e, if_neg]
          simp [List.getD_eq_getElem?_getD, List.getElem?_replicate, hj]
      rw [key, sumN_upd, sumN_zero' (fun _ _ => rfl), if_pos h0]
      rfl
end Go.Proofs.Ytengafkfgcdpeaa
end

/- Layer 9: the law OptimalityDivides. -/
section
namespace Go.Proofs.Ytengafkfgcdpeaa
set_option linter.unusedVariables false
set_option linter.unusedSimpArgs false
set_option linter.unnecessarySimpa false
set_option linter.unusedSectionVars false
set_option maxRecDepth 10000
open Go.RowKit

end Go.Proofs.Ytengafkfgcdpeaa
end

/- From a contract of the interpreter to a law's call: slices of structs whose fields are numbers. -/
section
namespace Go.Proofs.Ytengafkfgcdpeaa
set_option linter.unusedVariables false
set_option linter.unusedSimpArgs false
open Go.RowKit Go.ChangeShapes Go.WideShapes Go.Deep

section
variable {H : Type} {enc : TypeId × Value → H} {P : Program} {w : World} {base : Nat} {spare : Nat → Bool} {held : Bool}
end
end Go.Proofs.Ytengafkfgcdpeaa
end

/- Layer 9: what is proved is sound; the law OptimalitySound. -/
section
namespace Go.Proofs.Ytengafkfgcdpeaa
set_option linter.unusedVariables false
set_option linter.unusedSimpArgs false
set_option linter.unnecessarySimpa false
set_option linter.unusedSectionVars false
set_option maxRecDepth 10000
open Go.RowKit

theorem blocked_not {P : Prog} {s : List Int} {r : Row} {t : Nat} (hv : validB P = true) (hr : r ∈ P.rows) (hs : stOB s P.costs.length = true) (hc : Compl s t) (hb : blockedB s r = true) : meetB (subTo t P.costs.length) r = false := by
  have hl := st_len hs
  have h1 := blocked_span hv hr hs
  have h2 := span_holds (cs := r.coefs) hc (tri_all hs) s.length (Nat.le_refl _)
  have hcl := (valid_rows hv hr).1
  have h3 : spanF r.coefs s = spanTo r.coefs s s.length := by rw [spanF, h1.1, if_pos rfl, hcl, hl]
  rw [h1.2, h3] at hb
  rw [hl] at h2 hb
  cases hm : meetB (subTo t P.costs.length) r with
  | false => rfl
  | true =>
    exfalso
    simp only [meetB, Bool.and_eq_true, decide_eq_true_eq, sumOf_sub] at hm
    simp at hb
    omega
theorem goP_spec {P : Prog} : ∀ (ss : List (List Int)) (ns : List Nd) (best : Int) (sm : Bool) (b : Int) (s' : Bool), goP P ss ns best sm = (b, s', 0) → (sm = true → s' = true ∧ b ≤ best) ∧ ∀ (j : Nat) s n, ss[j]? = some s → ns[j]? = some n → (n.kind = 2 → blockedB s (rowAt P.rows n.row.toNat) = true) ∧ (n.kind = 3 → s' = true ∧ b ≤ boundF P s n)
  | [], ns, best, sm, b, s', h => by
    simp only [goP, Prod.mk.injEq] at h
    exact ⟨fun hh => ⟨by rw [← h.2.1]; exact hh, by omega⟩, fun j s n h1 => by simp at h1⟩
  | s :: ss, [], best, sm, b, s', h => by
    simp only [goP, Prod.mk.injEq] at h
    exact ⟨fun hh => ⟨by rw [← h.2.1]; exact hh, by omega⟩, fun j s n _ h1 => by simp at h1⟩
  | s :: ss, n :: ns, best, sm, b, s', h => by
    rw [goP] at h
    by_cases h2 : n.kind = 2
    · rw [if_pos h2] at h
      by_cases hb : blockedB s (rowAt P.rows n.row.toNat) = false
      · rw [if_pos hb] at h
        simp at h
      · rw [if_neg hb] at h
        have ih := goP_spec ss ns best sm b s' h
        refine ⟨ih.1, fun j x y g1 g2 => ?_⟩
        cases j with
        | zero =>
          simp at g1 g2
          subst g1 g2
          exact ⟨fun _ => by simpa using hb, fun h3 => by omega⟩
        | succ j => exact ih.2 j x y (by simpa using g1) (by simpa using g2)
    · rw [if_neg h2] at h
      by_cases h3 : n.kind = 3
      · rw [if_pos h3] at h
        have ih := goP_spec ss ns _ true b s' h
        have hbb := ih.1 rfl
        refine ⟨fun hh => ⟨hbb.1, ?_⟩, fun j x y g1 g2 => ?_⟩
        · have := hbb.2
          split at this
          · next hor => rcases hor with ho | ho
                        · rw [hh] at ho; cases ho
                        · omega
          · exact this
        · cases j with
          | zero =>
            simp at g1 g2
            subst g1 g2
            refine ⟨fun h => by omega, fun _ => ⟨hbb.1, ?_⟩⟩
            have := hbb.2
            split at this
            · exact this
            · next hor => have : ¬ boundF P s n < best := fun hh => hor (.inr hh)
                          omega
          | succ j => exact ih.2 j x y (by simpa using g1) (by simpa using g2)
      · rw [if_neg h3] at h
        have ih := goP_spec ss ns best sm b s' h
        refine ⟨ih.1, fun j x y g1 g2 => ?_⟩
        cases j with
        | zero =>
          simp at g1 g2
          subst g1 g2
          exact ⟨fun h => absurd h h2, fun h => absurd h h3⟩
        | succ j => exact ih.2 j x y (by simpa using g1) (by simpa using g2)
theorem sumN_ex {f : Nat → Int} : ∀ {n : Nat}, sumN f n = 1 → ∃ j, j < n ∧ f j ≠ 0
  | 0, h => by simp [sumN] at h
  | n + 1, h => by
    by_cases e : f n = 0
    · obtain ⟨j, hj, hf⟩ := sumN_ex (f := f) (n := n) (by rw [sumN, e] at h; omega)
      exact ⟨j, by omega, hf⟩
    · exact ⟨n, by omega, e⟩
/-- A bound that is proved is at most the cost of every choice that meets the program. -/
theorem proved_sound {P : Prog} {nodes : List Nd} {b : Int} {sm : Bool} (h : provedF P nodes = (b, sm, 0)) {t : Nat} (hm : meetsB P (subTo t P.costs.length) = true) : sm = true ∧ b ≤ costF P (subTo t P.costs.length) := by
  rcases states_err (P := P) (nodes := nodes) with ⟨o, ho⟩ | ⟨e, he, ho⟩
  · obtain ⟨-, hv, h0, h8, hol, hgood⟩ := states_good ho
    rw [provedF, ho] at h
    have hp := goP_spec o nodes 0 false b sm h
    obtain ⟨j, hj, hf⟩ := sumN_ex (states_count ho t)
    obtain ⟨n, hn⟩ : ∃ n, nodes[j]? = some n := ⟨_, List.getElem?_eq_getElem hj⟩
    obtain ⟨s, hs⟩ : ∃ s, o[j]? = some s := ⟨_, List.getElem?_eq_getElem (by omega)⟩
    have hg := hgood j s n hs hn
    have hsl := st_len hg.1
    have hnc := node_cases hg.2
    rw [leafC, getD_some hn, getD_some hs] at hf
    have hk : n.kind ≠ 1 := fun e => hf (by rw [if_neg (by simp [e])])
    rw [if_pos hk, com] at hf
    have hc : Compl s t := by
      rw [← com_compl hsl]
      cases hcc : completeB s (subTo t P.costs.length) with
      | true => rfl
      | false => rw [hcc] at hf; simp at hf
    have hq := hp.2 j s n hs hn
    have hor := hg.2 hk
    rw [Bool.or_eq_true] at hor
    rcases hor with hi | hb
    · have h2 : n.kind = 2 := by simp [infB] at hi; omega
      have hrow := hnc.1 h2
      exfalso
      have := blocked_not hv (rowAt_mem (show n.row.toNat < P.rows.length by omega)) hg.1 hc (hq.1 h2)
      simp only [meetsB, Bool.and_eq_true] at hm
      have h3 := List.all_eq_true.1 hm.2 _ (rowAt_mem (show n.row.toNat < P.rows.length by omega))
      rw [this] at h3
      cases h3
    · have h3 : n.kind = 3 := by rw [bnd_row] at hb; simp at hb; exact hb.1
      have h4 := hq.2 h3
      have h5 := bound_sound hv hb hsl (tri_all hg.1) hc hm
      exact ⟨h4.1, by omega⟩
  · rw [provedF, ho] at h
    simp at h
    omega
end Go.Proofs.Ytengafkfgcdpeaa
end
