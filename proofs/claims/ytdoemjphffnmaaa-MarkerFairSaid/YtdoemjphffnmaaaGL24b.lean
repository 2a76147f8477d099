/- Layer 24 by the interpreter: all who may mark a script. -/
import Derived.Test.YtdoemjphffnmaaaGL24a
namespace Go.Proofs.Ytdoemjphffnmaaa
set_option linter.unusedVariables false
set_option linter.unusedSimpArgs false
set_option linter.unnecessarySimpa false
set_option linter.unusedSectionVars false
set_option maxRecDepth 10000
open Go.RowKit

theorem mget_none {n : Int} : ∀ {kvs : List (Int × Bool)}, (∀ p ∈ kvs, p.1 ≠ n) → mget n kvs = none
  | [], _ => rfl
  | (k, v) :: kvs, h => by
    have h1 : (n == k) = false := by rw [beq_eq_false_iff_ne]; exact fun e => h (k, v) (by simp) e.symm
    rw [mget, h1]
    exact mget_none fun p hp => h p (by simp [hp])
theorem mfind_none {n : Int} : ∀ {kvs : List (Int × Bool)} {i : Nat}, (∀ p ∈ kvs, p.1 ≠ n) → mfind n kvs i = none
  | [], _, _ => rfl
  | (k, v) :: kvs, i, h => by
    have h1 : (n == k) = false := by rw [beq_eq_false_iff_ne]; exact fun e => h (k, v) (by simp) e.symm
    rw [mfind, h1]
    exact mfind_none fun p hp => h p (by simp [hp])
theorem mput_new {n : Int} {v : Bool} {kvs : List (Int × Bool)} (h : ∀ p ∈ kvs, p.1 ≠ n) : mput n v kvs = kvs ++ [(n, v)] := by rw [mput, mfind_none h]
theorem mget_last {n : Int} {v : Bool} : ∀ {kvs : List (Int × Bool)}, (∀ p ∈ kvs, p.1 ≠ n) → mget n (kvs ++ [(n, v)]) = some v
  | [], _ => by simp [mget]
  | (k, u) :: kvs, h => by
    have h1 : (n == k) = false := by rw [beq_eq_false_iff_ne]; exact fun e => h (k, u) (by simp) e.symm
    rw [List.cons_append, mget, h1]
    exact mget_last fun p hp => h p (by simp [hp])
def AscM (l : List Mrk) : Prop := ∀ (i j : Nat) (a b : Mrk), i < j → l[i]? = some a → l[j]? = some b → a.id < b.id
def ableF (l : List Mrk) (s : Scr) (lv : Int) : List Int := (l.filter fun m => mayB m s && decide (lv ≤ m.level)).map (·.id)
theorem able_next {l : List Mrk} {s : Scr} {lv : Int} {k : Nat} {m : Mrk} (h : l[k]? = some m) : ableF (l.take (k + 1)) s lv = if (mayB m s && decide (lv ≤ m.level)) = true then ableF (l.take k) s lv ++ [m.id] else ableF (l.take k) s lv := by
  unfold ableF
  rw [List.take_add_one, h]
  simp only [Option.toList_some, List.filter_append, List.map_append]
  cases hc : (mayB m s && decide (lv ≤ m.level)) <;> simp [hc]
theorem snocI (t e : Nat) (ms : List Int) (x : Int) : AV.own t e 1 (ms.map encI ++ [[.int .i64 x]]) = .own t e 1 ((ms ++ [x]).map encI) := by simp [encI]
def seen (l : List Mrk) (s : Scr) : List (Int × Bool) := l.map fun m => (m.id, mayB m s)
theorem seen_new {l : List Mrk} {s : Scr} (hA : AscM l) {k : Nat} {m : Mrk} (h : l[k]? = some m) : ∀ p ∈ seen (l.take k) s, p.1 ≠ m.id := by
  intro p hp
  obtain ⟨x, hx, rfl⟩ := List.mem_map.1 hp
  obtain ⟨i, hi, e⟩ := List.mem_iff_getElem.1 hx
  rw [List.length_take] at hi
  have := hA i k x m (by omega) (by rw [← e, List.getElem_take]; exact List.getElem?_eq_getElem (by omega)) h
  simp only
  omega
theorem seen_next {l : List Mrk} {s : Scr} {k : Nat} {m : Mrk} (h : l[k]? = some m) : seen (l.take (k + 1)) s = seen (l.take k) s ++ [(m.id, mayB m s)] := by
  unfold seen
  rw [List.take_add_one, h]; simp
set_option maxRecDepth 100000 in
theorem zero_bool (w : World) : (zeroValue 4).run Try.prog w = .ok (.bool false) w := by
  have h : (Try.prog.info? 4).bind (·.zero) = some (.bool false) := by kernel_rfl
  obtain ⟨i, hi, hz⟩ := Option.bind_eq_some_iff.1 h
  simp [zeroValue, typeInfo, hi, hz]
theorem map_ty {A : Prop} (h : A) : mapTy Try.prog 69 A := map_i Try.underlying69 Try.underlying3 zero_bool h
theorem able_ok (l : List Mrk) (s : Scr) (lv : Int) (hl : ShortL l) (hA : AscM l) : Good Try.prog TT false 25 [mrksV l, .agg (encR s), .int .i64 lv] (· = .own 0 3 1 ((ableF l s lv).map encI)) := by
  have L : (l.map encM).length = l.length := List.length_map ..
  obtain ⟨hl1, hl2⟩ := hl
  refine good_of mixed tabOk Try.func25 rfl rfl Try.ntmps25 Try.results25 rfl rfl ?_
  (conv => whnf); (repeat (first | (refine arith_i ⟨by omega, by omega⟩ ?_; conv => whnf) | (refine need_i (by first | omega | (simp only [List.length_append, List.length_cons, List.length_nil]; omega)) ?_; conv => whnf) | ((with_reducible refine branch_tt ?_); conv => whnf) | ((with_reducible refine branch_ff ?_); conv => whnf) | (with_reducible refine branch_not ?_)))
  refine loop_i (fun k : Nat => k ≤ l.length) (fun k => mkSt [(2, .int .i64 lv), (4, .ptr 4 0), (7, .mp 13 (seen (l.take k) s)), (8, .own 200 3 1 ((ableF (l.take k) s lv).map encI)), (14, mrksV l), (15, .int .i64 (l.map encM).length), (16, .int .i64 k)] [(4, encR s)] false) (fun k => l.length - k) 0 (Nat.zero_le _) (Le.trans (le_adopt 8 200 3 1 rfl) (le_mk ⟨rfl, rfl, rfl, rfl, rfl, rfl, rfl, trivial⟩ ⟨rfl, trivial⟩ rfl)) ?_
  intro k hk
  have La : ((ableF (l.take k) s lv).map encI).length ≤ l.length := by
    rw [List.length_map]; unfold ableF
    rw [List.length_map]
    exact Nat.le_trans (List.length_filter_le ..) (by rw [List.length_take]; omega)
  (conv => whnf); (repeat (first | (refine arith_i ⟨by omega, by omega⟩ ?_; conv => whnf) | (refine need_i (by first | omega | (simp only [List.length_append, List.length_cons, List.length_nil]; omega)) ?_; conv => whnf) | ((with_reducible refine branch_tt ?_); conv => whnf) | ((with_reducible refine branch_ff ?_); conv => whnf) | (with_reducible refine branch_not ?_)))
  refine branch_d (fun h => ?_) (fun h => ?_)
  · (conv => whnf); (repeat (first | (refine arith_i ⟨by omega, by omega⟩ ?_; conv => whnf) | (refine need_i (by first | omega | (simp only [List.length_append, List.length_cons, List.length_nil]; omega)) ?_; conv => whnf) | ((with_reducible refine branch_tt ?_); conv => whnf) | ((with_reducible refine branch_ff ?_); conv => whnf) | (with_reducible refine branch_not ?_)))
    refine idx_m (by omega) (by omega) fun m hm => ?_
    rw [Int.toNat_natCast] at hm
    have hnew := seen_new (s := s) hA hm
    (conv => whnf); (repeat (first | (refine arith_i ⟨by omega, by omega⟩ ?_; conv => whnf) | (refine need_i (by first | omega | (simp only [List.length_append, List.length_cons, List.length_nil]; omega)) ?_; conv => whnf) | ((with_reducible refine branch_tt ?_); conv => whnf) | ((with_reducible refine branch_ff ?_); conv => whnf) | (with_reducible refine branch_not ?_)))
    refine map_ty ?_
    rw [mget_none hnew]
    (conv => whnf); (repeat (first | (refine arith_i ⟨by omega, by omega⟩ ?_; conv => whnf) | (refine need_i (by first | omega | (simp only [List.length_append, List.length_cons, List.length_nil]; omega)) ?_; conv => whnf) | ((with_reducible refine branch_tt ?_); conv => whnf) | ((with_reducible refine branch_ff ?_); conv => whnf) | (with_reducible refine branch_not ?_)))
    refine branch_f rfl ?_
    (conv => whnf); (repeat (first | (refine arith_i ⟨by omega, by omega⟩ ?_; conv => whnf) | (refine need_i (by first | omega | (simp only [List.length_append, List.length_cons, List.length_nil]; omega)) ?_; conv => whnf) | ((with_reducible refine branch_tt ?_); conv => whnf) | ((with_reducible refine branch_ff ?_); conv => whnf) | (with_reducible refine branch_not ?_)))
    refine draw_i 7 (.take 0 (.take 1 (.take 2 (.take 3 (.take 4 (.alt 5 (.alt 6 .done .stop) .stop)))))) (by decide +kernel) ?_
    (conv => whnf); (repeat (first | (refine arith_i ⟨by omega, by omega⟩ ?_; conv => whnf) | (refine need_i (by first | omega | (simp only [List.length_append, List.length_cons, List.length_nil]; omega)) ?_; conv => whnf) | ((with_reducible refine branch_tt ?_); conv => whnf) | ((with_reducible refine branch_ff ?_); conv => whnf) | (with_reducible refine branch_not ?_)))
    refine ⟨?_, trivial⟩
    (conv => whnf); (repeat (first | (refine arith_i ⟨by omega, by omega⟩ ?_; conv => whnf) | (refine need_i (by first | omega | (simp only [List.length_append, List.length_cons, List.length_nil]; omega)) ?_; conv => whnf) | ((with_reducible refine branch_tt ?_); conv => whnf) | ((with_reducible refine branch_ff ?_); conv => whnf) | (with_reducible refine branch_not ?_)))
    refine call_e (mayMark_ok m s (hl2 k m hm)) ?_
    (conv => whnf); (repeat (first | (refine arith_i ⟨by omega, by omega⟩ ?_; conv => whnf) | (refine need_i (by first | omega | (simp only [List.length_append, List.length_cons, List.length_nil]; omega)) ?_; conv => whnf) | ((with_reducible refine branch_tt ?_); conv => whnf) | ((with_reducible refine branch_ff ?_); conv => whnf) | (with_reducible refine branch_not ?_)))
    refine ⟨?_, trivial⟩
    (conv => whnf); (repeat (first | (refine arith_i ⟨by omega, by omega⟩ ?_; conv => whnf) | (refine need_i (by first | omega | (simp only [List.length_append, List.length_cons, List.length_nil]; omega)) ?_; conv => whnf) | ((with_reducible refine branch_tt ?_); conv => whnf) | ((with_reducible refine branch_ff ?_); conv => whnf) | (with_reducible refine branch_not ?_)))
    refine map_ty ?_
    (conv => whnf); (repeat (first | (refine arith_i ⟨by omega, by omega⟩ ?_; conv => whnf) | (refine need_i (by first | omega | (simp only [List.length_append, List.length_cons, List.length_nil]; omega)) ?_; conv => whnf) | ((with_reducible refine branch_tt ?_); conv => whnf) | ((with_reducible refine branch_ff ?_); conv => whnf) | (with_reducible refine branch_not ?_)))
    refine map_ty ?_
    have e1 : mput m.id (mayB m s) (seen (l.take k) s) = seen (l.take (k + 1)) s := by rw [mput_new hnew, seen_next hm]
    have e2 : (mget m.id (mput m.id (mayB m s) (seen (l.take k) s))).getD false = mayB m s := by rw [mput_new hnew, mget_last hnew]; rfl
    rw [e2]
    (conv => whnf); (repeat (first | (refine arith_i ⟨by omega, by omega⟩ ?_; conv => whnf) | (refine need_i (by first | omega | (simp only [List.length_append, List.length_cons, List.length_nil]; omega)) ?_; conv => whnf) | ((with_reducible refine branch_tt ?_); conv => whnf) | ((with_reducible refine branch_ff ?_); conv => whnf) | (with_reducible refine branch_not ?_)))
    cases hb : mayB m s with
    | true =>
      (conv => whnf); (repeat (first | (refine arith_i ⟨by omega, by omega⟩ ?_; conv => whnf) | (refine need_i (by first | omega | (simp only [List.length_append, List.length_cons, List.length_nil]; omega)) ?_; conv => whnf) | ((with_reducible refine branch_tt ?_); conv => whnf) | ((with_reducible refine branch_ff ?_); conv => whnf) | (with_reducible refine branch_not ?_)))
      refine branch_d (fun h1 => ?_) (fun h1 => ?_)
      · (conv => whnf); (repeat (first | (refine arith_i ⟨by omega, by omega⟩ ?_; conv => whnf) | (refine need_i (by first | omega | (simp only [List.length_append, List.length_cons, List.length_nil]; omega)) ?_; conv => whnf) | ((with_reducible refine branch_tt ?_); conv => whnf) | ((with_reducible refine branch_ff ?_); conv => whnf) | (with_reducible refine branch_not ?_)))
        exact ⟨k + 1, by omega, le_mk ⟨rfl, rfl, congrArg (AV.mp 13) (by rw [hb] at e1; exact e1), by rw [able_next hm, if_pos (by simp [hb, h1])]; exact snocI _ _ _ _, rfl, rfl, rfl, trivial⟩ ⟨rfl, trivial⟩ rfl, by omega⟩
      · (conv => whnf); (repeat (first | (refine arith_i ⟨by omega, by omega⟩ ?_; conv => whnf) | (refine need_i (by first | omega | (simp only [List.length_append, List.length_cons, List.length_nil]; omega)) ?_; conv => whnf) | ((with_reducible refine branch_tt ?_); conv => whnf) | ((with_reducible refine branch_ff ?_); conv => whnf) | (with_reducible refine branch_not ?_)))
        exact ⟨k + 1, by omega, le_mk ⟨rfl, rfl, congrArg (AV.mp 13) (by rw [hb] at e1; exact e1), by rw [able_next hm, if_neg (by simp [hb, h1])]; rfl, rfl, rfl, rfl, trivial⟩ ⟨rfl, trivial⟩ rfl, by omega⟩
    | false =>
      (conv => whnf); (repeat (first | (refine arith_i ⟨by omega, by omega⟩ ?_; conv => whnf) | (refine need_i (by first | omega | (simp only [List.length_append, List.length_cons, List.length_nil]; omega)) ?_; conv => whnf) | ((with_reducible refine branch_tt ?_); conv => whnf) | ((with_reducible refine branch_ff ?_); conv => whnf) | (with_reducible refine branch_not ?_)))
      exact ⟨k + 1, by omega, le_mk ⟨rfl, rfl, congrArg (AV.mp 13) (by rw [hb] at e1; exact e1), by rw [able_next hm, if_neg (by simp [hb])]; rfl, rfl, rfl, rfl, trivial⟩ ⟨rfl, trivial⟩ rfl, by omega⟩
  · (conv => whnf); (repeat (first | (refine arith_i ⟨by omega, by omega⟩ ?_; conv => whnf) | (refine need_i (by first | omega | (simp only [List.length_append, List.length_cons, List.length_nil]; omega)) ?_; conv => whnf) | ((with_reducible refine branch_tt ?_); conv => whnf) | ((with_reducible refine branch_ff ?_); conv => whnf) | (with_reducible refine branch_not ?_)))
    have hk' : k = l.length := by omega
    subst hk'
    rw [List.take_length]
    exact ret_o rfl
theorem able2_ok (l : List Mrk) (s : Scr) (hl : ShortL l) (hA : AscM l) : Good Try.prog TT false 13 [mrksV l, .agg (encR s)] (· = .own 0 3 1 ((ableF l s (-9223372036854775808)).map encI)) := by
  refine good_of mixed tabOk Try.func13 rfl rfl Try.ntmps13 Try.results13 rfl rfl ?_
  (conv => whnf); (repeat (first | (refine arith_i ⟨by omega, by omega⟩ ?_; conv => whnf) | (refine need_i (by first | omega | (simp only [List.length_append, List.length_cons, List.length_nil]; omega)) ?_; conv => whnf) | ((with_reducible refine branch_tt ?_); conv => whnf) | ((with_reducible refine branch_ff ?_); conv => whnf) | (with_reducible refine branch_not ?_)))
  refine call_e (able_ok l s _ hl hA) ?_
  (conv => whnf); (repeat (first | (refine arith_i ⟨by omega, by omega⟩ ?_; conv => whnf) | (refine need_i (by first | omega | (simp only [List.length_append, List.length_cons, List.length_nil]; omega)) ?_; conv => whnf) | ((with_reducible refine branch_tt ?_); conv => whnf) | ((with_reducible refine branch_ff ?_); conv => whnf) | (with_reducible refine branch_not ?_)))
  exact ret_o rfl
theorem seniors_ok (l : List Mrk) (s : Scr) (hl : ShortL l) (hA : AscM l) : Good Try.prog TT false 14 [mrksV l, .agg (encR s)] (· = .own 0 3 1 ((ableF l s 2).map encI)) := by
  refine good_of mixed tabOk Try.func14 rfl rfl Try.ntmps14 Try.results14 rfl rfl ?_
  (conv => whnf); (repeat (first | (refine arith_i ⟨by omega, by omega⟩ ?_; conv => whnf) | (refine need_i (by first | omega | (simp only [List.length_append, List.length_cons, List.length_nil]; omega)) ?_; conv => whnf) | ((with_reducible refine branch_tt ?_); conv => whnf) | ((with_reducible refine branch_ff ?_); conv => whnf) | (with_reducible refine branch_not ?_)))
  refine call_e (able_ok l s _ hl hA) ?_
  (conv => whnf); (repeat (first | (refine arith_i ⟨by omega, by omega⟩ ?_; conv => whnf) | (refine need_i (by first | omega | (simp only [List.length_append, List.length_cons, List.length_nil]; omega)) ?_; conv => whnf) | ((with_reducible refine branch_tt ?_); conv => whnf) | ((with_reducible refine branch_ff ?_); conv => whnf) | (with_reducible refine branch_not ?_)))
  exact ret_o rfl
theorem same_ok (a b : List Int) (ha : a.length ≤ 1000000) (hb : b.length ≤ 1000000) : Good Try.prog TT false 12 [ints a, ints b] (· = .bool (decide (a = b))) := by
  have L1 : (a.map encI).length = a.length := List.length_map ..
  have L2 : (b.map encI).length = b.length := List.length_map ..
  refine good_of mixed tabOk Try.func12 rfl rfl Try.ntmps12 Try.results12 rfl rfl ?_
  (conv => whnf); (repeat (first | (refine arith_i ⟨by omega, by omega⟩ ?_; conv => whnf) | (refine need_i (by first | omega | (simp only [List.length_append, List.length_cons, List.length_nil]; omega)) ?_; conv => whnf) | ((with_reducible refine branch_tt ?_); conv => whnf) | ((with_reducible refine branch_ff ?_); conv => whnf) | (with_reducible refine branch_not ?_)))
  refine branch_n (fun h => ?_) (fun h => ?_)
  · (conv => whnf); (repeat (first | (refine arith_i ⟨by omega, by omega⟩ ?_; conv => whnf) | (refine need_i (by first | omega | (simp only [List.length_append, List.length_cons, List.length_nil]; omega)) ?_; conv => whnf) | ((with_reducible refine branch_tt ?_); conv => whnf) | ((with_reducible refine branch_ff ?_); conv => whnf) | (with_reducible refine branch_not ?_)))
    exact ret_p rfl (bool_eq (by rw [eq_comm, decide_eq_false_iff_not]; rintro rfl; exact h rfl))
  · (conv => whnf); (repeat (first | (refine arith_i ⟨by omega, by omega⟩ ?_; conv => whnf) | (refine need_i (by first | omega | (simp only [List.length_append, List.length_cons, List.length_nil]; omega)) ?_; conv => whnf) | ((with_reducible refine branch_tt ?_); conv => whnf) | ((with_reducible refine branch_ff ?_); conv => whnf) | (with_reducible refine branch_not ?_)))
    refine loop_i (fun k : Nat => k ≤ a.length ∧ ∀ i, i < k → a[i]? = b[i]?) (fun k => mkSt [(0, ints a), (1, ints b), (12, .int .i64 (a.map encI).length), (13, .int .i64 k)] [] false) (fun k => a.length - k) 0 ⟨Nat.zero_le _, nofun⟩ (le_mk ⟨rfl, rfl, rfl, rfl, trivial⟩ trivial rfl) ?_
    rintro k ⟨hk, hall⟩
    (conv => whnf); (repeat (first | (refine arith_i ⟨by omega, by omega⟩ ?_; conv => whnf) | (refine need_i (by first | omega | (simp only [List.length_append, List.length_cons, List.length_nil]; omega)) ?_; conv => whnf) | ((with_reducible refine branch_tt ?_); conv => whnf) | ((with_reducible refine branch_ff ?_); conv => whnf) | (with_reducible refine branch_not ?_)))
    refine branch_d (fun h1 => ?_) (fun h1 => ?_)
    · (conv => whnf); (repeat (first | (refine arith_i ⟨by omega, by omega⟩ ?_; conv => whnf) | (refine need_i (by first | omega | (simp only [List.length_append, List.length_cons, List.length_nil]; omega)) ?_; conv => whnf) | ((with_reducible refine branch_tt ?_); conv => whnf) | ((with_reducible refine branch_ff ?_); conv => whnf) | (with_reducible refine branch_not ?_)))
      refine draw_i 9 (.take 0 (.take 1 (.take 2 (.take 3 (.take 4 (.take 5 (.take 6 (.take 7 (.take 8 .done))))))))) (by decide +kernel) ?_
      (conv => whnf); (repeat (first | (refine arith_i ⟨by omega, by omega⟩ ?_; conv => whnf) | (refine need_i (by first | omega | (simp only [List.length_append, List.length_cons, List.length_nil]; omega)) ?_; conv => whnf) | ((with_reducible refine branch_tt ?_); conv => whnf) | ((with_reducible refine branch_ff ?_); conv => whnf) | (with_reducible refine branch_not ?_)))
      refine idx_m (by omega) (by omega) fun x hx => ?_
      rw [Int.toNat_natCast] at hx
      (conv => whnf); (repeat (first | (refine arith_i ⟨by omega, by omega⟩ ?_; conv => whnf) | (refine need_i (by first | omega | (simp only [List.length_append, List.length_cons, List.length_nil]; omega)) ?_; conv => whnf) | ((with_reducible refine branch_tt ?_); conv => whnf) | ((with_reducible refine branch_ff ?_); conv => whnf) | (with_reducible refine branch_not ?_)))
      refine idx_m (by omega) (by omega) fun y hy => ?_
      rw [Int.toNat_natCast] at hy
      (conv => whnf); (repeat (first | (refine arith_i ⟨by omega, by omega⟩ ?_; conv => whnf) | (refine need_i (by first | omega | (simp only [List.length_append, List.length_cons, List.length_nil]; omega)) ?_; conv => whnf) | ((with_reducible refine branch_tt ?_); conv => whnf) | ((with_reducible refine branch_ff ?_); conv => whnf) | (with_reducible refine branch_not ?_)))
      refine branch_n (fun he => ?_) (fun he => ?_)
      · (conv => whnf); (repeat (first | (refine arith_i ⟨by omega, by omega⟩ ?_; conv => whnf) | (refine need_i (by first | omega | (simp only [List.length_append, List.length_cons, List.length_nil]; omega)) ?_; conv => whnf) | ((with_reducible refine branch_tt ?_); conv => whnf) | ((with_reducible refine branch_ff ?_); conv => whnf) | (with_reducible refine branch_not ?_)))
        exact ret_p rfl (bool_eq (by rw [eq_comm, decide_eq_false_iff_not]; rintro rfl; rw [hx] at hy; injection hy with hy; exact he hy))
      · (conv => whnf); (repeat (first | (refine arith_i ⟨by omega, by omega⟩ ?_; conv => whnf) | (refine need_i (by first | omega | (simp only [List.length_append, List.length_cons, List.length_nil]; omega)) ?_; conv => whnf) | ((with_reducible refine branch_tt ?_); conv => whnf) | ((with_reducible refine branch_ff ?_); conv => whnf) | (with_reducible refine branch_not ?_)))
        refine ⟨k + 1, ⟨by omega, fun i hi => ?_⟩, le_mk ⟨rfl, rfl, rfl, rfl, trivial⟩ trivial rfl, by omega⟩
        rcases Nat.lt_or_ge i k with h' | h'
        · exact hall i h'
        · obtain rfl : i = k := by omega
          rw [hx, hy, he]
    · (conv => whnf); (repeat (first | (refine arith_i ⟨by omega, by omega⟩ ?_; conv => whnf) | (refine need_i (by first | omega | (simp only [List.length_append, List.length_cons, List.length_nil]; omega)) ?_; conv => whnf) | ((with_reducible refine branch_tt ?_); conv => whnf) | ((with_reducible refine branch_ff ?_); conv => whnf) | (with_reducible refine branch_not ?_)))
      refine ret_p rfl (bool_eq (by
        rw [eq_comm, decide_eq_true_iff]
        apply List.ext_getElem?
        intro i
        rcases Nat.lt_or_ge i k with h' | h'
        · exact hall i h'
        · rw [List.getElem?_eq_none (by omega), List.getElem?_eq_none (by omega)]))
end Go.Proofs.Ytdoemjphffnmaaa
