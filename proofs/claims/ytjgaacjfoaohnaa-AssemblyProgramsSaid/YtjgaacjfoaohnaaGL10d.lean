/- Layer 10: the certificate's tree. -/
import Derived.Test.YtjgaacjfoaohnaaGL10c
import Derived.Test.YtjgaacjfoaohnaaGL08b2
import Derived.Test.YtjgaacjfoaohnaaGL09rep
namespace Go.Proofs.Ytjgaacjfoaohnaa
set_option linter.unusedVariables false
set_option linter.unusedSimpArgs false
set_option linter.unnecessarySimpa false
set_option linter.unusedSectionVars false
set_option maxRecDepth 10000
open Go.RowKit
def plGL10d_0 : Plan := (.take 0 (.take 1 (.take 2 (.take 3 (.take 4 (.take 5 (.take 6 (.take 7 (.altE 8 (.take 9 (.take 10 (.altE 11 .done .stop))) .stop)))))))))
def plGL10d_1 : Plan := (.take 1 (.take 3 (.take 4 (.take 5 (.alt 0 (.take 6 (.take 7 (.alt 2 (.alt 8 (.take 9 (.take 10 (.alt 11 .done .stop))) .stop) (.alt 8 (.alt 2 (.take 9 (.take 10 (.alt 11 .done .stop))) .stop) .stop)))) (.alt 2 (.alt 0 (.take 6 (.take 7 (.alt 8 (.take 9 (.take 10 (.alt 11 .done .stop))) .stop))) .stop) .stop))))))
def plainN : Nd := ⟨3, 0, 0, 0, -1, 0, 1⟩
def leafN (P : Prog) (f : Bool) (b : Int) (o : Nat) (st : List Int) : Option Nd :=
  if 0 ≤ deadF P st then some ⟨2, 0, 0, 0, deadF P st, 0, 0⟩ else if o = st.length ∨ (f = true ∧ b ≤ boundF P st plainN) then some plainN else none
def treeF (P : Prog) (f : Bool) (b : Int) : Nat → Nat → List Int → Nat → List Nd
  | 0, o, st, base => [(leafN P f b o st).getD plainN]
  | m + 1, o, st, base => match leafN P f b o st with
    | some n => [n]
    | none => ⟨1, o, (base + 1 : Nat), (base + 1 + (treeF P f b m (o + 1) (st.set o 0) (base + 1)).length : Nat), 0, 0, 0⟩ :: (treeF P f b m (o + 1) (st.set o 0) (base + 1) ++ treeF P f b m (o + 1) (st.set o 1) (base + 1 + (treeF P f b m (o + 1) (st.set o 0) (base + 1)).length))
theorem tree_len {P : Prog} {f : Bool} {b : Int} : ∀ {m o : Nat} {st : List Int} {base : Nat}, (treeF P f b m o st base).length ≤ 2 ^ (m + 1) - 1
  | 0, o, st, base => by simp [treeF]
  | m + 1, o, st, base => by
    rw [treeF]
    split
    · have := Nat.one_le_two_pow (n := m + 1); rw [Nat.pow_succ]; simp; omega
    · have h1 := tree_len (P := P) (f := f) (b := b) (m := m) (o := o + 1) (st := st.set o 0) (base := base + 1)
      have h2 := tree_len (P := P) (f := f) (b := b) (m := m) (o := o + 1) (st := st.set o 1) (base := base + 1 + (treeF P f b m (o + 1) (st.set o 0) (base + 1)).length)
      have := Nat.one_le_two_pow (n := m + 1)
      rw [Nat.pow_succ]
      simp only [List.length_cons, List.length_append]
      omega
theorem tree_pos {P : Prog} {f : Bool} {b : Int} : ∀ {m o : Nat} {st : List Int} {base : Nat}, 1 ≤ (treeF P f b m o st base).length
  | 0, o, st, base => by simp [treeF]
  | m + 1, o, st, base => by rw [treeF]; split <;> simp
theorem tree_leaf {P : Prog} {f : Bool} {b : Int} {m o : Nat} {st : List Int} {base : Nat} {n : Nd} (h : leafN P f b o st = some n) : treeF P f b m o st base = [n] := by
  cases m with
  | zero => simp [treeF, h]
  | succ m => simp [treeF, h]
def growA : List AV := [.ptr 1000 0, .ptr 1001 0, .ptr 1002 0, .ptr 1003 0, .ptr 1004 0, .ptr 1005 0, .ptr 1006 0]
def gBx (P : Prog) (f : Bool) (b : Int) (st : List Int) (ns : List Nd) : List (Nat × List AV) := [(1000, [.own 1100 112 7 (ns.map encN)]), (1001, [ints P.costs, rowsV P.rows]), (1002, [.own 1102 3 1 (st.map encI)]), (1003, [.int .i64 3, .int .i64 0, .int .i64 0, .int .i64 0, .int .i64 (-1), .int .i64 0, .int .i64 1]), (1004, [.bool f]), (1005, [.int .i64 b]), (1006, [.fn 80 growA])]
theorem bound_plain {P : Prog} {st : List Int} (hv : validB P = true) (hs : stOB st P.costs.length = true) : boundV P st plainN = .tup [.int .i64 (boundF P st plainN), .bool true] := by
  have : okB P st plainN = true := by simp [okB, hv, hs, bndB, plainN]
  rw [boundV, this]
  rfl
theorem fits_of {P : Prog} (hv : validB P = true) : Fits P := by
  have h := validB_parts hv
  exact ⟨by omega, by omega, fun r hr => by have := (valid_rows hv hr).1; omega⟩
theorem snoc7 {xs : List Nd} {a b c d e f g : Int} : xs.map encN ++ [[AV.int .i64 a, AV.int .i64 b, AV.int .i64 c, AV.int .i64 d, AV.int .i64 e, AV.int .i64 f, AV.int .i64 g]] = (xs ++ [(⟨a, b, c, d, e, f, g⟩ : Nd)]).map encN := by simp [encN]
theorem un_set {st : List Int} {n o : Nat} {x : Int} (h : ∀ j, o ≤ j → j < n → nth st j = -1) : ∀ j, o + 1 ≤ j → j < n → nth (st.set o x) j = -1 := fun j h1 h2 => by
  rw [nth_set, if_neg (by omega)]; exact h j (by omega) h2
theorem set_back {st : List Int} {o : Nat} {x : Int} (h : nth st o = -1) (ho : o < st.length) : (st.set o x).set o (-1) = st := by
  rw [List.set_set]
  refine nth_ext (by simp) fun j hj => ?_
  rw [nth_set]
  split
  · next e => rw [e.1, h]
  · rfl
theorem place_at {ns a b : List Nd} {x : Nd} : (ns ++ [x] ++ a ++ b)[(((ns.map encN).length : Nat) : Int).toNat]? = some x := by
  rw [List.length_map, Int.toNat_natCast, List.append_assoc, List.append_assoc, List.getElem?_append_right (Nat.le_refl _), Nat.sub_self]
  rfl
theorem mod_at {ns a b : List Nd} {x : Nd} {g : Nd → Nd} : (ns ++ [x] ++ a ++ b).modify ns.length g = ns ++ [g x] ++ a ++ b := by
  rw [List.append_assoc, List.append_assoc, List.append_assoc, List.append_assoc]
  induction ns with
  | nil => rfl
  | cons y ns ih =>
    rw [List.cons_append, List.length_cons, List.modify_succ_cons, ih]
    rfl
theorem idx_modS {es : List (List AV)} {i : Nat} {f : List AV → List AV} {n : Int} {K : List AV → Prop} {cs : List AV} (h0 : 0 ≤ n) (hi : n.toNat = i) (h : es[i]? = some cs) (k : K (f cs)) : idx (es.modify i f) n K := by
  refine idx_i h0 ?_ k
  rw [hi, List.getElem?_modify, h]
  simp
theorem place_enc {ns a b : List Nd} {x : Nd} : ((ns ++ [x] ++ a ++ b).map encN)[(ns.map encN).length]? = some (encN x) := by
  have := place_at (ns := ns) (a := a) (b := b) (x := x)
  rw [Int.toNat_natCast] at this
  rw [List.getElem?_map, this]
  rfl
theorem snocN {xs : List Nd} {x : Nd} : xs.map encN ++ [encN x] = (xs ++ [x]).map encN := by simp
set_option maxHeartbeats 4000000 in
theorem grow_ok (P : Prog) (f : Bool) (b : Int) (hv : validB P = true) : ∀ (m o : Nat) (st : List Int) (ns : List Nd), m = P.costs.length - o → o ≤ P.costs.length → stOB st P.costs.length = true → (∀ j, o ≤ j → j < P.costs.length → nth st j = -1) → ns.length + 2 ^ (m + 1) ≤ 100000 →
    GoodM Try.prog TT false 80 (.int .i64 o :: growA) (gBx P f b st ns) (fun r ov bx => r = .int .i64 ns.length ∧ ov = [] ∧ bx = gBx P f b st (ns ++ treeF P f b m o st ns.length)) := by
  have hcl := (validB_parts hv).1
  have hfit := fits_of hv
  intro m
  induction m with
  | zero =>
    intro o st ns hm ho hst hun hns
    have hsl := st_len hst
    have LS : (st.map encI).length = st.length := List.length_map ..
    have LN : (ns.map encN).length = ns.length := List.length_map ..
    have hoe : o = st.length := by omega
    refine good_of_m (fun _ => false) mixed tabOk Try.func80 rfl rfl Try.ntmps80 Try.results80 rfl rfl ?_
    (conv => whnf); (repeat' (first | (refine arith_i ⟨by omega, by omega⟩ ?_; conv => whnf) | (refine arith_u ⟨by omega, by omega⟩ ?_; conv => whnf) | (refine arith_8 ⟨by omega, by omega⟩ ?_; conv => whnf) | (refine need_i (by first | omega | (simp only [List.length_append, List.length_cons, List.length_nil, List.length_map, List.length_replicate, List.length_modify]; omega)) ?_; conv => whnf) | ((with_reducible refine branch_tt ?_); conv => whnf) | ((with_reducible refine branch_ff ?_); conv => whnf) | (with_reducible refine branch_not ?_) | ((refine call_e (dead_ok P st hfit (by omega)) ?_); conv => whnf) | ((refine call_e ((bound_ok P st plainN hfit (by omega)).mono fun r h => h.trans (bound_plain hv hst)) ?_); conv => whnf) | ((simp only [snoc7]); conv => whnf) | ((with_reducible refine slc_e ?_); conv => whnf) | ((with_reducible refine callS_a ?_); conv => whnf) | ((with_reducible refine own_e ?_); conv => whnf) | (refine draw_i 12 plGL10d_0 (by decide +kernel) ?_; (conv => whnf); fail_if_success (guard_target =~ False)) | (refine draw_i 0 plGL10d_1 (by decide +kernel) ?_; (conv => whnf); fail_if_success (guard_target =~ False)) | ((with_reducible refine And.intro ?_ ?_) <;> (conv => whnf)) | (with_reducible exact trivial) | ((with_reducible refine branch_d (fun hq => ?_) (fun hq => ?_)) <;> (try (exfalso; omega)) <;> (conv => whnf)) | ((with_reducible refine branch_e (fun hq => ?_) (fun hq => ?_)) <;> (try (exfalso; omega)) <;> (conv => whnf)) | ((with_reducible refine branch_n (fun hq => ?_) (fun hq => ?_)) <;> (try (exfalso; omega)) <;> (conv => whnf)) | ((with_reducible refine branch_i (fun hq => ?_) (fun hq => ?_)) <;> (try (exfalso; omega)) <;> (conv => whnf))))
    all_goals first
      | (have hlf : leafN P f b o st = some ⟨2, 0, 0, 0, deadF P st, 0, 0⟩ := by rw [leafN, if_pos (by assumption)]
         rw [tree_leaf hlf]
         exact retM_i (.int .i64 ns.length) [] (gBx P f b st (ns ++ [⟨2, 0, 0, 0, deadF P st, 0, 0⟩])) rfl (le_mk ⟨by rw [← LN]; rfl, trivial⟩ ⟨rfl, rfl, rfl, rfl, rfl, rfl, rfl, trivial⟩ rfl) rfl ⟨rfl, rfl, rfl⟩)
      | (have hlf : leafN P f b o st = some plainN := by rw [leafN, if_neg (by assumption), if_pos (.inl hoe)]
         rw [tree_leaf hlf]
         exact retM_i (.int .i64 ns.length) [] (gBx P f b st (ns ++ [plainN])) rfl (le_mk ⟨by rw [← LN]; rfl, trivial⟩ ⟨rfl, rfl, rfl, rfl, rfl, rfl, rfl, trivial⟩ rfl) rfl ⟨rfl, rfl, rfl⟩)
  | succ m IH =>
    intro o st ns hm ho hst hun hns
    have hsl := st_len hst
    have LS : (st.map encI).length = st.length := List.length_map ..
    have LN : (ns.map encN).length = ns.length := List.length_map ..
    have h2 := Nat.one_le_two_pow (n := m + 1)
    rw [Nat.pow_succ] at hns
    refine good_of_m (fun _ => false) mixed tabOk Try.func80 rfl rfl Try.ntmps80 Try.results80 rfl rfl ?_
    have hIH := fun (x : Int) (ns' : List Nd) (h : -1 ≤ x ∧ x ≤ 1) (h' : ns'.length + 2 ^ (m + 1) ≤ 100000) (ho' : o < P.costs.length) => IH (o + 1) (st.set o x) ns' (by omega) (by omega) (stO_set hst h) (un_set hun) h'
    obtain ⟨n1, hn1⟩ : ∃ n1 : Nd, n1 = ⟨1, o, 0, 0, 0, 0, 0⟩ := ⟨_, rfl⟩
    obtain ⟨ns1, hns1⟩ : ∃ l, l = ns ++ [(⟨1, o, 0, 0, 0, 0, 0⟩ : Nd)] := ⟨_, rfl⟩
    have L1 : ns1.length = ns.length + 1 := by rw [hns1]; simp
    obtain ⟨z, hz⟩ : ∃ l, l = treeF P f b m (o + 1) (st.set o 0) ns1.length := ⟨_, rfl⟩
    have Lz : z.length ≤ 2 ^ (m + 1) - 1 := by rw [hz]; exact tree_len
    obtain ⟨ns2, hns2⟩ : ∃ l, l = ns1 ++ z := ⟨_, rfl⟩
    have L2 : ns2.length = ns1.length + z.length := by rw [hns2]; simp
    have hI1 := fun ho' => hIH 0 ns1 (by omega) (by omega) ho'
    have hI2 := fun ho' => hIH 1 ns2 (by omega) (by omega) ho'
    rw [← hz, ← hns2] at hI1
    (conv => whnf); (repeat' (first | (refine arith_i ⟨by omega, by omega⟩ ?_; conv => whnf) | (refine arith_u ⟨by omega, by omega⟩ ?_; conv => whnf) | (refine arith_8 ⟨by omega, by omega⟩ ?_; conv => whnf) | (refine need_i (by first | omega | (simp only [List.length_append, List.length_cons, List.length_nil, List.length_map, List.length_replicate, List.length_modify]; omega)) ?_; conv => whnf) | ((with_reducible refine branch_tt ?_); conv => whnf) | ((with_reducible refine branch_ff ?_); conv => whnf) | (with_reducible refine branch_not ?_) | ((refine call_e (dead_ok P st hfit (by omega)) ?_); conv => whnf) | ((refine call_e ((bound_ok P st plainN hfit (by omega)).mono fun r h => h.trans (bound_plain hv hst)) ?_); conv => whnf) | (((refine idx_m (xs := st) (by omega) (by omega) fun y hy => ?_)); conv => whnf) | ((simp only [snoc7, Int.toNat_natCast, ← hns1]); conv => whnf) | ((refine mcall_e [(1000, 1000), (1001, 1001), (1002, 1002), (1003, 1003), (1004, 1004), (1005, 1005), (1006, 1006)] [(1100, 1100), (1102, 1102)] (hI1 (by omega)) rfl rfl rfl ⟨⟨_, rfl, rfl, rfl⟩, ⟨_, rfl, rfl, rfl⟩, ⟨_, rfl, by rw [← encI_set (xs := st) (k := o) (y := 0)]; rfl, rfl⟩, ⟨_, rfl, rfl, rfl⟩, ⟨_, rfl, rfl, rfl⟩, ⟨_, rfl, rfl, rfl⟩, ⟨_, rfl, rfl, rfl⟩, trivial⟩ rfl ?_); conv => whnf) | ((refine mcall_e [(1000, 1000), (1001, 1001), (1002, 1002), (1003, 1003), (1004, 1004), (1005, 1005), (1006, 1006)] [(1100, 1100), (1102, 1102)] (hI2 (by omega)) rfl rfl rfl ⟨⟨_, rfl, rfl, rfl⟩, ⟨_, rfl, rfl, rfl⟩, ⟨_, rfl, by rw [show st.set o 1 = (st.set o 0).set o 1 by rw [List.set_set], ← encI_set (xs := st.set o 0) (k := o) (y := 1)]; rfl, rfl⟩, ⟨_, rfl, rfl, rfl⟩, ⟨_, rfl, rfl, rfl⟩, ⟨_, rfl, rfl, rfl⟩, ⟨_, rfl, rfl, rfl⟩, trivial⟩ rfl ?_); conv => whnf) | (((refine idx_m (xs := st.set o 0) (by omega) (by simp; omega) fun y hy => ?_)); conv => whnf) | (((refine idx_m (xs := st.set o 1) (by omega) (by simp; omega) fun y hy => ?_)); conv => whnf) | (((refine idx_ms (x := ⟨1, o, 0, 0, 0, 0, 0⟩) (by omega) (by rw [hns2, hns1]; exact place_at) ?_)); conv => whnf) | (((refine idx_modS (cs := encN ⟨1, o, 0, 0, 0, 0, 0⟩) (by omega) (by omega) (by rw [hns2, hns1]; exact place_enc) ?_)); conv => whnf) | ((with_reducible refine slc_e ?_); conv => whnf) | ((with_reducible refine callS_a ?_); conv => whnf) | ((with_reducible refine own_e ?_); conv => whnf) | (refine draw_i 12 plGL10d_0 (by decide +kernel) ?_; (conv => whnf); fail_if_success (guard_target =~ False)) | (refine draw_i 0 plGL10d_1 (by decide +kernel) ?_; (conv => whnf); fail_if_success (guard_target =~ False)) | ((with_reducible refine And.intro ?_ ?_) <;> (conv => whnf)) | (with_reducible exact trivial) | ((with_reducible refine branch_d (fun hq => ?_) (fun hq => ?_)) <;> (try (exfalso; omega)) <;> (conv => whnf)) | ((with_reducible refine branch_e (fun hq => ?_) (fun hq => ?_)) <;> (try (exfalso; omega)) <;> (conv => whnf)) | ((with_reducible refine branch_n (fun hq => ?_) (fun hq => ?_)) <;> (try (exfalso; omega)) <;> (conv => whnf)) | ((with_reducible refine branch_i (fun hq => ?_) (fun hq => ?_)) <;> (try (exfalso; omega)) <;> (conv => whnf))))
    all_goals first
      | (have hlf : leafN P f b o st = some ⟨2, 0, 0, 0, deadF P st, 0, 0⟩ := by rw [leafN, if_pos (by assumption)]
         rw [tree_leaf hlf]
         exact retM_i (.int .i64 ns.length) [] (gBx P f b st (ns ++ [⟨2, 0, 0, 0, deadF P st, 0, 0⟩])) rfl (le_mk ⟨by rw [← LN]; rfl, trivial⟩ ⟨rfl, rfl, rfl, rfl, rfl, rfl, rfl, trivial⟩ rfl) rfl ⟨rfl, rfl, rfl⟩)
      | (have hlf : leafN P f b o st = some plainN := by rw [leafN, if_neg (by assumption), if_pos (.inr ⟨by assumption, by assumption⟩)]
         rw [tree_leaf hlf]
         exact retM_i (.int .i64 ns.length) [] (gBx P f b st (ns ++ [plainN])) rfl (le_mk ⟨by rw [← LN]; rfl, trivial⟩ ⟨rfl, rfl, rfl, rfl, rfl, rfl, rfl, trivial⟩ rfl) rfl ⟨rfl, rfl, rfl⟩)
      | (have hlf : leafN P f b o st = none := by
           rw [leafN, if_neg (by assumption), if_neg]
           rintro (h | ⟨h, h'⟩)
           · omega
           · simp_all
         have hfin : ns ++ treeF P f b (m + 1) o st ns.length = ((ns2 ++ treeF P f b m (o + 1) (st.set o 1) ns2.length).modify ns.length (fun n => { n with zero := ns1.length })).modify ns.length (fun n => { n with one := ns2.length }) := by
           rw [treeF, hlf, hns2, hns1, mod_at, mod_at]
           simp only
           rw [← hns1, ← L1, ← hz, ← L2, hns2]
           simp
         have hback := set_back (x := 1) (hun o (Nat.le_refl _) (by omega)) (show o < st.length by omega)
         rw [hfin]
         refine retM_i (.int .i64 ns.length) [] (gBx P f b st (((ns2 ++ treeF P f b m (o + 1) (st.set o 1) ns2.length).modify ns.length (fun n => { n with zero := ns1.length })).modify ns.length (fun n => { n with one := ns2.length }))) rfl (le_mk ⟨by rw [← LN]; rfl, trivial⟩ ⟨?_, rfl, ?_, rfl, rfl, rfl, rfl, trivial⟩ rfl) rfl ⟨rfl, rfl, rfl⟩
         · rw [← map_modify (enc := encN) (f := fun c => c.set 3 (.int .i64 ns2.length)) (fun x => rfl), ← map_modify (enc := encN) (f := fun c => c.set 2 (.int .i64 ns1.length)) (fun x => rfl), ← LN]
           rfl
         · conv => rhs; rw [← hback]
           rw [← encI_set (xs := st.set o 1) (k := o) (y := -1)]
           rfl)
/-- The certificate. -/
def certF (P : Prog) (f : Bool) (b : Int) : List Nd := treeF P f b P.costs.length 0 (List.replicate P.costs.length (-1)) 0
set_option maxHeartbeats 4000000 in
theorem cert_ok (P : Prog) (f : Bool) (b : Int) (hv : validB P = true) : Good Try.prog TT false 55 [progV P, .bool f, .int .i64 b] (· = ndsV (certF P f b)) := by
  have hcl := (validB_parts hv).1
  have LC : (P.costs.map encI).length = P.costs.length := List.length_map ..
  have hpow : 2 ^ (P.costs.length + 1) ≤ 2 ^ 13 := Nat.pow_le_pow_right (by omega) (by omega)
  have hg := grow_ok P f b hv P.costs.length 0 (List.replicate P.costs.length (-1)) [] (by omega) (by omega) (by simp [stOB, tri9]) (fun j _ h => by simp [nth, List.getD_eq_getElem?_getD, h]) (by simp; omega)
  refine good_of mixed tabOk Try.func55 rfl rfl Try.ntmps55 Try.results55 rfl rfl ?_
  (conv => whnf); (repeat' (first | (refine arith_i ⟨by omega, by omega⟩ ?_; conv => whnf) | (refine arith_u ⟨by omega, by omega⟩ ?_; conv => whnf) | (refine arith_8 ⟨by omega, by omega⟩ ?_; conv => whnf) | (refine need_i (by first | omega | (simp only [List.length_append, List.length_cons, List.length_nil, List.length_map, List.length_replicate, List.length_modify]; omega)) ?_; conv => whnf) | ((with_reducible refine branch_tt ?_); conv => whnf) | ((with_reducible refine branch_ff ?_); conv => whnf) | (with_reducible refine branch_not ?_) | (((rw [LC]; refine call_e (repeat_ok P.costs.length hcl) ?_)); conv => whnf) | (((refine mcall_i [(1000, 9), (1001, 3), (1002, 7), (1003, 8), (1004, 4), (1005, 5), (1006, 10)] [(1100, 1100), (1102, 15)] _ (le_adoptBox 9 0 1100 112 7 rfl rfl) hg rfl rfl rfl ⟨⟨_, rfl, rfl, rfl⟩, ⟨_, rfl, rfl, rfl⟩, ⟨_, rfl, rfl, rfl⟩, ⟨_, rfl, rfl, rfl⟩, ⟨_, rfl, rfl, rfl⟩, ⟨_, rfl, rfl, rfl⟩, ⟨_, rfl, rfl, rfl⟩, trivial⟩ ?_; rintro r ov bx' ⟨rfl, rfl, rfl⟩; refine ⟨rfl, ?_⟩)); conv => whnf) | ((with_reducible refine slc_e ?_); conv => whnf) | ((with_reducible refine callS_a ?_); conv => whnf) | ((with_reducible refine own_e ?_); conv => whnf) | ((with_reducible refine branch_d (fun hq => ?_) (fun hq => ?_)) <;> (try (exfalso; omega)) <;> (conv => whnf)) | ((with_reducible refine branch_e (fun hq => ?_) (fun hq => ?_)) <;> (try (exfalso; omega)) <;> (conv => whnf)) | ((with_reducible refine branch_n (fun hq => ?_) (fun hq => ?_)) <;> (try (exfalso; omega)) <;> (conv => whnf)) | ((with_reducible refine branch_i (fun hq => ?_) (fun hq => ?_)) <;> (try (exfalso; omega)) <;> (conv => whnf))))
  exact ret_ol rfl
/-! Solve and All -/
theorem loop_count {P : Prog} : ∀ {m : Nat} {ch : List Int} {i : Nat}, (loopF P m ch i).length ≤ 2 ^ m - 1
  | 0, ch, i => by simp [loopF]
  | m + 1, ch, i => by
    have h1 := loop_count (P := P) (m := m) (ch := ch ++ [(i : Int)]) (i := i + 1)
    have h2 := loop_count (P := P) (m := m) (ch := ch) (i := i + 1)
    have h3 : (here P (ch ++ [(i : Int)])).length ≤ 1 := by simp only [here]; split <;> simp
    have := Nat.one_le_two_pow (n := m)
    simp only [loopF, List.length_append, Nat.pow_succ]
    omega
theorem all_count {P : Prog} (hv : validB P = true) : (allF P).length ≤ 4096 := by
  have hcl := (validB_parts hv).1
  have h1 := loop_count (P := P) (m := P.costs.length - 0) (ch := []) (i := 0)
  have h3 : (here P []).length ≤ 1 := by simp only [here]; split <;> simp
  have h4 : 2 ^ (P.costs.length - 0) ≤ 2 ^ 12 := Nat.pow_le_pow_right (by omega) (by omega)
  simp only [allF, visF, List.length_append]
  omega
theorem fold_all {P : Prog} : ∀ (l a : List (List Int)), l.foldl (vstepA P) a = a ++ l
  | [], a => by simp
  | x :: l, a => by rw [List.foldl_cons, fold_all l]; simp [vstepA]
def allV (P : Prog) : AV := if validB P = true then .tup [.lst 1 ((allF P).map encS), .int .i64 0] else .tup [.lst 1 [], .int .i64 1]
/-- What Solve returns. -/
def solveV (P : Prog) : AV := if validB P = true then .tup [.agg [.bool (bestF P).1, ints (bestF P).2.2, .int .i64 (bestF P).2.1, ndsV (certF P (bestF P).1 (bestF P).2.1)], .int .i64 0] else .tup [.agg [.bool false, ints [], .int .i64 0, .lst 7 []], .int .i64 1]
set_option maxHeartbeats 4000000 in
theorem solve_ok (P : Prog) (hP : Fits P) : Good Try.prog TT false 26 [progV P] (· = solveV P) := by
  refine good_of mixed tabOk Try.func26 rfl rfl Try.ntmps26 Try.results26 rfl rfl ?_
  (conv => whnf); (repeat' (first | (refine arith_i ⟨by omega, by omega⟩ ?_; conv => whnf) | (refine arith_u ⟨by omega, by omega⟩ ?_; conv => whnf) | (refine arith_8 ⟨by omega, by omega⟩ ?_; conv => whnf) | (refine need_i (by first | omega | (simp only [List.length_append, List.length_cons, List.length_nil, List.length_map, List.length_replicate, List.length_modify]; omega)) ?_; conv => whnf) | ((with_reducible refine branch_tt ?_); conv => whnf) | ((with_reducible refine branch_ff ?_); conv => whnf) | (with_reducible refine branch_not ?_) | ((refine call_e (valid_ok P hP.1 hP.2.1 hP.2.2) ?_); conv => whnf) | (((have hv : validB P = true := hq; refine mcall_i [(1010, 4)] [] _ (le_nilBox 4 1 1 rfl rfl) (eachS_ok P (false, 0, []) hv trivial) rfl rfl rfl ⟨⟨_, rfl, rfl, rfl⟩, trivial⟩ ?_; rintro r ov bx' ⟨rfl, rfl, rfl⟩; refine ⟨rfl, ?_⟩)); conv => whnf) | ((refine call_e (cert_ok P _ _ hv) ?_); conv => whnf) | ((with_reducible refine slc_e ?_); conv => whnf) | ((with_reducible refine callS_a ?_); conv => whnf) | ((with_reducible refine own_e ?_); conv => whnf) | ((with_reducible refine branch_d (fun hq => ?_) (fun hq => ?_)) <;> (try (exfalso; omega)) <;> (conv => whnf)) | ((with_reducible refine branch_e (fun hq => ?_) (fun hq => ?_)) <;> (try (exfalso; omega)) <;> (conv => whnf)) | ((with_reducible refine branch_n (fun hq => ?_) (fun hq => ?_)) <;> (try (exfalso; omega)) <;> (conv => whnf)) | ((with_reducible refine branch_i (fun hq => ?_) (fun hq => ?_)) <;> (try (exfalso; omega)) <;> (conv => whnf))))
  · exact ret_t (rs := [.agg [.bool (bestF P).1, ints (bestF P).2.2, .int .i64 (bestF P).2.1, ndsV (certF P (bestF P).1 (bestF P).2.1)], .int .i64 0]) ⟨.inr ⟨_, _, rfl, rfl, rc_p rfl, rc_p rfl, rc_p rfl, rc_p rfl, trivial⟩, (rc_p rfl).g, trivial⟩ (by rw [solveV, if_pos hq])
  · exact ret_t (rs := [.agg [.bool false, ints [], .int .i64 0, .lst 7 []], .int .i64 1]) ⟨.inr ⟨_, _, rfl, rfl, rc_p rfl, rc_n, rc_p rfl, rc_n, trivial⟩, (rc_p rfl).g, trivial⟩ (by rw [solveV, if_neg (by simp [hq])])
end Go.Proofs.Ytjgaacjfoaohnaa
