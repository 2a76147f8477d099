/- Several texts in one: GL10d, GBr, GBr2, GL09k, GL09l, GL10e, GL10f, GL10g, GL10h, GL11g, GL06a, GL06b, GL10q. -/
import Derived.Test.YtiionjpinainlaaR3
import Derived.Test.YtiionjpinainlaaR1
import Derived.Test.YtiionjpinainlaaFrame
import Derived.Test.YtiionjpinainlaaMC
import Derived.Test.YtiionjpinainlaaR2
/- Layer 10: the certificate's tree. -/
section
namespace Go.Proofs.Ytiionjpinainlaa
set_option linter.unusedVariables false
set_option linter.unusedSimpArgs false
set_option linter.unnecessarySimpa false
set_option linter.unusedSectionVars false
set_option maxRecDepth 10000
open Go.RowKit
def plGL10d_0 : Plan := (.take 0 (.take 1 (.take 2 (.take 3 (.take 4 (.take 5 (.take 6 (.take 7 (.altE 8 (.take 9 (.take 10 (.altE 11 .done .stop))) .stop)))))))))
def plGL10d_1 : Plan := (.take 1 (.take 3 (.take 4 (.take 5 (.alt 0 (.take 6 (.take 7 (.alt 2 (.alt 8 (.take 9 (.take 10 (.alt 11 .done .stop))) .stop) (.alt 8 (.alt 2 (.take 9 (.take 10 (.alt 11 .done .stop))) .stop) .stop)))) (.alt 2 (.alt 0 (.take 6 (.take 7 (.alt 8 (.take 9 (.take 10 (.alt 11 .done .stop))) .stop))) .stop) .stop))))))
def plainN : Nd := ⟨3, 0, 0, 0, -1, 0, 1⟩
def leafN (P : Prog) (f : Bool) (b : Int) (o : Nat) (st : List Int) : Option Nd :=
  if 0 ≤ deadF P st then some ⟨2, 0, 0, 0, deadF P st, 0, 0⟩ else if o = st.length ∨ (f = true ∧ b ≤ boundF P st plainN) then some plainN else none
def treeF (P : Prog) (f : Bool) (b : Int) : Nat → Nat → List Int → Nat → List Nd
  | 0, o, st, base => [(leafN P f b o st).getD plainN]
  | m + 1, o, st, base => match leafN P f b o st with
    | some n => [n]
    | none => ⟨1, o, (base + 1 : Nat), (base + 1 + (treeF P f b m (o + 1) (st.set o 0) (base + 1)).length : Nat), 0, 0, 0⟩ :: (treeF P f b m (o + 1) (st.set o 0) (base + 1) ++ treeF P f b m (o + 1) (st.set o 1) (base + 1 + (treeF P f b m (o + 1) (st.set o 0) (base + 1)).length))
theorem tree_len {P : Prog} {f : Bool} {b : Int} : ∀ {m o : Nat} {st : List Int} {base : Nat}, (treeF P f b m o st base).length ≤ 2 ^ (m + 1) - 1
  | 0, o, st, base => by simp [treeF]
  | m + 1, o, st, base => by
    rw [treeF]
    split
    · have := Nat.one_le_two_pow (n := m + 1); rw [Nat.pow_succ]; simp; omega
    · have h1 := tree_len (P := P) (f := f) (b := b) (m := m) (o := o + 1) (st := st.set o 0) (base := base + 1)
      have h2 := tree_len (P := P) (f := f) (b := b) (m := m) (o := o + 1) (st := st.set o 1) (base := base + 1 + (treeF P f b m (o + 1) (st.set o 0) (base + 1)).length)
      have := Nat.one_le_two_pow (n := m + 1)
      rw [Nat.pow_succ]
      simp only [List.length_cons, List.length_append]
      omega
theorem tree_leaf {P : Prog} {f : Bool} {b : Int} {m o : Nat} {st : List Int} {base : Nat} {n : Nd} (h : leafN P f b o st = some n) : treeF P f b m o st base = [n] := by
  cases m with
  | zero => simp [treeF, h]
  | succ m => simp [treeF, h]
def growA : List AV := [.ptr 1000 0, .ptr 1001 0, .ptr 1002 0, .ptr 1003 0, .ptr 1004 0, .ptr 1005 0, .ptr 1006 0]
def gBx (P : Prog) (f : Bool) (b : Int) (st : List Int) (ns : List Nd) : List (Nat × List AV) := [(1000, [.own 1100 106 7 (ns.map encN)]), (1001, [ints P.costs, rowsV P.rows]), (1002, [.own 1102 3 1 (st.map encI)]), (1003, [.int .i64 3, .int .i64 0, .int .i64 0, .int .i64 0, .int .i64 (-1), .int .i64 0, .int .i64 1]), (1004, [.bool f]), (1005, [.int .i64 b]), (1006, [.fn 66 growA])]
theorem bound_plain {P : Prog} {st : List Int} (hv : validB P = true) (hs : stOB st P.costs.length = true) : boundV P st plainN = .tup [.int .i64 (boundF P st plainN), .bool true] := by
  have : okB P st plainN = true := by simp [okB, hv, hs, bndB, plainN]
  rw [boundV, this]
  rfl
theorem fits_of {P : Prog} (hv : validB P = true) : Fits P := by
  have h := validB_parts hv
  exact ⟨by omega, by omega, fun r hr => by have := (valid_rows hv hr).1; omega⟩
theorem snoc7 {xs : List Nd} {a b c d e f g : Int} : xs.map encN ++ [[AV.int .i64 a, AV.int .i64 b, AV.int .i64 c, AV.int .i64 d, AV.int .i64 e, AV.int .i64 f, AV.int .i64 g]] = (xs ++ [(⟨a, b, c, d, e, f, g⟩ : Nd)]).map encN := by simp [encN]
theorem un_set {st : List Int} {n o : Nat} {x : Int} (h : ∀ j, o ≤ j → j < n → nth st j = -1) : ∀ j, o + 1 ≤ j → j < n → nth (st.set o x) j = -1 := fun j h1 h2 => by
  rw [nth_set, if_neg (by omega)]; exact h j (by omega) h2
theorem set_back {st : List Int} {o : Nat} {x : Int} (h : nth st o = -1) (ho : o < st.length) : (st.set o x).set o (-1) = st := by
  rw [List.set_set]
  refine nth_ext (by simp) fun j hj => ?_
  rw [nth_set]
  split
  · next e => rw [e.1, h]
  · rfl
theorem place_at {ns a b : List Nd} {x : Nd} : (ns ++ [x] ++ a ++ b)[(((ns.map encN).length : Nat) : Int).toNat]? = some x := by
  rw [List.length_map, Int.toNat_natCast, List.append_assoc, List.append_assoc, List.getElem?_append_right (Nat.le_refl _), Nat.sub_self]
  rfl
theorem mod_at {ns a b : List Nd} {x : Nd} {g : Nd → Nd} : (ns ++ [x] ++ a ++ b).modify ns.length g = ns ++ [g x] ++ a ++ b := by
  rw [List.append_assoc, List.append_assoc, List.append_assoc, List.append_assoc]
  induction ns with
  | nil => rfl
  | cons y ns ih =>
    rw [List.cons_append, List.length_cons, List.modify_succ_cons, ih]
    rfl
theorem idx_modS {es : List (List AV)} {i : Nat} {f : List AV → List AV} {n : Int} {K : List AV → Prop} {cs : List AV} (h0 : 0 ≤ n) (hi : n.toNat = i) (h : es[i]? = some cs) (k : K (f cs)) : idx (es.modify i f) n K := by
  refine idx_i h0 ?_ k
  rw [hi, List.getElem?_modify, h]
  simp
theorem place_enc {ns a b : List Nd} {x : Nd} : ((ns ++ [x] ++ a ++ b).map encN)[(ns.map encN).length]? = some (encN x) := by
  have := place_at (ns := ns) (a := a) (b := b) (x := x)
  rw [Int.toNat_natCast] at this
  rw [List.getElem?_map, this]
  rfl
set_option maxHeartbeats 4000000 in
theorem grow_ok (P : Prog) (f : Bool) (b : Int) (hv : validB P = true) : ∀ (m o : Nat) (st : List Int) (ns : List Nd), m = P.costs.length - o → o ≤ P.costs.length → stOB st P.costs.length = true → (∀ j, o ≤ j → j < P.costs.length → nth st j = -1) → ns.length + 2 ^ (m + 1) ≤ 100000 →
    GoodM Try.prog TT false 66 (.int .i64 o :: growA) (gBx P f b st ns) (fun r ov bx => r = .int .i64 ns.length ∧ ov = [] ∧ bx = gBx P f b st (ns ++ treeF P f b m o st ns.length)) := by
  have hcl := (validB_parts hv).1
  have hfit := fits_of hv
  intro m
  induction m with
  | zero =>
    intro o st ns hm ho hst hun hns
    have hsl := st_len hst
    have LS : (st.map encI).length = st.length := List.length_map ..
    have LN : (ns.map encN).length = ns.length := List.length_map ..
    have hoe : o = st.length := by omega
    refine good_of_m (fun _ => false) mixed tabOk Try.func66 rfl rfl Try.ntmps66 Try.results66 rfl rfl ?_
    (conv => whnf); (repeat' (first | (refine arith_i ⟨by omega, by omega⟩ ?_; conv => whnf) | (refine arith_u ⟨by omega, by omega⟩ ?_; conv => whnf) | (refine arith_8 ⟨by omega, by omega⟩ ?_; conv => whnf) | (refine need_i (by first | omega | (simp only [List.length_cons, List.length_nil]; omega) | (simp only [List.length_append, List.length_cons, List.length_nil, List.length_map, List.length_replicate, List.length_modify]; omega)) ?_; conv => whnf) | ((with_reducible refine branch_tt ?_); conv => whnf) | ((with_reducible refine branch_ff ?_); conv => whnf) | (with_reducible refine branch_not ?_) | ((refine call_e (dead_ok P st hfit (by omega)) ?_); conv => whnf) | ((refine call_e ((bound_ok P st plainN hfit (by omega)).mono fun r h => h.trans (bound_plain hv hst)) ?_); conv => whnf) | ((simp only [snoc7]); conv => whnf) | ((with_reducible refine slc_e ?_); conv => whnf) | ((with_reducible refine callS_a ?_); conv => whnf) | ((with_reducible refine bld_a ?_); conv => whnf) | ((with_reducible refine own_e ?_); conv => whnf) | ((with_reducible refine mkmap_b ?_); conv => whnf) | (refine draw_i 12 plGL10d_0 (by decide +kernel) ?_; (conv => whnf); fail_if_success (guard_target =~ False)) | (refine draw_i 0 plGL10d_1 (by decide +kernel) ?_; (conv => whnf); fail_if_success (guard_target =~ False)) | ((with_reducible refine And.intro ?_ ?_) <;> (conv => whnf)) | (with_reducible exact trivial) | ((with_reducible refine branch_d (fun hq => ?_) (fun hq => ?_)) <;> (try (exfalso; omega)) <;> (conv => whnf)) | ((with_reducible refine branch_e (fun hq => ?_) (fun hq => ?_)) <;> (try (exfalso; omega)) <;> (conv => whnf)) | ((with_reducible refine branch_n (fun hq => ?_) (fun hq => ?_)) <;> (try (exfalso; omega)) <;> (conv => whnf)) | ((with_reducible refine branch_i (fun hq => ?_) (fun hq => ?_)) <;> (try (exfalso; omega)) <;> (conv => whnf))))
    all_goals first
      | (have hlf : leafN P f b o st = some ⟨2, 0, 0, 0, deadF P st, 0, 0⟩ := by rw [leafN, if_pos (by assumption)]
         rw [tree_leaf hlf]
         exact retM_i (.int .i64 ns.length) [] (gBx P f b st (ns ++ [⟨2, 0, 0, 0, deadF P st, 0, 0⟩])) rfl (le_mk ⟨by rw [← LN]; rfl, trivial⟩ ⟨rfl, rfl, rfl, rfl, rfl, rfl, rfl, trivial⟩ rfl) rfl ⟨rfl, rfl, rfl⟩)
      | (have hlf : leafN P f b o st = some plainN := by rw [leafN, if_neg (by assumption), if_pos (.inl hoe)]
         rw [tree_leaf hlf]
         exact retM_i (.int .i64 ns.length) [] (gBx P f b st (ns ++ [plainN])) rfl (le_mk ⟨by rw [← LN]; rfl, trivial⟩ ⟨rfl, rfl, rfl, rfl, rfl, rfl, rfl, trivial⟩ rfl) rfl ⟨rfl, rfl, rfl⟩)
  | succ m IH =>
    intro o st ns hm ho hst hun hns
    have hsl := st_len hst
    have LS : (st.map encI).length = st.length := List.length_map ..
    have LN : (ns.map encN).length = ns.length := List.length_map ..
    have h2 := Nat.one_le_two_pow (n := m + 1)
    rw [Nat.pow_succ] at hns
    refine good_of_m (fun _ => false) mixed tabOk Try.func66 rfl rfl Try.ntmps66 Try.results66 rfl rfl ?_
    have hIH := fun (x : Int) (ns' : List Nd) (h : -1 ≤ x ∧ x ≤ 1) (h' : ns'.length + 2 ^ (m + 1) ≤ 100000) (ho' : o < P.costs.length) => IH (o + 1) (st.set o x) ns' (by omega) (by omega) (stO_set hst h) (un_set hun) h'
    obtain ⟨n1, hn1⟩ : ∃ n1 : Nd, n1 = ⟨1, o, 0, 0, 0, 0, 0⟩ := ⟨_, rfl⟩
    obtain ⟨ns1, hns1⟩ : ∃ l, l = ns ++ [(⟨1, o, 0, 0, 0, 0, 0⟩ : Nd)] := ⟨_, rfl⟩
    have L1 : ns1.length = ns.length + 1 := by rw [hns1]; simp
    obtain ⟨z, hz⟩ : ∃ l, l = treeF P f b m (o + 1) (st.set o 0) ns1.length := ⟨_, rfl⟩
    have Lz : z.length ≤ 2 ^ (m + 1) - 1 := by rw [hz]; exact tree_len
    obtain ⟨ns2, hns2⟩ : ∃ l, l = ns1 ++ z := ⟨_, rfl⟩
    have L2 : ns2.length = ns1.length + z.length := by rw [hns2]; simp
    have hI1 := fun ho' => hIH 0 ns1 (by omega) (by omega) ho'
    have hI2 := fun ho' => hIH 1 ns2 (by omega) (by omega) ho'
    rw [← hz, ← hns2] at hI1
    (conv => whnf); (repeat' (first | (refine arith_i ⟨by omega, by omega⟩ ?_; conv => whnf) | (refine arith_u ⟨by omega, by omega⟩ ?_; conv => whnf) | (refine arith_8 ⟨by omega, by omega⟩ ?_; conv => whnf) | (refine need_i (by first | omega | (simp only [List.length_cons, List.length_nil]; omega) | (simp only [List.length_append, List.length_cons, List.length_nil, List.length_map, List.length_replicate, List.length_modify]; omega)) ?_; conv => whnf) | ((with_reducible refine branch_tt ?_); conv => whnf) | ((with_reducible refine branch_ff ?_); conv => whnf) | (with_reducible refine branch_not ?_) | ((refine call_e (dead_ok P st hfit (by omega)) ?_); conv => whnf) | ((refine call_e ((bound_ok P st plainN hfit (by omega)).mono fun r h => h.trans (bound_plain hv hst)) ?_); conv => whnf) | (((refine idx_m (xs := st) (by omega) (by omega) fun y hy => ?_)); conv => whnf) | ((simp only [snoc7, Int.toNat_natCast, ← hns1]); conv => whnf) | ((refine mcall_e [(1000, 1000), (1001, 1001), (1002, 1002), (1003, 1003), (1004, 1004), (1005, 1005), (1006, 1006)] [(1100, 1100), (1102, 1102)] (hI1 (by omega)) rfl rfl rfl ⟨⟨_, rfl, rfl, rfl⟩, ⟨_, rfl, rfl, rfl⟩, ⟨_, rfl, by rw [← encI_set (xs := st) (k := o) (y := 0)]; rfl, rfl⟩, ⟨_, rfl, rfl, rfl⟩, ⟨_, rfl, rfl, rfl⟩, ⟨_, rfl, rfl, rfl⟩, ⟨_, rfl, rfl, rfl⟩, trivial⟩ rfl ?_); conv => whnf) | ((refine mcall_e [(1000, 1000), (1001, 1001), (1002, 1002), (1003, 1003), (1004, 1004), (1005, 1005), (1006, 1006)] [(1100, 1100), (1102, 1102)] (hI2 (by omega)) rfl rfl rfl ⟨⟨_, rfl, rfl, rfl⟩, ⟨_, rfl, rfl, rfl⟩, ⟨_, rfl, by rw [show st.set o 1 = (st.set o 0).set o 1 by rw [List.set_set], ← encI_set (xs := st.set o 0) (k := o) (y := 1)]; rfl, rfl⟩, ⟨_, rfl, rfl, rfl⟩, ⟨_, rfl, rfl, rfl⟩, ⟨_, rfl, rfl, rfl⟩, ⟨_, rfl, rfl, rfl⟩, trivial⟩ rfl ?_); conv => whnf) | (((refine idx_m (xs := st.set o 0) (by omega) (by simp; omega) fun y hy => ?_)); conv => whnf) | (((refine idx_m (xs := st.set o 1) (by omega) (by simp; omega) fun y hy => ?_)); conv => whnf) | (((refine idx_ms (x := ⟨1, o, 0, 0, 0, 0, 0⟩) (by omega) (by rw [hns2, hns1]; exact place_at) ?_)); conv => whnf) | (((refine idx_modS (cs := encN ⟨1, o, 0, 0, 0, 0, 0⟩) (by omega) (by omega) (by rw [hns2, hns1]; exact place_enc) ?_)); conv => whnf) | ((with_reducible refine slc_e ?_); conv => whnf) | ((with_reducible refine callS_a ?_); conv => whnf) | ((with_reducible refine bld_a ?_); conv => whnf) | ((with_reducible refine own_e ?_); conv => whnf) | ((with_reducible refine mkmap_b ?_); conv => whnf) | (refine draw_i 12 plGL10d_0 (by decide +kernel) ?_; (conv => whnf); fail_if_success (guard_target =~ False)) | (refine draw_i 0 plGL10d_1 (by decide +kernel) ?_; (conv => whnf); fail_if_success (guard_target =~ False)) | ((with_reducible refine And.intro ?_ ?_) <;> (conv => whnf)) | (with_reducible exact trivial) | ((with_reducible refine branch_d (fun hq => ?_) (fun hq => ?_)) <;> (try (exfalso; omega)) <;> (conv => whnf)) | ((with_reducible refine branch_e (fun hq => ?_) (fun hq => ?_)) <;> (try (exfalso; omega)) <;> (conv => whnf)) | ((with_reducible refine branch_n (fun hq => ?_) (fun hq => ?_)) <;> (try (exfalso; omega)) <;> (conv => whnf)) | ((with_reducible refine branch_i (fun hq => ?_) (fun hq => ?_)) <;> (try (exfalso; omega)) <;> (conv => whnf))))
    all_goals first
      | (have hlf : leafN P f b o st = some ⟨2, 0, 0, 0, deadF P st, 0, 0⟩ := by rw [leafN, if_pos (by assumption)]
         rw [tree_leaf hlf]
         exact retM_i (.int .i64 ns.length) [] (gBx P f b st (ns ++ [⟨2, 0, 0, 0, deadF P st, 0, 0⟩])) rfl (le_mk ⟨by rw [← LN]; rfl, trivial⟩ ⟨rfl, rfl, rfl, rfl, rfl, rfl, rfl, trivial⟩ rfl) rfl ⟨rfl, rfl, rfl⟩)
      | (have hlf : leafN P f b o st = some plainN := by rw [leafN, if_neg (by assumption), if_pos (.inr ⟨by assumption, by assumption⟩)]
         rw [tree_leaf hlf]
         exact retM_i (.int .i64 ns.length) [] (gBx P f b st (ns ++ [plainN])) rfl (le_mk ⟨by rw [← LN]; rfl, trivial⟩ ⟨rfl, rfl, rfl, rfl, rfl, rfl, rfl, trivial⟩ rfl) rfl ⟨rfl, rfl, rfl⟩)
      | (have hlf : leafN P f b o st = none := by
           rw [leafN, if_neg (by assumption), if_neg]
           rintro (h | ⟨h, h'⟩)
           · omega
           · simp_all
         have hfin : ns ++ treeF P f b (m + 1) o st ns.length = ((ns2 ++ treeF P f b m (o + 1) (st.set o 1) ns2.length).modify ns.length (fun n => { n with zero := ns1.length })).modify ns.length (fun n => { n with one := ns2.length }) := by
           rw [treeF, hlf, hns2, hns1, mod_at, mod_at]
           simp only
           rw [← hns1, ← L1, ← hz, ← L2, hns2]
           simp
         have hback := set_back (x := 1) (hun o (Nat.le_refl _) (by omega)) (show o < st.length by omega)
         rw [hfin]
         refine retM_i (.int .i64 ns.length) [] (gBx P f b st (((ns2 ++ treeF P f b m (o + 1) (st.set o 1) ns2.length).modify ns.length (fun n => { n with zero := ns1.length })).modify ns.length (fun n => { n with one := ns2.length }))) rfl (le_mk ⟨by rw [← LN]; rfl, trivial⟩ ⟨?_, rfl, ?_, rfl, rfl, rfl, rfl, trivial⟩ rfl) rfl ⟨rfl, rfl, rfl⟩
         · rw [← map_modify (enc := encN) (f := fun c => c.set 3 (.int .i64 ns2.length)) (fun x => rfl), ← map_modify (enc := encN) (f := fun c => c.set 2 (.int .i64 ns1.length)) (fun x => rfl), ← LN]
           rfl
         · conv => rhs; rw [← hback]
           rw [← encI_set (xs := st.set o 1) (k := o) (y := -1)]
           rfl)
/-- The certificate. -/
def certF (P : Prog) (f : Bool) (b : Int) : List Nd := treeF P f b P.costs.length 0 (List.replicate P.costs.length (-1)) 0
set_option maxHeartbeats 4000000 in
theorem cert_ok (P : Prog) (f : Bool) (b : Int) (hv : validB P = true) : Good Try.prog TT false 36 [progV P, .bool f, .int .i64 b] (· = ndsV (certF P f b)) := by
  have hcl := (validB_parts hv).1
  have LC : (P.costs.map encI).length = P.costs.length := List.length_map ..
  have hpow : 2 ^ (P.costs.length + 1) ≤ 2 ^ 13 := Nat.pow_le_pow_right (by omega) (by omega)
  have hg := grow_ok P f b hv P.costs.length 0 (List.replicate P.costs.length (-1)) [] (by omega) (by omega) (by simp [stOB, tri9]) (fun j _ h => by simp [nth, List.getD_eq_getElem?_getD, h]) (by simp; omega)
  refine good_of mixed tabOk Try.func36 rfl rfl Try.ntmps36 Try.results36 rfl rfl ?_
  (conv => whnf); (repeat' (first | (refine arith_i ⟨by omega, by omega⟩ ?_; conv => whnf) | (refine arith_u ⟨by omega, by omega⟩ ?_; conv => whnf) | (refine arith_8 ⟨by omega, by omega⟩ ?_; conv => whnf) | (refine need_i (by first | omega | (simp only [List.length_cons, List.length_nil]; omega) | (simp only [List.length_append, List.length_cons, List.length_nil, List.length_map, List.length_replicate, List.length_modify]; omega)) ?_; conv => whnf) | ((with_reducible refine branch_tt ?_); conv => whnf) | ((with_reducible refine branch_ff ?_); conv => whnf) | (with_reducible refine branch_not ?_) | (((rw [LC]; refine call_e (repeat_ok P.costs.length hcl) ?_)); conv => whnf) | (((refine mcall_i [(1000, 9), (1001, 3), (1002, 7), (1003, 8), (1004, 4), (1005, 5), (1006, 10)] [(1100, 1100), (1102, 15)] _ (le_adoptBox 9 0 1100 106 7 rfl rfl) hg rfl rfl rfl ⟨⟨_, rfl, rfl, rfl⟩, ⟨_, rfl, rfl, rfl⟩, ⟨_, rfl, rfl, rfl⟩, ⟨_, rfl, rfl, rfl⟩, ⟨_, rfl, rfl, rfl⟩, ⟨_, rfl, rfl, rfl⟩, ⟨_, rfl, rfl, rfl⟩, trivial⟩ ?_; rintro r ov bx' ⟨rfl, rfl, rfl⟩; refine ⟨rfl, ?_⟩)); conv => whnf) | ((with_reducible refine slc_e ?_); conv => whnf) | ((with_reducible refine callS_a ?_); conv => whnf) | ((with_reducible refine bld_a ?_); conv => whnf) | ((with_reducible refine own_e ?_); conv => whnf) | ((with_reducible refine mkmap_b ?_); conv => whnf) | ((with_reducible refine branch_d (fun hq => ?_) (fun hq => ?_)) <;> (try (exfalso; omega)) <;> (conv => whnf)) | ((with_reducible refine branch_e (fun hq => ?_) (fun hq => ?_)) <;> (try (exfalso; omega)) <;> (conv => whnf)) | ((with_reducible refine branch_n (fun hq => ?_) (fun hq => ?_)) <;> (try (exfalso; omega)) <;> (conv => whnf)) | ((with_reducible refine branch_i (fun hq => ?_) (fun hq => ?_)) <;> (try (exfalso; omega)) <;> (conv => whnf))))
  exact ret_ol rfl
/-! Solve and All -/
/-- What Solve returns. -/
def solveV (P : Prog) : AV := if validB P = true then .tup [.agg [.bool (bestF P).1, ints (bestF P).2.2, .int .i64 (bestF P).2.1, ndsV (certF P (bestF P).1 (bestF P).2.1)], .int .i64 0] else .tup [.agg [.bool false, ints [], .int .i64 0, .lst 7 []], .int .i64 1]
set_option maxHeartbeats 4000000 in
theorem solve_ok (P : Prog) (hP : Fits P) : Good Try.prog TT false 9 [progV P] (· = solveV P) := by
  refine good_of mixed tabOk Try.func9 rfl rfl Try.ntmps9 Try.results9 rfl rfl ?_
  (conv => whnf); (repeat' (first | (refine arith_i ⟨by omega, by omega⟩ ?_; conv => whnf) | (refine arith_u ⟨by omega, by omega⟩ ?_; conv => whnf) | (refine arith_8 ⟨by omega, by omega⟩ ?_; conv => whnf) | (refine need_i (by first | omega | (simp only [List.length_cons, List.length_nil]; omega) | (simp only [List.length_append, List.length_cons, List.length_nil, List.length_map, List.length_replicate, List.length_modify]; omega)) ?_; conv => whnf) | ((with_reducible refine branch_tt ?_); conv => whnf) | ((with_reducible refine branch_ff ?_); conv => whnf) | (with_reducible refine branch_not ?_) | ((refine call_e (valid_ok P hP.1 hP.2.1 hP.2.2) ?_); conv => whnf) | (((have hv : validB P = true := hq; refine mcall_i [(1010, 4)] [] _ (le_nilBox 4 1 1 rfl rfl) (eachS_ok P (false, 0, []) hv trivial) rfl rfl rfl ⟨⟨_, rfl, rfl, rfl⟩, trivial⟩ ?_; rintro r ov bx' ⟨rfl, rfl, rfl⟩; refine ⟨rfl, ?_⟩)); conv => whnf) | ((refine call_e (cert_ok P _ _ hv) ?_); conv => whnf) | ((with_reducible refine slc_e ?_); conv => whnf) | ((with_reducible refine callS_a ?_); conv => whnf) | ((with_reducible refine bld_a ?_); conv => whnf) | ((with_reducible refine own_e ?_); conv => whnf) | ((with_reducible refine mkmap_b ?_); conv => whnf) | ((with_reducible refine branch_d (fun hq => ?_) (fun hq => ?_)) <;> (try (exfalso; omega)) <;> (conv => whnf)) | ((with_reducible refine branch_e (fun hq => ?_) (fun hq => ?_)) <;> (try (exfalso; omega)) <;> (conv => whnf)) | ((with_reducible refine branch_n (fun hq => ?_) (fun hq => ?_)) <;> (try (exfalso; omega)) <;> (conv => whnf)) | ((with_reducible refine branch_i (fun hq => ?_) (fun hq => ?_)) <;> (try (exfalso; omega)) <;> (conv => whnf))))
  · exact ret_t (rs := [.agg [.bool (bestF P).1, ints (bestF P).2.2, .int .i64 (bestF P).2.1, ndsV (certF P (bestF P).1 (bestF P).2.1)], .int .i64 0]) ⟨.inr ⟨_, _, rfl, rfl, rc_p rfl, rc_p rfl, rc_p rfl, rc_p rfl, trivial⟩, (rc_p rfl).g, trivial⟩ (by rw [solveV, if_pos hq])
  · exact ret_t (rs := [.agg [.bool false, ints [], .int .i64 0, .lst 7 []], .int .i64 1]) ⟨.inr ⟨_, _, rfl, rfl, rc_p rfl, rc_n, rc_p rfl, rc_n, trivial⟩, (rc_p rfl).g, trivial⟩ (by rw [solveV, if_neg (by simp [hq])])
end Go.Proofs.Ytiionjpinainlaa
end

/- From a contract of the interpreter to a law's call. -/
section
namespace Go.Proofs.Ytiionjpinainlaa
set_option linter.unusedVariables false
set_option linter.unusedSimpArgs false
set_option linter.unnecessarySimpa false
set_option linter.unusedSectionVars false
open Go.RowKit

end Go.Proofs.Ytiionjpinainlaa
end

/- From a contract of the interpreter to a law's call: any arguments; slices of strings. -/
section
namespace Go.Proofs.Ytiionjpinainlaa
set_option linter.unusedVariables false
set_option linter.unusedSimpArgs false
set_option linter.unnecessarySimpa false
set_option linter.unusedSectionVars false
open Go.RowKit

theorem law_all {f : Nat} {args : List AV} (hG : Good Try.prog TT false f args (· = .bool true)) {w : World} {us : List Value} (h : All2 (RepV w No) args us) :
    Calls Try.prog f us.toArray w (fun e w' => e = .returned (.bool true) ∧ Chg No w w') := by
  have hx : ∀ b, GX (G0 none No (none, 0, 0)) b → False := fun b hb => by rcases hb with hb | hb <;> simp_all [GM, G0, No]
  refine Calls.mono (hG.2 w No none us (none, 0, 0) (fun b hb => absurd hb no_) rfl (h.mono fun v u hr => RC.ra (RepV.rc (RepV.move hr (fun _ _ _ => rfl) fun b _ hb => (hx b hb).elim))) nofun) ?_
  rintro e w' ⟨u, r, rfl, rfl, hr, hc, -⟩
  have hu : RepV w' (GX (G0 none No (none, 0, 0))) (.bool true) u := hr
  cases hu
  exact ⟨rfl, hc.mono fun b _ hb => by cases hb⟩
theorem ints_row {w : World} {a : Option Addr} {len cap : Nat} {zs : List Int} (h : Ints w No a len cap zs) : RepV w No (ints zs) (.slice a len cap) := ints_rep h
theorem ints_max {w : World} {a : Option Addr} {len cap : Nat} {zs : List Int} (h : Ints w No a len cap zs) (hc : cap ≤ maxLen) : zs.length ≤ 9223372036854775807 := by
  have h1 := h.len
  have h2 := h.cap
  have h3 : maxLen = 9223372036854775807 := rfl
  omega
end Go.Proofs.Ytiionjpinainlaa
end

/- Layer 9: awake; the laws OptimalityMany and OptimalityBounds. -/
section
namespace Go.Proofs.Ytiionjpinainlaa
set_option linter.unusedVariables false
set_option linter.unusedSimpArgs false
set_option linter.unnecessarySimpa false
set_option linter.unusedSectionVars false
set_option maxRecDepth 10000
open Go.RowKit



end Go.Proofs.Ytiionjpinainlaa
end

/- Layer 9: Has, complete, Subset; valid programs of the tape. -/
section
namespace Go.Proofs.Ytiionjpinainlaa
set_option linter.unusedVariables false
set_option linter.unusedSimpArgs false
set_option linter.unnecessarySimpa false
set_option linter.unusedSectionVars false
set_option maxRecDepth 10000
open Go.RowKit

end Go.Proofs.Ytiionjpinainlaa
end

/- Layer 10: comparing lists; Repeat, of the program and of the reference. -/
section
namespace Go.Proofs.Ytiionjpinainlaa
set_option linter.unusedVariables false
set_option linter.unusedSimpArgs false
set_option linter.unnecessarySimpa false
set_option linter.unusedSectionVars false
set_option maxRecDepth 10000
open Go.RowKit
def plGL10e_0 : Plan := (.take 0 (.take 1 (.take 2 (.take 3 (.take 5 (.take 6 (.take 7 (.take 8 (.alt 4 (.take 9 (.alt 10 (.alt 11 (.take 12 (.alt 13 .done .stop)) .stop) .stop)) .stop)))))))))
set_option maxHeartbeats 2000000 in
theorem aChoice_ok (ch : List Int) (n : Nat) (hl : ch.length ≤ 1000000) (hn : n ≤ 1000000) : Good Try.prog TT false 45 [ints ch, .int .i64 n] (· = .bool (choiceB ch n)) := by
  have L : (ch.map encI).length = ch.length := List.length_map ..
  refine good_of mixed tabOk Try.func45 rfl rfl Try.ntmps45 Try.results45 rfl rfl ?_
  (conv => whnf); (repeat (first | (refine arith_i ⟨by omega, by omega⟩ ?_; conv => whnf) | (refine need_i (by first | omega | (simp only [List.length_append, List.length_cons, List.length_nil]; omega)) ?_; conv => whnf) | ((with_reducible refine branch_tt ?_); conv => whnf) | ((with_reducible refine branch_ff ?_); conv => whnf) | (with_reducible refine branch_not ?_) | ((with_reducible refine slc_e ?_); conv => whnf) | ((with_reducible refine callS_a ?_); conv => whnf) | ((with_reducible refine bld_a ?_); conv => whnf) | ((with_reducible refine own_e ?_); conv => whnf) | ((with_reducible refine mkmap_b ?_); conv => whnf)))
  refine loop_i (fun k : Nat => k ≤ ch.length ∧ ChTo ch n k) (fun k => mkSt [(0, ints ch), (1, .int .i64 n), (7, ints ch), (8, .int .i64 (ch.map encI).length), (9, .int .i64 k)] [] false) (fun k => ch.length - k) 0 ⟨Nat.zero_le _, ChTo.zero⟩ (le_mk ⟨rfl, rfl, rfl, rfl, rfl, trivial⟩ trivial rfl) ?_
  rintro k ⟨hk, hall⟩
  (conv => whnf); (repeat (first | (refine arith_i ⟨by omega, by omega⟩ ?_; conv => whnf) | (refine need_i (by first | omega | (simp only [List.length_append, List.length_cons, List.length_nil]; omega)) ?_; conv => whnf) | ((with_reducible refine branch_tt ?_); conv => whnf) | ((with_reducible refine branch_ff ?_); conv => whnf) | (with_reducible refine branch_not ?_) | ((with_reducible refine slc_e ?_); conv => whnf) | ((with_reducible refine callS_a ?_); conv => whnf) | ((with_reducible refine bld_a ?_); conv => whnf) | ((with_reducible refine own_e ?_); conv => whnf) | ((with_reducible refine mkmap_b ?_); conv => whnf)))
  refine branch_d (fun h => ?_) (fun h => ?_)
  · (conv => whnf); (repeat (first | (refine arith_i ⟨by omega, by omega⟩ ?_; conv => whnf) | (refine need_i (by first | omega | (simp only [List.length_append, List.length_cons, List.length_nil]; omega)) ?_; conv => whnf) | ((with_reducible refine branch_tt ?_); conv => whnf) | ((with_reducible refine branch_ff ?_); conv => whnf) | (with_reducible refine branch_not ?_) | ((with_reducible refine slc_e ?_); conv => whnf) | ((with_reducible refine callS_a ?_); conv => whnf) | ((with_reducible refine bld_a ?_); conv => whnf) | ((with_reducible refine own_e ?_); conv => whnf) | ((with_reducible refine mkmap_b ?_); conv => whnf)))
    refine idx_m (by omega) (by omega) fun y hy => ?_
    rw [Int.toNat_natCast] at hy
    have hn := nth_eq hy
    (conv => whnf); (repeat (first | (refine arith_i ⟨by omega, by omega⟩ ?_; conv => whnf) | (refine need_i (by first | omega | (simp only [List.length_append, List.length_cons, List.length_nil]; omega)) ?_; conv => whnf) | ((with_reducible refine branch_tt ?_); conv => whnf) | ((with_reducible refine branch_ff ?_); conv => whnf) | (with_reducible refine branch_not ?_) | ((with_reducible refine slc_e ?_); conv => whnf) | ((with_reducible refine callS_a ?_); conv => whnf) | ((with_reducible refine bld_a ?_); conv => whnf) | ((with_reducible refine own_e ?_); conv => whnf) | ((with_reducible refine mkmap_b ?_); conv => whnf)))
    refine branch_d (fun h1 => ?_) (fun h1 => ?_)
    · (conv => whnf); (repeat (first | (refine arith_i ⟨by omega, by omega⟩ ?_; conv => whnf) | (refine need_i (by first | omega | (simp only [List.length_append, List.length_cons, List.length_nil]; omega)) ?_; conv => whnf) | ((with_reducible refine branch_tt ?_); conv => whnf) | ((with_reducible refine branch_ff ?_); conv => whnf) | (with_reducible refine branch_not ?_) | ((with_reducible refine slc_e ?_); conv => whnf) | ((with_reducible refine callS_a ?_); conv => whnf) | ((with_reducible refine bld_a ?_); conv => whnf) | ((with_reducible refine own_e ?_); conv => whnf) | ((with_reducible refine mkmap_b ?_); conv => whnf)))
      exact ret_p rfl (bool_eq (ch_fail (k := k) (by omega) (by simp [choiceAt, hn]; omega)).symm)
    · (conv => whnf); (repeat (first | (refine arith_i ⟨by omega, by omega⟩ ?_; conv => whnf) | (refine need_i (by first | omega | (simp only [List.length_append, List.length_cons, List.length_nil]; omega)) ?_; conv => whnf) | ((with_reducible refine branch_tt ?_); conv => whnf) | ((with_reducible refine branch_ff ?_); conv => whnf) | (with_reducible refine branch_not ?_) | ((with_reducible refine slc_e ?_); conv => whnf) | ((with_reducible refine callS_a ?_); conv => whnf) | ((with_reducible refine bld_a ?_); conv => whnf) | ((with_reducible refine own_e ?_); conv => whnf) | ((with_reducible refine mkmap_b ?_); conv => whnf)))
      refine branch_d (fun h2 => ?_) (fun h2 => ?_)
      · (conv => whnf); (repeat (first | (refine arith_i ⟨by omega, by omega⟩ ?_; conv => whnf) | (refine need_i (by first | omega | (simp only [List.length_append, List.length_cons, List.length_nil]; omega)) ?_; conv => whnf) | ((with_reducible refine branch_tt ?_); conv => whnf) | ((with_reducible refine branch_ff ?_); conv => whnf) | (with_reducible refine branch_not ?_) | ((with_reducible refine slc_e ?_); conv => whnf) | ((with_reducible refine callS_a ?_); conv => whnf) | ((with_reducible refine bld_a ?_); conv => whnf) | ((with_reducible refine own_e ?_); conv => whnf) | ((with_reducible refine mkmap_b ?_); conv => whnf)))
        exact ret_p rfl (bool_eq (ch_fail (k := k) (by omega) (by simp [choiceAt, hn]; omega)).symm)
      · (conv => whnf); (repeat (first | (refine arith_i ⟨by omega, by omega⟩ ?_; conv => whnf) | (refine need_i (by first | omega | (simp only [List.length_append, List.length_cons, List.length_nil]; omega)) ?_; conv => whnf) | ((with_reducible refine branch_tt ?_); conv => whnf) | ((with_reducible refine branch_ff ?_); conv => whnf) | (with_reducible refine branch_not ?_) | ((with_reducible refine slc_e ?_); conv => whnf) | ((with_reducible refine callS_a ?_); conv => whnf) | ((with_reducible refine bld_a ?_); conv => whnf) | ((with_reducible refine own_e ?_); conv => whnf) | ((with_reducible refine mkmap_b ?_); conv => whnf)))
        refine branch_d (fun h3 => ?_) (fun h3 => ?_)
        · (conv => whnf); (repeat (first | (refine arith_i ⟨by omega, by omega⟩ ?_; conv => whnf) | (refine need_i (by first | omega | (simp only [List.length_append, List.length_cons, List.length_nil]; omega)) ?_; conv => whnf) | ((with_reducible refine branch_tt ?_); conv => whnf) | ((with_reducible refine branch_ff ?_); conv => whnf) | (with_reducible refine branch_not ?_) | ((with_reducible refine slc_e ?_); conv => whnf) | ((with_reducible refine callS_a ?_); conv => whnf) | ((with_reducible refine bld_a ?_); conv => whnf) | ((with_reducible refine own_e ?_); conv => whnf) | ((with_reducible refine mkmap_b ?_); conv => whnf)))
          refine idx_m (by omega) (by omega) fun z hz => ?_
          have e1 : ((k : Int) - 1).toNat = k - 1 := by omega
          rw [e1] at hz
          have hz' := nth_eq hz
          (conv => whnf); (repeat (first | (refine arith_i ⟨by omega, by omega⟩ ?_; conv => whnf) | (refine need_i (by first | omega | (simp only [List.length_append, List.length_cons, List.length_nil]; omega)) ?_; conv => whnf) | ((with_reducible refine branch_tt ?_); conv => whnf) | ((with_reducible refine branch_ff ?_); conv => whnf) | (with_reducible refine branch_not ?_) | ((with_reducible refine slc_e ?_); conv => whnf) | ((with_reducible refine callS_a ?_); conv => whnf) | ((with_reducible refine bld_a ?_); conv => whnf) | ((with_reducible refine own_e ?_); conv => whnf) | ((with_reducible refine mkmap_b ?_); conv => whnf)))
          refine branch_d (fun h4 => ?_) (fun h4 => ?_)
          · (conv => whnf); (repeat (first | (refine arith_i ⟨by omega, by omega⟩ ?_; conv => whnf) | (refine need_i (by first | omega | (simp only [List.length_append, List.length_cons, List.length_nil]; omega)) ?_; conv => whnf) | ((with_reducible refine branch_tt ?_); conv => whnf) | ((with_reducible refine branch_ff ?_); conv => whnf) | (with_reducible refine branch_not ?_) | ((with_reducible refine slc_e ?_); conv => whnf) | ((with_reducible refine callS_a ?_); conv => whnf) | ((with_reducible refine bld_a ?_); conv => whnf) | ((with_reducible refine own_e ?_); conv => whnf) | ((with_reducible refine mkmap_b ?_); conv => whnf)))
            exact ret_p rfl (bool_eq (ch_fail (k := k) (by omega) (by simp [choiceAt, hn, hz']; omega)).symm)
          · (conv => whnf); (repeat (first | (refine arith_i ⟨by omega, by omega⟩ ?_; conv => whnf) | (refine need_i (by first | omega | (simp only [List.length_append, List.length_cons, List.length_nil]; omega)) ?_; conv => whnf) | ((with_reducible refine branch_tt ?_); conv => whnf) | ((with_reducible refine branch_ff ?_); conv => whnf) | (with_reducible refine branch_not ?_) | ((with_reducible refine slc_e ?_); conv => whnf) | ((with_reducible refine callS_a ?_); conv => whnf) | ((with_reducible refine bld_a ?_); conv => whnf) | ((with_reducible refine own_e ?_); conv => whnf) | ((with_reducible refine mkmap_b ?_); conv => whnf)))
            exact ⟨k + 1, ⟨by omega, hall.step (by simp [choiceAt, hn, hz']; omega)⟩, le_mk ⟨rfl, rfl, rfl, rfl, rfl, trivial⟩ trivial rfl, by omega⟩
        · (conv => whnf); (repeat (first | (refine arith_i ⟨by omega, by omega⟩ ?_; conv => whnf) | (refine need_i (by first | omega | (simp only [List.length_append, List.length_cons, List.length_nil]; omega)) ?_; conv => whnf) | ((with_reducible refine branch_tt ?_); conv => whnf) | ((with_reducible refine branch_ff ?_); conv => whnf) | (with_reducible refine branch_not ?_) | ((with_reducible refine slc_e ?_); conv => whnf) | ((with_reducible refine callS_a ?_); conv => whnf) | ((with_reducible refine bld_a ?_); conv => whnf) | ((with_reducible refine own_e ?_); conv => whnf) | ((with_reducible refine mkmap_b ?_); conv => whnf)))
          exact ⟨k + 1, ⟨by omega, hall.step (by have : k = 0 := by omega
                                                 simp [choiceAt, hn, this] at h1 h2 ⊢
                                                 subst this
                                                 simp [hn]
                                                 omega)⟩, le_mk ⟨rfl, rfl, rfl, rfl, rfl, trivial⟩ trivial rfl, by omega⟩
  · (conv => whnf); (repeat (first | (refine arith_i ⟨by omega, by omega⟩ ?_; conv => whnf) | (refine need_i (by first | omega | (simp only [List.length_append, List.length_cons, List.length_nil]; omega)) ?_; conv => whnf) | ((with_reducible refine branch_tt ?_); conv => whnf) | ((with_reducible refine branch_ff ?_); conv => whnf) | (with_reducible refine branch_not ?_) | ((with_reducible refine slc_e ?_); conv => whnf) | ((with_reducible refine callS_a ?_); conv => whnf) | ((with_reducible refine bld_a ?_); conv => whnf) | ((with_reducible refine own_e ?_); conv => whnf) | ((with_reducible refine mkmap_b ?_); conv => whnf)))
    exact ret_p rfl (bool_eq (hall.full (by omega)).symm)
/-- The row that excludes a choice. -/
def repCo (n : Nat) (ch : List Int) : List Int := (List.range n).map fun i : Nat => if hasB ch (i : Int) then 1 else -1
def repRow (n : Nat) (ch : List Int) : Row := ⟨repCo n ch, -12, ch.length - 1⟩
/-- The program without a choice. -/
def repP (P : Prog) (ch : List Int) : Prog := ⟨P.costs, P.rows ++ [repRow P.costs.length ch]⟩
def repE (P : Prog) (f : Bool) (ch : List Int) : Int := if validB P = false then 1 else if f = false ∨ choiceB ch P.costs.length = false then 10 else if 60 ≤ P.rows.length then 3 else 0
def repV (P : Prog) (f : Bool) (ch : List Int) : AV := .tup [if repE P f ch = 0 then progV (repP P ch) else progV ⟨[], []⟩, .int .i64 (repE P f ch)]
theorem repCo_nil {n : Nat} : repCo n [] = List.replicate n (-1) := by
  refine List.ext_getElem? fun i => ?_
  rw [repCo, List.getElem?_map, List.getElem?_replicate]
  split
  · next h => rw [List.getElem?_range h]; simp [hasB]
  · next h => rw [List.getElem?_eq_none (by simp; omega)]; rfl
theorem repCo_set {n j : Nat} {ch : List Int} {c : Int} (hc : ch[j]? = some c) (hn : 0 ≤ c ∧ c < n) : repCo n (ch.take (j + 1)) = (repCo n (ch.take j)).set c.toNat 1 := by
  have htk : ch.take (j + 1) = ch.take j ++ [c] := by rw [List.take_add_one, hc]; rfl
  refine List.ext_getElem? fun i => ?_
  rw [htk, List.getElem?_set, repCo, repCo, List.getElem?_map, List.getElem?_map]
  rcases Nat.lt_or_ge i n with h | h
  · rw [List.getElem?_range h]
    simp only [Option.toList_some, Option.map_some, List.length_map, List.length_range]
    by_cases e : c.toNat = i
    · have hm : hasB (ch.take j ++ [c]) (i : Int) = true := hasB_iff.2 (List.mem_append.2 (.inr (by simp; omega)))
      rw [if_pos e, if_pos hm, if_pos (show c.toNat < n by omega)]
    · rw [if_neg e]
      have hm : hasB (ch.take j ++ [c]) (i : Int) = hasB (ch.take j) (i : Int) := by
        rw [Bool.eq_iff_iff, hasB_iff, hasB_iff, List.mem_append]
        exact ⟨fun h => h.elim id fun h => by simp at h; omega, .inl⟩
      rw [hm]
  · rw [List.getElem?_eq_none (by simp; omega)]
    split
    · next e => simp; omega
    · rfl
theorem rep_err {P : Prog} {f : Bool} {ch : List Int} {e : Int} (h : repE P f ch = e) (he : e ≠ 0) : aret (.tup [.agg [.nil, .nil], .int .i64 e]) (· = repV P f ch) :=
  ret_t (rs := [progV ⟨[], []⟩, .int .i64 e]) ⟨.inr ⟨_, _, rfl, rfl, rc_n, rc_n, trivial⟩, (rc_p rfl).g, trivial⟩ (by rw [repV, h, if_neg he])
set_option maxHeartbeats 4000000 in
theorem repeatP_ok (P : Prog) (pl : Pln) (hP : Fits P) (hc : pl.chosen.length ≤ 1000000) : Good Try.prog TT false 17 [progV P, planV pl] (· = repV P pl.found pl.chosen) := by
  have LC : (P.costs.map encI).length = P.costs.length := List.length_map ..
  have LR : (P.rows.map encRow).length = P.rows.length := List.length_map ..
  have LH : (pl.chosen.map encI).length = pl.chosen.length := List.length_map ..
  refine good_of mixed tabOk Try.func17 rfl rfl Try.ntmps17 Try.results17 rfl rfl ?_
  (conv => whnf); (repeat' (first | (refine arith_i ⟨by omega, by omega⟩ ?_; conv => whnf) | (refine arith_u ⟨by omega, by omega⟩ ?_; conv => whnf) | (refine arith_8 ⟨by omega, by omega⟩ ?_; conv => whnf) | (refine need_i (by first | omega | (simp only [List.length_cons, List.length_nil]; omega) | (simp only [List.length_append, List.length_cons, List.length_nil, List.length_map, List.length_replicate, List.length_modify]; omega)) ?_; conv => whnf) | ((with_reducible refine branch_tt ?_); conv => whnf) | ((with_reducible refine branch_ff ?_); conv => whnf) | (with_reducible refine branch_not ?_) | ((refine call_e (valid_ok P hP.1 hP.2.1 hP.2.2) ?_); conv => whnf) | (((rw [LC]; refine call_e (aChoice_ok pl.chosen P.costs.length hc hP.1) ?_)); conv => whnf) | (((refine call_e (clone_ok P.costs hP.1) ?_)); conv => whnf) | ((with_reducible refine slc_e ?_); conv => whnf) | ((with_reducible refine callS_a ?_); conv => whnf) | ((with_reducible refine bld_a ?_); conv => whnf) | ((with_reducible refine own_e ?_); conv => whnf) | ((with_reducible refine mkmap_b ?_); conv => whnf) | (refine draw_i 13 plGL10e_0 (by decide +kernel) ?_; (conv => whnf); fail_if_success (guard_target =~ False)) | ((with_reducible refine And.intro ?_ ?_) <;> (conv => whnf)) | (with_reducible exact trivial) | ((with_reducible refine branch_d (fun hq => ?_) (fun hq => ?_)) <;> (try (exfalso; omega)) <;> (conv => whnf)) | ((with_reducible refine branch_e (fun hq => ?_) (fun hq => ?_)) <;> (try (exfalso; omega)) <;> (conv => whnf)) | ((with_reducible refine branch_n (fun hq => ?_) (fun hq => ?_)) <;> (try (exfalso; omega)) <;> (conv => whnf)) | ((with_reducible refine branch_i (fun hq => ?_) (fun hq => ?_)) <;> (try (exfalso; omega)) <;> (conv => whnf))))
  · exact rep_err (by rw [repE, if_neg (by simp [*]), if_neg (by simp [*]), if_pos (by omega)]) (by omega)
  · have hv : validB P = true := by assumption
    have hch : choiceB pl.chosen P.costs.length = true := by assumption
    have hcl := (validB_parts hv).1
    have hch2 := fun j h => choice_in (i := j) hch h
    refine loop_i (fun k : Nat => k ≤ P.rows.length) (fun k => mkSt [(2, .ptr 2 0), (3, .ptr 3 0), (4, .ptr 4 0), (6, .ptr 6 0), (39, rowsV P.rows), (40, .int .i64 (P.rows.map encRow).length), (41, .int .i64 k)] [(2, [ints P.costs, rowsV P.rows]), (3, [.bool pl.found, ints pl.chosen, .int .i64 pl.cost, ndsV pl.nodes]), (4, [.nil, .nil]), (6, [.own 36 3 1 (P.costs.map encI), .own 900 28 3 ((P.rows.take k).map encRow)])] false) (fun k => P.rows.length - k) 0 (Nat.zero_le _) (Le.trans (le_adoptBox 6 1 900 28 3 rfl rfl) (le_mk (by repeat' (first | exact trivial | rfl | apply And.intro)) (by repeat' (first | exact trivial | rfl | apply And.intro)) rfl)) ?_
    intro k hk
    have LT : ((P.rows.take k).map encRow).length = k := by simp; omega
    have LT2 : (P.rows.take k).length = k := by simp; omega
    (conv => whnf); (repeat' (first | (refine arith_i ⟨by omega, by omega⟩ ?_; conv => whnf) | (refine arith_u ⟨by omega, by omega⟩ ?_; conv => whnf) | (refine arith_8 ⟨by omega, by omega⟩ ?_; conv => whnf) | (refine need_i (by first | omega | (simp only [List.length_cons, List.length_nil]; omega) | (simp only [List.length_append, List.length_cons, List.length_nil, List.length_map, List.length_replicate, List.length_modify]; omega)) ?_; conv => whnf) | ((with_reducible refine branch_tt ?_); conv => whnf) | ((with_reducible refine branch_ff ?_); conv => whnf) | (with_reducible refine branch_not ?_) | (((refine idx_c (xs := P.rows) (by omega) fun r hrr => ?_; have hvr := valid_rows hv (List.mem_of_getElem? hrr); have hsn : (P.rows.take (k + 1)).map encRow = (P.rows.take k).map encRow ++ [encRow r] := (by rw [List.take_add_one, hrr, List.map_append]; rfl))); conv => whnf) | ((refine call_e (clone_ok r.coefs (by omega)) ?_); conv => whnf) | (((rw [LC]; refine call_e (repeat_ok P.costs.length hcl) ?_)); conv => whnf) | ((with_reducible refine slc_e ?_); conv => whnf) | ((with_reducible refine callS_a ?_); conv => whnf) | ((with_reducible refine bld_a ?_); conv => whnf) | ((with_reducible refine own_e ?_); conv => whnf) | ((with_reducible refine mkmap_b ?_); conv => whnf) | (refine draw_i 13 plGL10e_0 (by decide +kernel) ?_; (conv => whnf); fail_if_success (guard_target =~ False)) | ((with_reducible refine And.intro ?_ ?_) <;> (conv => whnf)) | (with_reducible exact trivial) | ((with_reducible refine branch_d (fun hq => ?_) (fun hq => ?_)) <;> (try (exfalso; omega)) <;> (conv => whnf)) | ((with_reducible refine branch_e (fun hq => ?_) (fun hq => ?_)) <;> (try (exfalso; omega)) <;> (conv => whnf)) | ((with_reducible refine branch_n (fun hq => ?_) (fun hq => ?_)) <;> (try (exfalso; omega)) <;> (conv => whnf)) | ((with_reducible refine branch_i (fun hq => ?_) (fun hq => ?_)) <;> (try (exfalso; omega)) <;> (conv => whnf))))
    · exact ⟨k + 1, by omega, by rw [hsn]; exact (le_mk (by repeat' (first | exact trivial | rfl | apply And.intro)) (by repeat' (first | exact trivial | rfl | apply And.intro)) rfl), by omega⟩
    · have hkk : P.rows.take k = P.rows := List.take_of_length_le (by omega)
      rw [hkk]
      refine loop_i (fun j : Nat => j ≤ pl.chosen.length) (fun j => mkSt [(3, .ptr 3 0), (4, .ptr 4 0), (6, .ptr 6 0), (9, .own 63 3 1 ((repCo P.costs.length (pl.chosen.take j)).map encI)), (65, ints pl.chosen), (66, .int .i64 (pl.chosen.map encI).length), (67, .int .i64 j)] [(2, [ints P.costs, rowsV P.rows]), (3, [.bool pl.found, ints pl.chosen, .int .i64 pl.cost, ndsV pl.nodes]), (4, [.nil, .nil]), (6, [.own 36 3 1 (P.costs.map encI), .own 900 28 3 (P.rows.map encRow)])] false) (fun j => pl.chosen.length - j) 0 (Nat.zero_le _) (by rw [List.take_zero, repCo_nil]; exact (le_mk (by repeat' (first | exact trivial | rfl | apply And.intro)) (by repeat' (first | exact trivial | rfl | apply And.intro)) rfl)) ?_
      intro j hj
      have LQ : ((repCo P.costs.length (pl.chosen.take j)).map encI).length = P.costs.length := by simp [repCo]
      have LQ2 : (repCo P.costs.length (pl.chosen.take j)).length = P.costs.length := by simp [repCo]
      (conv => whnf); (repeat' (first | (refine arith_i ⟨by omega, by omega⟩ ?_; conv => whnf) | (refine arith_u ⟨by omega, by omega⟩ ?_; conv => whnf) | (refine arith_8 ⟨by omega, by omega⟩ ?_; conv => whnf) | (refine need_i (by first | omega | (simp only [List.length_cons, List.length_nil]; omega) | (simp only [List.length_append, List.length_cons, List.length_nil, List.length_map, List.length_replicate, List.length_modify]; omega)) ?_; conv => whnf) | ((with_reducible refine branch_tt ?_); conv => whnf) | ((with_reducible refine branch_ff ?_); conv => whnf) | (with_reducible refine branch_not ?_) | (((refine idx_c (xs := pl.chosen) (by omega) fun c hcc => ?_; have hci := hch2 j (by omega); have hcn := nth_eq hcc; rw [hcn] at hci)); conv => whnf) | (((refine idx_m (xs := repCo P.costs.length (pl.chosen.take j)) (by omega) (by omega) fun y hy => ?_)); conv => whnf) | ((with_reducible refine slc_e ?_); conv => whnf) | ((with_reducible refine callS_a ?_); conv => whnf) | ((with_reducible refine bld_a ?_); conv => whnf) | ((with_reducible refine own_e ?_); conv => whnf) | ((with_reducible refine mkmap_b ?_); conv => whnf) | (refine draw_i 13 plGL10e_0 (by decide +kernel) ?_; (conv => whnf); fail_if_success (guard_target =~ False)) | ((with_reducible refine And.intro ?_ ?_) <;> (conv => whnf)) | (with_reducible exact trivial) | ((with_reducible refine branch_d (fun hq => ?_) (fun hq => ?_)) <;> (try (exfalso; omega)) <;> (conv => whnf)) | ((with_reducible refine branch_e (fun hq => ?_) (fun hq => ?_)) <;> (try (exfalso; omega)) <;> (conv => whnf)) | ((with_reducible refine branch_n (fun hq => ?_) (fun hq => ?_)) <;> (try (exfalso; omega)) <;> (conv => whnf)) | ((with_reducible refine branch_i (fun hq => ?_) (fun hq => ?_)) <;> (try (exfalso; omega)) <;> (conv => whnf))))
      · refine ⟨j + 1, by omega, ?_, by omega⟩
        rw [repCo_set hcc hci]
        exact le_mk ⟨rfl, rfl, rfl, by rw [← encI_set]; rfl, rfl, rfl, rfl, trivial⟩ ⟨rfl, rfl, rfl, rfl, trivial⟩ rfl
      · have hjj : pl.chosen.take j = pl.chosen := List.take_of_length_le (by omega)
        rw [hjj]
        have e0 : repE P pl.found pl.chosen = 0 := by rw [repE, if_neg (by simp [*]), if_neg (by simp [*]), if_neg (by omega)]
        exact ret_t (rs := [progV (repP P pl.chosen), .int .i64 0]) ⟨.inr ⟨_, _, rfl, rfl, rc_o, rc_o' (by rw [repP, List.map_append, LH]; rfl), trivial⟩, (rc_p rfl).g, trivial⟩ (by rw [repV, e0]; rfl)
  · exact rep_err (by rw [repE, if_neg (by simp [*]), if_pos (by simp [*])]) (by omega)
  · exact rep_err (by rw [repE, if_neg (by simp [*]), if_pos (by simp [*])]) (by omega)
  · exact rep_err (by rw [repE, if_pos (by assumption)]) (by omega)
end Go.Proofs.Ytiionjpinainlaa
end

/- Layer 10: awake. -/
section
namespace Go.Proofs.Ytiionjpinainlaa
set_option linter.unusedVariables false
set_option linter.unusedSimpArgs false
set_option linter.unnecessarySimpa false
set_option linter.unusedSectionVars false
set_option maxRecDepth 10000
open Go.RowKit
def aP1 : Prog := ⟨[3, 5, 3], [⟨[1, 1, 1], 1, 3⟩]⟩
def aP2 : Prog := repP aP1 [0]
def aL1 : Pln := ⟨true, [0], 3, certF aP1 true 3⟩
def aL2 : Pln := ⟨true, [2], 3, certF aP2 true 3⟩
theorem fits1 : Fits aP1 := ⟨by decide, by decide, by decide⟩
theorem fits2 : Fits aP2 := ⟨by decide, by decide, by decide⟩
theorem best1 : bestF aP1 = (true, 3, [0]) := by decide +kernel
theorem best2 : bestF aP2 = (true, 3, [2]) := by decide +kernel
theorem valid1 : validB aP1 = true := by decide +kernel
theorem valid2 : validB aP2 = true := by decide +kernel
theorem solve1 : solveV aP1 = .tup [planV aL1, .int .i64 0] := by rw [solveV, if_pos valid1, best1]; rfl
theorem solve2 : solveV aP2 = .tup [planV aL2, .int .i64 0] := by rw [solveV, if_pos valid2, best2]; rfl
theorem rep1 : repV aP1 true [0] = .tup [progV aP2, .int .i64 0] := by
  have : repE aP1 true [0] = 0 := by decide +kernel
  rw [repV, this]; rfl
theorem check1 : checkF aP1 aL1 = 0 := by decide +kernel
theorem cert1 : (certF aP1 true 3).length ≤ 1000000 := Nat.le_trans tree_len (by decide +kernel)
set_option maxHeartbeats 2000000 in
theorem awake10_ok : Good Try.prog TT false 11 [] (· = .bool true) := by
  have hS1 := (solve_ok aP1 fits1).mono fun r h => h.trans solve1
  have hS2 := (solve_ok aP2 fits2).mono fun r h => h.trans solve2
  have hR := (repeatP_ok aP1 aL1 fits1 (by decide)).mono fun r h => h.trans rep1
  have hC := (check_ok aP1 aL1 fits1 cert1 (by decide)).mono fun r h => h.trans (int_eq check1)
  have hI1 := ints_ok [0] [0] (by decide) (by decide)
  have hI2 := ints_ok [2] [2] (by decide) (by decide)
  refine good_of mixed tabOk Try.func11 rfl rfl Try.ntmps11 Try.results11 rfl rfl ?_
  (conv => whnf); (repeat' (first | (refine arith_i ⟨by omega, by omega⟩ ?_; conv => whnf) | (refine arith_u ⟨by omega, by omega⟩ ?_; conv => whnf) | (refine arith_8 ⟨by omega, by omega⟩ ?_; conv => whnf) | (refine need_i (by first | omega | (simp only [List.length_cons, List.length_nil]; omega) | (simp only [List.length_append, List.length_cons, List.length_nil, List.length_map, List.length_replicate, List.length_modify]; omega)) ?_; conv => whnf) | ((with_reducible refine branch_tt ?_); conv => whnf) | ((with_reducible refine branch_ff ?_); conv => whnf) | (with_reducible refine branch_not ?_) | ((refine call_e hS1 ?_); conv => whnf) | ((refine call_e hR ?_); conv => whnf) | ((refine call_e hS2 ?_); conv => whnf) | ((refine call_e hI1 ?_); conv => whnf) | ((refine call_e hI2 ?_); conv => whnf) | ((refine call_e hC ?_); conv => whnf) | ((with_reducible refine slc_e ?_); conv => whnf) | ((with_reducible refine callS_a ?_); conv => whnf) | ((with_reducible refine bld_a ?_); conv => whnf) | ((with_reducible refine own_e ?_); conv => whnf) | ((with_reducible refine mkmap_b ?_); conv => whnf) | ((with_reducible refine branch_d (fun hq => ?_) (fun hq => ?_)) <;> (try (exfalso; omega)) <;> (conv => whnf)) | ((with_reducible refine branch_e (fun hq => ?_) (fun hq => ?_)) <;> (try (exfalso; omega)) <;> (conv => whnf)) | ((with_reducible refine branch_n (fun hq => ?_) (fun hq => ?_)) <;> (try (exfalso; omega)) <;> (conv => whnf)) | ((with_reducible refine branch_i (fun hq => ?_) (fun hq => ?_)) <;> (try (exfalso; omega)) <;> (conv => whnf))))
  all_goals first
    | exact ret_p rfl rfl
    | (exfalso; exact absurd rfl hq)
    | (exfalso; revert hq; decide)
end Go.Proofs.Ytiionjpinainlaa
end

/- Layer 10: the reference's All; the law AssemblyAll. -/
section
namespace Go.Proofs.Ytiionjpinainlaa
set_option linter.unusedVariables false
set_option linter.unusedSimpArgs false
set_option linter.unnecessarySimpa false
set_option linter.unusedSectionVars false
set_option maxRecDepth 10000
open Go.RowKit
end Go.Proofs.Ytiionjpinainlaa
end

/- Layer 10: the laws AssemblyRepeats and AssemblyFull. -/
section
namespace Go.Proofs.Ytiionjpinainlaa
set_option linter.unusedVariables false
set_option linter.unusedSimpArgs false
set_option linter.unnecessarySimpa false
set_option linter.unusedSectionVars false
set_option maxRecDepth 10000
open Go.RowKit
def plGL10h_0 : Plan := (.take 0 (.take 1 (.take 2 (.take 3 (.alt 4 (.alt 5 (.take 6 (.alt 7 (.take 8 .done) .stop)) .stop) .stop)))))
def plGL10h_1 : Plan := (.take 0 (.take 2 (.alt 1 (.alt 3 (.alt 4 (.alt 5 (.take 6 (.alt 7 (.take 8 .done) .stop)) .stop) .stop) .stop) (.alt 3 (.alt 1 (.alt 4 (.alt 5 (.take 6 (.alt 7 (.take 8 .done) .stop)) .stop) .stop) (.alt 4 (.alt 1 (.alt 5 (.take 6 (.alt 7 (.take 8 .done) .stop)) .stop) (.alt 5 (.alt 1 (.take 6 (.alt 7 (.take 8 .done) .stop)) .stop) .stop)) .stop)) .stop))))
def plGL10h_2 : Plan := (.take 0 (.take 1 (.take 2 (.take 3 (.take 4 (.take 5 (.take 6 (.take 7 (.take 8 (.take 9 (.take 10 (.take 11 (.take 12 (.take 13 (.take 14 (.take 15 (.take 16 (.take 17 (.take 18 (.take 19 (.take 20 (.take 21 (.take 22 (.take 23 (.take 24 (.take 25 (.take 26 (.take 27 (.take 28 (.take 29 (.take 30 (.take 31 (.take 32 (.take 33 (.take 34 (.take 35 (.take 36 (.take 37 (.take 38 (.take 39 (.take 40 (.alt 41 (.take 42 (.take 43 .done)) .stop))))))))))))))))))))))))))))))))))))))))))
set_option maxHeartbeats 4000000 in
theorem rRepeat_ok (P : Prog) (pl : Pln) (hP : Fits P) (hc : pl.chosen.length ≤ 1000000) : Good Try.prog TT false 18 [progV P, planV pl] (· = repV P pl.found pl.chosen) := by
  have LC : (P.costs.map encI).length = P.costs.length := List.length_map ..
  have LR : (P.rows.map encRow).length = P.rows.length := List.length_map ..
  have LH : (pl.chosen.map encI).length = pl.chosen.length := List.length_map ..
  refine good_of mixed tabOk Try.func18 rfl rfl Try.ntmps18 Try.results18 rfl rfl ?_
  (conv => whnf); (repeat' (first | (refine arith_i ⟨by omega, by omega⟩ ?_; conv => whnf) | (refine arith_u ⟨by omega, by omega⟩ ?_; conv => whnf) | (refine arith_8 ⟨by omega, by omega⟩ ?_; conv => whnf) | (refine need_i (by first | omega | (simp only [List.length_cons, List.length_nil]; omega) | (simp only [List.length_append, List.length_cons, List.length_nil, List.length_map, List.length_replicate, List.length_modify]; omega)) ?_; conv => whnf) | ((with_reducible refine branch_tt ?_); conv => whnf) | ((with_reducible refine branch_ff ?_); conv => whnf) | (with_reducible refine branch_not ?_) | ((refine call_e (rValid_ok P hP) ?_); conv => whnf) | (((rw [LC]; refine call_e (rChoice_ok pl.chosen P.costs.length hc hP.1) ?_)); conv => whnf) | ((with_reducible refine slc_e ?_); conv => whnf) | ((with_reducible refine callS_a ?_); conv => whnf) | ((with_reducible refine bld_a ?_); conv => whnf) | ((with_reducible refine own_e ?_); conv => whnf) | ((with_reducible refine mkmap_b ?_); conv => whnf) | (refine draw_i 7 plGL10h_0 (by decide +kernel) ?_; (conv => whnf); fail_if_success (guard_target =~ False)) | (refine draw_i 7 plGL10h_1 (by decide +kernel) ?_; (conv => whnf); fail_if_success (guard_target =~ False)) | ((with_reducible refine And.intro ?_ ?_) <;> (conv => whnf)) | (with_reducible exact trivial) | ((with_reducible refine branch_d (fun hq => ?_) (fun hq => ?_)) <;> (try (exfalso; omega)) <;> (conv => whnf)) | ((with_reducible refine branch_e (fun hq => ?_) (fun hq => ?_)) <;> (try (exfalso; omega)) <;> (conv => whnf)) | ((with_reducible refine branch_n (fun hq => ?_) (fun hq => ?_)) <;> (try (exfalso; omega)) <;> (conv => whnf)) | ((with_reducible refine branch_i (fun hq => ?_) (fun hq => ?_)) <;> (try (exfalso; omega)) <;> (conv => whnf))))
  · exact rep_err (by rw [repE, if_neg (by simp [*]), if_neg (by simp [*]), if_pos (by omega)]) (by omega)
  · have hv : validB P = true := by assumption
    have hch : choiceB pl.chosen P.costs.length = true := by assumption
    have hcl := (validB_parts hv).1
    have LQ : (repCo P.costs.length pl.chosen).length = P.costs.length := by simp [repCo]
    refine loop_i (fun k : Nat => k ≤ P.costs.length) (fun k => mkSt [(2, .ptr 2 0), (3, .ptr 3 0), (4, .ptr 4 0), (6, .ptr 6 0), (7, .int .i64 k)] [(2, [ints P.costs, rowsV P.rows]), (3, [.bool pl.found, ints pl.chosen, .int .i64 pl.cost, ndsV pl.nodes]), (4, [.nil, .nil]), (6, [.own 900 3 1 (((repCo P.costs.length pl.chosen).take k).map encI), .int .i64 (-12), .int .i64 ((pl.chosen.map encI).length - 1)])] false) (fun k => P.costs.length - k) 0 (Nat.zero_le _) (Le.trans (le_adoptBox 6 0 900 3 1 rfl rfl) (le_mk (by repeat' (first | exact trivial | rfl | apply And.intro)) (by repeat' (first | exact trivial | rfl | apply And.intro)) rfl)) ?_
    intro k hk
    have LT : (((repCo P.costs.length pl.chosen).take k).map encI).length = k := by simp; omega
    have LT2 : ((repCo P.costs.length pl.chosen).take k).length = k := by simp; omega
    have hsn : ∀ x, (repCo P.costs.length pl.chosen)[k]? = some x → ((repCo P.costs.length pl.chosen).take (k + 1)).map encI = ((repCo P.costs.length pl.chosen).take k).map encI ++ [[.int .i64 x]] := fun x h => by rw [List.take_add_one, h, List.map_append]; rfl
    have hat : k < P.costs.length → (repCo P.costs.length pl.chosen)[k]? = some (if hasB pl.chosen (k : Int) then 1 else -1) := fun h => by rw [repCo, List.getElem?_map, List.getElem?_range h]; rfl
    (conv => whnf); (repeat' (first | (refine arith_i ⟨by omega, by omega⟩ ?_; conv => whnf) | (refine arith_u ⟨by omega, by omega⟩ ?_; conv => whnf) | (refine arith_8 ⟨by omega, by omega⟩ ?_; conv => whnf) | (refine need_i (by first | omega | (simp only [List.length_cons, List.length_nil]; omega) | (simp only [List.length_append, List.length_cons, List.length_nil, List.length_map, List.length_replicate, List.length_modify]; omega)) ?_; conv => whnf) | ((with_reducible refine branch_tt ?_); conv => whnf) | ((with_reducible refine branch_ff ?_); conv => whnf) | (with_reducible refine branch_not ?_) | ((refine call_e (has_ok pl.chosen k hc) ?_); conv => whnf) | ((with_reducible refine slc_e ?_); conv => whnf) | ((with_reducible refine callS_a ?_); conv => whnf) | ((with_reducible refine bld_a ?_); conv => whnf) | ((with_reducible refine own_e ?_); conv => whnf) | ((with_reducible refine mkmap_b ?_); conv => whnf) | (refine draw_i 7 plGL10h_0 (by decide +kernel) ?_; (conv => whnf); fail_if_success (guard_target =~ False)) | (refine draw_i 7 plGL10h_1 (by decide +kernel) ?_; (conv => whnf); fail_if_success (guard_target =~ False)) | ((with_reducible refine And.intro ?_ ?_) <;> (conv => whnf)) | (with_reducible exact trivial) | ((with_reducible refine branch_d (fun hq => ?_) (fun hq => ?_)) <;> (try (exfalso; omega)) <;> (conv => whnf)) | ((with_reducible refine branch_e (fun hq => ?_) (fun hq => ?_)) <;> (try (exfalso; omega)) <;> (conv => whnf)) | ((with_reducible refine branch_n (fun hq => ?_) (fun hq => ?_)) <;> (try (exfalso; omega)) <;> (conv => whnf)) | ((with_reducible refine branch_i (fun hq => ?_) (fun hq => ?_)) <;> (try (exfalso; omega)) <;> (conv => whnf))))
    · refine ⟨k + 1, by omega, ?_, by omega⟩
      have := hat (by omega)
      rw [if_pos hq] at this
      rw [hsn _ this]
      exact (le_mk (by repeat' (first | exact trivial | rfl | apply And.intro)) (by repeat' (first | exact trivial | rfl | apply And.intro)) rfl)
    · refine ⟨k + 1, by omega, ?_, by omega⟩
      have := hat (by omega)
      rw [if_neg (by rw [hq]; decide)] at this
      rw [hsn _ this]
      exact (le_mk (by repeat' (first | exact trivial | rfl | apply And.intro)) (by repeat' (first | exact trivial | rfl | apply And.intro)) rfl)
    · have hkk : (repCo P.costs.length pl.chosen).take k = repCo P.costs.length pl.chosen := List.take_of_length_le (by omega)
      have e0 : repE P pl.found pl.chosen = 0 := by rw [repE, if_neg (by simp [*]), if_neg (by simp [*]), if_neg (by omega)]
      rw [hkk]
      exact ret_t (rs := [progV (repP P pl.chosen), .int .i64 0]) ⟨.inr ⟨_, _, rfl, rfl, rc_p rfl, rc_o' (by rw [repP, List.map_append, LH]; rfl), trivial⟩, (rc_p rfl).g, trivial⟩ (by rw [repV, e0]; rfl)
  · exact rep_err (by rw [repE, if_neg (by simp [*]), if_pos (by simp [*])]) (by omega)
  · exact rep_err (by rw [repE, if_neg (by simp [*]), if_pos (by simp [*])]) (by omega)
  · exact rep_err (by rw [repE, if_pos (by assumption)]) (by omega)
set_option maxHeartbeats 4000000 in
theorem sameP_ok (P : Prog) (hP : Fits P) : Good Try.prog TT false 19 [progV P, progV P] (· = .bool true) := by
  have hp2 := hP.2.1
  have LR : (P.rows.map encRow).length = P.rows.length := List.length_map ..
  refine good_of mixed tabOk Try.func19 rfl rfl Try.ntmps19 Try.results19 rfl rfl ?_
  (conv => whnf); (repeat' (first | (refine arith_i ⟨by omega, by omega⟩ ?_; conv => whnf) | (refine arith_u ⟨by omega, by omega⟩ ?_; conv => whnf) | (refine arith_8 ⟨by omega, by omega⟩ ?_; conv => whnf) | (refine need_i (by first | omega | (simp only [List.length_cons, List.length_nil]; omega) | (simp only [List.length_append, List.length_cons, List.length_nil, List.length_map, List.length_replicate, List.length_modify]; omega)) ?_; conv => whnf) | ((with_reducible refine branch_tt ?_); conv => whnf) | ((with_reducible refine branch_ff ?_); conv => whnf) | (with_reducible refine branch_not ?_) | ((refine call_e (ints_ok P.costs P.costs hP.1 hP.1) ?_); conv => whnf) | ((with_reducible refine slc_e ?_); conv => whnf) | ((with_reducible refine callS_a ?_); conv => whnf) | ((with_reducible refine bld_a ?_); conv => whnf) | ((with_reducible refine own_e ?_); conv => whnf) | ((with_reducible refine mkmap_b ?_); conv => whnf) | (refine draw_i 44 plGL10h_2 (by decide +kernel) ?_; (conv => whnf); fail_if_success (guard_target =~ False)) | ((with_reducible refine And.intro ?_ ?_) <;> (conv => whnf)) | (with_reducible exact trivial) | ((with_reducible refine branch_d (fun hq => ?_) (fun hq => ?_)) <;> (try (exfalso; omega)) <;> (conv => whnf)) | ((with_reducible refine branch_e (fun hq => ?_) (fun hq => ?_)) <;> (try (exfalso; omega)) <;> (conv => whnf)) | ((with_reducible refine branch_n (fun hq => ?_) (fun hq => ?_)) <;> (try (exfalso; omega)) <;> (conv => whnf)) | ((with_reducible refine branch_i (fun hq => ?_) (fun hq => ?_)) <;> (try (exfalso; omega)) <;> (conv => whnf))))
  · refine loop_i (fun k : Nat => k ≤ P.rows.length) (fun k => mkSt [(2, .ptr 2 0), (3, .ptr 3 0), (5, .int .i64 k)] [(2, [ints P.costs, rowsV P.rows]), (3, [ints P.costs, rowsV P.rows])] false) (fun k => P.rows.length - k) 0 (Nat.zero_le _) (le_mk (by repeat' (first | exact trivial | rfl | apply And.intro)) (by repeat' (first | exact trivial | rfl | apply And.intro)) rfl) ?_
    intro k hk
    (conv => whnf); (repeat' (first | (refine arith_i ⟨by omega, by omega⟩ ?_; conv => whnf) | (refine arith_u ⟨by omega, by omega⟩ ?_; conv => whnf) | (refine arith_8 ⟨by omega, by omega⟩ ?_; conv => whnf) | (refine need_i (by first | omega | (simp only [List.length_cons, List.length_nil]; omega) | (simp only [List.length_append, List.length_cons, List.length_nil, List.length_map, List.length_replicate, List.length_modify]; omega)) ?_; conv => whnf) | ((with_reducible refine branch_tt ?_); conv => whnf) | ((with_reducible refine branch_ff ?_); conv => whnf) | (with_reducible refine branch_not ?_) | ((refine idx_cs (by assumption) ?_); conv => whnf) | (((refine idx_c (xs := P.rows) (by omega) fun r hrr => ?_; have hrl := hP.2.2 r (List.mem_of_getElem? hrr))); conv => whnf) | ((refine call_e (ints_ok r.coefs r.coefs hrl hrl) ?_); conv => whnf) | ((with_reducible refine slc_e ?_); conv => whnf) | ((with_reducible refine callS_a ?_); conv => whnf) | ((with_reducible refine bld_a ?_); conv => whnf) | ((with_reducible refine own_e ?_); conv => whnf) | ((with_reducible refine mkmap_b ?_); conv => whnf) | (refine draw_i 44 plGL10h_2 (by decide +kernel) ?_; (conv => whnf); fail_if_success (guard_target =~ False)) | ((with_reducible refine And.intro ?_ ?_) <;> (conv => whnf)) | (with_reducible exact trivial) | ((with_reducible refine branch_d (fun hq => ?_) (fun hq => ?_)) <;> (try (exfalso; omega)) <;> (conv => whnf)) | ((with_reducible refine branch_e (fun hq => ?_) (fun hq => ?_)) <;> (try (exfalso; omega)) <;> (conv => whnf)) | ((with_reducible refine branch_n (fun hq => ?_) (fun hq => ?_)) <;> (try (exfalso; omega)) <;> (conv => whnf)) | ((with_reducible refine branch_i (fun hq => ?_) (fun hq => ?_)) <;> (try (exfalso; omega)) <;> (conv => whnf))))
    all_goals first
      | exact ⟨k + 1, by omega, (le_mk (by repeat' (first | exact trivial | rfl | apply And.intro)) (by repeat' (first | exact trivial | rfl | apply And.intro)) rfl), by omega⟩
      | exact ret_p rfl rfl
      | (exfalso; exact hq rfl)
  · exact absurd rfl hq
set_option maxHeartbeats 4000000 in
theorem sorted_ok (n : Int) (hn : 0 ≤ n ∧ n ≤ 1000) : Good Try.prog TT true 15 [.tape, .int .i64 n] (fun r => ∃ l, r = ints l ∧ (l.length : Int) ≤ n) := by
  refine good_of mixed tabOk Try.func15 rfl rfl Try.ntmps15 Try.results15 rfl rfl ?_
  (conv => whnf); (repeat' (first | (refine arith_i ⟨by omega, by omega⟩ ?_; conv => whnf) | (refine arith_u ⟨by omega, by omega⟩ ?_; conv => whnf) | (refine arith_8 ⟨by omega, by omega⟩ ?_; conv => whnf) | (refine need_i (by first | omega | (simp only [List.length_cons, List.length_nil]; omega) | (simp only [List.length_append, List.length_cons, List.length_nil, List.length_map, List.length_replicate, List.length_modify]; omega)) ?_; conv => whnf) | ((with_reducible refine branch_tt ?_); conv => whnf) | ((with_reducible refine branch_ff ?_); conv => whnf) | (with_reducible refine branch_not ?_) | (((refine call_i (next_ok _ (by omega)) fun r hr => ?_; obtain ⟨m1, rfl, -, h6⟩ := hr; have hm1 := h6 (by omega))); conv => whnf) | ((with_reducible refine slc_e ?_); conv => whnf) | ((with_reducible refine callS_a ?_); conv => whnf) | ((with_reducible refine bld_a ?_); conv => whnf) | ((with_reducible refine own_e ?_); conv => whnf) | ((with_reducible refine mkmap_b ?_); conv => whnf) | ((with_reducible refine branch_d (fun hq => ?_) (fun hq => ?_)) <;> (try (exfalso; omega)) <;> (conv => whnf)) | ((with_reducible refine branch_e (fun hq => ?_) (fun hq => ?_)) <;> (try (exfalso; omega)) <;> (conv => whnf)) | ((with_reducible refine branch_n (fun hq => ?_) (fun hq => ?_)) <;> (try (exfalso; omega)) <;> (conv => whnf)) | ((with_reducible refine branch_i (fun hq => ?_) (fun hq => ?_)) <;> (try (exfalso; omega)) <;> (conv => whnf))))
  refine loop_i2 (fun (k : Nat) (l : List Int) => (k : Int) ≤ n ∧ l.length ≤ k) (fun k l => mkSt [(0, .tape), (1, .int .i64 n), (5, .own 900 3 1 (l.map encI)), (6, .int .i64 k)] [] true) (fun k _ => n.toNat - k) 0 [] ⟨by omega, by simp⟩ (Le.trans (le_adopt 5 900 3 1 rfl) (le_mk (by repeat' (first | exact trivial | rfl | apply And.intro)) (by repeat' (first | exact trivial | rfl | apply And.intro)) rfl)) ?_
  rintro k l ⟨hk, hl⟩
  have LL : (l.map encI).length = l.length := List.length_map ..
  (conv => whnf); (repeat' (first | (refine arith_i ⟨by omega, by omega⟩ ?_; conv => whnf) | (refine arith_u ⟨by omega, by omega⟩ ?_; conv => whnf) | (refine arith_8 ⟨by omega, by omega⟩ ?_; conv => whnf) | (refine need_i (by first | omega | (simp only [List.length_cons, List.length_nil]; omega) | (simp only [List.length_append, List.length_cons, List.length_nil, List.length_map, List.length_replicate, List.length_modify]; omega)) ?_; conv => whnf) | ((with_reducible refine branch_tt ?_); conv => whnf) | ((with_reducible refine branch_ff ?_); conv => whnf) | (with_reducible refine branch_not ?_) | (((refine call_i (next_ok _ (by omega)) fun r hr => ?_; obtain ⟨m1, rfl, -, h6⟩ := hr; have hm1 := h6 (by omega))); conv => whnf) | ((with_reducible refine slc_e ?_); conv => whnf) | ((with_reducible refine callS_a ?_); conv => whnf) | ((with_reducible refine bld_a ?_); conv => whnf) | ((with_reducible refine own_e ?_); conv => whnf) | ((with_reducible refine mkmap_b ?_); conv => whnf) | ((with_reducible refine branch_d (fun hq => ?_) (fun hq => ?_)) <;> (try (exfalso; omega)) <;> (conv => whnf)) | ((with_reducible refine branch_e (fun hq => ?_) (fun hq => ?_)) <;> (try (exfalso; omega)) <;> (conv => whnf)) | ((with_reducible refine branch_n (fun hq => ?_) (fun hq => ?_)) <;> (try (exfalso; omega)) <;> (conv => whnf)) | ((with_reducible refine branch_i (fun hq => ?_) (fun hq => ?_)) <;> (try (exfalso; omega)) <;> (conv => whnf))))
  · exact ⟨k + 1, l ++ [(k : Int)], ⟨by omega, by simp; omega⟩, by rw [← snocI']; exact (le_mk (by repeat' (first | exact trivial | rfl | apply And.intro)) (by repeat' (first | exact trivial | rfl | apply And.intro)) rfl), by omega⟩
  · exact ⟨k + 1, l, ⟨by omega, by omega⟩, (le_mk (by repeat' (first | exact trivial | rfl | apply And.intro)) (by repeat' (first | exact trivial | rfl | apply And.intro)) rfl), by omega⟩
  · exact ret_ol ⟨l, rfl, by omega⟩
/-! Full -/
end Go.Proofs.Ytiionjpinainlaa
end

/- Layer 8 of the tape: Program, whose slices the caller may go on with. -/
section
namespace Go.Proofs.Ytiionjpinainlaa
set_option linter.unusedVariables false
set_option linter.unusedSimpArgs false
set_option linter.unnecessarySimpa false
set_option linter.unusedSectionVars false
set_option maxRecDepth 10000
open Go.RowKit
def plGL11g_0 : Plan := (.take 0 (.take 1 (.take 2 (.alt 3 (.alt 4 (.alt 5 (.alt 6 (.take 7 (.alt 8 .done .stop)) .stop) .stop) .stop) .stop))))
def plGL11g_1 : Plan := (.take 0 (.take 2 (.alt 1 (.alt 3 (.alt 4 (.alt 5 (.alt 6 (.take 7 (.alt 8 .done .stop)) .stop) .stop) .stop) .stop) (.alt 3 (.alt 1 (.alt 4 (.alt 5 (.alt 6 (.take 7 (.alt 8 .done .stop)) .stop) .stop) .stop) (.alt 4 (.alt 1 (.alt 5 (.alt 6 (.take 7 (.alt 8 .done .stop)) .stop) .stop) (.alt 5 (.alt 1 (.alt 6 (.take 7 (.alt 8 .done .stop)) .stop) .stop) .stop)) .stop)) .stop))))
def plGL11g_2 : Plan := (.take 0 (.take 1 (.take 2 (.take 4 (.take 6 (.alt 3 (.alt 5 (.alt 7 (.take 8 (.alt 9 (.alt 10 (.take 11 (.alt 12 .done .stop)) .stop) .stop)) .stop) .stop) (.alt 5 (.alt 3 (.alt 7 (.take 8 (.alt 9 (.alt 10 (.take 11 (.alt 12 .done .stop)) .stop) .stop)) .stop) (.alt 7 (.alt 3 (.take 8 (.alt 9 (.alt 10 (.take 11 (.alt 12 .done .stop)) .stop) .stop)) .stop) .stop)) .stop)))))))
def plGL11g_3 : Plan := (.take 0 (.take 2 (.take 4 (.take 6 (.alt 1 (.alt 3 (.alt 5 (.alt 7 (.take 8 (.alt 9 (.alt 10 (.take 11 (.alt 12 .done .stop)) .stop) .stop)) .stop) .stop) (.alt 5 (.alt 3 (.alt 7 (.take 8 (.alt 9 (.alt 10 (.take 11 (.alt 12 .done .stop)) .stop) .stop)) .stop) (.alt 7 (.alt 3 (.take 8 (.alt 9 (.alt 10 (.take 11 (.alt 12 .done .stop)) .stop) .stop)) .stop) .stop)) .stop)) (.alt 3 (.alt 1 (.alt 5 (.alt 7 (.take 8 (.alt 9 (.alt 10 (.take 11 (.alt 12 .done .stop)) .stop) .stop)) .stop) .stop) (.alt 5 (.alt 1 (.alt 7 (.take 8 (.alt 9 (.alt 10 (.take 11 (.alt 12 .done .stop)) .stop) .stop)) .stop) (.alt 7 (.take 8 (.alt 1 (.alt 9 (.alt 10 (.take 11 (.alt 12 .done .stop)) .stop) .stop) (.alt 9 (.alt 1 (.alt 10 (.take 11 (.alt 12 .done .stop)) .stop) .stop) .stop))) .stop)) .stop)) (.alt 5 (.alt 1 (.alt 3 (.alt 7 (.take 8 (.alt 9 (.alt 10 (.take 11 (.alt 12 .done .stop)) .stop) .stop)) .stop) (.alt 7 (.alt 3 (.take 8 (.alt 9 (.alt 10 (.take 11 (.alt 12 .done .stop)) .stop) .stop)) .stop) .stop)) (.alt 3 (.alt 1 (.alt 7 (.take 8 (.alt 9 (.alt 10 (.take 11 (.alt 12 .done .stop)) .stop) .stop)) .stop) (.alt 7 (.take 8 (.alt 1 (.alt 9 (.alt 10 (.take 11 (.alt 12 .done .stop)) .stop) .stop) (.alt 9 (.alt 1 (.alt 10 (.take 11 (.alt 12 .done .stop)) .stop) .stop) .stop))) .stop)) (.alt 7 (.alt 1 (.alt 3 (.take 8 (.alt 9 (.alt 10 (.take 11 (.alt 12 .done .stop)) .stop) .stop)) .stop) (.alt 3 (.take 8 (.alt 1 (.alt 9 (.alt 10 (.take 11 (.alt 12 .done .stop)) .stop) .stop) (.alt 9 (.alt 1 (.alt 10 (.take 11 (.alt 12 .done .stop)) .stop) .stop) .stop))) .stop)) .stop))) .stop)))))))
def plGL11g_4 : Plan := (.take 0 (.take 1 (.take 2 (.take 3 (.alt 4 (.take 5 (.alt 6 (.alt 7 (.take 8 (.alt 9 .done .stop)) .stop) .stop)) .stop)))))
def plGL11g_5 : Plan := (.take 0 (.take 2 (.take 3 (.alt 1 (.alt 4 (.take 5 (.alt 6 (.alt 7 (.take 8 (.alt 9 .done .stop)) .stop) .stop)) .stop) (.alt 4 (.take 5 (.alt 1 (.alt 6 (.alt 7 (.take 8 (.alt 9 .done .stop)) .stop) .stop) (.alt 6 (.alt 1 (.alt 7 (.take 8 (.alt 9 .done .stop)) .stop) .stop) .stop))) .stop)))))
def progO (t1 t2 : Nat) (P : Prog) : AV := .agg [.own t1 3 1 (P.costs.map encI), .own t2 28 3 (P.rows.map encRow)]
theorem two_eq {t1 t2 : Tg} {a a' b b' : List (List AV)} (h1 : a = a') (h2 : b = b') : AV.agg [.own t1 3 1 a, .own t2 28 3 b] = .agg [.own t1 3 1 a', .own t2 28 3 b'] := by rw [h1, h2]
set_option maxHeartbeats 1000000 in
theorem programM_any (m n : Int) (hm : 0 ≤ m ∧ m ≤ 50) (hn : 0 ≤ n ∧ n ≤ 1000) : GoodM Try.prog TT true 13 [.tape, .int .i64 m, .int .i64 n] [] (fun r ov bx => ∃ P : Prog, (r = progO 7 8 P ∧ ov = [] ∧ bx = []) ∧ Small P ∧ (P.costs.length : Int) ≤ m + 13 ∧ (n = 0 → ProgG m P)) := by
  refine good_of_m (fun _ => false) mixed tabOk Try.func13 rfl rfl Try.ntmps13 Try.results13 rfl rfl ?_
  (conv => whnf); (repeat' (first | (refine arith_i ⟨by omega, by omega⟩ ?_; conv => whnf) | (refine arith_u ⟨by omega, by omega⟩ ?_; conv => whnf) | (refine arith_8 ⟨by omega, by omega⟩ ?_; conv => whnf) | (refine need_i (by first | omega | (simp only [List.length_cons, List.length_nil]; omega) | (simp only [List.length_append, List.length_cons, List.length_nil, List.length_map, List.length_replicate, List.length_modify]; omega)) ?_; conv => whnf) | ((with_reducible refine branch_tt ?_); conv => whnf) | ((with_reducible refine branch_ff ?_); conv => whnf) | (with_reducible refine branch_not ?_) | ((refine call_i (range_ok 0 m (by omega) (by omega)) fun r hr => ?_; obtain ⟨k, rfl, h1, h2⟩ := hr; have hk := h2 hm.1); conv => whnf) | ((with_reducible refine slc_e ?_); conv => whnf) | ((with_reducible refine callS_a ?_); conv => whnf) | ((with_reducible refine bld_a ?_); conv => whnf) | ((with_reducible refine own_e ?_); conv => whnf) | ((with_reducible refine mkmap_b ?_); conv => whnf) | (refine draw_i 8 plGL11g_0 (by decide +kernel) ?_; (conv => whnf); fail_if_success (guard_target =~ False)) | (refine draw_i 8 plGL11g_1 (by decide +kernel) ?_; (conv => whnf); fail_if_success (guard_target =~ False)) | (refine draw_i 8 plGL11g_0 (by decide +kernel) ?_; (conv => whnf); fail_if_success (guard_target =~ False)) | (refine draw_i 8 plGL11g_1 (by decide +kernel) ?_; (conv => whnf); fail_if_success (guard_target =~ False)) | (refine draw_i 8 plGL11g_0 (by decide +kernel) ?_; (conv => whnf); fail_if_success (guard_target =~ False)) | (refine draw_i 8 plGL11g_1 (by decide +kernel) ?_; (conv => whnf); fail_if_success (guard_target =~ False)) | (refine draw_i 12 plGL11g_2 (by decide +kernel) ?_; (conv => whnf); fail_if_success (guard_target =~ False)) | (refine draw_i 12 plGL11g_3 (by decide +kernel) ?_; (conv => whnf); fail_if_success (guard_target =~ False)) | (refine draw_i 9 plGL11g_4 (by decide +kernel) ?_; (conv => whnf); fail_if_success (guard_target =~ False)) | (refine draw_i 9 plGL11g_5 (by decide +kernel) ?_; (conv => whnf); fail_if_success (guard_target =~ False)) | ((with_reducible refine And.intro ?_ ?_) <;> (conv => whnf)) | (with_reducible exact trivial) | ((with_reducible refine branch_d (fun hq => ?_) (fun hq => ?_)) <;> (try (exfalso; omega)) <;> (conv => whnf)) | ((with_reducible refine branch_e (fun hq => ?_) (fun hq => ?_)) <;> (try (exfalso; omega)) <;> (conv => whnf)) | ((with_reducible refine branch_n (fun hq => ?_) (fun hq => ?_)) <;> (try (exfalso; omega)) <;> (conv => whnf)) | ((with_reducible refine branch_i (fun hq => ?_) (fun hq => ?_)) <;> (try (exfalso; omega)) <;> (conv => whnf))))
  refine loop_i (fun cs : List Int => (cs.length : Int) ≤ k ∧ ∀ x ∈ cs, x ∈ costL) (fun cs => mkSt [(0, .tape), (2, .int .i64 n), (6, .ptr 6 0), (7, .ptr 7 0), (8, .int .i64 k), (9, .int .i64 cs.length)] [(6, [.nil, .nil]), (7, [.own 7 3 1 (cs.map encI), .nil])] true) (fun cs => k.toNat - cs.length) [] ⟨by simp; omega, by simp⟩ (Le.trans (le_adoptBox 7 0 7 3 1 rfl rfl) (le_mk (by repeat' (first | exact trivial | rfl | apply And.intro)) (by repeat' (first | exact trivial | rfl | apply And.intro)) rfl)) ?_
  rintro cs ⟨hcl, hcs⟩
  have LC : (cs.map encI).length = cs.length := List.length_map ..
  (conv => whnf); (repeat' (first | (refine arith_i ⟨by omega, by omega⟩ ?_; conv => whnf) | (refine arith_u ⟨by omega, by omega⟩ ?_; conv => whnf) | (refine arith_8 ⟨by omega, by omega⟩ ?_; conv => whnf) | (refine need_i (by first | omega | (simp only [List.length_cons, List.length_nil]; omega) | (simp only [List.length_append, List.length_cons, List.length_nil, List.length_map, List.length_replicate, List.length_modify]; omega)) ?_; conv => whnf) | ((with_reducible refine branch_tt ?_); conv => whnf) | ((with_reducible refine branch_ff ?_); conv => whnf) | (with_reducible refine branch_not ?_) | ((refine call_i (pick_ok costL (by decide) (by decide)) fun r hr => ?_; obtain ⟨x, rfl, hx⟩ := hr); conv => whnf) | ((refine call_i (next_ok 4 (by omega)) fun r hr => ?_; obtain ⟨m0, rfl, -, h3⟩ := hr; have hm0 := h3 (by omega)); conv => whnf) | ((with_reducible refine slc_e ?_); conv => whnf) | ((with_reducible refine callS_a ?_); conv => whnf) | ((with_reducible refine bld_a ?_); conv => whnf) | ((with_reducible refine own_e ?_); conv => whnf) | ((with_reducible refine mkmap_b ?_); conv => whnf) | (refine draw_i 8 plGL11g_0 (by decide +kernel) ?_; (conv => whnf); fail_if_success (guard_target =~ False)) | (refine draw_i 8 plGL11g_1 (by decide +kernel) ?_; (conv => whnf); fail_if_success (guard_target =~ False)) | (refine draw_i 8 plGL11g_0 (by decide +kernel) ?_; (conv => whnf); fail_if_success (guard_target =~ False)) | (refine draw_i 8 plGL11g_1 (by decide +kernel) ?_; (conv => whnf); fail_if_success (guard_target =~ False)) | (refine draw_i 8 plGL11g_0 (by decide +kernel) ?_; (conv => whnf); fail_if_success (guard_target =~ False)) | (refine draw_i 8 plGL11g_1 (by decide +kernel) ?_; (conv => whnf); fail_if_success (guard_target =~ False)) | (refine draw_i 12 plGL11g_2 (by decide +kernel) ?_; (conv => whnf); fail_if_success (guard_target =~ False)) | (refine draw_i 12 plGL11g_3 (by decide +kernel) ?_; (conv => whnf); fail_if_success (guard_target =~ False)) | (refine draw_i 9 plGL11g_4 (by decide +kernel) ?_; (conv => whnf); fail_if_success (guard_target =~ False)) | (refine draw_i 9 plGL11g_5 (by decide +kernel) ?_; (conv => whnf); fail_if_success (guard_target =~ False)) | ((with_reducible refine And.intro ?_ ?_) <;> (conv => whnf)) | (with_reducible exact trivial) | ((with_reducible refine branch_d (fun hq => ?_) (fun hq => ?_)) <;> (try (exfalso; omega)) <;> (conv => whnf)) | ((with_reducible refine branch_e (fun hq => ?_) (fun hq => ?_)) <;> (try (exfalso; omega)) <;> (conv => whnf)) | ((with_reducible refine branch_n (fun hq => ?_) (fun hq => ?_)) <;> (try (exfalso; omega)) <;> (conv => whnf)) | ((with_reducible refine branch_i (fun hq => ?_) (fun hq => ?_)) <;> (try (exfalso; omega)) <;> (conv => whnf))))
  · exact ⟨cs ++ [x], ⟨by simp; omega, snoc_in hcs hx⟩, le_mk ⟨rfl, rfl, rfl, rfl, rfl, int_eq (by simp), trivial⟩ ⟨rfl, box_snoc (enc := encI) [] [.nil] x, trivial⟩ rfl, by simp; omega⟩
  have ek : k = cs.length := by omega
  refine loop_i (fun rs : List Row => (rs.length : Int) ≤ m0 ∧ ∀ r ∈ rs, RowG cs.length r) (fun rs => mkSt [(0, .tape), (2, .int .i64 n), (6, .ptr 6 0), (7, .ptr 7 0), (8, .int .i64 k), (10, .int .i64 (m0 - rs.length))] [(6, [.nil, .nil]), (7, [.own 7 3 1 (cs.map encI), .own 8 28 3 (rs.map encRow)])] true) (fun rs => m0.toNat - rs.length) [] ⟨by simp; omega, by simp⟩ (Le.trans (le_adoptBox 7 1 8 28 3 rfl rfl) (le_mk ⟨rfl, rfl, rfl, rfl, rfl, int_eq (by simp), trivial⟩ ⟨rfl, rfl, trivial⟩ rfl)) ?_
  rintro rs ⟨hrl, hrs⟩
  have LR : (rs.map encRow).length = rs.length := List.length_map ..
  (conv => whnf); (repeat' (first | (refine arith_i ⟨by omega, by omega⟩ ?_; conv => whnf) | (refine arith_u ⟨by omega, by omega⟩ ?_; conv => whnf) | (refine arith_8 ⟨by omega, by omega⟩ ?_; conv => whnf) | (refine need_i (by first | omega | (simp only [List.length_cons, List.length_nil]; omega) | (simp only [List.length_append, List.length_cons, List.length_nil, List.length_map, List.length_replicate, List.length_modify]; omega)) ?_; conv => whnf) | ((with_reducible refine branch_tt ?_); conv => whnf) | ((with_reducible refine branch_ff ?_); conv => whnf) | (with_reducible refine branch_not ?_) | ((refine call_i (range_ok (-2) 4 (by omega) (by omega)) fun r hr => ?_; obtain ⟨lo, rfl, -, hlo⟩ := hr); conv => whnf) | ((refine call_i (range_ok 2 9 (by omega) (by omega)) fun r hr => ?_; obtain ⟨hi, rfl, -, hhi⟩ := hr); conv => whnf) | ((refine call_i (one_ok n (by omega)) fun r hr => ?_; obtain ⟨b1, rfl⟩ := hr); conv => whnf) | ((refine call_i (next_ok 5 (by omega)) fun r hr => ?_; obtain ⟨m1, rfl, -, h5⟩ := hr; have hm1 := h5 (by omega)); conv => whnf) | ((refine call_i wild_ok fun r hr => ?_; obtain ⟨wi, rfl, hwi⟩ := hr); conv => whnf) | ((refine call_i (pick_ok [-1, 10000, 10001] (by decide) (by decide)) fun r hr => ?_; obtain ⟨x, rfl, hx⟩ := hr); conv => whnf) | ((refine call_i (pick_ok [10000, 10001, -10000, -10001] (by decide) (by decide)) fun r hr => ?_; obtain ⟨x, rfl, hx⟩ := hr); conv => whnf) | ((with_reducible refine slc_e ?_); conv => whnf) | ((with_reducible refine callS_a ?_); conv => whnf) | ((with_reducible refine bld_a ?_); conv => whnf) | ((with_reducible refine own_e ?_); conv => whnf) | ((with_reducible refine mkmap_b ?_); conv => whnf) | (refine draw_i 8 plGL11g_0 (by decide +kernel) ?_; (conv => whnf); fail_if_success (guard_target =~ False)) | (refine draw_i 8 plGL11g_1 (by decide +kernel) ?_; (conv => whnf); fail_if_success (guard_target =~ False)) | (refine draw_i 8 plGL11g_0 (by decide +kernel) ?_; (conv => whnf); fail_if_success (guard_target =~ False)) | (refine draw_i 8 plGL11g_1 (by decide +kernel) ?_; (conv => whnf); fail_if_success (guard_target =~ False)) | (refine draw_i 8 plGL11g_0 (by decide +kernel) ?_; (conv => whnf); fail_if_success (guard_target =~ False)) | (refine draw_i 8 plGL11g_1 (by decide +kernel) ?_; (conv => whnf); fail_if_success (guard_target =~ False)) | (refine draw_i 12 plGL11g_2 (by decide +kernel) ?_; (conv => whnf); fail_if_success (guard_target =~ False)) | (refine draw_i 12 plGL11g_3 (by decide +kernel) ?_; (conv => whnf); fail_if_success (guard_target =~ False)) | (refine draw_i 9 plGL11g_4 (by decide +kernel) ?_; (conv => whnf); fail_if_success (guard_target =~ False)) | (refine draw_i 9 plGL11g_5 (by decide +kernel) ?_; (conv => whnf); fail_if_success (guard_target =~ False)) | ((with_reducible refine And.intro ?_ ?_) <;> (conv => whnf)) | (with_reducible exact trivial) | ((with_reducible refine branch_d (fun hq => ?_) (fun hq => ?_)) <;> (try (exfalso; omega)) <;> (conv => whnf)) | ((with_reducible refine branch_e (fun hq => ?_) (fun hq => ?_)) <;> (try (exfalso; omega)) <;> (conv => whnf)) | ((with_reducible refine branch_n (fun hq => ?_) (fun hq => ?_)) <;> (try (exfalso; omega)) <;> (conv => whnf)) | ((with_reducible refine branch_i (fun hq => ?_) (fun hq => ?_)) <;> (try (exfalso; omega)) <;> (conv => whnf))))
  · refine loop_i (fun ds : List Int => (ds.length : Int) ≤ k ∧ ∀ x ∈ ds, x ∈ coefL) (fun ds => mkSt [(0, .tape), (2, .int .i64 n), (6, .ptr 6 0), (7, .ptr 7 0), (8, .int .i64 k), (10, .int .i64 (m0 - rs.length)), (11, .ptr 11 0), (12, .int .i64 ds.length)] [(6, [.nil, .nil]), (7, [.own 7 3 1 (cs.map encI), .own 8 28 3 (rs.map encRow)]), (11, [.own 9 3 1 (ds.map encI), .int .i64 lo, .int .i64 hi])] true) (fun ds => k.toNat - ds.length) [] ⟨by simp; omega, by simp⟩ (Le.trans (le_adoptBox 11 0 9 3 1 rfl rfl) (le_mk (by repeat' (first | exact trivial | rfl | apply And.intro)) (by repeat' (first | exact trivial | rfl | apply And.intro)) rfl)) ?_
    rintro ds ⟨hdl, hds⟩
    have LD : (ds.map encI).length = ds.length := List.length_map ..
    (conv => whnf); (repeat' (first | (refine arith_i ⟨by omega, by omega⟩ ?_; conv => whnf) | (refine arith_u ⟨by omega, by omega⟩ ?_; conv => whnf) | (refine arith_8 ⟨by omega, by omega⟩ ?_; conv => whnf) | (refine need_i (by first | omega | (simp only [List.length_cons, List.length_nil]; omega) | (simp only [List.length_append, List.length_cons, List.length_nil, List.length_map, List.length_replicate, List.length_modify]; omega)) ?_; conv => whnf) | ((with_reducible refine branch_tt ?_); conv => whnf) | ((with_reducible refine branch_ff ?_); conv => whnf) | (with_reducible refine branch_not ?_) | ((refine call_i (pick_ok coefL (by decide) (by decide)) fun r hr => ?_; obtain ⟨x, rfl, hx⟩ := hr); conv => whnf) | ((with_reducible refine slc_e ?_); conv => whnf) | ((with_reducible refine callS_a ?_); conv => whnf) | ((with_reducible refine bld_a ?_); conv => whnf) | ((with_reducible refine own_e ?_); conv => whnf) | ((with_reducible refine mkmap_b ?_); conv => whnf) | (refine draw_i 8 plGL11g_0 (by decide +kernel) ?_; (conv => whnf); fail_if_success (guard_target =~ False)) | (refine draw_i 8 plGL11g_1 (by decide +kernel) ?_; (conv => whnf); fail_if_success (guard_target =~ False)) | (refine draw_i 8 plGL11g_0 (by decide +kernel) ?_; (conv => whnf); fail_if_success (guard_target =~ False)) | (refine draw_i 8 plGL11g_1 (by decide +kernel) ?_; (conv => whnf); fail_if_success (guard_target =~ False)) | (refine draw_i 8 plGL11g_0 (by decide +kernel) ?_; (conv => whnf); fail_if_success (guard_target =~ False)) | (refine draw_i 8 plGL11g_1 (by decide +kernel) ?_; (conv => whnf); fail_if_success (guard_target =~ False)) | (refine draw_i 12 plGL11g_2 (by decide +kernel) ?_; (conv => whnf); fail_if_success (guard_target =~ False)) | (refine draw_i 12 plGL11g_3 (by decide +kernel) ?_; (conv => whnf); fail_if_success (guard_target =~ False)) | (refine draw_i 9 plGL11g_4 (by decide +kernel) ?_; (conv => whnf); fail_if_success (guard_target =~ False)) | (refine draw_i 9 plGL11g_5 (by decide +kernel) ?_; (conv => whnf); fail_if_success (guard_target =~ False)) | ((with_reducible refine And.intro ?_ ?_) <;> (conv => whnf)) | (with_reducible exact trivial) | ((with_reducible refine branch_d (fun hq => ?_) (fun hq => ?_)) <;> (try (exfalso; omega)) <;> (conv => whnf)) | ((with_reducible refine branch_e (fun hq => ?_) (fun hq => ?_)) <;> (try (exfalso; omega)) <;> (conv => whnf)) | ((with_reducible refine branch_n (fun hq => ?_) (fun hq => ?_)) <;> (try (exfalso; omega)) <;> (conv => whnf)) | ((with_reducible refine branch_i (fun hq => ?_) (fun hq => ?_)) <;> (try (exfalso; omega)) <;> (conv => whnf))))
    · exact ⟨ds ++ [x], ⟨by simp; omega, snoc_in hds hx⟩, le_mk ⟨rfl, rfl, rfl, rfl, rfl, rfl, rfl, int_eq (by simp), trivial⟩ ⟨rfl, rfl, box_snoc (enc := encI) [] [.int .i64 lo, .int .i64 hi] x, trivial⟩ rfl, by simp; omega⟩
    · have ed : ds.length = cs.length := by omega
      refine ⟨rs ++ [⟨ds, lo, hi⟩], ⟨by simp; omega, snoc_in hrs ⟨ed, hds, hlo (by omega), hhi (by omega)⟩⟩, le_mk ⟨rfl, rfl, rfl, rfl, rfl, int_eq (by simp; omega), trivial⟩ ⟨rfl, ?_, trivial⟩ rfl, by simp; omega⟩
      exact box_snoc (enc := encRow) [.own 7 3 1 (cs.map encI)] [] (⟨ds, lo, hi⟩ : Row)
  · exact retM_i _ [] [] rfl (le_mk ⟨two_eq (by simp [encI]) rfl, trivial⟩ trivial rfl) rfl ⟨⟨cs ++ [x], rs⟩, ⟨rfl, rfl, rfl⟩, ⟨⟨by simp; omega, by show rs.length ≤ 10; omega, fun r hr => by have := (hrs r hr).1; omega⟩, by simp; omega, fun h => by omega⟩⟩
  · exact retM_i _ [] [] rfl (le_mk ⟨two_eq rfl (by simp only [List.map_append, List.map_cons, List.map_nil, encRow, ints, repl_enc]; rfl), trivial⟩ trivial rfl) rfl ⟨⟨cs, rs ++ [⟨List.replicate k.toNat 0, _, _⟩]⟩, ⟨rfl, rfl, rfl⟩, ⟨⟨by show cs.length ≤ 100; omega, by simp; omega, snoc_in (fun r hr => by have := (hrs r hr).1; omega) (by simp; omega)⟩, by show (cs.length : Int) ≤ _; omega, fun h => by omega⟩⟩
  · exact retM_i _ [] [] rfl (le_mk ⟨two_eq rfl (by simp only [List.map_append, List.map_cons, List.map_nil, encRow, ints, repl_enc]; rfl), trivial⟩ trivial rfl) rfl ⟨⟨cs, rs ++ [⟨List.replicate k.toNat 0, _, _⟩]⟩, ⟨rfl, rfl, rfl⟩, ⟨⟨by show cs.length ≤ 100; omega, by simp; omega, snoc_in (fun r hr => by have := (hrs r hr).1; omega) (by simp; omega)⟩, by show (cs.length : Int) ≤ _; omega, fun h => by omega⟩⟩
  · exact retM_i _ [] [] rfl (le_mk ⟨two_eq rfl (by simp only [List.map_append, List.map_cons, List.map_nil, encRow, ints, repl_enc]; rfl), trivial⟩ trivial rfl) rfl ⟨⟨cs, rs ++ [⟨List.replicate k.toNat 0, _, _⟩]⟩, ⟨rfl, rfl, rfl⟩, ⟨⟨by show cs.length ≤ 100; omega, by simp; omega, snoc_in (fun r hr => by have := (hrs r hr).1; omega) (by simp; omega)⟩, by show (cs.length : Int) ≤ _; omega, fun h => by omega⟩⟩
  · exact retM_i _ [] [] rfl (le_mk ⟨two_eq rfl (by simp only [List.map_append, List.map_cons, List.map_nil, encRow, ints, repl_enc]; rfl), trivial⟩ trivial rfl) rfl ⟨⟨cs, rs ++ [⟨List.replicate (k + 1).toNat 0, 0, 0⟩]⟩, ⟨rfl, rfl, rfl⟩, ⟨⟨by show cs.length ≤ 100; omega, by simp; omega, snoc_in (fun r hr => by have := (hrs r hr).1; omega) (by simp; omega)⟩, by show (cs.length : Int) ≤ _; omega, fun h => by omega⟩⟩
  · refine idx_i (by omega) (cs := [AV.int .i64 0]) (by rw [List.getElem?_replicate, if_pos (by omega)]) ?_
    (conv => whnf); (repeat' (first | (refine arith_i ⟨by omega, by omega⟩ ?_; conv => whnf) | (refine arith_u ⟨by omega, by omega⟩ ?_; conv => whnf) | (refine arith_8 ⟨by omega, by omega⟩ ?_; conv => whnf) | (refine need_i (by first | omega | (simp only [List.length_cons, List.length_nil]; omega) | (simp only [List.length_append, List.length_cons, List.length_nil, List.length_map, List.length_replicate, List.length_modify]; omega)) ?_; conv => whnf) | ((with_reducible refine branch_tt ?_); conv => whnf) | ((with_reducible refine branch_ff ?_); conv => whnf) | (with_reducible refine branch_not ?_) | ((with_reducible refine slc_e ?_); conv => whnf) | ((with_reducible refine callS_a ?_); conv => whnf) | ((with_reducible refine bld_a ?_); conv => whnf) | ((with_reducible refine own_e ?_); conv => whnf) | ((with_reducible refine mkmap_b ?_); conv => whnf) | (refine draw_i 8 plGL11g_0 (by decide +kernel) ?_; (conv => whnf); fail_if_success (guard_target =~ False)) | (refine draw_i 8 plGL11g_1 (by decide +kernel) ?_; (conv => whnf); fail_if_success (guard_target =~ False)) | (refine draw_i 8 plGL11g_0 (by decide +kernel) ?_; (conv => whnf); fail_if_success (guard_target =~ False)) | (refine draw_i 8 plGL11g_1 (by decide +kernel) ?_; (conv => whnf); fail_if_success (guard_target =~ False)) | (refine draw_i 8 plGL11g_0 (by decide +kernel) ?_; (conv => whnf); fail_if_success (guard_target =~ False)) | (refine draw_i 8 plGL11g_1 (by decide +kernel) ?_; (conv => whnf); fail_if_success (guard_target =~ False)) | (refine draw_i 12 plGL11g_2 (by decide +kernel) ?_; (conv => whnf); fail_if_success (guard_target =~ False)) | (refine draw_i 12 plGL11g_3 (by decide +kernel) ?_; (conv => whnf); fail_if_success (guard_target =~ False)) | (refine draw_i 9 plGL11g_4 (by decide +kernel) ?_; (conv => whnf); fail_if_success (guard_target =~ False)) | (refine draw_i 9 plGL11g_5 (by decide +kernel) ?_; (conv => whnf); fail_if_success (guard_target =~ False)) | ((with_reducible refine And.intro ?_ ?_) <;> (conv => whnf)) | (with_reducible exact trivial) | ((with_reducible refine branch_d (fun hq => ?_) (fun hq => ?_)) <;> (try (exfalso; omega)) <;> (conv => whnf)) | ((with_reducible refine branch_e (fun hq => ?_) (fun hq => ?_)) <;> (try (exfalso; omega)) <;> (conv => whnf)) | ((with_reducible refine branch_n (fun hq => ?_) (fun hq => ?_)) <;> (try (exfalso; omega)) <;> (conv => whnf)) | ((with_reducible refine branch_i (fun hq => ?_) (fun hq => ?_)) <;> (try (exfalso; omega)) <;> (conv => whnf))))
    exact retM_i _ [] [] rfl (le_mk ⟨two_eq rfl (by simp only [List.map_append, List.map_cons, List.map_nil, encRow, ints, repl_enc, encI_set]; rfl), trivial⟩ trivial rfl) rfl ⟨⟨cs, rs ++ [⟨(List.replicate k.toNat 0).set 0 x, 0, 1000000⟩]⟩, ⟨rfl, rfl, rfl⟩, ⟨⟨by show cs.length ≤ 100; omega, by simp; omega, snoc_in (fun r hr => by have := (hrs r hr).1; omega) (by simp; omega)⟩, by show (cs.length : Int) ≤ _; omega, fun h => by omega⟩⟩
  · exact retM_i _ [] [] rfl (le_mk ⟨two_eq rfl (by simp only [List.map_append, List.map_cons, List.map_nil, encRow, ints, repl_enc]; rfl), trivial⟩ trivial rfl) rfl ⟨⟨cs, rs ++ [⟨List.replicate k.toNat 0, 0, 1000000⟩]⟩, ⟨rfl, rfl, rfl⟩, ⟨⟨by show cs.length ≤ 100; omega, by simp; omega, snoc_in (fun r hr => by have := (hrs r hr).1; omega) (by simp; omega)⟩, by show (cs.length : Int) ≤ _; omega, fun h => by omega⟩⟩
  · refine loop_i (fun j : Nat => j ≤ 13) (fun j => mkSt [(0, .tape), (2, .int .i64 n), (6, .ptr 6 0), (7, .ptr 7 0), (14, .int .i64 j)] [(6, [.nil, .nil]), (7, [.own 7 3 1 ((cs ++ List.replicate j 1).map encI), .own 8 28 3 (rs.map encRow)])] true) (fun j => 13 - j) 0 (by omega) (by rw [show cs ++ List.replicate 0 1 = cs by simp]; exact (le_mk (by repeat' (first | exact trivial | rfl | apply And.intro)) (by repeat' (first | exact trivial | rfl | apply And.intro)) rfl)) ?_
    intro j hj
    have LJ : ((cs ++ List.replicate j (1 : Int)).map encI).length = cs.length + j := by simp
    (conv => whnf); (repeat' (first | (refine arith_i ⟨by omega, by omega⟩ ?_; conv => whnf) | (refine arith_u ⟨by omega, by omega⟩ ?_; conv => whnf) | (refine arith_8 ⟨by omega, by omega⟩ ?_; conv => whnf) | (refine need_i (by first | omega | (simp only [List.length_cons, List.length_nil]; omega) | (simp only [List.length_append, List.length_cons, List.length_nil, List.length_map, List.length_replicate, List.length_modify]; omega)) ?_; conv => whnf) | ((with_reducible refine branch_tt ?_); conv => whnf) | ((with_reducible refine branch_ff ?_); conv => whnf) | (with_reducible refine branch_not ?_) | ((with_reducible refine slc_e ?_); conv => whnf) | ((with_reducible refine callS_a ?_); conv => whnf) | ((with_reducible refine bld_a ?_); conv => whnf) | ((with_reducible refine own_e ?_); conv => whnf) | ((with_reducible refine mkmap_b ?_); conv => whnf) | (refine draw_i 8 plGL11g_0 (by decide +kernel) ?_; (conv => whnf); fail_if_success (guard_target =~ False)) | (refine draw_i 8 plGL11g_1 (by decide +kernel) ?_; (conv => whnf); fail_if_success (guard_target =~ False)) | (refine draw_i 8 plGL11g_0 (by decide +kernel) ?_; (conv => whnf); fail_if_success (guard_target =~ False)) | (refine draw_i 8 plGL11g_1 (by decide +kernel) ?_; (conv => whnf); fail_if_success (guard_target =~ False)) | (refine draw_i 8 plGL11g_0 (by decide +kernel) ?_; (conv => whnf); fail_if_success (guard_target =~ False)) | (refine draw_i 8 plGL11g_1 (by decide +kernel) ?_; (conv => whnf); fail_if_success (guard_target =~ False)) | (refine draw_i 12 plGL11g_2 (by decide +kernel) ?_; (conv => whnf); fail_if_success (guard_target =~ False)) | (refine draw_i 12 plGL11g_3 (by decide +kernel) ?_; (conv => whnf); fail_if_success (guard_target =~ False)) | (refine draw_i 9 plGL11g_4 (by decide +kernel) ?_; (conv => whnf); fail_if_success (guard_target =~ False)) | (refine draw_i 9 plGL11g_5 (by decide +kernel) ?_; (conv => whnf); fail_if_success (guard_target =~ False)) | ((with_reducible refine And.intro ?_ ?_) <;> (conv => whnf)) | (with_reducible exact trivial) | ((with_reducible refine branch_d (fun hq => ?_) (fun hq => ?_)) <;> (try (exfalso; omega)) <;> (conv => whnf)) | ((with_reducible refine branch_e (fun hq => ?_) (fun hq => ?_)) <;> (try (exfalso; omega)) <;> (conv => whnf)) | ((with_reducible refine branch_n (fun hq => ?_) (fun hq => ?_)) <;> (try (exfalso; omega)) <;> (conv => whnf)) | ((with_reducible refine branch_i (fun hq => ?_) (fun hq => ?_)) <;> (try (exfalso; omega)) <;> (conv => whnf))))
    · have e : (cs ++ List.replicate (j + 1) (1 : Int)).map encI = (cs ++ List.replicate j 1).map encI ++ [[AV.int .i64 1]] := by
        rw [List.replicate_succ', ← List.append_assoc, List.map_append]; rfl
      exact ⟨j + 1, by omega, by rw [e]; exact (le_mk (by repeat' (first | exact trivial | rfl | apply And.intro)) (by repeat' (first | exact trivial | rfl | apply And.intro)) rfl), by omega⟩
    · exact retM_i _ [] [] rfl (le_mk ⟨two_eq rfl rfl, trivial⟩ trivial rfl) rfl ⟨⟨cs ++ List.replicate j 1, rs⟩, ⟨rfl, rfl, rfl⟩, ⟨⟨by simp; omega, by show rs.length ≤ 10; omega, fun r hr => by have := (hrs r hr).1; omega⟩, by simp; omega, fun h => by omega⟩⟩
  · exact retM_i _ [] [] rfl (le_mk ⟨two_eq rfl rfl, trivial⟩ trivial rfl) rfl ⟨⟨cs, rs⟩, ⟨rfl, rfl, rfl⟩, ⟨⟨by show cs.length ≤ 100; omega, by show rs.length ≤ 10; omega, fun r hr => by have := (hrs r hr).1; omega⟩, by show (cs.length : Int) ≤ _; omega, fun h => by omega⟩⟩
  · exact retM_i _ [] [] rfl (le_mk ⟨two_eq rfl rfl, trivial⟩ trivial rfl) rfl ⟨⟨cs, rs⟩, ⟨rfl, rfl, rfl⟩, ⟨⟨by show cs.length ≤ 100; omega, by show rs.length ≤ 10; omega, fun r hr => by have := (hrs r hr).1; omega⟩, by show (cs.length : Int) ≤ _; omega, fun h => ⟨by show (cs.length : Int) ≤ _; omega, hcs, by show rs.length ≤ 3; omega, hrs⟩⟩⟩
end Go.Proofs.Ytiionjpinainlaa
end

/- Layer 6: items: valid parts, texts, enemies; Check, Total, Enemy, of the program and of the reference. -/
section
namespace Go.Proofs.Ytiionjpinainlaa
set_option linter.unusedVariables false
set_option linter.unusedSimpArgs false
set_option linter.unnecessarySimpa false
set_option linter.unusedSectionVars false
set_option maxRecDepth 10000
open Go.RowKit
end Go.Proofs.Ytiionjpinainlaa
end

/- Layer 10: Form. -/
section
namespace Go.Proofs.Ytiionjpinainlaa
set_option linter.unusedVariables false
set_option linter.unusedSimpArgs false
set_option linter.unnecessarySimpa false
set_option linter.unusedSectionVars false
set_option maxRecDepth 10000
open Go.RowKit
def plGL06b_0 : Plan := (.take 0 (.take 1 (.take 2 (.take 3 (.take 4 (.take 5 (.take 6 (.take 7 (.take 8 (.take 9 (.take 10 (.take 11 (.take 12 (.take 13 (.take 14 (.take 15 (.take 16 (.take 17 (.take 18 (.take 19 (.take 20 (.take 21 (.take 22 (.take 23 (.take 24 (.take 25 (.take 26 (.take 27 (.take 28 .done)))))))))))))))))))))))))))))
def plGL06b_1 : Plan := (.take 0 (.take 1 (.take 2 (.alt 3 (.take 4 (.take 5 (.take 6 (.take 7 (.take 8 (.take 10 (.alt 9 (.take 11 (.take 12 (.take 13 (.take 14 (.take 15 (.take 16 (.take 17 (.take 18 (.take 19 (.take 20 (.take 22 (.take 23 (.take 24 (.alt 21 (.alt 25 (.take 26 (.take 27 (.take 28 .done))) .stop) (.alt 25 (.alt 21 (.take 26 (.take 27 (.take 28 .done))) .stop) .stop))))))))))))))) .stop))))))) .stop))))
/-! Form -/
theorem choice_len {ch : List Int} {n : Nat} (h : choiceB ch n = true) : ch.length ≤ n := by
  have key : ∀ i, i < ch.length → (i : Int) ≤ nth ch i ∧ nth ch i < n := by
    intro i
    induction i with
    | zero => intro hi; have := ChTo.of_all h 0 hi; rw [choiceAt] at this; simp at this; omega
    | succ m ih =>
      intro hi
      have h1 := ih (by omega)
      have := ChTo.of_all h (m + 1) hi
      rw [choiceAt] at this
      simp at this
      omega
  rcases Nat.eq_zero_or_pos ch.length with h0 | h0
  · omega
  · have := key (ch.length - 1) (by omega)
    omega
set_option maxHeartbeats 2000000 in
theorem rChoice_any (ch : List Int) (n : Nat) (hl : ch.length ≤ 9223372036854775807) (hn : n ≤ 1000000) : Good Try.prog TT false 48 [.int .i64 n, ints ch] (· = .bool (choiceB ch n)) := by
  have L : (ch.map encI).length = ch.length := List.length_map ..
  refine good_of mixed tabOk Try.func48 rfl rfl Try.ntmps48 Try.results48 rfl rfl ?_
  (conv => whnf); (repeat' (first | (refine arith_i ⟨by omega, by omega⟩ ?_; conv => whnf) | (refine arith_u ⟨by omega, by omega⟩ ?_; conv => whnf) | (refine arith_8 ⟨by omega, by omega⟩ ?_; conv => whnf) | (refine need_i (by first | omega | (simp only [List.length_cons, List.length_nil]; omega) | (simp only [List.length_append, List.length_cons, List.length_nil, List.length_map, List.length_replicate, List.length_modify]; omega)) ?_; conv => whnf) | ((with_reducible refine branch_tt ?_); conv => whnf) | ((with_reducible refine branch_ff ?_); conv => whnf) | (with_reducible refine branch_not ?_) | ((with_reducible refine slc_e ?_); conv => whnf) | ((with_reducible refine callS_a ?_); conv => whnf) | ((with_reducible refine bld_a ?_); conv => whnf) | ((with_reducible refine own_e ?_); conv => whnf) | ((with_reducible refine mkmap_b ?_); conv => whnf) | (refine draw_i 29 plGL06b_0 (by decide +kernel) ?_; (conv => whnf); fail_if_success (guard_target =~ False)) | (refine draw_i 29 plGL06b_1 (by decide +kernel) ?_; (conv => whnf); fail_if_success (guard_target =~ False)) | ((with_reducible refine And.intro ?_ ?_) <;> (conv => whnf)) | (with_reducible exact trivial) | ((with_reducible refine branch_d (fun hq => ?_) (fun hq => ?_)) <;> (try (exfalso; omega)) <;> (conv => whnf)) | ((with_reducible refine branch_e (fun hq => ?_) (fun hq => ?_)) <;> (try (exfalso; omega)) <;> (conv => whnf)) | ((with_reducible refine branch_n (fun hq => ?_) (fun hq => ?_)) <;> (try (exfalso; omega)) <;> (conv => whnf)) | ((with_reducible refine branch_i (fun hq => ?_) (fun hq => ?_)) <;> (try (exfalso; omega)) <;> (conv => whnf))))
  refine loop_i (fun k : Nat => k ≤ ch.length ∧ ChTo ch n k) (fun k => mkSt [(0, .int .i64 n), (1, ints ch), (5, .int .i64 k)] [] false) (fun k => ch.length - k) 0 ⟨Nat.zero_le _, ChTo.zero⟩ (le_mk (by repeat' (first | exact trivial | rfl | apply And.intro)) (by repeat' (first | exact trivial | rfl | apply And.intro)) rfl) ?_
  rintro k ⟨hk, hall⟩
  (conv => whnf); (repeat' (first | (refine arith_i ⟨by omega, by omega⟩ ?_; conv => whnf) | (refine arith_u ⟨by omega, by omega⟩ ?_; conv => whnf) | (refine arith_8 ⟨by omega, by omega⟩ ?_; conv => whnf) | (refine need_i (by first | omega | (simp only [List.length_cons, List.length_nil]; omega) | (simp only [List.length_append, List.length_cons, List.length_nil, List.length_map, List.length_replicate, List.length_modify]; omega)) ?_; conv => whnf) | ((with_reducible refine branch_tt ?_); conv => whnf) | ((with_reducible refine branch_ff ?_); conv => whnf) | (with_reducible refine branch_not ?_) | ((first | refine idx_cs (by assumption) ?_ | (refine idx_c (by omega) fun y hy => ?_; have hn := nth_eq hy) | (refine idx_m (by omega) (by omega) fun z hz => ?_; rw [show ((k : Int) - 1).toNat = k - 1 by omega] at hz; have hnz := nth_eq hz)); conv => whnf) | ((with_reducible refine slc_e ?_); conv => whnf) | ((with_reducible refine callS_a ?_); conv => whnf) | ((with_reducible refine bld_a ?_); conv => whnf) | ((with_reducible refine own_e ?_); conv => whnf) | ((with_reducible refine mkmap_b ?_); conv => whnf) | (refine draw_i 29 plGL06b_0 (by decide +kernel) ?_; (conv => whnf); fail_if_success (guard_target =~ False)) | (refine draw_i 29 plGL06b_1 (by decide +kernel) ?_; (conv => whnf); fail_if_success (guard_target =~ False)) | ((with_reducible refine And.intro ?_ ?_) <;> (conv => whnf)) | (with_reducible exact trivial) | ((with_reducible refine branch_d (fun hq => ?_) (fun hq => ?_)) <;> (try (exfalso; omega)) <;> (conv => whnf)) | ((with_reducible refine branch_e (fun hq => ?_) (fun hq => ?_)) <;> (try (exfalso; omega)) <;> (conv => whnf)) | ((with_reducible refine branch_n (fun hq => ?_) (fun hq => ?_)) <;> (try (exfalso; omega)) <;> (conv => whnf)) | ((with_reducible refine branch_i (fun hq => ?_) (fun hq => ?_)) <;> (try (exfalso; omega)) <;> (conv => whnf))))
  all_goals first
    | exact ret_p rfl (bool_eq (ch_fail (k := k) (by omega) (by simp [choiceAt]; omega)).symm)
    | exact ⟨k + 1, ⟨by omega, hall.step (by simp [choiceAt]; omega)⟩, (le_mk (by repeat' (first | exact trivial | rfl | apply And.intro)) (by repeat' (first | exact trivial | rfl | apply And.intro)) rfl), by omega⟩
    | exact ret_p rfl (bool_eq (hall.full (by omega)).symm)
set_option maxHeartbeats 2000000 in
theorem aChoice_any (ch : List Int) (n : Nat) (hl : ch.length ≤ 9223372036854775807) (hn : n ≤ 1000000) : Good Try.prog TT false 45 [ints ch, .int .i64 n] (· = .bool (choiceB ch n)) := by
  have L : (ch.map encI).length = ch.length := List.length_map ..
  refine good_of mixed tabOk Try.func45 rfl rfl Try.ntmps45 Try.results45 rfl rfl ?_
  (conv => whnf); (repeat' (first | (refine arith_i ⟨by omega, by omega⟩ ?_; conv => whnf) | (refine arith_u ⟨by omega, by omega⟩ ?_; conv => whnf) | (refine arith_8 ⟨by omega, by omega⟩ ?_; conv => whnf) | (refine need_i (by first | omega | (simp only [List.length_cons, List.length_nil]; omega) | (simp only [List.length_append, List.length_cons, List.length_nil, List.length_map, List.length_replicate, List.length_modify]; omega)) ?_; conv => whnf) | ((with_reducible refine branch_tt ?_); conv => whnf) | ((with_reducible refine branch_ff ?_); conv => whnf) | (with_reducible refine branch_not ?_) | ((with_reducible refine slc_e ?_); conv => whnf) | ((with_reducible refine callS_a ?_); conv => whnf) | ((with_reducible refine bld_a ?_); conv => whnf) | ((with_reducible refine own_e ?_); conv => whnf) | ((with_reducible refine mkmap_b ?_); conv => whnf) | ((with_reducible refine branch_d (fun hq => ?_) (fun hq => ?_)) <;> (try (exfalso; omega)) <;> (conv => whnf)) | ((with_reducible refine branch_e (fun hq => ?_) (fun hq => ?_)) <;> (try (exfalso; omega)) <;> (conv => whnf)) | ((with_reducible refine branch_n (fun hq => ?_) (fun hq => ?_)) <;> (try (exfalso; omega)) <;> (conv => whnf)) | ((with_reducible refine branch_i (fun hq => ?_) (fun hq => ?_)) <;> (try (exfalso; omega)) <;> (conv => whnf))))
  refine loop_i (fun k : Nat => k ≤ ch.length ∧ ChTo ch n k) (fun k => mkSt [(0, ints ch), (1, .int .i64 n), (7, ints ch), (8, .int .i64 (ch.map encI).length), (9, .int .i64 k)] [] false) (fun k => ch.length - k) 0 ⟨Nat.zero_le _, ChTo.zero⟩ (le_mk (by repeat' (first | exact trivial | rfl | apply And.intro)) (by repeat' (first | exact trivial | rfl | apply And.intro)) rfl) ?_
  rintro k ⟨hk, hall⟩
  (conv => whnf); (repeat' (first | (refine arith_i ⟨by omega, by omega⟩ ?_; conv => whnf) | (refine arith_u ⟨by omega, by omega⟩ ?_; conv => whnf) | (refine arith_8 ⟨by omega, by omega⟩ ?_; conv => whnf) | (refine need_i (by first | omega | (simp only [List.length_cons, List.length_nil]; omega) | (simp only [List.length_append, List.length_cons, List.length_nil, List.length_map, List.length_replicate, List.length_modify]; omega)) ?_; conv => whnf) | ((with_reducible refine branch_tt ?_); conv => whnf) | ((with_reducible refine branch_ff ?_); conv => whnf) | (with_reducible refine branch_not ?_) | ((first | refine idx_cs (by assumption) ?_ | (refine idx_c (by omega) fun y hy => ?_; have hn := nth_eq hy) | (refine idx_m (by omega) (by omega) fun z hz => ?_; rw [show ((k : Int) - 1).toNat = k - 1 by omega] at hz; have hnz := nth_eq hz)); conv => whnf) | ((with_reducible refine slc_e ?_); conv => whnf) | ((with_reducible refine callS_a ?_); conv => whnf) | ((with_reducible refine bld_a ?_); conv => whnf) | ((with_reducible refine own_e ?_); conv => whnf) | ((with_reducible refine mkmap_b ?_); conv => whnf) | ((with_reducible refine branch_d (fun hq => ?_) (fun hq => ?_)) <;> (try (exfalso; omega)) <;> (conv => whnf)) | ((with_reducible refine branch_e (fun hq => ?_) (fun hq => ?_)) <;> (try (exfalso; omega)) <;> (conv => whnf)) | ((with_reducible refine branch_n (fun hq => ?_) (fun hq => ?_)) <;> (try (exfalso; omega)) <;> (conv => whnf)) | ((with_reducible refine branch_i (fun hq => ?_) (fun hq => ?_)) <;> (try (exfalso; omega)) <;> (conv => whnf))))
  all_goals first
    | exact ret_p rfl (bool_eq (ch_fail (k := k) (by omega) (by simp [choiceAt]; omega)).symm)
    | exact ⟨k + 1, ⟨by omega, hall.step (by simp [choiceAt]; omega)⟩, (le_mk (by repeat' (first | exact trivial | rfl | apply And.intro)) (by repeat' (first | exact trivial | rfl | apply And.intro)) rfl), by omega⟩
    | exact ret_p rfl (bool_eq (hall.full (by omega)).symm)
    | trace_state
end Go.Proofs.Ytiionjpinainlaa
end

/- Layer 10: the law AssemblyRepeats. -/
section
namespace Go.Proofs.Ytiionjpinainlaa
set_option linter.unusedVariables false
set_option linter.unusedSimpArgs false
set_option linter.unnecessarySimpa false
set_option linter.unusedSectionVars false
set_option maxRecDepth 10000
open Go.RowKit
def plGL10q_0 : Plan := (.take 0 (.take 1 (.take 2 (.take 3 (.take 5 (.take 6 (.take 7 (.take 8 (.alt 4 (.take 9 (.alt 10 (.alt 11 (.take 12 (.alt 13 .done .stop)) .stop) .stop)) .stop)))))))))
def plGL10q_1 : Plan := (.take 0 (.take 1 (.take 2 (.take 3 (.alt 4 (.alt 5 (.take 6 (.alt 7 (.take 8 .done) .stop)) .stop) .stop)))))
def plGL10q_2 : Plan := (.take 0 (.take 2 (.alt 1 (.alt 3 (.alt 4 (.alt 5 (.take 6 (.alt 7 (.take 8 .done) .stop)) .stop) .stop) .stop) (.alt 3 (.alt 1 (.alt 4 (.alt 5 (.take 6 (.alt 7 (.take 8 .done) .stop)) .stop) .stop) (.alt 4 (.alt 1 (.alt 5 (.take 6 (.alt 7 (.take 8 .done) .stop)) .stop) (.alt 5 (.alt 1 (.take 6 (.alt 7 (.take 8 .done) .stop)) .stop) .stop)) .stop)) .stop))))
def plGL10q_3 : Plan := (.take 0 (.take 3 (.take 4 (.take 5 (.take 6 (.alt 1 (.take 2 (.alt 7 (.take 8 (.alt 9 (.alt 10 .done .stop) .stop)) (.alt 9 (.alt 7 (.take 8 (.alt 10 .done .stop)) .stop) .stop))) (.alt 9 (.alt 1 (.take 2 (.alt 7 (.take 8 (.alt 10 .done .stop)) .stop)) .stop) .stop)))))))
def plGL10q_4 : Plan := (.take 0 (.take 3 (.take 4 (.alt 1 (.take 2 (.alt 5 (.take 6 (.alt 7 (.take 8 (.alt 9 (.alt 10 .done .stop) .stop)) (.alt 9 (.alt 7 (.take 8 (.alt 10 .done .stop)) .stop) .stop))) (.alt 9 (.alt 5 (.take 6 (.alt 7 (.take 8 (.alt 10 .done .stop)) .stop)) .stop) .stop))) (.alt 5 (.take 6 (.alt 1 (.take 2 (.alt 7 (.take 8 (.alt 9 (.alt 10 .done .stop) .stop)) (.alt 9 (.alt 7 (.take 8 (.alt 10 .done .stop)) .stop) .stop))) (.alt 9 (.alt 1 (.take 2 (.alt 7 (.take 8 (.alt 10 .done .stop)) .stop)) .stop) .stop))) (.alt 9 (.alt 1 (.take 2 (.alt 5 (.take 6 (.alt 7 (.take 8 (.alt 10 .done .stop)) .stop)) .stop)) (.alt 5 (.take 6 (.alt 1 (.take 2 (.alt 7 (.take 8 (.alt 10 .done .stop)) .stop)) .stop)) .stop)) .stop))))))
def plGL10q_5 : Plan := (.take 0 (.take 1 (.take 2 (.take 3 (.take 4 (.alt 5 (.take 6 (.alt 7 (.alt 8 (.take 9 (.alt 10 .done .stop)) .stop) .stop)) .stop))))))
def plGL10q_6 : Plan := (.take 0 (.take 2 (.alt 1 (.alt 3 (.take 4 (.alt 5 (.take 6 (.alt 7 (.alt 8 (.take 9 (.alt 10 .done .stop)) .stop) .stop)) .stop)) .stop) (.alt 3 (.take 4 (.alt 1 (.alt 5 (.take 6 (.alt 7 (.alt 8 (.take 9 (.alt 10 .done .stop)) .stop) .stop)) .stop) (.alt 5 (.take 6 (.alt 1 (.alt 7 (.alt 8 (.take 9 (.alt 10 .done .stop)) .stop) .stop) (.alt 7 (.alt 1 (.alt 8 (.take 9 (.alt 10 .done .stop)) .stop) .stop) .stop))) .stop))) .stop))))
def repPr (P : Prog) (f : Bool) (ch : List Int) : Prog := if repE P f ch = 0 then repP P ch else ⟨[], []⟩
theorem repV_is {P : Prog} {f : Bool} {ch : List Int} : repV P f ch = .tup [progV (repPr P f ch), .int .i64 (repE P f ch)] := by
  unfold repV repPr; split <;> rfl
theorem repPr_fits {P : Prog} {f : Bool} {ch : List Int} (hP : Fits P) (hr : P.rows.length ≤ 1000) : Fits (repPr P f ch) := by
  unfold repPr
  split
  · refine ⟨hP.1, by simp [repP]; omega, fun r hr => ?_⟩
    rcases List.mem_append.1 hr with hr | hr
    · exact hP.2.2 r hr
    · rw [List.mem_singleton.1 hr]
      have := hP.1
      simp [repRow, repCo]; omega
  · exact ⟨by simp, by simp, by simp⟩
theorem long_not {ch : List Int} {n : Nat} (h : 1000000 < ch.length) (hn : n ≤ 1000000) : choiceB ch n = false := by
  cases e : choiceB ch n with
  | false => rfl
  | true => have := choice_len e; omega
set_option maxHeartbeats 4000000 in
theorem repeat_any (P : Prog) (pl : Pln) (hP : Fits P) (hc : pl.chosen.length ≤ 9223372036854775807) : Good Try.prog TT false 17 [progV P, planV pl] (· = .tup [progV (repPr P pl.found pl.chosen), .int .i64 (repE P pl.found pl.chosen)]) := by
  rw [← repV_is]
  rcases Nat.lt_or_ge 1000000 pl.chosen.length with h | h
  · have LC : (P.costs.map encI).length = P.costs.length := List.length_map ..
    have hn := long_not h hP.1
    have hA := (aChoice_any pl.chosen P.costs.length hc hP.1).mono fun r h => h.trans (by rw [hn])
    refine good_of mixed tabOk Try.func17 rfl rfl Try.ntmps17 Try.results17 rfl rfl ?_
    (conv => whnf); (repeat' (first | (refine arith_i ⟨by omega, by omega⟩ ?_; conv => whnf) | (refine arith_u ⟨by omega, by omega⟩ ?_; conv => whnf) | (refine arith_8 ⟨by omega, by omega⟩ ?_; conv => whnf) | (refine need_i (by first | omega | (simp only [List.length_cons, List.length_nil]; omega) | (simp only [List.length_append, List.length_cons, List.length_nil, List.length_map, List.length_replicate, List.length_modify]; omega)) ?_; conv => whnf) | ((with_reducible refine branch_tt ?_); conv => whnf) | ((with_reducible refine branch_ff ?_); conv => whnf) | (with_reducible refine branch_not ?_) | ((refine call_e (valid_ok P hP.1 hP.2.1 hP.2.2) ?_); conv => whnf) | (((rw [LC]; refine call_e hA ?_)); conv => whnf) | ((with_reducible refine slc_e ?_); conv => whnf) | ((with_reducible refine callS_a ?_); conv => whnf) | ((with_reducible refine bld_a ?_); conv => whnf) | ((with_reducible refine own_e ?_); conv => whnf) | ((with_reducible refine mkmap_b ?_); conv => whnf) | (refine draw_i 13 plGL10q_0 (by decide +kernel) ?_; (conv => whnf); fail_if_success (guard_target =~ False)) | ((with_reducible refine And.intro ?_ ?_) <;> (conv => whnf)) | (with_reducible exact trivial) | ((with_reducible refine branch_d (fun hq => ?_) (fun hq => ?_)) <;> (try (exfalso; omega)) <;> (conv => whnf)) | ((with_reducible refine branch_e (fun hq => ?_) (fun hq => ?_)) <;> (try (exfalso; omega)) <;> (conv => whnf)) | ((with_reducible refine branch_n (fun hq => ?_) (fun hq => ?_)) <;> (try (exfalso; omega)) <;> (conv => whnf)) | ((with_reducible refine branch_i (fun hq => ?_) (fun hq => ?_)) <;> (try (exfalso; omega)) <;> (conv => whnf))))
    all_goals first
      | exact rep_err (e := 1) (by rw [repE, if_pos (by assumption)]) (by omega)
      | (have hv : validB P = true := by assumption
         exact rep_err (e := 10) (by rw [repE, if_neg (by simp [hv]), if_pos (by simp [*])]) (by omega))
  · exact repeatP_ok P pl hP h
set_option maxHeartbeats 4000000 in
theorem rRepeat_any (P : Prog) (pl : Pln) (hP : Fits P) (hc : pl.chosen.length ≤ 9223372036854775807) : Good Try.prog TT false 18 [progV P, planV pl] (· = .tup [progV (repPr P pl.found pl.chosen), .int .i64 (repE P pl.found pl.chosen)]) := by
  rw [← repV_is]
  rcases Nat.lt_or_ge 1000000 pl.chosen.length with h | h
  · have LC : (P.costs.map encI).length = P.costs.length := List.length_map ..
    have hn := long_not h hP.1
    have hA := (rChoice_any pl.chosen P.costs.length hc hP.1).mono fun r h => h.trans (by rw [hn])
    refine good_of mixed tabOk Try.func18 rfl rfl Try.ntmps18 Try.results18 rfl rfl ?_
    (conv => whnf); (repeat' (first | (refine arith_i ⟨by omega, by omega⟩ ?_; conv => whnf) | (refine arith_u ⟨by omega, by omega⟩ ?_; conv => whnf) | (refine arith_8 ⟨by omega, by omega⟩ ?_; conv => whnf) | (refine need_i (by first | omega | (simp only [List.length_cons, List.length_nil]; omega) | (simp only [List.length_append, List.length_cons, List.length_nil, List.length_map, List.length_replicate, List.length_modify]; omega)) ?_; conv => whnf) | ((with_reducible refine branch_tt ?_); conv => whnf) | ((with_reducible refine branch_ff ?_); conv => whnf) | (with_reducible refine branch_not ?_) | ((refine call_e (rValid_ok P hP) ?_); conv => whnf) | (((rw [LC]; refine call_e hA ?_)); conv => whnf) | ((with_reducible refine slc_e ?_); conv => whnf) | ((with_reducible refine callS_a ?_); conv => whnf) | ((with_reducible refine bld_a ?_); conv => whnf) | ((with_reducible refine own_e ?_); conv => whnf) | ((with_reducible refine mkmap_b ?_); conv => whnf) | (refine draw_i 7 plGL10q_1 (by decide +kernel) ?_; (conv => whnf); fail_if_success (guard_target =~ False)) | (refine draw_i 7 plGL10q_2 (by decide +kernel) ?_; (conv => whnf); fail_if_success (guard_target =~ False)) | ((with_reducible refine And.intro ?_ ?_) <;> (conv => whnf)) | (with_reducible exact trivial) | ((with_reducible refine branch_d (fun hq => ?_) (fun hq => ?_)) <;> (try (exfalso; omega)) <;> (conv => whnf)) | ((with_reducible refine branch_e (fun hq => ?_) (fun hq => ?_)) <;> (try (exfalso; omega)) <;> (conv => whnf)) | ((with_reducible refine branch_n (fun hq => ?_) (fun hq => ?_)) <;> (try (exfalso; omega)) <;> (conv => whnf)) | ((with_reducible refine branch_i (fun hq => ?_) (fun hq => ?_)) <;> (try (exfalso; omega)) <;> (conv => whnf))))
    all_goals first
      | exact rep_err (e := 1) (by rw [repE, if_pos (by assumption)]) (by omega)
      | (have hv : validB P = true := by assumption
         exact rep_err (e := 10) (by rw [repE, if_neg (by simp [hv]), if_pos (by simp [*])]) (by omega))
  · exact rRepeat_ok P pl hP h
set_option maxHeartbeats 8000000 in
theorem repeats_law (xs ch : List Int) (hx : xs.length ≤ 9223372036854775807) (hc : ch.length ≤ 9223372036854775807) : Good Try.prog TT false 4 [ints xs, ints ch] (· = .bool true) := by
  refine good_of mixed tabOk Try.func4 rfl rfl Try.ntmps4 Try.results4 rfl rfl ?_
  (conv => whnf); (repeat' (first | (refine arith_i ⟨by omega, by omega⟩ ?_; conv => whnf) | (refine arith_u ⟨by omega, by omega⟩ ?_; conv => whnf) | (refine arith_8 ⟨by omega, by omega⟩ ?_; conv => whnf) | (refine need_i (by first | omega | (simp only [List.length_cons, List.length_nil]; omega) | (simp only [List.length_append, List.length_cons, List.length_nil, List.length_map, List.length_replicate, List.length_modify]; omega)) ?_; conv => whnf) | ((with_reducible refine branch_tt ?_); conv => whnf) | ((with_reducible refine branch_ff ?_); conv => whnf) | (with_reducible refine branch_not ?_) | ((refine call_e (new_ok xs hx) ?_); conv => whnf) | (((refine acall_m ?_; refine rcall_i [] [] [] [(7, 807), (8, 808)] _ Le.refl (programM_any 6 8 (by omega) (by omega)) rfl rfl rfl rfl trivial ?_; rintro r ov bx' ⟨P, ⟨rfl, rfl, rfl⟩, hP, hPc, -⟩; refine ⟨rfl, ?_⟩; have LC : (P.costs.map encI).length = P.costs.length := (List.length_map ..); have hP1 := hP.1)); conv => whnf) | (((refine call_i (next_ok 5 (by omega)) fun r hr => ?_; obtain ⟨m0, rfl, -, h5⟩ := hr; have hm0 := h5 (by omega))); conv => whnf) | (((refine call_i (next_ok 2 (by omega)) fun r hr => ?_; obtain ⟨m1, rfl, -, h6⟩ := hr; have hm1 := h6 (by omega))); conv => whnf) | (((refine call_i (sorted_ok _ (by omega)) fun r hr => ?_; obtain ⟨c, rfl, hcl⟩ := hr)); conv => whnf) | (((refine call_i (one_ok _ (by omega)) fun r hr => ?_; obtain ⟨b1, rfl⟩ := hr)); conv => whnf) | ((with_reducible refine slc_e ?_); conv => whnf) | ((with_reducible refine callS_a ?_); conv => whnf) | ((with_reducible refine bld_a ?_); conv => whnf) | ((with_reducible refine own_e ?_); conv => whnf) | ((with_reducible refine mkmap_b ?_); conv => whnf) | (refine draw_i 10 plGL10q_3 (by decide +kernel) ?_; (conv => whnf); fail_if_success (guard_target =~ False)) | (refine draw_i 10 plGL10q_4 (by decide +kernel) ?_; (conv => whnf); fail_if_success (guard_target =~ False)) | (refine draw_i 10 plGL10q_5 (by decide +kernel) ?_; (conv => whnf); fail_if_success (guard_target =~ False)) | (refine draw_i 10 plGL10q_6 (by decide +kernel) ?_; (conv => whnf); fail_if_success (guard_target =~ False)) | ((with_reducible refine And.intro ?_ ?_) <;> (conv => whnf)) | (with_reducible exact trivial) | ((with_reducible refine branch_d (fun hq => ?_) (fun hq => ?_)) <;> (try (exfalso; omega)) <;> (conv => whnf)) | ((with_reducible refine branch_e (fun hq => ?_) (fun hq => ?_)) <;> (try (exfalso; omega)) <;> (conv => whnf)) | ((with_reducible refine branch_n (fun hq => ?_) (fun hq => ?_)) <;> (try (exfalso; omega)) <;> (conv => whnf)) | ((with_reducible refine branch_i (fun hq => ?_) (fun hq => ?_)) <;> (try (exfalso; omega)) <;> (conv => whnf))))
  all_goals
    obtain ⟨hS1, hS2, hS3⟩ := hP
    have hcl2 : c.length ≤ 9223372036854775807 := by omega
  all_goals first
    | refine loop_i (fun rs : List Row => P.rows.length ≤ rs.length ∧ (rs.length : Int) - P.rows.length ≤ m1 * 60 ∧ ∀ r ∈ rs, r.coefs.length ≤ 100) (fun rs => mkSt [(5, .tape), (6, .ptr 6 0), (7, .ptr 7 0), (8, .int .i64 (m1 * 60 - (rs.length - P.rows.length)))] [(6, [.own 807 3 1 (P.costs.map encI), .own 808 28 3 (rs.map encRow)]), (7, [.bool (decide (0 < m0)), ints ch, .int .i64 0, .nil])] true) (fun rs => (m1 * 60).toNat + P.rows.length - rs.length) P.rows ⟨Nat.le_refl _, by omega, hS3⟩ (le_mk ⟨rfl, rfl, rfl, int_eq (by omega), trivial⟩ ⟨rfl, rfl, trivial⟩ rfl) ?_
    | refine loop_i (fun rs : List Row => P.rows.length ≤ rs.length ∧ (rs.length : Int) - P.rows.length ≤ m1 * 60 ∧ ∀ r ∈ rs, r.coefs.length ≤ 100) (fun rs => mkSt [(5, .tape), (6, .ptr 6 0), (7, .ptr 7 0), (8, .int .i64 (m1 * 60 - (rs.length - P.rows.length)))] [(6, [.own 807 3 1 (P.costs.map encI), .own 808 28 3 (rs.map encRow)]), (7, [.bool (decide (0 < m0)), ints c, .int .i64 0, .nil])] true) (fun rs => (m1 * 60).toNat + P.rows.length - rs.length) P.rows ⟨Nat.le_refl _, by omega, hS3⟩ (le_mk ⟨rfl, rfl, rfl, int_eq (by omega), trivial⟩ ⟨rfl, rfl, trivial⟩ rfl) ?_
  all_goals
    rintro rs ⟨hr1, hr2, hr3⟩
    have LR : (rs.map encRow).length = rs.length := List.length_map ..
    have hfit : Fits ⟨P.costs, rs⟩ := ⟨by show P.costs.length ≤ _; omega, by show rs.length ≤ _; omega, fun r hr => by have := hr3 r hr; omega⟩
    (conv => whnf); (repeat' (first | (refine arith_i ⟨by omega, by omega⟩ ?_; conv => whnf) | (refine arith_u ⟨by omega, by omega⟩ ?_; conv => whnf) | (refine arith_8 ⟨by omega, by omega⟩ ?_; conv => whnf) | (refine need_i (by first | omega | (simp only [List.length_cons, List.length_nil]; omega) | (simp only [List.length_append, List.length_cons, List.length_nil, List.length_map, List.length_replicate, List.length_modify]; omega)) ?_; conv => whnf) | ((with_reducible refine branch_tt ?_); conv => whnf) | ((with_reducible refine branch_ff ?_); conv => whnf) | (with_reducible refine branch_not ?_) | (((refine call_i (one_ok _ (by omega)) fun r hr => ?_; obtain ⟨b1, rfl⟩ := hr)); conv => whnf) | (((refine call_w (args' := [progV ⟨P.costs, rs⟩, planV ⟨decide (0 < m0), ch, 0, []⟩]) ⟨.inl (.inl rfl), .inr ⟨_, _, rfl, rfl, .inl rfl, .inl rfl, .inl rfl, .inr ⟨rfl, 7, rfl⟩, trivial⟩, trivial⟩ (repeat_any ⟨P.costs, rs⟩ ⟨decide (0 < m0), ch, 0, []⟩ hfit hc) fun r hr => ?_; subst hr)); conv => whnf) | (((refine call_w (args' := [progV ⟨P.costs, rs⟩, planV ⟨decide (0 < m0), c, 0, []⟩]) ⟨.inl (.inl rfl), .inr ⟨_, _, rfl, rfl, .inl rfl, .inl rfl, .inl rfl, .inr ⟨rfl, 7, rfl⟩, trivial⟩, trivial⟩ (repeat_any ⟨P.costs, rs⟩ ⟨decide (0 < m0), c, 0, []⟩ hfit hcl2) fun r hr => ?_; subst hr)); conv => whnf) | (((refine call_w (args' := [progV ⟨P.costs, rs⟩, planV ⟨decide (0 < m0), ch, 0, []⟩]) ⟨.inl (.inl rfl), .inr ⟨_, _, rfl, rfl, .inl rfl, .inl rfl, .inl rfl, .inr ⟨rfl, 7, rfl⟩, trivial⟩, trivial⟩ (rRepeat_any ⟨P.costs, rs⟩ ⟨decide (0 < m0), ch, 0, []⟩ hfit hc) fun r hr => ?_; subst hr)); conv => whnf) | (((refine call_w (args' := [progV ⟨P.costs, rs⟩, planV ⟨decide (0 < m0), c, 0, []⟩]) ⟨.inl (.inl rfl), .inr ⟨_, _, rfl, rfl, .inl rfl, .inl rfl, .inl rfl, .inr ⟨rfl, 7, rfl⟩, trivial⟩, trivial⟩ (rRepeat_any ⟨P.costs, rs⟩ ⟨decide (0 < m0), c, 0, []⟩ hfit hcl2) fun r hr => ?_; subst hr)); conv => whnf) | ((refine call_e (sameP_ok _ (repPr_fits hfit (by show rs.length ≤ 1000; omega))) ?_); conv => whnf) | ((refine call_e awake10_ok ?_); conv => whnf) | ((with_reducible refine slc_e ?_); conv => whnf) | ((with_reducible refine callS_a ?_); conv => whnf) | ((with_reducible refine bld_a ?_); conv => whnf) | ((with_reducible refine own_e ?_); conv => whnf) | ((with_reducible refine mkmap_b ?_); conv => whnf) | (refine draw_i 10 plGL10q_3 (by decide +kernel) ?_; (conv => whnf); fail_if_success (guard_target =~ False)) | (refine draw_i 10 plGL10q_4 (by decide +kernel) ?_; (conv => whnf); fail_if_success (guard_target =~ False)) | (refine draw_i 10 plGL10q_5 (by decide +kernel) ?_; (conv => whnf); fail_if_success (guard_target =~ False)) | (refine draw_i 10 plGL10q_6 (by decide +kernel) ?_; (conv => whnf); fail_if_success (guard_target =~ False)) | ((with_reducible refine And.intro ?_ ?_) <;> (conv => whnf)) | (with_reducible exact trivial) | ((with_reducible refine branch_d (fun hq => ?_) (fun hq => ?_)) <;> (try (exfalso; omega)) <;> (conv => whnf)) | ((with_reducible refine branch_e (fun hq => ?_) (fun hq => ?_)) <;> (try (exfalso; omega)) <;> (conv => whnf)) | ((with_reducible refine branch_n (fun hq => ?_) (fun hq => ?_)) <;> (try (exfalso; omega)) <;> (conv => whnf)) | ((with_reducible refine branch_i (fun hq => ?_) (fun hq => ?_)) <;> (try (exfalso; omega)) <;> (conv => whnf))))
    all_goals first
      | exact ret_p rfl rfl
      | (exfalso; exact hq rfl)
      | (refine ⟨rs ++ [⟨List.replicate (P.costs.map encI).length 0, 0, 0⟩], ⟨by simp; omega, by simp; omega, fun r hr => ?_⟩, le_mk ⟨rfl, rfl, rfl, int_eq (by simp; omega), trivial⟩ ⟨?_, rfl, trivial⟩ rfl, by simp; omega⟩
         · rcases List.mem_append.1 hr with hr | hr
           · exact hr3 r hr
           · rw [List.mem_singleton.1 hr]; simp; omega
         · refine congrArg (fun x => some [AV.own 807 3 1 (P.costs.map encI), .own 808 28 3 x]) ?_
           simp only [List.map_append, List.map_cons, List.map_nil, encRow, ints, repl_enc]
           rfl)
end Go.Proofs.Ytiionjpinainlaa
end
