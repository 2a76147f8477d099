/- A plain interpreter, part 15: operations, regions and code: the model does what the interpreter says. -/
import Derived.Test.YtlminbeepaacjaaFwMap
namespace Go.Proofs.Ytlminbeepaacjaa
set_option linter.unusedVariables false
set_option linter.unusedSimpArgs false
set_option linter.unnecessarySimpa false
set_option linter.unusedSectionVars false
open Go.RowKit

section
variable {P : Program} {T : Nat → Ty} {tt : Nat} {w0 : En} {w w' : World} {G : Gh} {s : St} {a : Act} {B : Nat} {Q : Exit → Act → World → Prop}
def kp (o : Oper) (G : Gh) : Option Gh := match o.op with | .store _ _ _ => none | _ => some G
theorem aop_sound (hT : TabOk P T) (S : Sim tt w0 G s a w) (o : Oper) (hd : ∀ x, o.dst = some x → x < a.tmps.size) {K : St → Prop} (h : aop P T tt o K s) : o.wp P a w (Nxt tt w0 a.tmps.size (kp o G) K) Q := by
  unfold kp
  cases ho : o.op
  case box t x => exact sound_box (T := T) S o hd ho h
  case alloc t => exact sound_alloc hT S o hd ho h
  case store t x y => exact Oper.wp_mono (fun _ _ h => h.weaken) (sound_store hT S o ho h)
  case load t x => exact sound_load hT S o hd ho h
  case buildSlice t n parts => exact sound_buildSlice hT S o hd ho h
  case makeSlice t l c => exact sound_makeSlice hT S o hd ho h
  case slice t x lo hi mx => exact sound_slice hT S o hd ho h
  case binOp op t x y yt => exact sound_binOp hT S o hd ho h
  case makeMap t r => exact sound_makeMap (T := T) S o hd ho h
  case lookup t x k ok => exact sound_lookup (T := T) S o hd ho h
  case mapUpdate t x k y => exact sound_update (T := T) S o ho h
  case call c =>
    cases hc : c.callee
    case value f => exact sound_call (T := T) S o hd ho hc h
    case invoke r m => exact aval_wp hT S o hd (Kp.refl G) (by simp only [aop, ho, hc] at h; rw [ho]; exact h)
    case builtin b =>
      cases b
      case append => exact sound_append hT S o hd ho hc h
      case copy => exact sound_copy hT S o hd ho hc h
      all_goals exact aval_wp hT S o hd (Kp.refl G) (by simp only [aop, ho, hc] at h; rw [ho]; exact h)
  all_goals exact aval_wp hT S o hd (Kp.refl G) (by simp only [aop, ho] at h; rw [ho]; exact h)
theorem aopE_sound (hT : TabOk P T) {ops : Array Oper} (S : Sim tt w0 G s a w) (o : Oper) {K : St → Prop} (h : aopE P T tt ops o K s) :
    Region.wanted o (yielded ops a.tmps) = true ∧ o.wp P a w (Nxt tt w0 a.tmps.size (some G) K) Q := by
  unfold aopE at h
  split at h
  · next hg =>
    refine ⟨by simp [Region.wanted, hg], ?_⟩
    have he := h.1
    unfold isElem at he
    split at he
    · next t x y ho =>
      have key := sound_store (Q := Q) hT S o ho h.2
      split at he
      · next hb => rwa [show kpS s x G = some G by simp only [kpS, hb]] at key
      · exact he.elim
    · exact he.elim
  · exact h.elim
theorem aopG_sound (hT : TabOk P T) {ops : Array Oper} (S : Sim tt w0 G s a w) (o : Oper) (hd : ∀ x, o.dst = some x → x < a.tmps.size) {K : St → Prop} (h : aopG P T tt ops o K s) :
    if Region.wanted o (yielded ops a.tmps) = true then o.wp P a w (Nxt tt w0 a.tmps.size (kp o G) K) Q else Nxt tt w0 a.tmps.size (some G) K (a.put o.dst undef) w := by
  unfold aopG guardOf at h
  split at h
  · next hg =>
    have hw : Region.wanted o (yielded ops a.tmps) = true := by simp [Region.wanted, hg]
    rw [if_pos hw]
    exact aop_sound hT S o hd h
  · next j want hg =>
    split at h
    · next oj hj =>
      split at h
      · next d hdj =>
        split at h
        · next b hb =>
          have hr := S.slot d
          rw [hb] at hr
          have hu := hr.bool_inv
          have hy : yielded ops a.tmps j = some b := by
            have : a.tmps[d]? = some (.bool b) := by
              simp only [Array.getD_eq_getD_getElem?] at hu
              cases hx : a.tmps[d]? with
              | none => rw [hx] at hu; simp [undef] at hu
              | some v => rw [hx] at hu; simpa using hu
            simp [yielded, hj, hdj, this]
          have hw : Region.wanted o (yielded ops a.tmps) = (b == want) := by
            simp only [Region.wanted, hg, hy]
            cases b <;> cases want <;> rfl
          simp only [branch_iff] at h
          cases b with
          | true =>
            have h1 := h.1 rfl
            have S1 := S.know (d := d) (v := .bool true) hr
            cases want with
            | true => rw [if_pos (by rw [hw]; rfl)]; exact aop_sound hT S1 o hd h1
            | false => rw [if_neg (by rw [hw]; decide)]; exact put_sound S1 hd (v := .tup []) ⟨[], rfl, trivial⟩ (Kp.refl G) h1
          | false =>
            have h1 := h.2 rfl
            have S1 := S.know (d := d) (v := .bool false) hr
            cases want with
            | true => rw [if_neg (by rw [hw]; decide)]; exact put_sound S1 hd (v := .tup []) ⟨[], rfl, trivial⟩ (Kp.refl G) h1
            | false => rw [if_pos (by rw [hw]; rfl)]; exact aop_sound hT S1 o hd h1
        · next vs hb =>
          have hr := S.slot d
          rw [hb] at hr
          obtain ⟨us, hu, _⟩ := hr
          have hy : yielded ops a.tmps j = none := by
            simp only [Array.getD_eq_getD_getElem?] at hu
            cases hx : a.tmps[d]? with
            | none => simp [yielded, hj, hdj, hx]
            | some v =>
              rw [hx] at hu
              simp only [Option.getD_some] at hu
              subst hu
              simp [yielded, hj, hdj, hx]
          have hw : Region.wanted o (yielded ops a.tmps) = false := by simp [Region.wanted, hg, hy]
          rw [if_neg (by rw [hw]; decide)]
          exact put_sound S hd (v := .tup []) ⟨[], rfl, trivial⟩ (Kp.refl G) h
        · exact h.elim
      · exact h.elim
    · exact h.elim

/-- What is to be shown of code: where it comes out, a state stands for what is there. -/
def Out (tt : Nat) (w0 : En) (n : Nat) (Q : Ex → St → Prop) : Exit → Act → World → Prop
  | .normal, a, w => Nxt tt w0 n none (Q .norm) a w
  | .exit i, a, w => Nxt tt w0 n none (Q (.exit i)) a w
  | .ret, a, w => Nxt tt w0 n none (Q .ret) a w
  | _, _, _ => False
def dstOk (n : Nat) (o : Oper) : Bool := match o.dst with | some d => Nat.blt d n | none => true
def opsOk (n : Nat) : List Oper → Bool
  | [] => true
  | o :: os => dstOk n o && opsOk n os
theorem opsOk_at {n : Nat} : ∀ {os : List Oper} {i : Nat} {o : Oper}, opsOk n os = true → os[i]? = some o → ∀ x, o.dst = some x → x < n
  | [], i, o, _, h, x, hx => by simp at h
  | o' :: os, 0, o, hk, h, x, hx => by
    simp only [opsOk, Bool.and_eq_true] at hk
    simp only [List.getElem?_cons_zero, Option.some.injEq] at h
    subst h
    have := hk.1
    simp only [dstOk, hx] at this
    simpa using this
  | o' :: os, i + 1, o, hk, h, x, hx => by
    simp only [opsOk, Bool.and_eq_true] at hk
    exact opsOk_at hk.2 (by simpa using h) x hx
theorem aops_sound (hT : TabOk P T) {ops : Array Oper} {n : Nat} (hok : opsOk n ops.toList = true) {K : St → Prop} : ∀ (m k : Nat), k + m = ops.size → ∀ (G : Gh) (s : St) (a : Act) (w : World), a.tmps.size = n → Sim tt w0 G s a w → aops P T tt ops (ops.toList.drop k) K s →
    wpOps P ops (fun e a w => match e with | .normal => Nxt tt w0 n none K a w | _ => False) (List.range' k m) a w
  | 0, k, hk, G, s, a, w, hn, S, h => by
    rw [List.drop_of_length_le (by simp; omega)] at h
    exact ⟨G, s, S, hn, h, Kp.none⟩
  | m + 1, k, hk, G, s, a, w, hn, S, h => by
    have hlt : k < ops.size := by omega
    rw [List.drop_eq_getElem_cons (by simpa using hlt)] at h
    simp only [aops] at h
    rw [List.range'_succ, wpOps_cons]
    have ho : ops[k]? = some ops[k] := Array.getElem?_eq_getElem hlt
    unfold wpOp
    simp only [ho]
    have hd := opsOk_at hok (show ops.toList[k]? = some ops[k] by simpa using ho)
    have key := aopG_sound (P := P) (Q := fun e a w => match e with | .normal => Nxt tt w0 n none K a w | _ => False) hT S ops[k] (by rw [hn]; exact hd) h
    have nx : ∀ F a' w', Nxt tt w0 a.tmps.size F (fun s' => aops P T tt ops (ops.toList.drop (k + 1)) K s') a' w' → wpOps P ops (fun e a w => match e with | .normal => Nxt tt w0 n none K a w | _ => False) (List.range' (k + 1) m) a' w' := fun F a' w' ⟨G', s', S', hn', h', _⟩ =>
      aops_sound hT hok m (k + 1) (by omega) G' s' a' w' (hn'.trans hn) S' h'
    split
    · next hw =>
      rw [if_pos hw] at key
      exact .inl (Oper.wp_mono (nx _) key)
    · next hw =>
      rw [if_neg hw] at key
      exact nx _ _ _ key
end
end Go.Proofs.Ytlminbeepaacjaa
