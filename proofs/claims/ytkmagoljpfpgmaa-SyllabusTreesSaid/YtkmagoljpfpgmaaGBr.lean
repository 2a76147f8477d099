/- From a contract of the interpreter to a law's call. -/
import Derived.Test.YtkmagoljpfpgmaaGTape
import Derived.Test.YtkmagoljpfpgmaaFrame
namespace Go.Proofs.Ytkmagoljpfpgmaa
set_option linter.unusedVariables false
set_option linter.unusedSimpArgs false
set_option linter.unnecessarySimpa false
set_option linter.unusedSectionVars false
open Go.RowKit

theorem law_one {f : Nat} {xs : List Int} (hG : Good Try.prog TT false f [ints xs] (· = .bool true)) {w : World} {A : Option Addr} {n c : Nat} (h : Ints w No A n c xs) :
    Calls Try.prog f #[.slice A n c] w (fun e w' => e = .returned (.bool true) ∧ Chg No w w') := by
  have hrep : RepV w (GX (G0 none No (none, 0, 0))) (ints xs) (.slice A n c) := ints_rep (h.move _ (fun b _ _ => rfl) (fun b hb he => by rcases he with he | he <;> simp_all [GM, G0, No]))
  refine Calls.mono (hG.2 w No none [.slice A n c] (none, 0, 0) (fun b hb => absurd hb no_) rfl ⟨hrep, trivial⟩ nofun) ?_
  rintro e w' ⟨u, r, rfl, rfl, hr, hc, -⟩
  have hu : RepV w' (GX (G0 none No (none, 0, 0))) (.bool true) u := hr
  cases hu
  exact ⟨rfl, hc.mono fun b _ hb => by cases hb⟩
theorem law_of {f : Nat} (hG : ∀ xs : List Int, xs.length ≤ 9223372036854775807 → Good Try.prog TT false f [ints xs] (· = .bool true)) {w : World} {A : Option Addr} {n c : Nat} {xs : List Int} (h : Ints w No A n c xs) (hc : c ≤ maxLen) :
    Calls Try.prog f #[.slice A n c] w (fun e w' => e = .returned (.bool true) ∧ Chg No w w') :=
  law_one (hG xs (by
    have h1 := h.len
    have h2 := h.cap
    have h3 : maxLen = 9223372036854775807 := rfl
    omega)) h
end Go.Proofs.Ytkmagoljpfpgmaa
