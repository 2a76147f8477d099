/- A plain interpreter, part 18: from a function's text to its contract; what a state may be weakened to. -/
import Derived.Test.YtlminbeepaacjaaFw17
namespace Go.Proofs.Ytlminbeepaacjaa
set_option linter.unusedVariables false
set_option linter.unusedSimpArgs false
set_option linter.unnecessarySimpa false
set_option linter.unusedSectionVars false
open Go.RowKit

def ares (T : Nat → Ty) (s : St) : List ResultVar → (List AV → Prop) → Prop
  | [], K => K []
  | .tmp t :: rs, K => force (s.slot t) fun v => ares T s rs fun vs => K (v :: vs)
  | .cell b t :: rs, K => match s.slot b with
    | .ptr b' off => match s.box b' with
      | some cs => loadAs (T t) (cs.drop off) fun v => force v fun v => ares T s rs fun vs => K (v :: vs)
      | none => False
    | _ => False
def plainC : AV → Bool
  | .int _ _ => true
  | .bool _ => true
  | .str _ => true
  | .lst _ _ => true
  | .nil => true
  | _ => false
/-- As what a value may be returned. -/
def RetC (v r : AV) : Prop := (r = v ∧ plainC v = true) ∨ (∃ t e z es, v = .own t e z es ∧ r = .lst z es) ∨ (v = .nil ∧ ∃ z, r = .lst z [])
def RetG (v r : AV) : Prop := RetC v r ∨ ∃ cs cs', v = .agg cs ∧ r = .agg cs' ∧ All2 RetC cs cs'
def RetV (v r : AV) : Prop := RetG v r ∨ (∃ t e z es, v = .own t e z es ∧ r = .own 0 e z es) ∨ (v = .nil ∧ ∃ e z, r = .own 0 e z []) ∨ ∃ vs rs, v = .tup vs ∧ r = .tup rs ∧ All2 RetG vs rs
structure aret (v : AV) (R : AV → Prop) : Prop where
  out : ∃ r, RetV v r ∧ R r
theorem aret_iff {v : AV} {R : AV → Prop} : aret v R ↔ (∃ r, RetV v r ∧ R r) := ⟨fun h => h.out, fun h => ⟨h⟩⟩
def afin (T : Nat → Ty) (rs : List ResultVar) (R : AV → Prop) (s : St) : Prop := ares T s rs fun vs => match vs with
  | [v] => aret v R
  | vs => aret (.tup vs) R
def init (b : Bool) (args : List AV) : St := ⟨fun i => args.getD i .undef, fun _ => none, b⟩
def abody (P : Program) (T : Nat → Ty) (tt : Nat) (cuts : Nat → Bool) (c : Code) (rs : List ResultVar) (b : Bool) (args : List AV) (R : AV → Prop) : Prop :=
  acode P T tt cuts c (fun e s => match e with | .norm => afin T rs R s | .ret => afin T rs R s | .exit _ => False) (init b args)
section
variable {P : Program} {T : Nat → Ty} {tt : Nat} {w0 : En} {w w' : World} {G : Gh} {s : St} {a : Act} {n : Nat}
def resSem (tmps : Array Value) : ResultVar → Sem Value
  | .tmp t => pure (tmps.getD t undef)
  | .cell b t => do loadVar t (← asAddr (tmps.getD b undef))
theorem results_eq (fn : Func) (tmps : Array Value) : results fn tmps = (do
    let vs ← fn.results.mapM (resSem tmps)
    pure (if h : vs.size = 1 then vs[0] else .tuple vs)) := by
  unfold results
  congr 1
theorem ares_sound (hT : TabOk P T) (S : Sim tt w0 G s a w) : ∀ {rs : List ResultVar} {K : List AV → Prop}, ares T s rs K → ∃ vs us, K vs ∧ All2 (RA w0.heap.size G w) vs us ∧
    (rs.mapM (resSem a.tmps)).run P w = .ok us w
  | [], K, h => ⟨[], [], h, trivial, by simp⟩
  | .tmp t :: rs, K, h => by
    simp only [ares, force_eq] at h
    obtain ⟨vs, us, h1, h2, h3⟩ := ares_sound hT S h
    exact ⟨_, a.tmps.getD t undef :: us, h1, ⟨S.slot t, h2⟩, by simp only [List.mapM_cons, resSem, Sem.run_bind, Sem.run_pure, Result.andThen_ok, h3]⟩
  | .cell b t :: rs, K, h => by
    simp only [ares] at h
    have hb := S.slot b
    split at h
    · next b' off he =>
      rw [he] at hb
      obtain ⟨bb, hbb, hu⟩ := hb
      split at h
      · next cs hcs =>
        obtain ⟨b2, e, us0, k1, k2, k3⟩ := S.box b' cs hcs
        rw [hbb] at k1
        injection k1 with k1
        subst k1
        obtain ⟨v, u, m1, m2, m3⟩ := load_sound (P := P) (b := bb) (o := off) hT h (k3.drop off)
        rw [force_eq] at m1
        obtain ⟨vs, us, h1, h2, h3⟩ := ares_sound hT S m1
        refine ⟨_, u :: us, h1, ⟨RC.of_load m2, h2⟩, ?_⟩
        have := m3 w (fun j v hv => by rw [k2.cell]; rw [List.getElem?_drop] at hv; simpa using hv)
        simp only [Instr.loadAt, Instr.sureAddr, Sem.run_bind, Sem.run_pure, Result.andThen_ok] at this
        simp only [List.mapM_cons, resSem, Sem.run_bind, hu, asAddr, Sem.run_pure, Result.andThen_ok, this, h3]
      · exact h.elim
    · exact h.elim
theorem retc_sound {X : Nat → Prop} {tp : Option Nat} (S : Sim tt w0 G s a w) (hX : w0.X = X) (htp : w0.tp = tp) {v r : AV} {u : Value} (h : RetC v r) (hr : RC w0.heap.size G w v u) : RC w0.heap.size (G0 tp X (none, 0, 0)) w r u := by
  have hgx : ∀ b, GX (G0 tp X (none, 0, 0)) b → GX G b := fun b hb => by
    rcases hb with (⟨t, ht⟩ | ⟨t, v, ht, _⟩ | ht) | hb
    · cases ht
    · cases ht
    · exact .inl (.inr (.inr (S.tape0 b (htp.trans ht)).1))
    · exact .inr (by rw [S.ext0, hX]; exact hb)
  rcases h with ⟨rfl, hp⟩ | ⟨t, e, z, es, rfl, rfl⟩ | ⟨rfl, z, rfl⟩
  · cases r
    case nil => exact hr
    case int => exact RepV.move hr (fun _ _ _ => rfl) fun b _ => hgx b
    case bool => exact RepV.move hr (fun _ _ _ => rfl) fun b _ => hgx b
    case str => exact RepV.move hr (fun _ _ _ => rfl) fun b _ => hgx b
    case lst => exact RepV.move hr (fun _ _ _ => rfl) fun b _ => hgx b
    all_goals simp [plainC] at hp
  · refine hr.2.rep (fun b _ => hgx b) fun b hb hx => ?_
    rcases hx with (⟨t, ht⟩ | ⟨t, v, ht, _⟩ | ht) | hx
    · cases ht
    · cases ht
    · exact S.tapeOwn _ _ b (S.tape0 b (htp.trans ht)).1 hr.1 hb
    · have h1 := S.ext b (by rw [S.ext0, hX]; exact hx)
      have := (S.ownLt _ _ b hr.1 hb).1
      omega
  · have : u = .slice none 0 0 := hr
    subst this
    exact RepV.nil z _ _
theorem retg_sound {X : Nat → Prop} {tp : Option Nat} (S : Sim tt w0 G s a w) (hX : w0.X = X) (htp : w0.tp = tp) {v r : AV} {u : Value} (h : RetG v r) (hr : RG w0.heap.size G w v u) : RG w0.heap.size (G0 tp X (none, 0, 0)) w r u := by
  rcases h with h | ⟨cs, cs', rfl, rfl, hA⟩
  · have : RC w0.heap.size G w v u := by
      rcases h with ⟨rfl, hp⟩ | ⟨t, e, z, es, rfl, rfl⟩ | ⟨rfl, z, rfl⟩
      · cases r <;> first | exact hr | (simp [plainC] at hp)
      · exact hr
      · exact hr
    exact (retc_sound S hX htp h this).rp.rg
  · obtain ⟨us, rfl, hc⟩ := hr
    refine ⟨us, rfl, All2.of (hA.len.symm.trans hc.len) fun j c u h1 h2 => ?_⟩
    obtain ⟨c0, k1, k2⟩ := hA.get' h1
    obtain ⟨u0, k3, k4⟩ := hc.get k1
    rw [h2] at k3
    injection k3 with k3
    subst k3
    exact retc_sound S hX htp k2 k4
theorem RG.notOwn {B : Nat} {tp : Option Nat} {X : Nat → Prop} {h : Option Addr × Nat × Nat} {t e z : Nat} {es : List (List AV)} {u : Value} (hr : RG B (G0 tp X h) w (.own t e z es) u) : False := by
  have := (show RC B (G0 tp X h) w (.own t e z es) u from hr).1
  simp [G0] at this
theorem ret_sound {X : Nat → Prop} {tp : Option Nat} (S : Sim tt w0 G s a w) (hX : w0.X = X) (htp : w0.tp = tp) {v r : AV} {u : Value} (h : RetV v r) (hr : RA w0.heap.size G w v u) : RetR tt tp X w0 w r u := by
  rcases h with h | ⟨t, e, z, es, rfl, rfl⟩ | ⟨rfl, e, z, rfl⟩ | ⟨vs, rs, rfl, rfl, hA⟩
  · have hg : RG w0.heap.size G w v u := by
      rcases h with (⟨rfl, hp⟩ | ⟨t, e, z, es, rfl, rfl⟩ | ⟨rfl, z, rfl⟩) | ⟨cs, cs', rfl, rfl, hA⟩
      · cases r <;> first | exact hr | (simp [plainC] at hp)
      · exact hr
      · exact hr
      · exact hr
    have := retg_sound S hX htp h hg
    have hr' : r ≠ .tape ∧ ∀ t e z es, r ≠ .own t e z es := by
      rcases h with (⟨rfl, hp⟩ | ⟨t, e, z, es, rfl, rfl⟩ | ⟨rfl, z, rfl⟩) | ⟨cs, cs', rfl, rfl, hA⟩
      · cases r <;> first | (simp [plainC] at hp; done) | exact ⟨by simp, by simp⟩
      · exact ⟨by simp, by simp⟩
      · exact ⟨by simp, by simp⟩
      · exact ⟨by simp, by simp⟩
    cases r
    case tape => exact absurd rfl hr'.1
    case own => exact absurd rfl (hr'.2 _ _ _ _)
    all_goals exact this.ra
  · obtain ⟨hG, css, h1, h2⟩ := (show RC w0.heap.size G w (.own t e z es) u from hr)
    refine ⟨css, h1, h2.mono fun _ _ h => ⟨h.1, h.2.mono fun _ _ hr => hr.move (fun _ _ _ => rfl) fun b _ hb => ?_⟩⟩
    rcases hb with hb | hb | hb
    · exact .inr (by rw [S.ext0, hX]; exact hb)
    · exact .inl (.inr (.inr (S.tape0 b (htp.trans hb)).1))
    · exact .inl (.inr (.inl ⟨t, u, hG, hb⟩))
  · obtain rfl := hr.nil_inv
    exact ⟨[], World.ownsRow_nil w w0.heap.size e z, trivial⟩
  · obtain ⟨us, rfl, hc⟩ := hr
    refine ⟨us, rfl, All2.of (hA.len.symm.trans hc.len) fun j c u h1 h2 => ?_⟩
    obtain ⟨c0, k1, k2⟩ := hA.get' h1
    obtain ⟨u0, k3, k4⟩ := hc.get k1
    rw [h2] at k3
    injection k3 with k3
    subst k3
    exact retg_sound S hX htp k2 k4
/-- From the interpreter to a contract. -/
theorem good_of_c (cuts : Nat → Bool) (hmx : P.follows .mixedOrders = true) (hT : TabOk P T) {f : Nat} {fn : Func} {c : Code} {rs : List ResultVar} {b : Bool} {args : List AV} {R : AV → Prop} (hf : P.funcs[f]? = some fn) (hbd : fn.body = some c) (hname : (fn.name == "runtime.NumGoroutine") = false)
    (hn : fn.ntmps = n) (hrs : fn.results = rs.toArray) (hlen : Nat.ble args.length n = true) (hw : wf n c = true) (h : abody P T tt cuts c rs b args R) : Good P tt b f args R := by
  refine ⟨⟨fn, c, hf, hname, hbd⟩, fun w X tp us hd hX htp hA hta => ?_⟩
  have hlen' : args.length ≤ n := Nat.le_of_ble_eq_true hlen
  have hl := hA.len
  have hsz : (us.toArray ++ Array.replicate (fn.ntmps - us.toArray.size) undef).size = n := by simp; omega
  have S : Sim tt ⟨w, X, tp, hd⟩ (G0 tp X hd) (init b args) { tmps := us.toArray ++ Array.replicate (fn.ntmps - us.toArray.size) undef, defers := [] } w :=
    { slot := fun i => by
        show RA w.heap.size (G0 tp X hd) w (args.getD i .undef) _
        rcases Nat.lt_or_ge i us.length with hi | hi
        · obtain ⟨v, k1, k2⟩ := hA.get' (List.getElem?_eq_getElem hi)
          have e1 : (us.toArray ++ Array.replicate (fn.ntmps - us.toArray.size) undef).getD i undef = us[i] := by
            simp [Array.getD_eq_getD_getElem?, Array.getElem?_append, hi]
          simp only [e1, List.getD_eq_getElem?_getD, k1, Option.getD_some]
          exact k2
        · have : args[i]? = none := List.getElem?_eq_none (by omega)
          simp only [List.getD_eq_getElem?_getD, this, Option.getD_none]
          trivial
      box := fun t cs h => by cases h
      defers := rfl
      chg := Chg.refl _ _
      boxLt := fun t b h => by cases h
      ownLt := fun t v b h => by cases h
      boxInj := fun t t' b h => by cases h
      ownInj := fun t t' v v' b h => by cases h
      boxOwn := fun t t' v b h => by cases h
      tapeBox := fun t b _ h => by cases h
      tapeOwn := fun t v b _ h => by cases h
      tape := fun h => by
        have hb : b = true := h
        rw [hb] at htp
        obtain ⟨p, rfl⟩ := Option.isSome_iff_exists.1 htp
        refine ⟨p, rfl, (hta p rfl).move rfl (fun _ _ _ => rfl) fun b _ hb => ?_⟩
        rcases hb with ⟨t, ht⟩ | ⟨t, v, ht, _⟩ | hb
        · cases ht
        · cases ht
        · exact hb
      noTape := fun h => by
        have hb : b = false := h
        rw [hb] at htp
        show tp = none
        exact Option.not_isSome_iff_eq_none.1 (by rw [htp]; nofun)
      ext := fun b h => hX b h
      fz1 := fun b h => h.elim
      fz2 := fun t v b h => by cases h
      fz3 := fun b _ h => h.elim
      ext0 := rfl
      tape0 := fun p h => ⟨h, rfl⟩
      tapeNew := fun b h _ => h }
  refine calls_of_wp hf hbd (wp_mono (code_sound hmx hT c _ _ _ _ _ hw h S hsz) fun e a' w' ho => ?_)
  have key : ∀ Q, Nxt tt ⟨w, X, tp, hd⟩ n none Q a' w' → (∀ s, Q s → afin T rs R s) → a'.defers = [] ∧ ∃ v, (results fn a'.tmps).run P w' = .ok v w' ∧ ∃ u r, Ending.returned v = .returned u ∧ R r ∧ RetR tt tp X w w' r u ∧ Chg (fun b => tp = some b) w w' ∧ ∀ p, tp = some p → TapeAt tt (fun b => tp = some b) hd.1 hd.2.1 hd.2.2 w' p := fun Q ⟨G, s, S', _, hq, _⟩ hQ => by
    refine ⟨S'.defers, ?_⟩
    obtain ⟨vs, us', k1, k2, k3⟩ := ares_sound hT S' (hQ s hq)
    have hrun : (results fn a'.tmps).run P w' = .ok (if h : us'.toArray.size = 1 then us'.toArray[0] else .tuple us'.toArray) w' := by
      rw [results_eq, hrs, Array.mapM_eq_mapM_toList]
      simp only [Sem.run_bind, Sem.run_map, k3, Result.andThen_ok, Sem.run_pure]
    have hchg : Chg (fun b => tp = some b) w w' := S'.chg.mono fun b hb h => S'.tapeNew b h hb
    have htape : ∀ p, tp = some p → TapeAt tt (fun b => tp = some b) hd.1 hd.2.1 hd.2.2 w' p := fun p hp => by
      obtain ⟨g1, g2⟩ := S'.tape0 p hp
      have hs : s.tp = true := by
        cases h : s.tp with
        | true => rfl
        | false => rw [S'.noTape h] at g1; cases g1
      obtain ⟨p', m1, m2⟩ := S'.tape hs
      rw [g1] at m1
      injection m1 with m1
      subst m1
      rw [g2] at m2
      exact m2.move rfl (fun _ _ _ => rfl) fun b _ hb => .inr (.inr (S'.tape0 b hb).1)
    refine ⟨_, hrun, ?_⟩
    split at k1
    · next v =>
      obtain ⟨u, us2, rfl, m1, m2⟩ := k2.cons_inv
      obtain rfl := m2.nil_inv
      simp only [aret_iff] at k1
      obtain ⟨r, q1, q2⟩ := k1
      exact ⟨u, r, rfl, q2, ret_sound S' rfl rfl q1 m1, hchg, htape⟩
    · next hvs =>
      simp only [aret_iff] at k1
      obtain ⟨r, q1, q2⟩ := k1
      have hone : ¬ us'.toArray.size = 1 := fun h => by
        have hl : vs.length = 1 := by rw [k2.len]; simpa using h
        obtain ⟨v, rfl⟩ := List.length_eq_one_iff.1 hl
        exact hvs v rfl
      rw [dif_neg hone]
      refine ⟨_, r, rfl, q2, ret_sound (v := .tup vs) S' rfl rfl q1 ⟨us', rfl, ?_⟩, hchg, htape⟩
      refine All2.of k2.len fun j v u h1 h2 => ?_
      obtain ⟨u', k5, k6⟩ := k2.get h1
      rw [h2] at k5
      injection k5 with k5
      subst k5
      -- a component of a tuple is no tuple
      rcases q1 with q | ⟨t, e, z, es, q, _⟩ | ⟨q, _⟩ | ⟨vs', rs', q, _, qA⟩
      · rcases q with (⟨_, hp⟩ | ⟨_, _, _, _, q, _⟩ | ⟨q, _⟩) | ⟨_, _, q, _⟩ <;> first | (cases q; done) | (simp [plainC] at hp)
      · cases q
      · cases q
      · injection q with q
        subst q
        obtain ⟨r0, g1, g2⟩ := qA.get h1
        rcases g2 with (⟨_, hp⟩ | ⟨_, _, _, _, rfl, _⟩ | ⟨rfl, _⟩) | ⟨_, _, rfl, _⟩
        · cases v <;> first | exact k6 | (simp [plainC] at hp)
        · exact k6
        · exact k6
        · exact k6
  cases e with
  | normal => exact key _ ho fun s h => h
  | ret => exact key _ ho fun s h => h
  | exit i => obtain ⟨_, _, _, _, h, _⟩ := ho; exact h.elim
  | goto l => exact ho.elim
  | panic c => exact ho.elim
  | outgrown => exact ho.elim
theorem good_of (hmx : P.follows .mixedOrders = true) (hT : TabOk P T) {f : Nat} {fn : Func} {c : Code} {rs : List ResultVar} {b : Bool} {args : List AV} {R : AV → Prop} (hf : P.funcs[f]? = some fn) (hbd : fn.body = some c) (hname : (fn.name == "runtime.NumGoroutine") = false)
    (hn : fn.ntmps = n) (hrs : fn.results = rs.toArray) (hlen : Nat.ble args.length n = true) (hw : wf n c = true) (h : abody P T tt (fun _ => false) c rs b args R) : Good P tt b f args R := good_of_c (fun _ => false) hmx hT hf hbd hname hn hrs hlen hw h
end
end Go.Proofs.Ytlminbeepaacjaa
