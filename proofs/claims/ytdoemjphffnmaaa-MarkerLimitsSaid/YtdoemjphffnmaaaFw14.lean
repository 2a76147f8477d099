/- A plain interpreter, part 14: calls of functions by their contracts: the whole. -/
import Derived.Test.YtdoemjphffnmaaaFw13
namespace Go.Proofs.Ytdoemjphffnmaaa
set_option linter.unusedVariables false
set_option linter.unusedSimpArgs false
set_option linter.unnecessarySimpa false
set_option linter.unusedSectionVars false
open Go.RowKit

section
variable {P : Program} {T : Nat → Ty} {tt : Nat} {w0 : En} {w w' : World} {G : Gh} {s : St} {a : Act} {B : Nat} {Q : Exit → Act → World → Prop}
/-- The tape behind a call. -/
theorem tape_after {tp : Option Nat} (S : Sim tt w0 G s a w) (htp : tp = G.tape ∨ tp = none) (hc : Chg (fun b => tp = some b) w w') (hk : ∀ p, tp = some p → TapeAt tt (fun b => tp = some b) G.hdr.1 G.hdr.2.1 G.hdr.2.2 w' p) :
    ∀ p, G.tape = some p → TapeAt tt (fun b => G.tape = some b) G.hdr.1 G.hdr.2.1 G.hdr.2.2 w p → TapeAt tt (fun b => G.tape = some b) G.hdr.1 G.hdr.2.1 G.hdr.2.2 w' p := fun p hp ht => by
  rcases htp with e | e
  · subst e; exact hk p hp
  · subst e
    exact ht.move (hc.block p ht.lt (by simp)) (fun b hb _ => hc.block b hb (by simp)) fun b _ h => h
/-- A slice that the call made becomes the function's own. -/
theorem Sim.gotOwn (S : Sim tt w0 G s a w) (d : Nat) (v' : Value) (hc : Chg (fun b => G.tape = some b) w w') (ht : ∀ p, G.tape = some p → TapeAt tt (fun b => G.tape = some b) G.hdr.1 G.hdr.2.1 G.hdr.2.2 w p → TapeAt tt (fun b => G.tape = some b) G.hdr.1 G.hdr.2.1 G.hdr.2.2 w' p)
    (hv' : ∀ b, v'.ownBlock = some b → w.heap.size ≤ b ∧ b < w'.heap.size) : Sim tt w0 { G with own := upd G.own d (some v') } (s.map (killF d)) a w' := by
  have hne : ∀ b, b < w.heap.size → G.tape ≠ some b → w'.heap[b]? = w.heap[b]? := fun b hb h => hc.block b hb h
  have H : Shift (· ≠ d) (fun _ => True) G { G with own := upd G.own d (some v') } w w' :=
    ⟨fun b hlt hn => hne b hlt fun e => hn (.inr (.inr e)), fun b hlt hx => by
      rcases hx with ⟨t, ht⟩ | ⟨t, v, h, h'⟩ | h
      · exact .inl ⟨t, ht⟩
      · rcases upd_cases h with ⟨_, e⟩ | ⟨_, e⟩
        · injection e with e
          subst e
          have := hv' b h'
          omega
        · exact .inr (.inl ⟨t, v, e, h'⟩)
      · exact .inr (.inr h), fun b h => h, fun t v h hk => ⟨(upd_ne hk).trans h, fun b hv => hne b (S.ownLt t v b h hv).2 fun e => S.tapeOwn t v b e h hv⟩, fun t b h _ => h, fun p h => h, fun b h => hne b (S.fz1 b h).1 fun e => S.fz3 b e h, fun b h => h, rfl, fun _ _ => rfl, rfl⟩
  have hp : ∀ v u, RP w0.heap.size G w v u → RP w0.heap.size { G with own := upd G.own d (some v') } w' (killF d v) u := fun v u h => by
    rcases killF_ok (T := d) (v := v) with e | ⟨e, hk⟩
    · rw [e]; trivial
    · rw [e]; exact H.rp hk h
  have hcc : ∀ v u, RC w0.heap.size G w v u → RC w0.heap.size { G with own := upd G.own d (some v') } w' (killF d v) u := fun v u h => by
    rcases killF_ok (T := d) (v := v) with e | ⟨e, hk⟩
    · rw [e]; trivial
    · rw [e]; exact H.rc hk h
  have hs := S.chg.size
  refine S.shift (f := killF d) H hp hcc (fun t b h => ⟨b, h, fun _ => ⟨rfl, hne b (S.boxLt t b h).2 fun e => S.tapeBox t b e h⟩⟩) (S.chg.trans hc) hc.size (fun t b h => ⟨(S.boxLt t b h).1, Nat.lt_of_lt_of_le (S.boxLt t b h).2 hc.size⟩) ?ownLt S.boxInj ?ownInj ?boxOwn S.tapeBox ?tapeOwn
    (fun htp => by
      obtain ⟨p, h1, h2⟩ := S.tape htp
      refine ⟨p, h1, ?_⟩
      have h3 : TapeAt tt (fun b => G.tape = some b) G.hdr.1 G.hdr.2.1 G.hdr.2.2 w p := h2.move rfl (fun _ _ _ => rfl) fun b _ h => .inr (.inr h)
      obtain ⟨xs, k, hB, hI, hk⟩ := ht p h1 h3
      obtain ⟨xs', k', hB', hI', hk'⟩ := h2
      exact ⟨xs', k, hB, hI'.move _ H.sh H.gm, hk⟩) S.noTape ?ownFz S.fz3 S.tapeNew
  case ownLt =>
    intro t v b h h'
    rcases upd_cases h with ⟨_, e⟩ | ⟨_, e⟩
    · injection e with e; subst e; have := hv' b h'; omega
    · have := S.ownLt t v b e h'; have := hc.size; omega
  case ownInj =>
    intro t t' v1 v2 b h h' k k'
    rcases upd_cases h with ⟨e1, e⟩ | ⟨e1, e⟩ <;> rcases upd_cases h' with ⟨e2, e'⟩ | ⟨e2, e'⟩
    · exact e1.trans e2.symm
    · injection e with e; subst e; have := hv' b k; have := (S.ownLt t' v2 b e' k').2; omega
    · injection e' with e'; subst e'; have := hv' b k'; have := (S.ownLt t v1 b e k).2; omega
    · exact S.ownInj t t' v1 v2 b e e' k k'
  case boxOwn =>
    intro t t' v b h h' h''
    rcases upd_cases h' with ⟨_, e⟩ | ⟨_, e⟩
    · injection e with e; subst e; have := hv' b h''; have := (S.boxLt t b h).2; omega
    · exact S.boxOwn t t' v b h e h''
  case tapeOwn =>
    intro t v b h h' h''
    rcases upd_cases h' with ⟨_, e⟩ | ⟨_, e⟩
    · injection e with e; subst e; have := hv' b h''; have := S.tapeLt h; omega
    · exact S.tapeOwn t v b h e h''
  case ownFz =>
    intro t v b h h' hz
    rcases upd_cases h with ⟨_, e⟩ | ⟨_, e⟩
    · injection e with e; subst e; have := hv' b h'; have := (S.fz1 b hz).1; omega
    · exact S.fz2 t v b e h' hz
theorem mapT_id {v : AV} : v.mapT id = v := by
  have hg : ∀ v : AV, v.mapG id = v := fun v => by cases v <;> simp [AV.mapG]
  cases v
  case tup vs =>
    simp only [AV.mapT]
    congr 1
    conv => rhs; rw [← List.map_id vs]
    exact List.map_congr_left fun v _ => hg v
  all_goals (simp only [AV.mapT]; exact hg _)
/-- A tape that the call made. -/
theorem Sim.gotTape (S : Sim tt w0 G s a w) (hs : s.tp = false) {p : Nat} {A : Option Addr} {n c : Nat} (hp : w.heap.size ≤ p) (hc : Chg No w w') (ht : TapeAt tt (fun b => GX G b ∨ w.heap.size ≤ b) A n c w' p) :
    Sim tt w0 { G with tape := some p, hdr := (A, n, c) } { s with tp := true } a w' := by
  have hn := S.noTape hs
  have hb : ∀ b, b < w.heap.size → w'.heap[b]? = w.heap[b]? := fun b h => hc.block b h no_
  have H : Shift (fun _ => True) (fun _ => True) G { G with tape := some p, hdr := (A, n, c) } w w' :=
    ⟨fun b hlt _ => hb b hlt, fun b hlt hx => by
      rcases hx with ⟨t, ht⟩ | ⟨t, v, h, h'⟩ | h
      · exact .inl ⟨t, ht⟩
      · exact .inr (.inl ⟨t, v, h, h'⟩)
      · injection h with h; omega, fun b h => h, fun t v h _ => ⟨h, fun b hv => hb b (S.ownLt t v b h hv).2⟩, fun t b h _ => h, (fun p h => by rw [hn] at h; cases h), fun b h => hb b (S.fz1 b h).1, fun b h => h, rfl, (fun p h => by rw [hn] at h; cases h), rfl⟩
  have hs0 := S.chg.size
  have hra : ∀ v u, RA w0.heap.size G w v u → RA w0.heap.size { G with tape := some p, hdr := (A, n, c) } w' v u := fun v u h => by
    have := h.mapT (f := id) (fun v u h => H.rp (okT v) h) (fun v u h => H.rc (okT v) h)
    rwa [mapT_id] at this
  exact
    { slot := fun i => hra _ _ (S.slot i)
      box := fun t cs h => by
        obtain ⟨b, e, us, h1, h2, h3⟩ := S.box t cs h
        exact ⟨b, e, us, h1, h2.chg hc no_, h3.mono fun v u h => H.rc (okT v) h⟩
      defers := S.defers
      chg := (S.chg.andThen hc fun _ _ h => h.elim).mono fun b _ h => by rw [hn] at h; cases h
      boxLt := fun t b h => ⟨(S.boxLt t b h).1, Nat.lt_of_lt_of_le (S.boxLt t b h).2 hc.size⟩
      ownLt := fun t v b h h' => ⟨(S.ownLt t v b h h').1, Nat.lt_of_lt_of_le (S.ownLt t v b h h').2 hc.size⟩
      boxInj := S.boxInj
      ownInj := S.ownInj
      boxOwn := S.boxOwn
      tapeBox := fun t b h h' => by injection h with h; have := (S.boxLt t b h').2; omega
      tapeOwn := fun t v b h h' h'' => by injection h with h; have := (S.ownLt t v b h' h'').2; omega
      tape := fun _ => ⟨p, rfl, ht.move rfl (fun _ _ _ => rfl) fun b hb hx => by
        rcases hx with ⟨t, ht⟩ | ⟨t, v, h, h'⟩ | h
        · exact .inl (.inl (.inl ⟨t, ht⟩))
        · exact .inl (.inl (.inr (.inl ⟨t, v, h, h'⟩)))
        · injection h with h; exact .inr (by omega)⟩
      noTape := fun h => by cases h
      ext := S.ext
      fz1 := fun b h => ⟨Nat.lt_of_lt_of_le (S.fz1 b h).1 hc.size, (hb b (S.fz1 b h).1).trans (S.fz1 b h).2⟩
      fz2 := S.fz2
      fz3 := fun b h hz => by injection h with h; have := (S.fz1 b hz).1; omega
      ext0 := S.ext0
      tape0 := fun p h => by have := (S.tape0 p h).1; rw [hn] at this; cases this
      tapeNew := fun b h hb => by injection h with h; omega }

theorem scalar_ra {v : AV} {u : Value} {B' : Nat} {G' : Gh} {w1 : World} (h : scalar0 v = true) (hr : RG B G w v u) : RG B' G' w1 v u := by
  cases v
  case int k n => cases hr; exact RepV.int _ _
  case bool b => cases hr; exact RepV.bool _
  case str b => cases hr; exact RepV.str _
  all_goals simp [scalar0] at h
theorem scalars_ra {B' : Nat} {G' : Gh} {w1 : World} : ∀ {vs : List AV} {us : List Value}, scalars vs = true → All2 (RG B G w) vs us → All2 (RG B' G' w1) vs us
  | [], [], _, _ => trivial
  | v :: vs, u :: us, h, hA => by
    simp only [scalars, Bool.and_eq_true] at h
    exact ⟨scalar_ra h.1 hA.1, scalars_ra h.2 hA.2⟩
  | [], _ :: _, _, hA => hA.elim
  | _ :: _, [], _, hA => hA.elim
theorem sound_call (S : Sim tt w0 G s a w) (o : Oper) (hd : ∀ x, o.dst = some x → x < a.tmps.size) {K : St → Prop} {c : Call} {f : Operand} (ho : o.op = .call c) (hc : c.callee = .value f) (h : aop P T tt o K s) : o.wp P a w (Nxt tt w0 a.tmps.size (some G) K) Q := by
  simp only [aop, ho, hc] at h
  split at h
  · next g cap hf =>
    have hfr := S.eval f
    rw [hf] at hfr
    obtain ⟨ucap, hfu, hcap⟩ := hfr
    have hA : All2 (RA w0.heap.size G w) (evals s c.args.toList ++ cap) (c.args.toList.map a.eval ++ ucap) := (S.evals c.args.toList).append (hcap.mono fun _ _ h => h.rg.ra)
    generalize hargs : evals s c.args.toList ++ cap = vs at h hA
    obtain ⟨args', h1, hlow⟩ := lowL_sound (tags := tagsL s vs) S (fun _ h => h) h hA
    rw [forceM_eq] at h1
    obtain ⟨tp, htp, htp', htn⟩ : ∃ tp, (tp = G.tape ∨ tp = none) ∧ (hasTape args' = true → tp = G.tape) ∧ (hasTape args' = false → tp = none) := by
      cases hh : hasTape args' with
      | true => exact ⟨G.tape, .inl rfl, fun _ => rfl, by nofun⟩
      | false => exact ⟨none, .inr rfl, by nofun, fun _ => rfl⟩
    have hlow := hlow tp G.hdr htp htp'
    simp only [acall_iff] at h1
    obtain ⟨args2, R, hwk, ⟨hent, hgood⟩, hR⟩ := h1
    have hsome : tp.isSome = hasTape args' := by
      cases hh : hasTape args' with
      | true =>
        obtain ⟨p, hp⟩ := tape_in hh hlow
        rw [hp]; rfl
      | false => rw [htn hh]; rfl
    have hstp : ∀ p, G.tape = some p → s.tp = true := fun p hp => by
      cases hs : s.tp with
      | true => rfl
      | false => rw [S.noTape hs] at hp; cases hp
    have hta : ∀ p, tp = some p → TapeAt tt (fun b => tp = some b) G.hdr.1 G.hdr.2.1 G.hdr.2.2 w p := fun p hp => by
      have hG : tp = G.tape := by rcases htp with e | e; exact e; rw [e] at hp; cases hp
      obtain ⟨p', k1, k2⟩ := S.tape (hstp p (hG ▸ hp))
      rw [hG, k1] at hp
      injection hp with hp
      subst hp
      exact k2.move rfl (fun _ _ _ => rfl) fun b _ hb => .inr (.inr (hG ▸ hb))
    have hcall := hgood w (Cut G (tagsL s vs)) tp _ G.hdr (fun b hb => S.gxLt hb.1) hsome (wks_sound hwk hlow) hta
    have hrun : (execOp a.eval o).run P w = .ok (.enter g (c.args.toList.map a.eval ++ ucap).toArray) w := by
      have e1 : (#[] ++ c.args.map a.eval) ++ ucap.toArray = (c.args.toList.map a.eval ++ ucap).toArray := by cases c.args; simp
      simp only [execOp, ho, resolve, hc, hfu, Deferred.ofValue, Sem.run_bind, Sem.run_pure, Result.andThen_ok, invoke, e1, run_enter hent]
    unfold Oper.wp
    rw [hrun]
    refine Calls.mono hcall fun e w1 he => ?_
    obtain ⟨u, r, rfl, hRr, hret, hchg, htape⟩ := he
    have hk := hR r hRr
    have hG : Chg (fun b => G.tape = some b) w w1 := hchg.mono fun b _ hb => by rcases htp with e | e; exact e ▸ hb; rw [e] at hb; cases hb
    have S1 := S.called hG (tape_after S htp hchg htape)
    obtain ⟨G2, S2, -, hgx2, ht2, hh2, -, hb2, hf1, hf2⟩ := erases S (tagsL s vs)
    have hK2 : Kp (some G) G2 := (Kp.refl G).of hf1 hf2
    have hcut : ∀ b, GX G2 b → Cut G (tagsL s vs) b := hgx2
    have S3 := S2.called (w' := w1) (by rw [ht2]; exact hG) (by rw [ht2, hh2]; exact tape_after S htp hchg htape)
    have htp2 : ∀ p, tp = some p → G2.tape = some p := fun p hp => by rw [ht2]; rcases htp with e | e; exact e ▸ hp; rw [e] at hp; cases hp
    show Nxt tt w0 a.tmps.size (some G) K (a.put o.dst u) w1
    cases r
    case own t0 e z es =>
      simp only [admitV] at hk
      split at hk
      · next d hdd =>
        obtain ⟨css, hown, hcss⟩ := hret
        have hblk : ∀ b, u.ownBlock = some b → w.heap.size ≤ b ∧ b < w1.heap.size := fun b hb => by
          rcases hown.2 with ⟨rfl, _⟩ | ⟨g', cap', cur, rfl, hg', hh', _⟩
          · cases hb
          · simp only [Value.ownBlock, Option.some.injEq] at hb
            subst hb
            exact ⟨hg', (Array.getElem?_eq_some_iff.1 hh').1⟩
        have S4 := S2.gotOwn (w' := w1) d u (by rw [ht2]; exact hG) (by rw [ht2, hh2]; exact tape_after S htp hchg htape) hblk
        refine hdd ▸ ⟨_, _, S4.put (v := .own d e z es) (hd d hdd) ⟨upd_same, css, ?_, hcss.mono fun _ _ h => ⟨h.1, h.2.mono fun _ _ hr => hr.move (fun _ _ _ => rfl) fun b _ hx => ?_⟩⟩, size_put, hk, hK2.of rfl rfl⟩
        · refine ⟨hown.1, ?_⟩
          rcases hown.2 with k | ⟨g', cap', cur, k1, k2, k3⟩
          · exact .inl k
          · exact .inr ⟨g', cap', cur, k1, Nat.le_trans S.chg.size k2, k3⟩
        · rcases hx with (⟨t, ht⟩ | ⟨t, v, h, h'⟩ | h) | h
          · exact .inl (hcut b (.inl (.inl ⟨t, ht⟩)))
          · rcases upd_cases h with ⟨_, e⟩ | ⟨_, e⟩
            · injection e with e; subst e; exact .inr (.inr h')
            · exact .inl (hcut b (.inl (.inr (.inl ⟨t, v, e, h'⟩))))
          · exact .inl (hcut b (.inl (.inr (.inr h))))
          · exact .inl (hcut b (.inr h))
      · exact hk.elim
    case tape =>
      simp only [admitV] at hk
      obtain ⟨p, A, n, cc, rfl, k2, k3, k4⟩ := hret
      split at hk
      · next d hdd hs htg =>
        subst k4
        rw [htg] at k3
        have S4 := S.gotTape hs k2 (hchg.mono fun b _ hb => by cases hb) (k3.move rfl (fun _ _ _ => rfl) fun b _ hb => hb.imp (fun h => ⟨h, fun t ht => by simp at ht⟩) id)
        exact hdd ▸ ⟨_, _, S4.put (v := .tape) (hd d hdd) ⟨p, rfl, rfl⟩, size_put, hk, (Kp.refl G).of rfl rfl⟩
      · exact hk.elim
    case int k n => exact put_sound S1 hd (v := .int k n) (by obtain rfl := RA.int_inv (B := w.heap.size) hret; exact RepV.int _ _) (Kp.refl G) hk
    case bool b => exact put_sound S1 hd (v := .bool b) (by obtain rfl := RA.bool_inv (B := w.heap.size) hret; exact RepV.bool _) (Kp.refl G) hk
    case str b => exact put_sound S1 hd (v := .str b) (by obtain rfl := RA.str_inv (B := w.heap.size) hret; exact RepV.str _) (Kp.refl G) hk
    case nil => exact put_sound S3 hd (v := .nil) (show u = .slice none 0 0 from hret) hK2 hk
    case lst z es => exact put_sound S3 hd (v := .lst z es) (rep_back hcut (show RepV w1 (GX (G0 tp (Cut G (tagsL s vs)) (none, 0, 0))) (.lst z es) u from hret)) hK2 hk
    case agg cs =>
      obtain ⟨us', rfl, h⟩ := (show RA w.heap.size (G0 tp (Cut G (tagsL s vs)) (none, 0, 0)) w1 (.agg cs) u from hret)
      exact put_sound S3 hd (v := .agg cs) ⟨us', rfl, h.mono fun _ _ h => rc_back hcut h⟩ hK2 hk
    case tup rs =>
      obtain ⟨us', rfl, h⟩ := (show RA w.heap.size (G0 tp (Cut G (tagsL s vs)) (none, 0, 0)) w1 (.tup rs) u from hret)
      simp only [admitV] at hk
      split at hk
      · next hsc => exact put_sound S1 hd (v := .tup rs) ⟨us', rfl, scalars_ra hsc h⟩ (Kp.refl G) hk
      · split at hk
        · next hdt => exact put_sound S3 hd (v := .tup rs) ⟨us', rfl, data_back hcut htp2 hdt h⟩ hK2 hk
        · exact hk.elim
    all_goals exact hk.elim
  · exact h.elim
end
end Go.Proofs.Ytdoemjphffnmaaa
