/- Several texts in one: Pl31, T23h, Laid. (Printed small by a program: remarks, spaces and repeated headings are taken out.) -/
import Derived.Test.YtihjphblcohdeaaGreatDoorC9
import Derived.Test.YtihjphblcohdeaaGreatDoorRows
import Derived.Test.YtihjphblcohdeaaGreatDoorC4
import Derived.ProofKit
import Derived.LaidMore
import Derived.OpenShut
import Derived.Stop.Joined
set_option linter.unusedVariables false
set_option linter.unusedSimpArgs false
set_option linter.unnecessarySimpa false
set_option linter.unusedSectionVars false
namespace Go.Proofs.YtihjphblcohdeaaGreatDoor
set_option maxRecDepth 10000
open Go.RowKit
open F32
section
variable {x:Sit} {A:List (List Int)} {P:List (LabD×List Int)} {out:List Cap} {at_:LabD} {S:List ScS} {Pg:List Pag}
theorem out_gc (hC:Caps x A P out):∀c∈out,GC x P at_ c:=fun c hc=>(caps_gc hC hc).1
theorem out_new (hx:SitOk x) (hC:Caps x A P out) (e:ExpD):∀c∈out,NewC x at_ c→rejB out c=true∨at_.cand≠e.cand:=fun c hc hn=>absurd hn (no_new hx hC hc)
theorem out_rej (hx:SitOk x) (hC:Caps x A P out) (c:Cap):rejB out c=false:=
 rejB_scans (fun c hc=>by
  rcases caps_kind hC hc with h|h
  ·exact h.1
  ·exact absurd hx h) c
theorem out_in (hx:SitOk x) (hP:P.map (·.1)=labsOf x) (hC:Caps x A P out):InOk x out (lbG x at_):=by
 have:=early_in (at_:=at_) hx hP hC out.length
 rwa [List.take_length] at this
theorem out_cpl (hx:SitOk x) (hP:P.map (·.1)=labsOf x) (hC:Caps x A P out) (hO:Outc x out (lbG x at_) S Pg) {e:ExpD} (he:e∈x.exp):Cpl x S Pg e:=
 cpl_of hx hP (out_gc hC) hO he (out_new hx hC e) fun p hp _=>by
  obtain ⟨c,hc,h3⟩:=hC.all p hp
  exact ⟨c,hc,h3,out_rej hx hC c⟩
theorem out_states (hx:SitOk x) (hP:P.map (·.1)=labsOf x) (hC:Caps x A P out) (hO:Outc x out (lbG x at_) S Pg):∀s∈S,s.state=1∨s.state=2:=fun s hs=>by
 rcases hO.other s hs with h|h|h|⟨c,hc,hk,h|h⟩
 ·exact .inl h
 ·exact .inr h
 ·obtain ⟨c,d,hc,hd,hne⟩:=hO.conf s hs h
  rcases ing_cases hx hP (out_gc hC c hc.1) hc with ⟨p,hp,h1,h2,h3⟩|⟨h1, -⟩
  ·rcases ing_cases hx hP (out_gc hC d hd.1) hd with ⟨q,hq,h4,h5,h6⟩|⟨h4, -⟩
   ·exact absurd (scan_same hx hP hp hq h1 h4 (h2.trans h5.symm) (h3.trans h6.symm)) hne
   ·exact absurd h4 (no_new hx hC hd.1)
  ·exact absurd h1 (no_new hx hC hc.1)
 ·rw [out_rej hx hC] at h;cases h
 ·obtain ⟨-, -,p,hp,h3⟩:=hC.cap c hc
  rw [lbG_scan hx hP hp h3] at h;cases h
theorem out_script (hx:SitOk x) (hA:IntOk x A) (hP:P.map (·.1)=labsOf x) (hC:Caps x A P out) (hO:Outc x out (lbG x at_) S Pg) {i:Nat} {e:ExpD} {a:List Int} (he:x.exp[i]? =some e) (ha:A[i]? =some a):
 scF x Pg e=⟨x.num * 10000+e.cand,x.num,e.cand,e.cen,e.var,(List.range (bkOf x e).length).map fun (k:Nat)=>100 * e.cand+(k:Int),a⟩:=by
 have hem:=List.mem_of_getElem? he
 have hcp:=out_cpl hx hP hC hO hem
 have hval:∀k,k<(bkOf x e).length→∃p∈P,p.1=labAt x e k∧conF Pg e.cand k=100 * e.cand+k∧chsF Pg e.cand k=p.2:=fun k hk=>by
  obtain ⟨p,hp,hpl⟩:=lab_pag hP hem hk
  obtain ⟨h1,h2⟩:=cpl_val hx hP (out_gc hC) hO hem (out_new hx hC e) hcp hk hp hpl
  exact ⟨p,hp,hpl,h1,h2⟩
 obtain ⟨-,hV⟩:=sit_pap hx hem
 have h1:=hx.exps e hem
 have hPk:PapOk x.num e.var (papOf x e):=by have:=hV.pap;rwa [show ((e.var.toNat:Nat):Int)=e.var by omega] at this
 rw [scF]
 congr 1
 ·exact List.map_congr_left fun k hk=>(hval k (List.mem_range.1 hk)).choose_spec.2.2.1
 ·refine ans_ok hPk hV.book (hA.at_ i e a he ha) fun k pg hk=>?_
  obtain ⟨p,hp,hpl, -,h2⟩:=hval k (List.getElem?_eq_some_iff.1 hk).1
  obtain ⟨i',e',k',pg',a',he',ha',hk',hl',hD⟩:=hC.pag p hp
  rw [hpl] at hl'
  have hc:e.cand=e'.cand:=congrArg LabD.cand hl'
  have hkk:(k:Int)=(k':Int):=congrArg LabD.page hl'
  obtain ⟨rfl,rfl⟩:=exp_at hx he he' hc
  have:k=k':=by omega
  subst this
  rw [hk] at hk';cases hk'
  rw [ha] at ha';cases ha'
  rw [h2];exact hD
end
end Go.Proofs.YtihjphblcohdeaaGreatDoor
namespace Go.Proofs.YtihjphblcohdeaaGreatDoor
set_option maxRecDepth 10000
open Go.RowKit
def plT23h_0:Plan:=(.take 0 (.take 1 (.take 2 (.take 3 (.take 4 (.take 5 (.take 6 (.take 7 (.take 8 (.take 9 (.take 10 (.take 11 (.take 12 (.take 13 (.take 14 (.take 15 (.take 16 (.take 17 (.alt 18 (.take 19 (.take 20 (.take 21 (.take 22 (.take 23 (.take 24 (.take 25 (.take 26 (.take 27 (.take 28 (.take 30 (.take 31 (.take 34 (.take 35 (.alt 29 (.alt 32 (.take 33 (.alt 36 (.take 37 (.take 38 .done)) .stop)) (.alt 36 (.alt 32 (.take 33 (.take 37 (.take 38 .done))) .stop) .stop)) (.alt 32 (.alt 29 (.take 33 (.alt 36 (.take 37 (.take 38 .done)) .stop)) (.alt 36 (.alt 29 (.take 33 (.take 37 (.take 38 .done))) .stop) .stop)) (.alt 36 (.alt 29 (.alt 32 (.take 33 (.take 37 (.take 38 .done))) .stop) (.alt 32 (.alt 29 (.take 33 (.take 37 (.take 38 .done))) .stop) .stop)) .stop))))))))))))))))) .stop)))))))))))))))))))
def plT23h_2:Plan:=(.take 0 (.take 1 (.take 2 (.take 3 (.take 4 (.take 5 (.take 6 (.alt 7 (.take 8 (.take 9 (.take 10 (.take 11 (.take 12 .done))))) .stop))))))))
def plT23h_5:Plan:=(.take 0 (.take 1 (.take 2 (.take 3 (.take 4 (.take 5 (.take 6 (.take 7 (.take 8 (.take 9 (.take 10 (.take 11 (.take 12 (.take 13 (.take 14 (.take 15 (.take 16 (.take 17 (.take 18 (.take 19 (.take 20 (.take 21 (.alt 22 (.take 23 (.take 24 (.take 25 (.take 26 (.take 27 (.take 28 (.alt 29 (.take 30 (.take 31 (.take 32 .done))) .stop))))))) .stop)))))))))))))))))))))))
def plT23h_8:Plan:=(.take 0 (.take 1 (.take 2 (.take 3 (.take 4 (.take 5 (.take 6 (.take 7 (.take 8 (.take 9 (.take 10 (.take 11 (.take 12 (.take 13 .done))))))))))))))
def plT23h_11:Plan:=(.take 0 (.take 1 (.take 2 (.take 3 (.take 4 (.take 5 (.take 6 (.take 7 (.take 8 (.take 9 (.alt 10 .done .stop)))))))))))
open F32
theorem cnS_12 {S:List ScS} (h:∀s∈S,s.state=1∨s.state=2):∀i,i≤S.length→cnS S i 1+cnS S i 2=i
 |0,_=>rfl
 |i+1,hi=>by
  have ih:=cnS_12 h i (by omega)
  obtain ⟨s,hs⟩:∃s,S[i]? =some s:=⟨_,List.getElem?_eq_getElem (by omega)⟩
  rw [cnS_succ hs,cnS_succ hs]
  rcases h s (List.mem_of_getElem? hs) with h1|h1
  ·rw [if_pos h1,if_neg (by omega)];omega
  ·rw [if_neg (by omega),if_pos h1];omega
theorem accB_neg {p:Prt} (hp:vPartB p=true) {ks:List Int} (hk:KeysOk p ks) (h2:p.kind=2):accB p ks (-1)=false:=by
 rw [accB]
 split
 ·simp only [vPartB,decide_eq_true_eq] at hp
  exact decide_eq_false (by omega)
 ·exact decide_eq_false fun h=>by have:=hk.at_ _ h;omega
theorem mrkL_at {ps:List Prt} {K:List (List Int)} {A:List Int} {k:Nat} {p:Prt} {ks:List Int} {a:Int} (hp:ps[k]? =some p) (hk:K[k]? =some ks) (ha:A[k]? =some a):(mrkL ps K A ps.length)[k]? =some (mrkF p ks a):=by
 have hkl:=(List.getElem?_eq_some_iff.1 hp).1
 rw [mrkL,List.getElem?_append_left (by simpa using hkl),List.getElem?_map,List.getElem?_range hkl]
 simp only [Option.map_some]
 rw [List.getD_eq_getElem?_getD,List.getD_eq_getElem?_getD,nth_eq ha,hp,hk];rfl
theorem idx_e {es:List (List AV)} {k:Nat} {c:List AV} {K:List AV→Prop} (h1:es[k]? =some c) (h:K c):idx es (k:Int) K:=
 idx_i (by omega) (by simpa using h1) h
theorem call_sch {b:Bool} {f:Nat} {args:List AV} {K:AV→Prop} {alt:Prop} {ps:List Prt} (hG:Good Tryz.prog TT b f args (fun r=>∃K W,SchOk ps K W∧r=schV K W)) (h:∀Ks W,SchOk ps Ks W→K (schV Ks W)):acall Tryz.prog TT b f args K alt:=
 call_i hG fun r hr=>by obtain ⟨Ks,W,hS,rfl⟩:=hr;exact h Ks W hS
set_option maxHeartbeats 16000000 in
theorem captured_law (xs:List Int) (hxs:xs.length≤9223372036854775807):Good Tryz.prog TT false 5 [ints xs] (· = .bool true):=by
 refine good_of_c (fun i=>Nat.beq i 12) mixed tabOk Tryz.func5 rfl rfl Tryz.ntmps5 Tryz.results5 rfl rfl ?_
 (conv=>whnf);(repeat' (first|((with_reducible refine branch_tt ?_);conv=>whnf)|(with_reducible refine branch_not ?_)|((refine call_e (new_ok xs hxs) ?_);conv=>whnf)|((refine call_sit sitting_ok fun x hx=>?_);conv=>whnf)|((refine call_int (intended_ok x hx) fun A hA=>?_);conv=>whnf)|((refine call_scans hx hA (scans_ok x hx A hA) fun P out hU ho70=>?_);conv=>whnf)|fail))
 have LO:(out.map encC).length=out.length:=List.length_map ..
 have hl4:=sit_len hx
 have LE0:(x.exp.map encE).length=x.exp.length:=List.length_map ..
 have hS:=sortOut_ok x hx out (lbG x lab0) (out_in hU.sit hU.labs hU.caps)
 have hAl:=hA.len
 have LA:(A.map encL).length=A.length:=List.length_map ..
 have LP:(x.pap.map (encPap x.num)).length=x.pap.length:=List.length_map ..
 apply cut_key (tt:=TT) (fun S Pg=>Outc x out (lbG x lab0) S Pg) (fun S Pg=>mkSt [(3, .tape),(4, .ptr 4 0),(5, .lst 1 (A.map encL)),(10, .lst 7 (x.exp.map (encScE x Pg)))] [(4,sitC x)] true)
 ·intro key
  (conv=>whnf);(repeat' (first|(refine arith_i ⟨by omega,by omega⟩ ?_;conv=>whnf)|((with_reducible first|refine branch_tt ?_|refine branch_ff ?_);conv=>whnf)|(with_reducible refine branch_not ?_)|((refine call_sort hS fun S Pg hO=>?_);conv=>whnf)|(((have hacc:=accept_ok x hx S Pg hO.bel;rw [all_cpl fun e he=>out_cpl hU.sit hU.labs hU.caps hO he] at hacc;have LX:(x.exp.map (encScE x Pg)).length=x.exp.length:=(List.length_map ..);refine call_e hacc ?_;have hrt:=right_ok x hx S Pg hO.bel x.exp (List.Sublist.refl _) (fun e he=>out_cpl hU.sit hU.labs hU.caps hO he);have hcs:=cnS_12 (out_states hU.sit hU.labs hU.caps hO) S.length (Nat.le_refl _);have hsl:=hO.bel.sl;have LAC:((accL S S.length).map encI).length=7:=rfl));conv=>whnf)|((refine acall_m (mcall_e [] [] (account_ok S Pg hO.bel.sl hO.bel.st) rfl rfl rfl trivial rfl ?_));conv=>whnf)|(((refine call_e hrt ?_));conv=>whnf)|(((refine idx_ms (by decide) rfl ?_));conv=>whnf)|(refine draw_i 39 plT23h_0 (by decide+kernel) ?_;(conv=>whnf);fail_if_success (guard_target=~ False))|((with_reducible refine And.intro ?_ ?_)<;>(conv=>whnf))|(with_reducible exact trivial)|((with_reducible refine branch_n (fun hq=>?_) (fun hq=>?_))<;>(try (exfalso;omega))<;>(conv=>whnf))))
  all_goals exact key S Pg _ hO le_q
 ·intro S Pg hO
  have LX:(x.exp.map (encScE x Pg)).length=x.exp.length:=List.length_map ..
  (conv=>whnf)
  refine loop_i (fun i:Nat=>i≤x.exp.length) (fun i=>mkSt [(3, .tape),(4, .ptr 4 0),(5, .lst 1 (A.map encL)),(10, .lst 7 (x.exp.map (encScE x Pg))),(13, .int .i64 i)] [(4,sitC x)] true) (fun i=>x.exp.length-i) 0 (Nat.zero_le _) le_q ?_
  intro i hi
  rcases Nat.lt_or_ge i x.exp.length with hil|hil
  ·obtain ⟨e,he⟩:∃e,x.exp[i]? =some e:=⟨_,List.getElem?_eq_getElem hil⟩
   obtain ⟨a,ha⟩:∃a,A[i]? =some a:=⟨_,List.getElem?_eq_getElem (by omega)⟩
   have hem:=List.mem_of_getElem? he
   obtain ⟨hp,hV⟩:=sit_pap hx hem
   have h1:=hx.exps e hem
   have hpp:(x.pap.map (encPap x.num))[e.var.toNat]? =some [.int .i64 x.num, .int .i64 e.var, .lst 6 ((papOf x e).map encPt)]:=by rw [List.getElem?_map,hp];rfl
   have h8:=hV.eight
   have h66:(papOf x e).length≤6:=hV.six
   have LP6:((papOf x e).map encPt).length=(papOf x e).length:=List.length_map ..
   have hPk:PapOk x.num e.var (papOf x e):=by have:=hV.pap;rwa [show ((e.var.toNat:Nat):Int)=e.var by omega] at this
   have hIL:=hA.at_ i e a he ha
   have hal:=hIL.len
   have LAA:(a.map encI).length=a.length:=List.length_map ..
   have hsc:=out_script hU.sit hU.int hU.labs hU.caps hO he ha
   generalize hpg:((List.range (bkOf x e).length).map fun (k:Nat)=>100 * e.cand+(k:Int))=pgs at hsc
   have hat:(x.exp.map (encScE x Pg))[i]? =some [.int .i64 (x.num * 10000+e.cand), .int .i64 x.num, .int .i64 e.cand, .int .i64 e.cen, .int .i64 e.var,ints pgs,ints a]:=by rw [List.getElem?_map,he,Option.map_some,encScE,hsc];rfl
   have hI:Good Tryz.prog TT false 20 [ints a,ints a] (· = .bool true):=by simpa using ints_ok a a (by omega) (by omega)
   have LPG:(pgs.map encI).length=(bkOf x e).length:=by rw [←hpg];simp
   (conv=>whnf);(repeat' (first|((with_reducible first|refine branch_tt ?_|refine branch_ff ?_);conv=>whnf)|(with_reducible refine branch_not ?_)|((refine idx_e hat ?_);conv=>whnf)|((refine idx_cs he ?_);conv=>whnf)|((refine idx_cs ha ?_);conv=>whnf)|((refine idx_i (by omega) hpp ?_);conv=>whnf)|((refine call_sch (mkScheme_ok x.num e.var (papOf x e) hPk h66) fun K W hSO=>?_);conv=>whnf)|(((have LM:((mrkL (papOf x e) K a (papOf x e).length).map encI).length=(papOf x e).length:=(by rw [List.length_map,mrkL_len (Nat.le_refl _)]);refine call_e (closed_ok x.num e.var (papOf x e) hPk h66 K W hSO a hIL) ?_));conv=>whnf)|((refine call_e hI ?_);conv=>whnf)|(refine draw_i 13 plT23h_2 (by decide+kernel) ?_;(conv=>whnf);fail_if_success (guard_target=~ False))|(refine draw_i 33 plT23h_5 (by decide+kernel) ?_;(conv=>whnf);fail_if_success (guard_target=~ False))|((with_reducible refine And.intro ?_ ?_)<;>(conv=>whnf))|(with_reducible exact trivial)|((with_reducible refine branch_d (fun hq=>?_) (fun hq=>?_))<;>(try (exfalso;omega))<;>(conv=>whnf))|((with_reducible refine branch_n (fun hq=>?_) (fun hq=>?_))<;>(try (exfalso;omega))<;>(conv=>whnf))))
   generalize hM:mrkL (papOf x e) K a (papOf x e).length=M at LM
   refine loop_i (fun k:Nat=>k≤(bkOf x e).length) (fun k=>mkSt [(3, .tape),(4, .ptr 4 0),(5, .lst 1 (A.map encL)),(10, .lst 7 (x.exp.map (encScE x Pg))),(13, .int .i64 i),(14, .ptr 14 0),(15, .ptr 15 0),(16, .ptr 16 0),(17,ints M),(19, .int .i64 k)] [(4,sitC x),(14,encE e),(15,[.int .i64 x.num, .int .i64 e.var, .lst 6 ((papOf x e).map encPt)]),(16,schC K W)] true) (fun k=>(bkOf x e).length-k) 0 (Nat.zero_le _) (by rw [←hM];exact le_mk ⟨rfl,rfl,rfl,rfl,rfl,rfl,rfl,rfl,rfl,rfl,trivial⟩ ⟨rfl,rfl,rfl,rfl,trivial⟩ rfl) ?_
   intro k hk
   rcases Nat.lt_or_ge k (bkOf x e).length with hkl|hkl
   ·have hpk:pgs[k]? =some (100 * e.cand+(k:Int)):=by rw [←hpg,List.getElem?_map,List.getElem?_range hkl];rfl
    (conv=>whnf);(repeat' (first|(refine arith_i ⟨by omega,by omega⟩ ?_;conv=>whnf)|((refine idx_e hat ?_);conv=>whnf)|((refine idx_cs hpk ?_);conv=>whnf)|(refine draw_i 14 plT23h_8 (by decide+kernel) ?_;(conv=>whnf);fail_if_success (guard_target=~ False))|((with_reducible refine branch_d (fun hq=>?_) (fun hq=>?_))<;>(try (exfalso;omega))<;>(conv=>whnf))|((with_reducible refine branch_n (fun hq=>?_) (fun hq=>?_))<;>(try (exfalso;omega))<;>(conv=>whnf))))
    all_goals exact ⟨k+1,by omega,le_q,by omega⟩
   ·obtain rfl:k=(bkOf x e).length:=by omega
    (conv=>whnf);(repeat' (first|((refine idx_e hat ?_);conv=>whnf)|((with_reducible refine branch_d (fun hq=>?_) (fun hq=>?_))<;>(try (exfalso;omega))<;>(conv=>whnf))))
    refine loop_i (fun k:Nat=>k≤(papOf x e).length) (fun k=>mkSt [(3, .tape),(4, .ptr 4 0),(5, .lst 1 (A.map encL)),(10, .lst 7 (x.exp.map (encScE x Pg))),(13, .int .i64 i),(14, .ptr 14 0),(15, .ptr 15 0),(16, .ptr 16 0),(17,ints M),(20, .int .i64 k)] [(4,sitC x),(14,encE e),(15,[.int .i64 x.num, .int .i64 e.var, .lst 6 ((papOf x e).map encPt)]),(16,schC K W)] true) (fun k=>(papOf x e).length-k) 0 (Nat.zero_le _) le_q ?_
    intro k hk
    rcases Nat.lt_or_ge k (papOf x e).length with hkl|hkl
    ·obtain ⟨p,hpk⟩:∃p,(papOf x e)[k]? =some p:=⟨_,List.getElem?_eq_getElem hkl⟩
     obtain ⟨ks,hks⟩:∃ks,K[k]? =some ks:=⟨_,List.getElem?_eq_getElem (by have:=hSO.kl;omega)⟩
     obtain ⟨ak,hak⟩:∃ak,a[k]? =some ak:=⟨_,List.getElem?_eq_getElem (by omega)⟩
     have hMk:M[k]? =some (mrkF p ks ak):=by rw [←hM];exact mrkL_at hpk hks hak
     have hvp:=hPk.parts p (List.mem_of_getElem? hpk)
     have hK:=hSO.keys k p ks hpk hks
     have hnd:=vPart_nd hvp
     have hIP:=hIL.at_ k p ak hpk hak
     by_cases hk1:p.kind=1
     ·have hmf:mrkF p ks ak= -2:=by rw [mrkF,if_pos hk1]
      (conv=>whnf);(repeat' (first|(refine arith_i ⟨by omega,by omega⟩ ?_;conv=>whnf)|((refine idx_cs hpk ?_);conv=>whnf)|((refine idx_cs hMk ?_);conv=>whnf)|((with_reducible refine branch_d (fun hq=>?_) (fun hq=>?_))<;>(try (exfalso;omega))<;>(conv=>whnf))|((with_reducible refine branch_e (fun hq=>?_) (fun hq=>?_))<;>(try (exfalso;omega))<;>(conv=>whnf))|((with_reducible refine branch_n (fun hq=>?_) (fun hq=>?_))<;>(try (exfalso;omega))<;>(conv=>whnf))))
      all_goals exact ⟨k+1,by omega,le_q,by omega⟩
     ·have hk2:p.kind=2:=by simp only [vPartB,decide_eq_true_eq] at hvp;omega
      by_cases ha1:ak= -1
      ·subst ha1
       have hmf:mrkF p ks (-1)= -1:=by simp [mrkF,hk1,accB_neg hvp hK hk2]
       (conv=>whnf);(repeat' (first|(refine arith_i ⟨by omega,by omega⟩ ?_;conv=>whnf)|((refine idx_cs ha ?_);conv=>whnf)|((refine idx_cs hpk ?_);conv=>whnf)|((refine idx_cs hak ?_);conv=>whnf)|((refine idx_cs hMk ?_);conv=>whnf)|((with_reducible refine branch_d (fun hq=>?_) (fun hq=>?_))<;>(try (exfalso;omega))<;>(conv=>whnf))|((with_reducible refine branch_e (fun hq=>?_) (fun hq=>?_))<;>(try (exfalso;omega))<;>(conv=>whnf))|((with_reducible refine branch_n (fun hq=>?_) (fun hq=>?_))<;>(try (exfalso;omega))<;>(conv=>whnf))))
       all_goals exact ⟨k+1,by omega,le_q,by omega⟩
      ·have hac:=sAccepts_ok x.num e.var (papOf x e) hPk h66 K W hSO k p ks hpk hks hk2 ak
       cases hab:accB p ks ak
       ·have hmf:mrkF p ks ak=0:=by simp [mrkF,hk1,hab,ha1]
        rw [hab] at hac
        (conv=>whnf);(repeat' (first|(refine arith_i ⟨by omega,by omega⟩ ?_;conv=>whnf)|((with_reducible refine branch_ff ?_);conv=>whnf)|((refine idx_cs ha ?_);conv=>whnf)|((refine idx_cs hpk ?_);conv=>whnf)|((refine idx_cs hak ?_);conv=>whnf)|((refine idx_cs hMk ?_);conv=>whnf)|((refine call_e hac ?_);conv=>whnf)|(refine draw_i 11 plT23h_11 (by decide+kernel) ?_;(conv=>whnf);fail_if_success (guard_target=~ False))|((with_reducible refine And.intro ?_ ?_)<;>(conv=>whnf))|(with_reducible exact trivial)|((with_reducible refine branch_d (fun hq=>?_) (fun hq=>?_))<;>(try (exfalso;omega))<;>(conv=>whnf))|((with_reducible refine branch_e (fun hq=>?_) (fun hq=>?_))<;>(try (exfalso;omega))<;>(conv=>whnf))|((with_reducible refine branch_n (fun hq=>?_) (fun hq=>?_))<;>(try (exfalso;omega))<;>(conv=>whnf))))
        all_goals exact ⟨k+1,by omega,le_q,by omega⟩
       ·have hmf:mrkF p ks ak=p.max:=by simp [mrkF,hk1,hab]
        rw [hab] at hac
        (conv=>whnf);(repeat' (first|(refine arith_i ⟨by omega,by omega⟩ ?_;conv=>whnf)|((with_reducible refine branch_tt ?_);conv=>whnf)|((refine idx_cs ha ?_);conv=>whnf)|((refine idx_cs hpk ?_);conv=>whnf)|((refine idx_cs hak ?_);conv=>whnf)|((refine idx_cs hMk ?_);conv=>whnf)|((refine call_e hac ?_);conv=>whnf)|(refine draw_i 11 plT23h_11 (by decide+kernel) ?_;(conv=>whnf);fail_if_success (guard_target=~ False))|((with_reducible refine And.intro ?_ ?_)<;>(conv=>whnf))|(with_reducible exact trivial)|((with_reducible refine branch_d (fun hq=>?_) (fun hq=>?_))<;>(try (exfalso;omega))<;>(conv=>whnf))|((with_reducible refine branch_e (fun hq=>?_) (fun hq=>?_))<;>(try (exfalso;omega))<;>(conv=>whnf))|((with_reducible refine branch_n (fun hq=>?_) (fun hq=>?_))<;>(try (exfalso;omega))<;>(conv=>whnf))))
        all_goals exact ⟨k+1,by omega,le_q,by omega⟩
    ·obtain rfl:k=(papOf x e).length:=by omega
     (conv=>whnf);(repeat' (first|(refine arith_i ⟨by omega,by omega⟩ ?_;conv=>whnf)|((with_reducible refine branch_d (fun hq=>?_) (fun hq=>?_))<;>(try (exfalso;omega))<;>(conv=>whnf))))
     all_goals exact ⟨i+1,by omega,le_q,by omega⟩
  ·obtain rfl:i=x.exp.length:=by omega
   (conv=>whnf);(repeat' (first|((refine call_e awake23_ok ?_);conv=>whnf)|((with_reducible refine branch_d (fun hq=>?_) (fun hq=>?_))<;>(try (exfalso;omega))<;>(conv=>whnf))))
   all_goals exact ret_p rfl rfl
end Go.Proofs.YtihjphblcohdeaaGreatDoor
namespace Go.Proofs.YtihjphblcohdeaaGreatDoor
open Go.ChangeShapes Go.WideShapes Go.ChangeAt Go.WideMaps Go.WideElems Go.RowKit
def laidL:List (String×DataW Unit):=Rows.topStableRow.laid
def nmG (j:Nat):String:=(laidL.map Prod.fst).getD j default
theorem gPow:Tryz.prog.globalNamed (nmG 0)=some 0:=by kernel_rfl
theorem gLog:Tryz.prog.globalNamed (nmG 1)=some 1:=by kernel_rfl
theorem arr_at {P:Program} {w:World} {base:Nat} {spare:Nat→Bool} {held:Bool} {fuel:Nat} {t e:TypeId} {n:Nat} {cs:List Value} {enc:TypeId×Value→Unit} {x:DataW Unit×List MemPlace} (ht:P.underlying t=some (.array n e)) (he:P.underlying e=some (.int .i64)) (hc:P.cellsOf e=1)
 (h:DataW.trod enc P w base spare held fuel t cs=some x) {zs:List Int} (hx:x.1= .agg (zs.map fun z=> .lit (.int .i64 z))) (hn:zs.length=n):∀(j:Nat) (z:Int),zs[j]? =some z→cs[j]? =some (.int .i64 z):=by
 intro j z hz
 obtain ⟨xs,m,rfl,rfl, -,hxl,hel⟩:=DataW.trod_array ht h
 have hj:j<n:=by have:=(List.getElem?_eq_some_iff.1 hz).1;omega
 have h1:=hel j hj
 rw [hc,Nat.mul_one] at h1
 obtain ⟨y,hy⟩:∃y,xs[j]? =some y:=⟨_,List.getElem?_eq_getElem (by omega)⟩
 rw [hy] at h1
 obtain ⟨k,e1,e2, -⟩:=DataW.trod_int he h1
 have h2:xs.map (·.1)=zs.map fun z=> .lit (.int .i64 z):=by simpa using hx
 have h3:(xs.map (·.1))[j]? =some (.lit (.int .i64 z)):=by rw [h2,List.getElem?_map,hz];rfl
 rw [List.getElem?_map,hy,e2] at h3
 simp at h3
 subst h3
 have h4:(cs.drop j)[0]? =some (.int .i64 k):=by
  have:((cs.drop j).take 1)[0]? =some (.int .i64 k):=by rw [e1];rfl
  rwa [List.getElem?_take_of_lt (by omega)] at this
 rwa [List.getElem?_drop,Nat.add_zero] at h4
theorem blk_lt {w:World} {g:Nat} {v:Value} (h:w.cell? ⟨g,0,none⟩=some v):g<w.heap.size:=by
 rcases Nat.lt_or_ge g w.heap.size with h1|h1
 ·exact h1
 ·simp [World.cell?,Array.getElem?_eq_none h1] at h
theorem of_laid {W:World} (h:laidMetH Tryz.prog laidL W):GlobAt W No none:=by
 rw [MakeChecks.laidMetH_plain _ _ _ (by kernel_rfl)] at h
 obtain ⟨ps,⟨g0,t0,cs0,f0,p0,q0,hg0,ht0,hv0,hd0,⟨g1,t1,cs1,f1,p1,q1,hg1,ht1,hv1,hd1,_,_⟩,_⟩,_,_⟩:=h
 obtain rfl:=Option.some.inj (gPow.symm.trans hg0)
 obtain rfl:=Option.some.inj (gLog.symm.trans hg1)
 obtain rfl:=Option.some.inj ((show (Tryz.prog.globals[0]?).map (·.type)=some 254 by kernel_rfl).symm.trans ht0)
 obtain rfl:=Option.some.inj ((show (Tryz.prog.globals[1]?).map (·.type)=some 255 by kernel_rfl).symm.trans ht1)
 have c3:Tryz.prog.cellsOf 3=1:=by kernel_rfl
 have a0:=arr_at Tryz.underlying254 Tryz.underlying3 c3 hd0 (zs:=(laidG.getD 0 (0,[])).2) rfl rfl
 have a1:=arr_at Tryz.underlying255 Tryz.underlying3 c3 hd1 (zs:=(laidG.getD 1 (0,[])).2) rfl rfl
 have b0:∀(j:Nat) (z:Int),(laidG.getD 0 (0,[])).2[j]? =some z→W.cell? ⟨0,j,none⟩=some (.int .i64 z):=fun j z h=>by rw [World.var?_cell gPow hv0 j,←Array.getElem?_toList];exact a0 j z h
 have b1:∀(j:Nat) (z:Int),(laidG.getD 1 (0,[])).2[j]? =some z→W.cell? ⟨1,j,none⟩=some (.int .i64 z):=fun j z h=>by rw [World.var?_cell gLog hv1 j,←Array.getElem?_toList];exact a1 j z h
 intro g xs h
 rw [lookG,laidG,lkG,lkG,lkG] at h
 cases h0:Nat.beq g 0
 ·rw [h0] at h
  cases h1:Nat.beq g 1
  ·rw [h1] at h;cases h
  ·rw [h1] at h
   obtain rfl:=Nat.eq_of_beq_eq_true h1
   cases h
   exact ⟨blk_lt (b1 0 _ rfl),no_,nofun,b1⟩
 ·rw [h0] at h
  obtain rfl:=Nat.eq_of_beq_eq_true h0
  cases h
  exact ⟨blk_lt (b0 0 _ rfl),no_,nofun,b0⟩
theorem door_met (os:Os) (args:Array Value):laidMetH Tryz.prog laidL ((World.doorLaid Tryz.prog 400 os).forCall (fun _ _=>0) ⟨#[],args,[]⟩).memory:=
 laidMetH_of_parts3 (fuel:=8) (laidMet_of_run' 8 (by kernel_rfl) (by kernel_rfl)) (by kernel_rfl) (by kernel_rfl)
theorem law_all {f:Nat} {args:List AV} (hG:Good Tryz.prog TT false f args (· = .bool true)) {w:World} {us:List Value} (hgl:GlobAt w No none) (h:All2 (RepV w No) args us):
 Calls Tryz.prog f us.toArray w (fun e w'=>e= .returned (.bool true)∧Chg No w w'):=by
 have hx:∀b,GX (G0 none No (none,0,0)) b→False:=fun b hb=>by rcases hb with hb|hb<;>simp_all [GM,G0,No]
 refine Calls.mono (hG.2 w No none us (none,0,0) (fun b hb=>absurd hb no_) hgl rfl (h.mono fun v u hr=>RC.ra (RepV.rc (RepV.move hr (fun _ _ _=>rfl) fun b _ hb=>(hx b hb).elim))) nofun) ?_
 rintro e w' ⟨u,r,rfl,rfl,hr,hc, -⟩
 have hu:RepV w' (GX (G0 none No (none,0,0))) (.bool true) u:=hr
 cases hu
 exact ⟨rfl,hc.down.mono fun b _ hb=>by cases hb⟩
theorem ints_row {w:World} {a:Option Addr} {len cap:Nat} {zs:List Int} (h:Ints w No a len cap zs):RepV w No (ints zs) (.slice a len cap):=ints_rep h
theorem ints_max {w:World} {a:Option Addr} {len cap:Nat} {zs:List Int} (h:Ints w No a len cap zs) (hc:cap≤maxLen):zs.length≤9223372036854775807:=by
 have h1:=h.len
 have h2:=h.cap
 have h3:maxLen=9223372036854775807:=rfl
 omega
end Go.Proofs.YtihjphblcohdeaaGreatDoor
