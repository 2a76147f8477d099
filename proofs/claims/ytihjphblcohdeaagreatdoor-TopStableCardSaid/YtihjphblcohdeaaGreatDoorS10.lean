/- Several texts in one: T22e, TAs, T22f, Pl23, Pl24, T23g, Laid. (Printed small by a program: remarks, spaces and repeated headings are taken out.) -/
import Derived.Test.YtihjphblcohdeaaGreatDoorS9
import Derived.Test.YtihjphblcohdeaaGreatDoorS4
import Derived.Test.YtihjphblcohdeaaGreatDoorS8
import Derived.Test.YtihjphblcohdeaaGreatDoorRows
import Derived.ProofKit
import Derived.LaidMore
import Derived.OpenShut
import Derived.Stop.Joined
set_option linter.unusedVariables false
set_option linter.unusedSimpArgs false
set_option linter.unnecessarySimpa false
set_option linter.unusedSectionVars false
namespace Go.Proofs.YtihjphblcohdeaaGreatDoor
set_option maxRecDepth 10000
open Go.RowKit
open F32
def cplB (x:Sit) (S:List ScS) (Pg:List Pag) (e:ExpD):Bool:=decide ((stF x S Pg e).1=1)
def encScE (x:Sit) (Pg:List Pag) (e:ExpD):List AV:=encScp (scF x Pg e)
set_option maxHeartbeats 8000000 in
theorem accept_ok (x:Sit) (hx:SitOk x) (S:List ScS) (Pg:List Pag) (hB:BelOk x S Pg):Good Tryz.prog TT false 12 [sitV x,inV S Pg,thrV] (· = .tup [.lst 7 ((x.exp.filter (cplB x S Pg)).map (encScE x Pg)), .int .i64 0]):=by
 have hl:=sit_len hx
 have LE:(x.exp.map encE).length=x.exp.length:=List.length_map ..
 have hnum:=hx.num
 refine good_of mixed tabOk Tryz.func12 rfl rfl Tryz.ntmps12 Tryz.results12 rfl rfl ?_
 (conv=>whnf);(repeat' (first|((with_reducible refine branch_tt ?_);conv=>whnf)|(with_reducible refine branch_not ?_)|((refine call_e (belongs_ok x hx S Pg hB) ?_);conv=>whnf)|((refine call_e thrValid_ok ?_);conv=>whnf)))
 refine loop_i (fun i:Nat=>i≤x.exp.length) (fun i=>mkSt [(3, .ptr 3 0),(4, .ptr 4 0),(5, .ptr 5 0),(8, .own 900 59 7 (((x.exp.take i).filter (cplB x S Pg)).map (encScE x Pg))),(25, .lst 3 (x.exp.map encE)),(26, .int .i64 x.exp.length),(27, .int .i64 i)] [(3,sitC x),(4,[.lst 7 (S.map encSS), .lst 6 (Pg.map encPa)]),(5,thrC)] false) (fun i=>x.exp.length-i) 0 (Nat.zero_le _) ((le_adopt 8 900 59 7 rfl).trans (le_mk ⟨rfl,rfl,rfl,rfl,rfl,int_eq (by rw [LE]),rfl,trivial⟩ ⟨rfl,rfl,rfl,trivial⟩ rfl)) ?_
 intro i hi
 have LX:(((x.exp.take i).filter (cplB x S Pg)).map (encScE x Pg)).length≤i:=by
  rw [List.length_map]
  have:=List.length_filter_le (cplB x S Pg) (x.exp.take i)
  rw [List.length_take] at this;omega
 rcases Nat.lt_or_ge i x.exp.length with hil|hil
 ·obtain ⟨e,he⟩:∃s,x.exp[i]? =some s:=⟨_,List.getElem?_eq_getElem hil⟩
  have hem:=List.mem_of_getElem? he
  have hb:=sit_bk hx hem
  have h1:=hx.exps e hem
  have h88:=(sit_pap hx hem).2.eight
  have LB:((bkOf x e).map encPg).length=(bkOf x e).length:=List.length_map ..
  have hst:=sstateOf_ok x hx S Pg hB e hem
  by_cases hc:Cpl x S Pg e
  ·have hans:=answersOf_ok x hx S Pg hB i e he hc.2
   rw [cpl_st hc] at hst
   have hn:(x.exp.take (i+1)).filter (cplB x S Pg)=(x.exp.take i).filter (cplB x S Pg)++[e]:=by
    rw [List.take_add_one,he,List.filter_append]
    have:cplB x S Pg e=true:=decide_eq_true (cpl_iff.2 hc)
    simp [this]
   (conv=>whnf);(repeat' (first|(refine arith_i ⟨by omega,by omega⟩ ?_;conv=>whnf)|((refine idx_cs he ?_);conv=>whnf)|((refine call_e hst ?_);conv=>whnf)|((refine call_e hans ?_);conv=>whnf)|((refine idx_ms (by omega) hb ?_);conv=>whnf)|((with_reducible refine branch_d (fun hq=>?_) (fun hq=>?_))<;>(try (exfalso;omega))<;>(conv=>whnf))|((with_reducible refine branch_n (fun hq=>?_) (fun hq=>?_))<;>(try (exfalso;omega))<;>(conv=>whnf))))
   have hnumc:scF x Pg e=⟨x.num * 10000+e.cand,x.num,e.cand,e.cen,e.var,(List.range (bkOf x e).length).map (conF Pg e.cand),ansP (papOf x e) (bkOf x e) (chsF Pg e.cand) (bkOf x e).length⟩:=rfl
   generalize hAns:ansP (papOf x e) (bkOf x e) (chsF Pg e.cand) (bkOf x e).length=an at *
   refine loop_i (fun k:Nat=>k≤(bkOf x e).length) (fun k=>mkSt [(3, .ptr 3 0),(4, .ptr 4 0),(5, .ptr 5 0),(8, .own 900 59 7 (((x.exp.take i).filter (cplB x S Pg)).map (encScE x Pg))),(10, .ptr 10 0),(13, .ptr 13 0),(25, .lst 3 (x.exp.map encE)),(26, .int .i64 x.exp.length),(27, .int .i64 i),(71, .int .i64 (bkOf x e).length),(72, .int .i64 k)] [(3,sitC x),(4,[.lst 7 (S.map encSS), .lst 6 (Pg.map encPa)]),(5,thrC),(10,encE e),(13,[.int .i64 (x.num * 10000+e.cand), .int .i64 x.num, .int .i64 e.cand, .int .i64 e.cen, .int .i64 e.var, .own 901 3 1 (((List.range k).map (conF Pg e.cand)).map encI),ints an])] false) (fun k=>(bkOf x e).length-k) 0 (Nat.zero_le _) ((le_adoptBox 13 5 901 3 1 rfl rfl).trans (le_mk ⟨rfl,rfl,rfl,rfl,rfl,rfl,rfl,rfl,rfl,int_eq (by rw [LB]),rfl,trivial⟩ ⟨rfl,rfl,rfl,rfl,rfl,trivial⟩ rfl)) ?_
   intro k hk
   have LC:(((List.range k).map (conF Pg e.cand)).map encI).length=k:=by simp
   rcases Nat.lt_or_ge k (bkOf x e).length with hkl|hkl
   ·have hpo:=pageOf_ok S Pg hB.pl hB.pasc e.cand k
    have hsome:=hc.2 k hkl
    have hnc:(List.range (k+1)).map (conF Pg e.cand)=(List.range k).map (conF Pg e.cand)++[conF Pg e.cand k]:=by rw [List.range_succ,List.map_append];rfl
    cases hpf:pgF Pg e.cand (k:Nat) with
    |none=>rw [hpf] at hsome;cases hsome
    |some pag=>
     rw [hpf] at hpo
     simp only [Option.isSome_some,Option.getD_some] at hpo
     have hcf:conF Pg e.cand k=pag.content:=by rw [conF,hpf];rfl
     rw [hcf] at hnc
     (conv=>whnf);(repeat' (first|(refine arith_i ⟨by omega,by omega⟩ ?_;conv=>whnf)|(refine need_o ?_;conv=>whnf)|((refine call_e hpo ?_);conv=>whnf)|((with_reducible refine branch_d (fun hq=>?_) (fun hq=>?_))<;>(try (exfalso;omega))<;>(conv=>whnf))))
     all_goals exact ⟨k+1,by omega,le_mk ⟨rfl,rfl,rfl,rfl,rfl,rfl,rfl,rfl,rfl,rfl,rfl,trivial⟩ ⟨rfl,rfl,rfl,rfl,(by rw [hnc,List.map_append];rfl),trivial⟩ rfl,by omega⟩
   ·obtain rfl:k=(bkOf x e).length:=by omega
    (conv=>whnf);(repeat' (first|(refine arith_i ⟨by omega,by omega⟩ ?_;conv=>whnf)|(refine need_o ?_;conv=>whnf)|((with_reducible refine branch_d (fun hq=>?_) (fun hq=>?_))<;>(try (exfalso;omega))<;>(conv=>whnf))))
    all_goals exact ⟨i+1,by omega,le_mk ⟨rfl,rfl,rfl,own_eq (by rw [hn,List.map_append];show _=_++[encScp (scF x Pg e)];rw [hnumc];rfl),rfl,rfl,rfl,trivial⟩ ⟨rfl,rfl,rfl,trivial⟩ rfl,by omega⟩
  ·have hns:¬(stF x S Pg e).1=1:=fun h=>hc (cpl_iff.1 h)
   have hn:(x.exp.take (i+1)).filter (cplB x S Pg)=(x.exp.take i).filter (cplB x S Pg):=by
    rw [List.take_add_one,he,List.filter_append]
    have:cplB x S Pg e=false:=decide_eq_false hns
    simp [this]
   (conv=>whnf);(repeat' (first|(refine arith_i ⟨by omega,by omega⟩ ?_;conv=>whnf)|((refine idx_cs he ?_);conv=>whnf)|((refine call_e hst ?_);conv=>whnf)|((with_reducible refine branch_d (fun hq=>?_) (fun hq=>?_))<;>(try (exfalso;omega))<;>(conv=>whnf))|((with_reducible refine branch_n (fun hq=>?_) (fun hq=>?_))<;>(try (exfalso;omega))<;>(conv=>whnf))))
   all_goals exact ⟨i+1,by omega,le_mk ⟨rfl,rfl,rfl,own_eq (by rw [hn]),rfl,rfl,rfl,trivial⟩ ⟨rfl,rfl,rfl,trivial⟩ rfl,by omega⟩
 ·obtain rfl:i=x.exp.length:=by omega
  (conv=>whnf);(repeat' (first|((with_reducible refine branch_d (fun hq=>?_) (fun hq=>?_))<;>(try (exfalso;omega))<;>(conv=>whnf))))
  exact ret_t (rs:=[.lst 7 ((x.exp.filter (cplB x S Pg)).map (encScE x Pg)), .int .i64 0]) ⟨.inl (rc_o' (by rw [List.take_length])), .inl (rc_p rfl),trivial⟩ rfl
end Go.Proofs.YtihjphblcohdeaaGreatDoor
namespace Go.Proofs.YtihjphblcohdeaaGreatDoor
open Go.RowKit
section
variable {tt:Nat} {s:St}
end
end Go.Proofs.YtihjphblcohdeaaGreatDoor
namespace Go.Proofs.YtihjphblcohdeaaGreatDoor
set_option maxRecDepth 10000
open Go.RowKit
open F32
theorem sameScript_ok (a b:ScD) (ha:a.pages.length≤1000∧a.ans.length≤1000) (hb:b.pages.length≤1000∧b.ans.length≤1000):Good Tryz.prog TT false 13 [.agg (encScp a), .agg (encScp b)] (fun r=>∃v:Bool,r= .bool v∧(a=b→v=true)):=by
 have h1:=ints_ok a.pages b.pages (by omega) (by omega)
 have h2:=ints_ok a.ans b.ans (by omega) (by omega)
 refine good_of mixed tabOk Tryz.func13 rfl rfl Tryz.ntmps13 Tryz.results13 rfl rfl ?_
 (conv=>whnf);(repeat' (first|((with_reducible first|refine branch_tt ?_|refine branch_ff ?_);conv=>whnf)|((refine call_e h1 ?_);conv=>whnf)|((refine call_e h2 ?_);conv=>whnf)|((with_reducible refine branch_d (fun hq=>?_) (fun hq=>?_))<;>(try (exfalso;omega))<;>(conv=>whnf))|((with_reducible refine branch_e (fun hq=>?_) (fun hq=>?_))<;>(try (exfalso;omega))<;>(conv=>whnf))))
 ·exact ret_p rfl ⟨_,rfl,fun h=>by subst h;exact decide_eq_true rfl⟩
 all_goals exact ret_p rfl ⟨_,rfl,fun h=>by exfalso;subst h;first|omega|simp at hq⟩
section
variable {x:Sit} {A:List (List Int)} {P:List (LabD×List Int)} {at_:LabD} {l:List Cap} {S:List ScS} {Pg:List Pag} {e:ExpD}
theorem pg_val (hx:SitOk x) (hP:P.map (·.1)=labsOf x) (hG:∀c∈l,GC x P at_ c) (hO:Outc x l (lbG x at_) S Pg) (hN:∀c∈l,NewC x at_ c→rejB l c=true∨at_.cand≠e.cand) {k:Nat} {pag:Pag} (h:pgF Pg e.cand k=some pag):∃p∈P,p.1.cand=e.cand∧p.1.page=k∧pag.content=cNum p.1∧pag.ch=p.2:=by
 obtain ⟨h1,h2,h3⟩:=pgF_mem h
 obtain ⟨c,hc,h4,h5⟩:=hO.pag pag h1
 rcases ing_cases hx hP (hG c hc.1) hc with ⟨p,hp,h6,h7,h8⟩|⟨h6,h7, -⟩
 ·exact ⟨p,hp,h7.trans h2,h8.trans h3,h4.trans h6.content,h5.trans h6.ch⟩
 ·rcases hN c hc.1 h6 with h8|h8
  ·rw [hc.2.2.1] at h8;cases h8
  ·exact absurd (h7.trans h2) h8
theorem scan_ing (hx:SitOk x) (hP:P.map (·.1)=labsOf x) {p:LabD×List Int} (hp:p∈P) {c:Cap} {s:Int} (hc:c∈l) (h:ScanOf p.1 p.2 s c) (hr:rejB l c=false):InG l (lbG x at_) (p.1.cand,p.1.page) c:=
 ⟨hc,h.kind,hr,p.1,lbG_scan hx hP hp h,rfl,rfl⟩
theorem lab_pag (hP:P.map (·.1)=labsOf x) (he:e∈x.exp) {k:Nat} (hk:k<(bkOf x e).length):∃p∈P,p.1=labAt x e k:=by
 have:labAt x e k∈labsOf x:=labs_mem.2 ⟨e,he,k,hk,rfl⟩
 rw [←hP] at this
 exact List.mem_map.1 this
theorem ing_scan (hx:SitOk x) (hP:P.map (·.1)=labsOf x) (hG:∀c∈l,GC x P at_ c) (hN:∀c∈l,NewC x at_ c→rejB l c=true∨at_.cand≠e.cand) {k:Int} {c:Cap} (h:InG l (lbG x at_) (e.cand,k) c):∃p∈P,ScanOf p.1 p.2 c.seq c∧p.1.cand=e.cand∧p.1.page=k:=by
 rcases ing_cases hx hP (hG c h.1) h with h1|⟨h6,h7, -⟩
 ·exact h1
 ·rcases hN c h.1 h6 with h8|h8
  ·rw [h.2.2.1] at h8;cases h8
  ·exact absurd h7 h8
theorem cpl_of (hx:SitOk x) (hP:P.map (·.1)=labsOf x) (hG:∀c∈l,GC x P at_ c) (hO:Outc x l (lbG x at_) S Pg) (he:e∈x.exp) (hN:∀c∈l,NewC x at_ c→rejB l c=true∨at_.cand≠e.cand) (hall:∀p∈P,p.1.cand=e.cand→∃c∈l,ScanOf p.1 p.2 c.seq c∧rejB l c=false):Cpl x S Pg e:=by
 refine ⟨fun s hs ⟨h1,h2⟩=>?_,fun k hk=>?_⟩
 ·obtain ⟨c,d,hc,hd,hne⟩:=hO.conf s hs h1
  rw [h2] at hc hd
  obtain ⟨p,hp,h3,h4,h5⟩:=ing_scan hx hP hG hN hc
  obtain ⟨q,hq,h6,h7,h8⟩:=ing_scan hx hP hG hN hd
  exact hne (scan_same hx hP hp hq h3 h6 (h4.trans h7.symm) (h5.trans h8.symm))
 ·obtain ⟨p,hp,hpl⟩:=lab_pag hP he hk
  obtain ⟨c,hc,h1,h2⟩:=hall p hp (by rw [hpl];rfl)
  have hI:=scan_ing (at_:=at_) hx hP hp hc h1 h2
  rw [hpl] at hI
  obtain ⟨pag,hpg,h3,h4⟩:=hO.got _ c hI fun d hd=>by
   obtain ⟨q,hq,h6,h7,h8⟩:=ing_scan hx hP hG hN hd
   exact scan_same hx hP hq hp h6 h1 (by rw [hpl];exact h7) (by rw [hpl];exact h8)
  have:=pgF_some hO.bel.pasc hpg
  rw [h3,h4] at this
  show (pgF Pg e.cand (k:Nat)).isSome=true
  rw [show pgF Pg e.cand (k:Nat)=some pag from this];rfl
theorem cpl_val (hx:SitOk x) (hP:P.map (·.1)=labsOf x) (hG:∀c∈l,GC x P at_ c) (hO:Outc x l (lbG x at_) S Pg) (he:e∈x.exp) (hN:∀c∈l,NewC x at_ c→rejB l c=true∨at_.cand≠e.cand) (hC:Cpl x S Pg e) {k:Nat} (hk:k<(bkOf x e).length) {p:LabD×List Int} (hp:p∈P) (hpl:p.1=labAt x e k):conF Pg e.cand k=100 * e.cand+k∧chsF Pg e.cand k=p.2:=by
 have:=hC.2 k hk
 cases hpg:pgF Pg e.cand (k:Nat) with
 |none=>rw [hpg] at this;cases this
 |some pag=>
  obtain ⟨q,hq,h1,h2,h3,h4⟩:=pg_val hx hP hG hO hN hpg
  have:q=p:=key_uni hx hP hq hp (by rw [hpl];exact h1) (by rw [hpl];exact h2)
  subst this
  rw [conF,chsF,hpg]
  exact ⟨by rw [show (some pag).getD pag0=pag from rfl,h3,hpl];rfl,h4⟩
end
theorem scF_same {x:Sit} {P:List (LabD×List Int)} {at_ at2:LabD} {l l2:List Cap} {S S2:List ScS} {Pg Pg2:List Pag} {e:ExpD} (hx:SitOk x) (hP:P.map (·.1)=labsOf x) (he:e∈x.exp)
 (hG:∀c∈l,GC x P at_ c) (hO:Outc x l (lbG x at_) S Pg) (hN:∀c∈l,NewC x at_ c→rejB l c=true∨at_.cand≠e.cand) (hC:Cpl x S Pg e)
 (hG2:∀c∈l2,GC x P at2 c) (hO2:Outc x l2 (lbG x at2) S2 Pg2) (hN2:∀c∈l2,NewC x at2 c→rejB l2 c=true∨at2.cand≠e.cand) (hC2:Cpl x S2 Pg2 e):scF x Pg e=scF x Pg2 e:=
 scF_congr fun k hk=>by
  obtain ⟨p,hp,hpl⟩:=lab_pag hP he hk
  obtain ⟨h1,h2⟩:=cpl_val hx hP hG hO he hN hC hk hp hpl
  obtain ⟨h3,h4⟩:=cpl_val hx hP hG2 hO2 he hN2 hC2 hk hp hpl
  exact ⟨h1.trans h3.symm,h2.trans h4.symm⟩
def queC:Cap:=⟨60,9,1,1,[63],0,[],0,0,⟨0,0,0,0⟩⟩
def rejC:Cap:=⟨61,9,2,3,[],0,[],9,1,⟨0,0,0,0⟩⟩
section
variable {x:Sit} {A:List (List Int)} {P:List (LabD×List Int)} {out:List Cap} {at_:LabD}
theorem caps_gc (hC:Caps x A P out) {c:Cap} (h:c∈out):GC x P at_ c∧StpOk (stampOf c):=by
 obtain ⟨h1,h2,p,hp,h3⟩:=hC.cap c h
 refine ⟨.inl ⟨p,hp,h3⟩,?_⟩
 have h4:=h3.time
 have h5:=h3.src
 show 0≤c.time∧c.time≤1000000∧0≤c.src∧c.src≤99∧0≤c.seq∧c.seq≤9999
 omega
theorem caps_kind (hC:Caps x A P out) {c:Cap} (h:c∈out):c.kind=1∧1≤c.src∧c.src≤3∧c.content≠77777∨¬SitOk x:=by
 obtain ⟨h1,h2,p,hp,h3⟩:=hC.cap c h
 by_cases hx:SitOk x
 ·refine .inl ⟨h3.kind,h3.src.1,h3.src.2,?_⟩
  obtain ⟨i,e,k,pg,he,hk,hl, -⟩:=pag_fit (hC.pag p hp)
  have hm:p.1∈labsOf x:=labs_mem.2 ⟨e,List.mem_of_getElem? he,k,(List.getElem?_eq_some_iff.1 hk).1,hl⟩
  have:=lab_num hx hm
  have h4:c.content=cNum p.1:=h3.content
  omega
 ·exact .inr hx
theorem early_in (hx:SitOk x) (hP:P.map (·.1)=labsOf x) (hC:Caps x A P out) (n:Nat):InOk x (out.take n) (lbG x at_):=
 inOk_of hx hP hC.pag (by rw [List.length_take];have:=hC.len;omega) (fun c hc=>caps_gc hC (List.mem_of_mem_take hc)) fun c hc d hd _ h=>hC.inj c (List.mem_of_mem_take hc) d (List.mem_of_mem_take hd) h
theorem late_in (hx:SitOk x) (hP:P.map (·.1)=labsOf x) (hC:Caps x A P out):InOk x (out++[queC,rejC]) (lbG x at_):=by
 have hm:∀c,c∈out++[queC,rejC]↔c∈out∨c=queC∨c=rejC:=fun c=>by simp
 refine inOk_of hx hP hC.pag (by simp;have:=hC.len;omega) (fun c hc=>?_) fun c hc d hd h1 h2=>?_
 ·rcases (hm c).1 hc with h|rfl|rfl
  ·exact caps_gc hC h
  ·exact ⟨.inr (.inr (.inl ⟨rfl,rfl,rfl,rfl⟩)),by unfold StpOk;decide⟩
  ·exact ⟨.inr (.inr (.inr ⟨rfl,rfl⟩)),by unfold StpOk;decide⟩
 ·have k:∀c∈out,c.src≤3:=fun c h=>by
   obtain ⟨-, -,p, -,h3⟩:=hC.cap c h
   exact h3.src.2
  rcases (hm c).1 hc with h|rfl|rfl<;>rcases (hm d).1 hd with h'|rfl|rfl
  ·exact hC.inj c h d h' h2
  ·have:=k c h;have:queC.src=9:=rfl;omega
  ·have:=k c h;have:rejC.src=9:=rfl;omega
  ·have:=k d h';have:queC.src=9:=rfl;omega
  ·rfl
  ·cases h2
  ·have:=k d h';have:rejC.src=9:=rfl;omega
  ·cases h2
  ·rfl
theorem no_new (hx:SitOk x) (hC:Caps x A P out) {c:Cap} (h:c∈out):¬NewC x at_ c:=fun hn=>by
 rcases caps_kind hC h with h1|h1
 ·exact h1.2.2.2 hn.content
 ·exact h1 hx
theorem stable_plain (hx:SitOk x) (hP:P.map (·.1)=labsOf x) (hC:Caps x A P out) {n:Nat} {S1 S2:List ScS} {Pg1 Pg2:List Pag} (h1:Outc x (out.take n) (lbG x at_) S1 Pg1) (h2:Outc x (out++[queC,rejC]) (lbG x at_) S2 Pg2):
 (∀e∈x.exp,Cpl x S2 Pg2 e)∧∀e∈x.exp,Cpl x S1 Pg1 e→scF x Pg1 e=scF x Pg2 e:=by
 have hm:∀c,c∈out++[queC,rejC]↔c∈out∨c=queC∨c=rejC:=fun c=>by simp
 have g1:∀c∈out.take n,GC x P at_ c:=fun c hc=>(caps_gc hC (List.mem_of_mem_take hc)).1
 have g2:∀c∈out++[queC,rejC],GC x P at_ c:=fun c hc=>by
  rcases (hm c).1 hc with h|rfl|rfl
  ·exact (caps_gc hC h).1
  ·exact .inr (.inr (.inl ⟨rfl,rfl,rfl,rfl⟩))
  ·exact .inr (.inr (.inr ⟨rfl,rfl⟩))
 have n1:∀e:ExpD,∀c∈out.take n,NewC x at_ c→rejB (out.take n) c=true∨at_.cand≠e.cand:=fun e c hc hn=>absurd hn (no_new hx hC (List.mem_of_mem_take hc))
 have n2:∀e:ExpD,∀c∈out++[queC,rejC],NewC x at_ c→rejB (out++[queC,rejC]) c=true∨at_.cand≠e.cand:=fun e c hc hn=>by
  rcases (hm c).1 hc with h|rfl|rfl
  ·exact absurd hn (no_new hx hC h)
  ·have:=hn.content;cases this
  ·have:=hn.kind;cases this
 have hr:∀c∈out,rejB (out++[queC,rejC]) c=false:=fun c hc=>by
  rw [rejB,List.any_eq_false]
  intro d hd
  rw [decide_eq_true_eq]
  intro hr
  rcases caps_kind hC hc with ⟨-, -,h3, -⟩|h3
  ·rcases (hm d).1 hd with h|rfl|rfl
   ·rcases caps_kind hC h with h4|h4
    ·have:=h4.1;have:=hr.1;omega
    ·exact h4 hx
   ·have:=hr.1;cases this
   ·have:=hr.2.1;have e:rejC.tsrc=9:=rfl;omega
  ·exact h3 hx
 have hc2:∀e∈x.exp,Cpl x S2 Pg2 e:=fun e he=>cpl_of hx hP g2 h2 he (n2 e) fun p hp _=>by
  obtain ⟨c,hc,h3⟩:=hC.all p hp
  exact ⟨c,(hm c).2 (.inl hc),h3,hr c hc⟩
 exact ⟨hc2,fun e he hc=>scF_same hx hP he g1 h1 (n1 e) hc g2 h2 (n2 e) (hc2 e he)⟩
end
end Go.Proofs.YtihjphblcohdeaaGreatDoor
namespace Go.Proofs.YtihjphblcohdeaaGreatDoor
set_option maxRecDepth 10000
open Go.RowKit
def plT23g_0:Plan:=(.take 0 (.take 1 (.take 2 (.take 3 (.alt 4 (.alt 5 (.take 6 (.take 7 (.take 8 (.take 9 (.take 10 .done))))) .stop) .stop)))))
def plT23g_2:Plan:=(.take 1 (.take 2 (.alt 0 (.alt 3 (.alt 4 (.take 5 (.take 6 (.take 7 (.alt 8 (.alt 9 (.take 10 .done) .stop) .stop)))) (.alt 8 (.alt 4 (.take 5 (.take 6 (.take 7 (.alt 9 (.take 10 .done) .stop)))) .stop) .stop)) (.alt 8 (.alt 3 (.alt 4 (.take 5 (.take 6 (.take 7 (.alt 9 (.take 10 .done) .stop)))) .stop) .stop) .stop)) (.alt 3 (.alt 0 (.alt 4 (.take 5 (.take 6 (.take 7 (.alt 8 (.alt 9 (.take 10 .done) .stop) .stop)))) (.alt 8 (.alt 4 (.take 5 (.take 6 (.take 7 (.alt 9 (.take 10 .done) .stop)))) .stop) .stop)) (.alt 8 (.alt 0 (.alt 4 (.take 5 (.take 6 (.take 7 (.alt 9 (.take 10 .done) .stop)))) .stop) .stop) .stop)) (.alt 8 (.alt 0 (.alt 3 (.alt 4 (.take 5 (.take 6 (.take 7 (.alt 9 (.take 10 .done) .stop)))) .stop) .stop) (.alt 3 (.alt 0 (.alt 4 (.take 5 (.take 6 (.take 7 (.alt 9 (.take 10 .done) .stop)))) .stop) .stop) .stop)) .stop)))))
def plT23g_3:Plan:=(.take 0 (.take 1 (.take 2 (.take 3 (.take 4 (.take 5 (.take 6 (.take 7 (.take 8 (.take 9 (.alt 10 (.take 11 (.take 12 .done)) .stop)))))))))))
open F32
structure SetUp (x:Sit) (A:List (List Int)) (P:List (LabD×List Int)) (out:List Cap):Prop where
 sit:SitOk x
 int:IntOk x A
 caps:Caps x A P out
 labs:P.map (·.1)=labsOf x
theorem call_sit {b:Bool} {f:Nat} {args:List AV} {K:AV→Prop} {alt:Prop} (hG:Good Tryz.prog TT b f args (fun r=>∃x,r=sitV x∧SitOk x)) (h:∀x,SitOk x→K (sitV x)):acall Tryz.prog TT b f args K alt:=
 call_i hG fun r hr=>by obtain ⟨x,rfl,hx⟩:=hr;exact h x hx
theorem call_int {b:Bool} {f:Nat} {args:List AV} {K:AV→Prop} {alt:Prop} {x:Sit} (hG:Good Tryz.prog TT b f args (fun r=>∃A,IntOk x A∧r= .lst 1 (A.map encL))) (h:∀A,IntOk x A→K (.lst 1 (A.map encL))):acall Tryz.prog TT b f args K alt:=
 call_i hG fun r hr=>by obtain ⟨x,hx,rfl⟩:=hr;exact h x hx
theorem call_scans {b:Bool} {f:Nat} {args:List AV} {K:AV→Prop} {alt:Prop} {x:Sit} {A:List (List Int)} (hx:SitOk x) (hA:IntOk x A) (hG:Good Tryz.prog TT b f args (fun r=>∃P out,Caps x A P out∧P.map (·.1)=labsOf x∧r= .tup [.lst 13 (out.map encC), .bool true])) (h:∀P out,SetUp x A P out→out.length≤70→K (.tup [.lst 13 (out.map encC), .bool true])):acall Tryz.prog TT b f args K alt:=
 call_i hG fun r hr=>by obtain ⟨P,out,hC,hP,rfl⟩:=hr;exact h P out ⟨hx,hA,hC,hP⟩ hC.len
theorem call_sort {b:Bool} {f:Nat} {args:List AV} {K:AV→Prop} {alt:Prop} {x:Sit} {l:List Cap} {lb:Cap→Option LabD} (hG:Good Tryz.prog TT b f args (fun r=>∃S Pg,Outc x l lb S Pg∧r= .tup [inV S Pg, .int .i64 0])) (h:∀S Pg,Outc x l lb S Pg→K (.tup [inV S Pg, .int .i64 0])):acall Tryz.prog TT b f args K alt:=
 call_i hG fun r hr=>by obtain ⟨S,Pg,hO,rfl⟩:=hr;exact h S Pg hO
theorem call_same {b:Bool} {f:Nat} {args:List AV} {K:AV→Prop} {alt:Prop} {a c:ScD} (hG:Good Tryz.prog TT b f args (fun r=>∃v:Bool,r= .bool v∧(a=c→v=true))) (h:∀v:Bool,(a=c→v=true)→K (.bool v)):acall Tryz.prog TT b f args K alt:=
 call_i hG fun r hr=>by obtain ⟨v,rfl,hv⟩:=hr;exact h v hv
theorem all_cpl {x:Sit} {S:List ScS} {Pg:List Pag} (h:∀e∈x.exp,Cpl x S Pg e):x.exp.filter (cplB x S Pg)=x.exp:=
 List.filter_eq_self.2 fun e he=>decide_eq_true (cpl_iff.2 (h e he))
theorem scF_small {x:Sit} (hx:SitOk x) {Pg:List Pag} {e:ExpD} (he:e∈x.exp):(scF x Pg e).pages.length≤1000∧(scF x Pg e).ans.length≤1000:=by
 have h1:=(sit_pap hx he).2.eight
 have h2:(papOf x e).length≤6:=(sit_pap hx he).2.six
 refine ⟨?_,?_⟩
 ·rw [scF,List.length_map,List.length_range];omega
 ·show (ansP (papOf x e) (bkOf x e) (chsF Pg e.cand) (bkOf x e).length).length≤1000
  rw [ansP_len];omega
theorem cut_key {tt:Nat} {α β:Type} {K:St→Prop} {G:Prop} (I:α→β→Prop) (st:α→β→St) (main:(∀a b s,I a b→Le tt s (st a b)→rest tt K s)→G) (pf:∀a b,I a b→K (st a b)):G:=main fun a b s hI hle=>rest_i _ hle (pf a b hI)
def inC (S:List ScS) (Pg:List Pag):List AV:=[.lst 7 (S.map encSS), .lst 6 (Pg.map encPa)]
set_option maxHeartbeats 16000000 in
theorem stable_law (xs:List Int) (hxs:xs.length≤9223372036854775807):Good Tryz.prog TT false 3 [ints xs] (· = .bool true):=by
 refine good_of_c (fun i=>Nat.beq i 9) mixed tabOk Tryz.func3 rfl rfl Tryz.ntmps3 Tryz.results3 rfl rfl ?_
 (conv=>whnf);(repeat' (first|((with_reducible refine branch_tt ?_);conv=>whnf)|(with_reducible refine branch_not ?_)|((refine call_e (new_ok xs hxs) ?_);conv=>whnf)|((refine call_sit sitting_ok fun x hx=>?_);conv=>whnf)|((refine call_int (intended_ok x hx) fun A hA=>?_);conv=>whnf)|((refine call_scans hx hA (scans_ok x hx A hA) fun P out hU ho70=>?_);conv=>whnf)|(refine draw_i 11 plT23g_0 (by decide+kernel) ?_;(conv=>whnf);fail_if_success (guard_target=~ False))|((with_reducible refine And.intro ?_ ?_)<;>(conv=>whnf))|(with_reducible exact trivial)))
 have LO:(out.map encC).length=out.length:=List.length_map ..
 have hl4:=sit_len hx
 have LE0:(x.exp.map encE).length=x.exp.length:=List.length_map ..
 (conv=>whnf);(repeat' (first|((refine call_n (range_ok _ _ (by omega) (by omega)) fun m hm=>?_);conv=>whnf)))
 have hm2:=hm.2 (by omega)
 have e1:((out.map encC).take m.toNat).drop (Int.toNat 0)=(out.take m.toNat).map encC:=by simp
 have hS1:=sortOut_ok x hx (out.take m.toNat) (lbG x lab0) (early_in hU.sit hU.labs hU.caps m.toNat)
 rw [←e1] at hS1
 have hS2:=sortOut_ok x hx (out++[queC,rejC]) (lbG x lab0) (late_in hU.sit hU.labs hU.caps)
 have e2:(out++[queC,rejC]).map encC=[]++out.map encC++[encC queC,encC rejC]:=by simp
 rw [e2] at hS2
 apply cut_key (tt:=TT) (fun S1 Pg1=>Outc x (out.take m.toNat) (lbG x lab0) S1 Pg1) (fun S1 Pg1=>mkSt [(4, .ptr 4 0),(5, .lst 13 (out.map encC)),(8, .ptr 8 0),(9, .ptr 9 0),(10, .int .i64 0)] [(4,sitC x),(8,thrC),(9,inC S1 Pg1)] true)
 ·intro key
  (conv=>whnf);(repeat' (first|((refine sub_i (by omega) ?_);conv=>whnf)|((refine call_sort hS1 fun S1 Pg1 hO1=>?_);conv=>whnf)|(refine draw_i 0 plT23g_2 (by decide+kernel) ?_;(conv=>whnf);fail_if_success (guard_target=~ False))|((with_reducible refine And.intro ?_ ?_)<;>(conv=>whnf))|(with_reducible exact trivial)))
  all_goals exact key S1 Pg1 _ hO1 le_q
 ·intro S1 Pg1 hO1
  (conv=>whnf);(repeat' (first|(refine need_o ?_;conv=>whnf)|((with_reducible refine branch_ff ?_);conv=>whnf)|((refine call_e (accept_ok x hx S1 Pg1 hO1.bel) ?_);conv=>whnf)|((refine nils_i [.int .i64 60, .int .i64 9, .int .i64 1, .int .i64 1, .str (bt [63]), .int .i64 0, .lst 1 [], .int .i64 0, .int .i64 0, .int .i64 0, .int .i64 0, .int .i64 0, .int .i64 0, .int .i64 61, .int .i64 9, .int .i64 2, .int .i64 3, .str (bt []), .int .i64 0, .lst 1 [], .int .i64 9, .int .i64 1, .int .i64 0, .int .i64 0, .int .i64 0, .int .i64 0] ⟨rfl,rfl,rfl,rfl,rfl,rfl,pc_nil 1,rfl,rfl,rfl,rfl,rfl,rfl,rfl,rfl,rfl,rfl,rfl,rfl,pc_nil 1,rfl,rfl,rfl,rfl,rfl,rfl,trivial⟩ ?_);conv=>whnf)|((refine call_sort hS2 fun S2 Pg2 hO2=>?_);conv=>whnf)|(((have hacc:=accept_ok x hx S2 Pg2 hO2.bel;rw [all_cpl (stable_plain hU.sit hU.labs hU.caps hO1 hO2).1] at hacc;have LX:(x.exp.map (encScE x Pg2)).length=x.exp.length:=(List.length_map ..);refine call_e hacc ?_));conv=>whnf)|((with_reducible refine callS_a ?_);conv=>whnf)|((with_reducible refine branch_n (fun hq=>?_) (fun hq=>?_))<;>(try (exfalso;omega))<;>(conv=>whnf))))
  obtain ⟨hcp,hsm⟩:=stable_plain hU.sit hU.labs hU.caps hO1 hO2
  generalize hE:x.exp.filter (cplB x S1 Pg1)=E
  have LE:(E.map (encScE x Pg1)).length=E.length:=List.length_map ..
  have hEl:E.length≤x.exp.length:=by rw [←hE];exact List.length_filter_le ..
  have hEm:∀e∈E,e∈x.exp∧scF x Pg1 e=scF x Pg2 e:=fun e he=>by
   rw [←hE,List.mem_filter,cplB,decide_eq_true_eq] at he
   exact ⟨he.1,hsm e he.1 (cpl_iff.1 he.2)⟩
  refine loop_i (fun i:Nat=>i≤E.length) (fun i=>mkSt [(11, .lst 7 (E.map (encScE x Pg1))),(16, .lst 7 (x.exp.map (encScE x Pg2))),(18, .int .i64 i)] [] true) (fun i=>E.length-i) 0 (Nat.zero_le _) (le_mk ⟨rfl,rfl,rfl,trivial⟩ trivial rfl) ?_
  intro i hi
  rcases Nat.lt_or_ge i E.length with hil|hil
  ·obtain ⟨e,heE⟩:∃e,E[i]? =some e:=⟨_,List.getElem?_eq_getElem hil⟩
   obtain ⟨hem,hes⟩:=hEm e (List.mem_of_getElem? heE)
   obtain ⟨j0,hj0⟩:=List.mem_iff_getElem?.1 hem
   have hj0l:=(List.getElem?_eq_some_iff.1 hj0).1
   (conv=>whnf);(repeat' (first|((with_reducible refine branch_d (fun hq=>?_) (fun hq=>?_))<;>(try (exfalso;omega))<;>(conv=>whnf))))
   refine loop_i2 (fun (j:Nat) (b:Bool)=>j≤x.exp.length∧(j0<j→b=true)) (fun j b=>mkSt [(11, .lst 7 (E.map (encScE x Pg1))),(16, .lst 7 (x.exp.map (encScE x Pg2))),(18, .int .i64 i),(19, .bool b),(20, .int .i64 j)] [] true) (fun j _=>x.exp.length-j) 0 false ⟨Nat.zero_le _,fun h=>absurd h (by omega)⟩ (le_mk ⟨rfl,rfl,rfl,rfl,rfl,trivial⟩ trivial rfl) ?_
   rintro j b ⟨hj,hb⟩
   rcases Nat.lt_or_ge j x.exp.length with hjl|hjl
   ·obtain ⟨e',he'⟩:∃e,x.exp[j]? =some e:=⟨_,List.getElem?_eq_getElem hjl⟩
    have hss:=sameScript_ok (scF x Pg1 e) (scF x Pg2 e') (scF_small hx hem) (scF_small hx (List.mem_of_getElem? he'))
    have hgo:∀v:Bool,(scF x Pg1 e=scF x Pg2 e'→v=true)→(j0<j+1→(b||v)=true):=fun v hv h=>by
     by_cases hjj:j0=j
     ·subst hjj
      rw [hj0] at he';cases he'
      rw [hv hes,Bool.or_true]
     ·rw [hb (by omega)];rfl
    cases b
    ·(conv=>whnf);(repeat' (first|(refine arith_i ⟨by omega,by omega⟩ ?_;conv=>whnf)|((with_reducible refine branch_ff ?_);conv=>whnf)|((refine idx_cs heE ?_);conv=>whnf)|((refine idx_cs he' ?_);conv=>whnf)|((refine call_same hss fun v hv=>?_);conv=>whnf)|(refine draw_i 13 plT23g_3 (by decide+kernel) ?_;(conv=>whnf);fail_if_success (guard_target=~ False))|((with_reducible refine And.intro ?_ ?_)<;>(conv=>whnf))|(with_reducible exact trivial)|((with_reducible refine branch_d (fun hq=>?_) (fun hq=>?_))<;>(try (exfalso;omega))<;>(conv=>whnf))))
     all_goals exact ⟨j+1,v,⟨by omega,fun h=>by simpa using hgo v hv h⟩,le_q,by omega⟩
    ·(conv=>whnf);(repeat' (first|(refine arith_i ⟨by omega,by omega⟩ ?_;conv=>whnf)|((with_reducible refine branch_tt ?_);conv=>whnf)|(refine draw_i 13 plT23g_3 (by decide+kernel) ?_;(conv=>whnf);fail_if_success (guard_target=~ False))|((with_reducible refine And.intro ?_ ?_)<;>(conv=>whnf))|(with_reducible exact trivial)|((with_reducible refine branch_d (fun hq=>?_) (fun hq=>?_))<;>(try (exfalso;omega))<;>(conv=>whnf))))
     all_goals exact ⟨j+1,true,⟨by omega,fun _=>rfl⟩,le_q,by omega⟩
   ·obtain rfl:j=x.exp.length:=by omega
    obtain rfl:b=true:=hb hj0l
    (conv=>whnf);(repeat' (first|(refine arith_i ⟨by omega,by omega⟩ ?_;conv=>whnf)|((with_reducible refine branch_tt ?_);conv=>whnf)|(with_reducible refine branch_not ?_)|((with_reducible refine branch_d (fun hq=>?_) (fun hq=>?_))<;>(try (exfalso;omega))<;>(conv=>whnf))))
    all_goals exact ⟨i+1,by omega,le_q,by omega⟩
  ·obtain rfl:i=E.length:=by omega
   (conv=>whnf);(repeat' (first|((refine call_e awake23_ok ?_);conv=>whnf)|((with_reducible refine branch_d (fun hq=>?_) (fun hq=>?_))<;>(try (exfalso;omega))<;>(conv=>whnf))))
   all_goals exact ret_p rfl rfl
end Go.Proofs.YtihjphblcohdeaaGreatDoor
namespace Go.Proofs.YtihjphblcohdeaaGreatDoor
open Go.ChangeShapes Go.WideShapes Go.ChangeAt Go.WideMaps Go.WideElems Go.RowKit
def laidL:List (String×DataW Unit):=[("awardingbody/rscode.powers",Rows.laid_awardingbody_rscode_powers),("awardingbody/rscode.logs",Rows.laid_awardingbody_rscode_logs)]
theorem gPow:Tryz.prog.globalNamed "awardingbody/rscode.powers" =some 0:=by kernel_rfl
theorem gLog:Tryz.prog.globalNamed "awardingbody/rscode.logs" =some 1:=by kernel_rfl
theorem arr_at {P:Program} {w:World} {base:Nat} {spare:Nat→Bool} {held:Bool} {fuel:Nat} {t e:TypeId} {n:Nat} {cs:List Value} {enc:TypeId×Value→Unit} {x:DataW Unit×List MemPlace} (ht:P.underlying t=some (.array n e)) (he:P.underlying e=some (.int .i64)) (hc:P.cellsOf e=1)
 (h:DataW.trod enc P w base spare held fuel t cs=some x) {zs:List Int} (hx:x.1= .agg (zs.map fun z=> .lit (.int .i64 z))) (hn:zs.length=n):∀(j:Nat) (z:Int),zs[j]? =some z→cs[j]? =some (.int .i64 z):=by
 intro j z hz
 obtain ⟨xs,m,rfl,rfl, -,hxl,hel⟩:=DataW.trod_array ht h
 have hj:j<n:=by have:=(List.getElem?_eq_some_iff.1 hz).1;omega
 have h1:=hel j hj
 rw [hc,Nat.mul_one] at h1
 obtain ⟨y,hy⟩:∃y,xs[j]? =some y:=⟨_,List.getElem?_eq_getElem (by omega)⟩
 rw [hy] at h1
 obtain ⟨k,e1,e2, -⟩:=DataW.trod_int he h1
 have h2:xs.map (·.1)=zs.map fun z=> .lit (.int .i64 z):=by simpa using hx
 have h3:(xs.map (·.1))[j]? =some (.lit (.int .i64 z)):=by rw [h2,List.getElem?_map,hz];rfl
 rw [List.getElem?_map,hy,e2] at h3
 simp at h3
 subst h3
 have h4:(cs.drop j)[0]? =some (.int .i64 k):=by
  have:((cs.drop j).take 1)[0]? =some (.int .i64 k):=by rw [e1];rfl
  rwa [List.getElem?_take_of_lt (by omega)] at this
 rwa [List.getElem?_drop,Nat.add_zero] at h4
theorem blk_lt {w:World} {g:Nat} {v:Value} (h:w.cell? ⟨g,0,none⟩=some v):g<w.heap.size:=by
 rcases Nat.lt_or_ge g w.heap.size with h1|h1
 ·exact h1
 ·simp [World.cell?,Array.getElem?_eq_none h1] at h
theorem of_laid {W:World} (h:laidMetH Tryz.prog laidL W):GlobAt W No none:=by
 rw [MakeChecks.laidMetH_plain _ _ _ (by kernel_rfl)] at h
 obtain ⟨ps,⟨g0,t0,cs0,f0,p0,q0,hg0,ht0,hv0,hd0,⟨g1,t1,cs1,f1,p1,q1,hg1,ht1,hv1,hd1,_,_⟩,_⟩,_,_⟩:=h
 obtain rfl:=Option.some.inj (gPow.symm.trans hg0)
 obtain rfl:=Option.some.inj (gLog.symm.trans hg1)
 obtain rfl:=Option.some.inj ((show (Tryz.prog.globals[0]?).map (·.type)=some 254 by kernel_rfl).symm.trans ht0)
 obtain rfl:=Option.some.inj ((show (Tryz.prog.globals[1]?).map (·.type)=some 255 by kernel_rfl).symm.trans ht1)
 have c3:Tryz.prog.cellsOf 3=1:=by kernel_rfl
 have a0:=arr_at Tryz.underlying254 Tryz.underlying3 c3 hd0 (zs:=(laidG.getD 0 (0,[])).2) rfl rfl
 have a1:=arr_at Tryz.underlying255 Tryz.underlying3 c3 hd1 (zs:=(laidG.getD 1 (0,[])).2) rfl rfl
 have b0:∀(j:Nat) (z:Int),(laidG.getD 0 (0,[])).2[j]? =some z→W.cell? ⟨0,j,none⟩=some (.int .i64 z):=fun j z h=>by rw [World.var?_cell gPow hv0 j,←Array.getElem?_toList];exact a0 j z h
 have b1:∀(j:Nat) (z:Int),(laidG.getD 1 (0,[])).2[j]? =some z→W.cell? ⟨1,j,none⟩=some (.int .i64 z):=fun j z h=>by rw [World.var?_cell gLog hv1 j,←Array.getElem?_toList];exact a1 j z h
 intro g xs h
 rw [lookG,laidG,lkG,lkG,lkG] at h
 cases h0:Nat.beq g 0
 ·rw [h0] at h
  cases h1:Nat.beq g 1
  ·rw [h1] at h;cases h
  ·rw [h1] at h
   obtain rfl:=Nat.eq_of_beq_eq_true h1
   cases h
   exact ⟨blk_lt (b1 0 _ rfl),no_,nofun,b1⟩
 ·rw [h0] at h
  obtain rfl:=Nat.eq_of_beq_eq_true h0
  cases h
  exact ⟨blk_lt (b0 0 _ rfl),no_,nofun,b0⟩
theorem door_met (os:Os) (args:Array Value):laidMetH Tryz.prog laidL ((World.doorLaid Tryz.prog 400 os).forCall (fun _ _=>0) ⟨#[],args,[]⟩).memory:=
 laidMetH_of_parts3 (fuel:=8) (laidMet_of_run' 8 (by kernel_rfl) (by kernel_rfl)) (by kernel_rfl) (by kernel_rfl)
theorem law_all {f:Nat} {args:List AV} (hG:Good Tryz.prog TT false f args (· = .bool true)) {w:World} {us:List Value} (hgl:GlobAt w No none) (h:All2 (RepV w No) args us):
 Calls Tryz.prog f us.toArray w (fun e w'=>e= .returned (.bool true)∧Chg No w w'):=by
 have hx:∀b,GX (G0 none No (none,0,0)) b→False:=fun b hb=>by rcases hb with hb|hb<;>simp_all [GM,G0,No]
 refine Calls.mono (hG.2 w No none us (none,0,0) (fun b hb=>absurd hb no_) hgl rfl (h.mono fun v u hr=>RC.ra (RepV.rc (RepV.move hr (fun _ _ _=>rfl) fun b _ hb=>(hx b hb).elim))) nofun) ?_
 rintro e w' ⟨u,r,rfl,rfl,hr,hc, -⟩
 have hu:RepV w' (GX (G0 none No (none,0,0))) (.bool true) u:=hr
 cases hu
 exact ⟨rfl,hc.down.mono fun b _ hb=>by cases hb⟩
theorem ints_row {w:World} {a:Option Addr} {len cap:Nat} {zs:List Int} (h:Ints w No a len cap zs):RepV w No (ints zs) (.slice a len cap):=ints_rep h
theorem ints_max {w:World} {a:Option Addr} {len cap:Nat} {zs:List Int} (h:Ints w No a len cap zs) (hc:cap≤maxLen):zs.length≤9223372036854775807:=by
 have h1:=h.len
 have h2:=h.cap
 have h3:maxLen=9223372036854775807:=rfl
 omega
end Go.Proofs.YtihjphblcohdeaaGreatDoor
