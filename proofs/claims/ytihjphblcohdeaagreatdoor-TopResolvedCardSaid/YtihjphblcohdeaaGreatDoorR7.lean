/- Several texts in one: T19g, T19h, T23a, T23b, Pl20, TRep, T20j, T23d, T23c, T23e, T02a, BMk, T23f. (Printed small by a program: remarks, spaces and repeated headings are taken out.) -/
import Derived.Test.YtihjphblcohdeaaGreatDoorR6
import Derived.Test.YtihjphblcohdeaaGreatDoorR4
import Derived.Test.YtihjphblcohdeaaGreatDoorR5
set_option linter.unusedVariables false
set_option linter.unusedSimpArgs false
set_option linter.unnecessarySimpa false
set_option linter.unusedSectionVars false
namespace Go.Proofs.YtihjphblcohdeaaGreatDoor
set_option maxRecDepth 10000
open Go.RowKit
def plT19g_0:Plan:=(.take 0 (.take 1 (.take 2 (.take 3 (.take 4 (.take 5 (.take 6 (.take 7 (.take 10 (.alt 8 (.take 9 (.alt 11 (.take 12 .done) .stop)) .stop))))))))))
open F32
theorem change_i (ds:List UInt8) (n how:Int) (h:Mods ds) (hn:0≤n∧n<74):Good Tryz.prog TT false 90 [.str (bt ds), .int .i64 n, .int .i64 how] (· = .str (bt (ds.set n.toNat (chgB (ds.getD n.toNat 0) how)))):=by
 obtain ⟨k,rfl⟩:∃k:Nat,n=k:=⟨n.toNat,by omega⟩
 rw [Int.toNat_natCast]
 exact change_ok ds k how h (by omega)
theorem upI_nodup (n:Nat):(upI n).Nodup:=
 List.pairwise_map.2 (List.nodup_range.imp fun h e=>h (by omega))
set_option maxHeartbeats 4000000 in
theorem damage_ok (l:LabD) (hL:LabOk l):Good Tryz.prog TT true 54 [.tape, .str (bt (stripL (encW (labG l))))] (fun r=>∃ds ds',DamU (encW (labG l)) ds∧(ds'=ds∨ds'=ds.reverse)∧r= .str (bt ds')):=by
 have hc:(encW (labG l)).length=12:=by simp [encW,labG]
 have h0:=strip_dm hc
 generalize encW (labG l)=cw at *
 refine good_of mixed tabOk Tryz.func54 rfl rfl Tryz.ntmps54 Tryz.results54 rfl rfl ?_
 (conv=>whnf)
 refine loop_i2 (fun (i:Nat) (ds:List UInt8)=>i≤3∧∀w,Dm cw ds i i [] w) (fun i ds=>mkSt [(0, .tape),(1, .str (bt ds)),(5, .int .i64 i)] [] true) (fun i _=>3-i) 0 _ ⟨by decide,h0⟩ le_q ?_
 rintro i ds ⟨hi,hD⟩
 have hM:=(hD true).mods
 (conv=>whnf);(repeat' (first|(refine arith_i ⟨by omega,by omega⟩ ?_;conv=>whnf)|(((refine call_i (next_ok _ (by omega)) fun r hr=>?_;obtain ⟨m1,rfl, -,h1⟩:=hr;have hm1:=h1 (by omega)));conv=>whnf)|((refine call_e (change_i _ _ _ (by first|exact hM|exact hM.set (chg_mod ..)) (by omega)) ?_);conv=>whnf)|(((refine call_i (order_ok 12 (by omega)) fun r hr=>?_;obtain ⟨od,rfl,hp⟩:=hr));conv=>whnf)|((with_reducible refine branch_d (fun hq=>?_) (fun hq=>?_))<;>(try (exfalso;omega))<;>(conv=>whnf))|((with_reducible refine branch_e (fun hq=>?_) (fun hq=>?_))<;>(try (exfalso;omega))<;>(conv=>whnf))))
 ·refine ⟨i+1,_,⟨by omega,?_⟩,le_q,by omega⟩
  exact fun w=>((hD w).mark1 (by omega)).mark2 (by omega)
 ·have hi3:i=3:=by omega
  subst hi3
  have hol:od.length=12:=by rw [hp.length_eq,upI_len];rfl
  refine loop_i3 (fun (i:Nat) (ds:List UInt8) (S:List Nat)=>i≤6∧Dm cw ds 3 3 S true∧S.length=i∧∀s∈S,∃j,j<i∧od[j]? =some (s:Int)) (fun i ds _=>mkSt [(0, .tape),(1, .str (bt ds)),(6, .lst 1 (List.map encI od)),(7, .int .i64 6),(8, .int .i64 1),(9, .int .i64 i)] [] true) (fun i _ _=>6-i) 0 _ [] ⟨by decide,hD true,rfl,by simp⟩ ((le_erase 28).trans le_q) ?_
  rintro i ds S ⟨hi,hD,hSl,hS⟩
  have LX:(od.map encI).length=od.length:=List.length_map ..
  have hM:=hD.mods
  rcases Nat.lt_or_ge i 6 with hil|hil
  ·obtain ⟨x,hx⟩:∃x,od[i]? =some x:=⟨_,List.getElem?_eq_getElem (by omega)⟩
   obtain ⟨k,hk,rfl⟩:∃k:Nat,k<12∧x=k:=by
    have hx2:=upI_mem ((hp.mem_iff).1 (List.mem_of_getElem? hx))
    exact ⟨x.toNat,by omega,by omega⟩
   have hkS:k∉S:=fun h=>by
    obtain ⟨j,hj,hj2⟩:=hS k h
    have hnd:od.Nodup:=hp.symm.nodup (upI_nodup _)
    have:=(List.getElem?_inj (by omega) hnd).1 (hj2.trans hx.symm)
    omega
   (conv=>whnf);(repeat' (first|(refine arith_i ⟨by omega,by omega⟩ ?_;conv=>whnf)|((refine idx_cs hx ?_);conv=>whnf)|(((refine call_i (next_ok _ (by omega)) fun r hr=>?_;obtain ⟨m1,rfl, -,h1⟩:=hr;have hm1:=h1 (by omega)));conv=>whnf)|((refine call_e (change_i _ _ _ hM (by omega)) ?_);conv=>whnf)|(refine draw_i 13 plT19g_0 (by decide+kernel) ?_;(conv=>whnf);fail_if_success (guard_target=~ False))|((with_reducible refine And.intro ?_ ?_)<;>(conv=>whnf))|(with_reducible exact trivial)|((with_reducible refine branch_d (fun hq=>?_) (fun hq=>?_))<;>(try (exfalso;omega))<;>(conv=>whnf))))
   all_goals
    obtain ⟨j,hj5,rfl⟩:∃j:Nat,j<5∧m1=j:=⟨m1.toNat,by omega,by omega⟩
    have e:(7+5 * (k:Int)+(j:Int)).toNat=7+5 * k+j:=by omega
    refine ⟨i+1,_,k::S,⟨hil,hD.sym hk hkS hj5,by rw [List.length_cons,hSl],fun s hs=>?_⟩,le_mk ⟨rfl,str_eq (by rw [e];rfl),rfl,rfl,rfl,rfl,trivial⟩ trivial rfl,by omega⟩
    rcases List.mem_cons.1 hs with rfl|hs
    ·exact ⟨i,by omega,hx⟩
    ·obtain ⟨j,h1,h2⟩:=hS s hs
     exact ⟨j,by omega,h2⟩
  ·obtain rfl:i=6:=by omega
   have hOk:=hD.ok (by decide) (by decide) (by rw [hSl];decide)
   (conv=>whnf);(repeat' (first|(((refine call_i (next_ok _ (by omega)) fun r hr=>?_;obtain ⟨m1,rfl, -,h1⟩:=hr;have hm1:=h1 (by omega)));conv=>whnf)|((refine call_e (flip_ok (bt ds) (by rw [bt_size,hM.len];decide)) ?_);conv=>whnf)|((with_reducible refine branch_d (fun hq=>?_) (fun hq=>?_))<;>(try (exfalso;omega))<;>(conv=>whnf))|((with_reducible refine branch_e (fun hq=>?_) (fun hq=>?_))<;>(try (exfalso;omega))<;>(conv=>whnf))))
   ·exact ret_p rfl ⟨ds,ds.reverse,hOk, .inr rfl,by simp [bt]⟩
   ·exact ret_p rfl ⟨ds,ds,hOk, .inl rfl,rfl⟩
 ·have hi3:i=3:=by omega
  subst hi3
  have hol:od.length=12:=by rw [hp.length_eq,upI_len];rfl
  refine loop_i3 (fun (i:Nat) (ds:List UInt8) (S:List Nat)=>i≤3∧Dm cw ds 3 3 S false∧S.length=i∧∀s∈S,∃j,j<i∧od[j]? =some (s:Int)) (fun i ds _=>mkSt [(0, .tape),(1, .str (bt ds)),(6, .lst 1 (List.map encI od)),(7, .int .i64 3),(8, .int .i64 0),(9, .int .i64 i)] [] true) (fun i _ _=>3-i) 0 _ [] ⟨by decide,hD false,rfl,by simp⟩ ((le_erase 28).trans le_q) ?_
  rintro i ds S ⟨hi,hD,hSl,hS⟩
  have LX:(od.map encI).length=od.length:=List.length_map ..
  have hM:=hD.mods
  rcases Nat.lt_or_ge i 3 with hil|hil
  ·obtain ⟨x,hx⟩:∃x,od[i]? =some x:=⟨_,List.getElem?_eq_getElem (by omega)⟩
   obtain ⟨k,hk,rfl⟩:∃k:Nat,k<12∧x=k:=by
    have hx2:=upI_mem ((hp.mem_iff).1 (List.mem_of_getElem? hx))
    exact ⟨x.toNat,by omega,by omega⟩
   have hkS:k∉S:=fun h=>by
    obtain ⟨j,hj,hj2⟩:=hS k h
    have hnd:od.Nodup:=hp.symm.nodup (upI_nodup _)
    have:=(List.getElem?_inj (by omega) hnd).1 (hj2.trans hx.symm)
    omega
   (conv=>whnf);(repeat' (first|(refine arith_i ⟨by omega,by omega⟩ ?_;conv=>whnf)|((refine idx_cs hx ?_);conv=>whnf)|(((refine call_i (next_ok _ (by omega)) fun r hr=>?_;obtain ⟨m1,rfl, -,h1⟩:=hr;have hm1:=h1 (by omega)));conv=>whnf)|((refine call_e (change_i _ _ _ hM (by omega)) ?_);conv=>whnf)|(refine draw_i 13 plT19g_0 (by decide+kernel) ?_;(conv=>whnf);fail_if_success (guard_target=~ False))|((with_reducible refine And.intro ?_ ?_)<;>(conv=>whnf))|(with_reducible exact trivial)|((with_reducible refine branch_d (fun hq=>?_) (fun hq=>?_))<;>(try (exfalso;omega))<;>(conv=>whnf))))
   all_goals
    obtain ⟨j,hj5,rfl⟩:∃j:Nat,j<5∧m1=j:=⟨m1.toNat,by omega,by omega⟩
    have e:(7+5 * (k:Int)+(j:Int)).toNat=7+5 * k+j:=by omega
    refine ⟨i+1,_,k::S,⟨hil,hD.sym hk hkS hj5,by rw [List.length_cons,hSl],fun s hs=>?_⟩,le_mk ⟨rfl,str_eq (by rw [e];rfl),rfl,rfl,rfl,rfl,trivial⟩ trivial rfl,by omega⟩
    rcases List.mem_cons.1 hs with rfl|hs
    ·exact ⟨i,by omega,hx⟩
    ·obtain ⟨j,h1,h2⟩:=hS s hs
     exact ⟨j,by omega,h2⟩
  ·obtain rfl:i=3:=by omega
   have hOk:=hD.ok (by decide) (by decide) (by rw [hSl];decide)
   (conv=>whnf);(repeat' (first|(((refine call_i (next_ok _ (by omega)) fun r hr=>?_;obtain ⟨m1,rfl, -,h1⟩:=hr;have hm1:=h1 (by omega)));conv=>whnf)|((refine call_e (flip_ok (bt ds) (by rw [bt_size,hM.len];decide)) ?_);conv=>whnf)|((with_reducible refine branch_d (fun hq=>?_) (fun hq=>?_))<;>(try (exfalso;omega))<;>(conv=>whnf))|((with_reducible refine branch_e (fun hq=>?_) (fun hq=>?_))<;>(try (exfalso;omega))<;>(conv=>whnf))))
   ·exact ret_p rfl ⟨ds,ds.reverse,hOk, .inr rfl,by simp [bt]⟩
   ·exact ret_p rfl ⟨ds,ds,hOk, .inl rfl,rfl⟩
end Go.Proofs.YtihjphblcohdeaaGreatDoor
namespace Go.Proofs.YtihjphblcohdeaaGreatDoor
set_option maxRecDepth 10000
open Go.RowKit
def plT19h_0:Plan:=(.take 0 (.take 2 (.take 4 (.take 6 (.take 7 (.take 9 (.take 10 (.take 11 (.take 12 (.take 13 (.take 14 (.take 15 (.alt 1 (.alt 3 (.take 5 (.alt 8 (.take 16 (.alt 17 (.take 18 .done) .stop)) .stop)) .stop) .stop)))))))))))))
open F32
structure Cap where
 time:Int
 src:Int
 seq:Int
 kind:Int
 strip:List UInt8
 content:Int
 ch:List Int
 tsrc:Int
 tseq:Int
 lab:LabD
def encC (c:Cap):List AV:=[.int .i64 c.time, .int .i64 c.src, .int .i64 c.seq, .int .i64 c.kind, .str (bt c.strip), .int .i64 c.content,ints c.ch, .int .i64 c.tsrc, .int .i64 c.tseq, .int .i64 c.lab.paper, .int .i64 c.lab.cand, .int .i64 c.lab.page, .int .i64 c.lab.var]
structure ScanOf (l:LabD) (ch:List Int) (seq:Int) (c:Cap):Prop where
 time:0≤c.time∧c.time≤50
 src:1≤c.src∧c.src≤3
 seq:c.seq=seq
 kind:c.kind=1
 strip:∃ds,DamU (encW (labG l)) ds∧(c.strip=ds∨c.strip=ds.reverse)
 content:c.content=100 * l.cand+l.page
 ch:c.ch=ch
 tsrc:c.tsrc=0
 tseq:c.tseq=0
 lab:c.lab=⟨0,0,0,0⟩
set_option maxHeartbeats 4000000 in
theorem scan_ok (l:LabD) (hL:LabOk l) (ch:List Int) (seq:Int):Good Tryz.prog TT true 18 [.tape, .agg (encLb l),ints ch, .int .i64 seq] (fun r=>∃c,ScanOf l ch seq c∧r= .tup [.agg (encC c), .bool true]):=by
 have hc:=hL.cand
 have hp:=hL.page
 have hs:(bt (stripL (encW (labG l)))).size=74:=by rw [bt_size];exact (strip_dm (by simp [encW,labG]) true).mods.len
 have hs':(ByteArray.mk (stripL (encW (labG l))).toArray).size=74:=hs
 refine good_of mixed tabOk Tryz.func18 rfl rfl Tryz.ntmps18 Tryz.results18 rfl rfl ?_
 (conv=>whnf);(repeat' (first|(refine arith_i ⟨by omega,by omega⟩ ?_;conv=>whnf)|((with_reducible refine branch_ff ?_);conv=>whnf)|((refine call_e (draw_ok l hL) ?_);conv=>whnf)|(((refine call_i (range_ok _ _ (by omega) (by omega)) fun r hr=>?_;obtain ⟨m1,rfl, -,h1⟩:=hr;have hm1:=h1 (by omega)));conv=>whnf)|(((refine call_i (damage_ok l hL) fun r hr=>?_;obtain ⟨ds,ds',hD,hE,rfl⟩:=hr));conv=>whnf)|(refine draw_i 17 plT19h_0 (by decide+kernel) ?_;(conv=>whnf);fail_if_success (guard_target=~ False))|((with_reducible refine And.intro ?_ ?_)<;>(conv=>whnf))|(with_reducible exact trivial)|((with_reducible refine branch_n (fun hq=>?_) (fun hq=>?_))<;>(try (exfalso;omega))<;>(conv=>whnf))))
 all_goals exact ret_t (rs:=[.agg (encC ⟨_,m1,seq,1,ds',100 * l.cand+l.page,ch,0,0,⟨0,0,0,0⟩⟩), .bool true]) ⟨.inr ⟨_,_,rfl,rfl,rc_p rfl,rc_p rfl,rc_p rfl,rc_p rfl,rc_p rfl,rc_p rfl,rc_p rfl,rc_p rfl,rc_p rfl,rc_p rfl,rc_p rfl,rc_p rfl,rc_p rfl,trivial⟩, .inl (rc_p rfl),trivial⟩ ⟨_,⟨by assumption,by assumption,rfl,rfl,⟨ds,hD,hE⟩,rfl,rfl,rfl,rfl,rfl⟩,rfl⟩
end Go.Proofs.YtihjphblcohdeaaGreatDoor
namespace Go.Proofs.YtihjphblcohdeaaGreatDoor
set_option maxRecDepth 10000
open Go.RowKit
open F32
def bkOf (x:Sit) (e:ExpD):List (List Int):=x.bk.getD e.var.toNat []
def papOf (x:Sit) (e:ExpD):List Prt:=(x.pap.map PapD.parts).getD e.var.toNat []
def labsE (num:Int) (e:ExpD) (n:Nat):List LabD:=(List.range n).map fun (k:Nat)=>⟨num,e.cand,k,e.var⟩
def labsOf (x:Sit):List LabD:=x.exp.flatMap fun e=>labsE x.num e (bkOf x e).length
theorem labsE_succ {num:Int} {e:ExpD} {n:Nat}:labsE num e (n+1)=labsE num e n++[⟨num,e.cand,n,e.var⟩]:=by rw [labsE,List.range_succ,List.map_append];rfl
theorem sit_bk {x:Sit} (h:SitOk x) {e:ExpD} (he:e∈x.exp):x.bk[e.var.toNat]? =some (bkOf x e):=by
 have h1:=h.exps e he
 have h2:=h.vars.1
 rw [bkOf,List.getD_eq_getElem?_getD,List.getElem?_eq_getElem (by omega)];rfl
theorem sit_pap {x:Sit} (h:SitOk x) {e:ExpD} (he:e∈x.exp):x.pap[e.var.toNat]? =some ⟨e.var,papOf x e⟩∧VarOk x.num e.var.toNat ⟨e.var,papOf x e⟩ (bkOf x e):=by
 have h1:=h.exps e he
 obtain ⟨p,hp⟩:∃p,x.pap[e.var.toNat]? =some p:=⟨_,List.getElem?_eq_getElem (by omega)⟩
 have h2:=h.vars.2 _ _ _ hp (sit_bk h he)
 have h3:papOf x e=p.parts:=by rw [papOf,List.getD_eq_getElem?_getD,List.getElem?_map,hp];rfl
 have h4:p=⟨e.var,papOf x e⟩:=by
  have:=h2.var
  cases p with|mk v ps=>simp only at this h3;subst h3;rw [this];congr 1;omega
 rw [←h4];exact ⟨hp,h2⟩
theorem sit_len {x:Sit} (h:SitOk x):x.exp.length≤4:=by
 have h1:(x.exp.map fun e=>e.cand).Pairwise (· < ·):=List.pairwise_map.2 h.asc
 have h2:(x.exp.map fun e=>e.cand).Nodup:=h1.imp fun h e=>by omega
 have:=nodup_le h2 (b:=[0,1,2,3]) fun a ha=>by
  obtain ⟨e,he,rfl⟩:=List.mem_map.1 ha
  have:=h.exps e he
  have:e.cand=0∨e.cand=1∨e.cand=2∨e.cand=3:=by omega
  simpa using this
 simpa using this
theorem flat_le {x:Sit} (hx:SitOk x):∀i,((x.exp.take i).flatMap fun e=>labsE x.num e (bkOf x e).length).length≤32:=by
 intro i
 have h:∀l:List ExpD,(∀e∈l,e∈x.exp)→(l.flatMap fun e=>labsE x.num e (bkOf x e).length).length≤8 * l.length:=by
  intro l
  induction l with
  |nil=>intro _;exact Nat.zero_le _
  |cons e l ih=>
   intro hl
   have h1:=ih fun a ha=>hl a (List.mem_cons_of_mem _ ha)
   have h2:=(sit_pap hx (hl e (List.mem_cons_self ..))).2.eight
   rw [List.flatMap_cons,List.length_append,List.length_cons,labsE,List.length_map,List.length_range];omega
 have h1:=h (x.exp.take i) fun e he=>List.mem_of_mem_take he
 have h2:=sit_len hx
 have h3:(x.exp.take i).length≤x.exp.length:=by rw [List.length_take];omega
 omega
set_option maxHeartbeats 4000000 in
theorem pagesOf_ok (x:Sit) (hx:SitOk x):Good Tryz.prog TT false 15 [sitV x] (· = .own 0 54 4 ((labsOf x).map encLb)):=by
 have hl:=sit_len hx
 refine good_of mixed tabOk Tryz.func15 rfl rfl Tryz.ntmps15 Tryz.results15 rfl rfl ?_
 (conv=>whnf)
 refine loop_i (fun i:Nat=>i≤x.exp.length) (fun i=>mkSt [(1, .ptr 1 0),(3, .own 900 54 4 (((x.exp.take i).flatMap fun e=>labsE x.num e (bkOf x e).length).map encLb)),(4, .int .i64 i)] [(1,sitC x)] false) (fun i=>x.exp.length-i) 0 (by omega) ((le_adopt 3 900 54 4 rfl).trans le_q) ?_
 intro i hi
 have LE:(x.exp.map encE).length=x.exp.length:=List.length_map ..
 rcases Nat.lt_or_ge i x.exp.length with hil|hil
 ·obtain ⟨e,he⟩:∃e,x.exp[i]? =some e:=⟨_,List.getElem?_eq_getElem (by omega)⟩
  have hem:=List.mem_of_getElem? he
  have hb:=sit_bk hx hem
  have h1:=hx.exps e hem
  have h8:=(sit_pap hx hem).2.eight
  have LB:((bkOf x e).map encPg).length=(bkOf x e).length:=List.length_map ..
  have hT:(x.exp.take (i+1)).flatMap (fun e=>labsE x.num e (bkOf x e).length)=(x.exp.take i).flatMap (fun e=>labsE x.num e (bkOf x e).length)++labsE x.num e (bkOf x e).length:=by rw [List.take_add_one,he];simp
  (conv=>whnf);(repeat' (first|((refine idx_cs he ?_);conv=>whnf)|((with_reducible refine branch_d (fun hq=>?_) (fun hq=>?_))<;>(try (exfalso;omega))<;>(conv=>whnf))))
  have hF:=flat_le hx i
  generalize hP:(x.exp.take i).flatMap (fun e=>labsE x.num e (bkOf x e).length)=P at *
  refine loop_i (fun k:Nat=>k≤(bkOf x e).length) (fun k=>mkSt [(1, .ptr 1 0),(3, .own 900 54 4 ((P++labsE x.num e k).map encLb)),(4, .int .i64 i),(5, .ptr 5 0),(6, .int .i64 k)] [(1,sitC x),(5,encE e)] false) (fun k=>(bkOf x e).length-k) 0 (by omega) (le_mk ⟨rfl,own_eq (by simp [labsE]),rfl,rfl,rfl,trivial⟩ ⟨rfl,rfl,trivial⟩ rfl) ?_
  intro k hk
  have LP:((P++labsE x.num e k).map encLb).length=P.length+k:=by simp [labsE]
  rcases Nat.lt_or_ge k (bkOf x e).length with hkl|hkl
  ·(conv=>whnf);(repeat' (first|(refine arith_i ⟨by omega,by omega⟩ ?_;conv=>whnf)|(refine need_o ?_;conv=>whnf)|((refine idx_ms (by omega) hb ?_);conv=>whnf)|((with_reducible refine branch_d (fun hq=>?_) (fun hq=>?_))<;>(try (exfalso;omega))<;>(conv=>whnf))))
   exact ⟨k+1,by omega,le_mk ⟨rfl,own_eq (by rw [labsE_succ];simp [encLb]),rfl,rfl,rfl,trivial⟩ ⟨rfl,rfl,trivial⟩ rfl,by omega⟩
  ·obtain rfl:k=(bkOf x e).length:=by omega
   (conv=>whnf);(repeat' (first|(refine arith_i ⟨by omega,by omega⟩ ?_;conv=>whnf)|((refine idx_ms (by omega) hb ?_);conv=>whnf)|((with_reducible refine branch_d (fun hq=>?_) (fun hq=>?_))<;>(try (exfalso;omega))<;>(conv=>whnf))))
   exact ⟨i+1,by omega,le_mk ⟨rfl,own_eq (by rw [hT]),rfl,trivial⟩ ⟨rfl,trivial⟩ rfl,by omega⟩
 ·obtain rfl:i=x.exp.length:=by omega
  (conv=>whnf);(repeat' (first|((with_reducible refine branch_d (fun hq=>?_) (fun hq=>?_))<;>(try (exfalso;omega))<;>(conv=>whnf))))
  exact ret_o (by rw [List.take_length];rfl)
end Go.Proofs.YtihjphblcohdeaaGreatDoor
namespace Go.Proofs.YtihjphblcohdeaaGreatDoor
set_option maxRecDepth 10000
open Go.RowKit
def plT23b_0:Plan:=(.take 0 (.take 1 (.take 2 (.take 3 (.take 4 (.take 5 (.take 6 (.take 7 (.take 8 (.take 9 (.take 10 (.take 11 .done))))))))))))
open F32
def IntP (p:Prt) (a:Int):Prop:=if p.kind=2 then -1≤a∧a<p.opts else a= -1
structure IntL (ps:List Prt) (l:List Int):Prop where
 len:l.length=ps.length
 at_:∀(k:Nat) (p:Prt) (a:Int),ps[k]? = .some p→l[k]? = .some a→IntP p a
structure IntOk (x:Sit) (A:List (List Int)):Prop where
 len:A.length=x.exp.length
 at_:∀(i:Nat) (e:ExpD) (l:List Int),x.exp[i]? = .some e→A[i]? = .some l→IntL (papOf x e) l
def encL (l:List Int):List AV:=[ints l]
def encM23 (l:List Int):Option (List (List AV)):=some (l.map encI)
set_option maxHeartbeats 4000000 in
theorem intended_ok (x:Sit) (hx:SitOk x):Good Tryz.prog TT true 9 [.tape,sitV x] (fun r=>∃A,IntOk x A∧r= .lst 1 (A.map encL)):=by
 have hl:=sit_len hx
 have LE:(x.exp.map encE).length=x.exp.length:=List.length_map ..
 refine good_of_c (fun i=>Nat.beq i 15) mixed tabOk Tryz.func9 rfl rfl Tryz.ntmps9 Tryz.results9 rfl rfl ?_
 (conv=>whnf)
 refine loop_i2 (fun (i:Nat) (A:List (List Int))=>i≤x.exp.length∧A.length=i∧∀(k:Nat) (e:ExpD) (l:List Int),x.exp[k]? =some e→A[k]? =some l→IntL (papOf x e) l) (fun i A=>mkSt [(0, .tape),(3, .ptr 3 0),(5, .mat 900 22 3 1 (A.map encM23)),(6, .int .i64 i)] [(3,sitC x)] true) (fun i _=>x.exp.length-i) 0 [] ⟨by omega,rfl,by simp⟩ ((le_adoptMat 5 900 22 3 1 rfl).trans le_q) ?_
 rintro i A ⟨hi,hA,hat⟩
 rcases Nat.lt_or_ge i x.exp.length with hil|hil
 ·obtain ⟨e,he⟩:∃e,x.exp[i]? =some e:=⟨_,List.getElem?_eq_getElem (by omega)⟩
  have hem:=List.mem_of_getElem? he
  obtain ⟨hp,hV⟩:=sit_pap hx hem
  have h1:=hx.exps e hem
  have h66:(papOf x e).length≤6:=hV.six
  have LP:((papOf x e).map encPt).length=(papOf x e).length:=List.length_map ..
  (conv=>whnf);(repeat' (first|((refine idx_cs he ?_);conv=>whnf)|((refine idx_ms (by omega) hp ?_);conv=>whnf)|(refine draw_i 12 plT23b_0 (by decide+kernel) ?_;(conv=>whnf);fail_if_success (guard_target=~ False))|((with_reducible refine branch_d (fun hq=>?_) (fun hq=>?_))<;>(try (exfalso;omega))<;>(conv=>whnf))))
  refine loop_i2 (fun (k:Nat) (l:List Int)=>k≤(papOf x e).length∧l.length=k∧∀(j:Nat) (p:Prt) (a:Int),(papOf x e)[j]? =some p→l[j]? =some a→IntP p a) (fun k l=>mkSt [(0, .tape),(3, .ptr 3 0),(5, .mat 900 22 3 1 (A.map encM23)),(6, .int .i64 i),(7, .own 901 3 1 (l.map encI)),(8, .lst 6 ((papOf x e).map encPt)),(9, .int .i64 k)] [(3,sitC x)] true) (fun k _=>(papOf x e).length-k) 0 [] ⟨by omega,rfl,by simp⟩ ((le_adopt 7 901 3 1 rfl).trans le_q) ?_
  rintro k l ⟨hk,hll,hlt⟩
  have LA:(A.map encM23).length=i:=by rw [List.length_map,hA]
  have LL:(l.map encI).length=k:=by rw [List.length_map,hll]
  rcases Nat.lt_or_ge k (papOf x e).length with hkl|hkl
  ·obtain ⟨p,hp⟩:∃p,(papOf x e)[k]? =some p:=⟨_,List.getElem?_eq_getElem (by omega)⟩
   have hvp:=hV.pap.parts p (List.mem_of_getElem? hp)
   have hop:p.kind=2→2≤p.opts∧p.opts≤5:=fun h=>by
    simp only [vPartB,decide_eq_true_eq] at hvp;omega
   (conv=>whnf);(repeat' (first|(refine arith_i ⟨by omega,by omega⟩ ?_;conv=>whnf)|(refine need_o ?_;conv=>whnf)|((refine idx_cs hp ?_);conv=>whnf)|(((refine call_i (range_ok _ _ (by omega) (by omega)) fun r hr=>?_;obtain ⟨m1,rfl, -,h6⟩:=hr;have hm1:=h6 (by omega)));conv=>whnf)|((with_reducible refine branch_d (fun hq=>?_) (fun hq=>?_))<;>(try (exfalso;omega))<;>(conv=>whnf))|((with_reducible refine branch_e (fun hq=>?_) (fun hq=>?_))<;>(try (exfalso;omega))<;>(conv=>whnf))))
   ·refine ⟨k+1,l++[m1],⟨by omega,by simp [hll],fun j q a hq hj=>?_⟩,le_mk ⟨rfl,rfl,rfl,rfl,own_eq (by rw [List.map_append];rfl),rfl,rfl,trivial⟩ ⟨rfl,trivial⟩ rfl,by omega⟩
    rcases snoc_at hj with ⟨h1,h2⟩|⟨h1,h2⟩
    ·exact hlt j q a hq h2
    ·subst h1 h2;rw [hll,hp] at hq;cases hq;rw [IntP,if_pos (by assumption)];omega
   ·refine ⟨k+1,l++[-1],⟨by omega,by simp [hll],fun j q a hq hj=>?_⟩,le_mk ⟨rfl,rfl,rfl,rfl,own_eq (by rw [List.map_append];rfl),rfl,rfl,trivial⟩ ⟨rfl,trivial⟩ rfl,by omega⟩
    rcases snoc_at hj with ⟨h1,h2⟩|⟨h1,h2⟩
    ·exact hlt j q a hq h2
    ·subst h1 h2;rw [hll,hp] at hq;cases hq;rw [IntP,if_neg (by assumption)]
  ·obtain rfl:k=(papOf x e).length:=by omega
   (conv=>whnf);(repeat' (first|(refine arith_i ⟨by omega,by omega⟩ ?_;conv=>whnf)|(refine need_o ?_;conv=>whnf)|((refine bld_m ?_);conv=>whnf)|((with_reducible refine branch_d (fun hq=>?_) (fun hq=>?_))<;>(try (exfalso;omega))<;>(conv=>whnf))))
   refine ⟨i+1,A++[l],⟨by omega,by simp [hA],fun j q a hq hj=>?_⟩,le_mk ⟨rfl,rfl,by rw [List.map_append];rfl,rfl,trivial⟩ ⟨rfl,trivial⟩ rfl,by omega⟩
   rcases snoc_at hj with ⟨h1,h2⟩|⟨h1,h2⟩
   ·exact hat j q a hq h2
   ·subst h1 h2;rw [hA,he] at hq;cases hq;exact ⟨hll,hlt⟩
 ·obtain rfl:i=x.exp.length:=by omega
  (conv=>whnf);(repeat' (first|((with_reducible refine branch_d (fun hq=>?_) (fun hq=>?_))<;>(try (exfalso;omega))<;>(conv=>whnf))))
  refine rest_i (mkSt [(5, .lst 1 (A.map encL))] [] true) (Le.trans (le_matErase 5 900 (R:=A.map fun (l:List Int)=>l.map encI) (by rw [List.map_map];rfl)) (le_mk ⟨by rw [List.map_map];rfl,trivial⟩ trivial rfl)) ?_
  (conv=>whnf)
  exact ret_p rfl ⟨A,⟨hA,hat⟩,rfl⟩
end Go.Proofs.YtihjphblcohdeaaGreatDoor
namespace Go.Proofs.YtihjphblcohdeaaGreatDoor
set_option maxRecDepth 10000
open Go.RowKit
def bstF (vs:List Int):Nat→Nat
 |0=>0
 |i+1=>if nth vs (bstF vs i)<nth vs i then i else bstF vs i
def drkF (vs:List Int) (i:Nat):Nat:=((vs.take i).filter fun v=>decide (6≤v)).length
def ledF (vs:List Int) (o i:Nat):Bool:=(List.range i).all fun j=>decide (j=o)||decide (2≤nth vs o-nth vs j)
def judF (vs:List Int):Int:=
 let o:=bstF vs vs.length
 if drkF vs vs.length=1 then o
 else if drkF vs vs.length=0 then (if ledF vs o vs.length=true∧4≤nth vs o then o else -1)
 else if ledF vs o vs.length=true then o else -2
theorem jud1 {vs:List Int} (h:drkF vs vs.length=1):judF vs=bstF vs vs.length:=if_pos h
theorem jud2 {vs:List Int} (h:drkF vs vs.length=0) (h2:ledF vs (bstF vs vs.length) vs.length=true) (h3:4≤nth vs (bstF vs vs.length)):judF vs=bstF vs vs.length:=by
 rw [judF,if_neg (by omega),if_pos h,if_pos ⟨h2,h3⟩]
theorem jud3 {vs:List Int} (h:drkF vs vs.length=0) (h3:¬ 4≤nth vs (bstF vs vs.length)):judF vs= -1:=by
 rw [judF,if_neg (by omega),if_pos h,if_neg fun h2=>h3 h2.2]
theorem jud4 {vs:List Int} (h:drkF vs vs.length=0) (h3:ledF vs (bstF vs vs.length) vs.length=false):judF vs= -1:=by
 rw [judF,if_neg (by omega),if_pos h,if_neg fun h2=>by rw [h3] at h2;cases h2.1]
theorem jud5 {vs:List Int} (h1:drkF vs vs.length≠1) (h:drkF vs vs.length≠0) (h3:ledF vs (bstF vs vs.length) vs.length=true):judF vs=bstF vs vs.length:=by
 rw [judF,if_neg h1,if_neg h,if_pos h3]
theorem jud6 {vs:List Int} (h1:drkF vs vs.length≠1) (h:drkF vs vs.length≠0) (h3:ledF vs (bstF vs vs.length) vs.length=false):judF vs= -2:=by
 rw [judF,if_neg h1,if_neg h,if_neg fun h2=>by rw [h3] at h2;cases h2]
theorem bstF_lt {vs:List Int} (h:0<vs.length):∀i,i≤vs.length→bstF vs i<vs.length
 |0,_=>h
 |i+1,hi=>by
  rw [bstF]
  split
  ·omega
  ·exact bstF_lt h i (by omega)
theorem ledF_succ {vs:List Int} {o i:Nat}:ledF vs o (i+1)=(ledF vs o i&&(decide (i=o)||decide (2≤nth vs o-nth vs i))):=by
 rw [ledF,List.range_succ,List.all_append,←ledF];simp
theorem drkF_succ {vs:List Int} {i:Nat} {v:Int} (h:vs[i]? =some v):drkF vs (i+1)=drkF vs i+(if 6≤v then 1 else 0):=by
 rw [drkF,List.take_add_one,h,List.filter_append,List.length_append,←drkF]
 by_cases h6:6≤v<;>simp [h6]
def DarkV (a:Int) (vs:List Int):Prop:=∀(j:Nat) (v:Int),vs[j]? =some v→if (j:Int)=a then 7≤v∧v≤9 else 0≤v∧v≤2
theorem darkv_bst {a:Int} {vs:List Int} (h:DarkV a vs) (h0:0≤a) (hl:a<vs.length):∀i,i≤vs.length→(a<i→(bstF vs i:Int)=a)∧(i≤a→bstF vs i<vs.length∧(bstF vs i:Int)≤max 0 (i-1))
 |0,_=>⟨fun h1=>absurd h1 (by omega),fun _=>⟨by rw [bstF];omega,by rw [bstF];omega⟩⟩
 |i+1,hi=>by
  obtain ⟨ih1,ih2⟩:=darkv_bst h h0 hl i (by omega)
  have hv:vs[i]? =some (nth vs i):=nth_some (by omega)
  have hvi:=h i _ hv
  refine ⟨fun h1=>?_,fun h1=>?_⟩
  ·rw [bstF]
   by_cases hia:(i:Int)=a
   ·rw [if_pos hia] at hvi
    by_cases hb:(bstF vs i:Int)=a
    ·split<;>omega
    ·obtain ⟨k1,k2⟩:=ih2 (by omega)
     have hvb:=h (bstF vs i) _ (nth_some k1)
     rw [if_neg hb] at hvb
     rw [if_pos (by omega)];exact hia
   ·rw [if_neg hia] at hvi
    have hb:=ih1 (by omega)
    have hbl:bstF vs i<vs.length:=by omega
    have hvb:=h (bstF vs i) _ (nth_some hbl)
    rw [if_pos hb] at hvb
    rw [if_neg (by omega)];exact hb
  ·obtain ⟨k1,k2⟩:=ih2 (by omega)
   rw [bstF]
   split
   ·exact ⟨by omega,by omega⟩
   ·exact ⟨k1,by omega⟩
theorem darkv_drk {a:Int} {vs:List Int} (h:DarkV a vs) (h0: -1≤a) (hl:a<vs.length):∀i,i≤vs.length→drkF vs i=if 0≤a∧a<i then 1 else 0
 |0,_=>by rw [if_neg (by omega)];rfl
 |i+1,hi=>by
  have ih:=darkv_drk h h0 hl i (by omega)
  have hv:vs[i]? =some (nth vs i):=nth_some (by omega)
  have hvi:=h i _ hv
  rw [drkF_succ hv,ih]
  by_cases hia:(i:Int)=a
  ·rw [if_pos hia] at hvi
   rw [if_neg (by omega),if_pos (by omega),if_pos (by omega)]
  ·rw [if_neg hia] at hvi
   rw [if_neg (c:=6≤nth vs i) (by omega)]
   by_cases h1:0≤a∧a<i
   ·rw [if_pos h1,if_pos (by omega)]
   ·rw [if_neg h1,if_neg (by omega)]
theorem jud_dark {a:Int} {vs:List Int} (h:DarkV a vs) (h0: -1≤a) (hl:a<vs.length) (hp:0<vs.length):judF vs=a:=by
 have hd:=darkv_drk h h0 hl vs.length (Nat.le_refl _)
 rw [judF]
 by_cases ha:0≤a
 ·rw [if_pos ⟨ha,hl⟩] at hd
  rw [if_pos hd]
  exact (darkv_bst h ha hl vs.length (Nat.le_refl _)).1 hl
 ·rw [if_neg (by omega)] at hd
  rw [if_neg (by omega),if_pos hd,if_neg ?_]
  ·omega
  ·rintro ⟨-,h4⟩
   have hb:=bstF_lt hp vs.length (Nat.le_refl _)
   have hvb:=h _ _ (nth_some hb)
   rw [if_neg (by omega)] at hvb
   omega
def fldB (B:List (Int×Nat)):List (Int×Int):=B.flatMap fun p=>optN p.1 p.2
def cutF:List (Int×Nat)→List Int→List (List Int)
 |[],_=>[]
 |p::B,ch=>ch.take p.2::cutF B (ch.drop p.2)
def blkF (ps:List Prt) (pg:List Int):List (Int×Nat):=(pg.filter fun a=>(prtAt ps a).kind==2).map fun a=>(a,(prtAt ps a).opts.toNat)
theorem fld_blk {ps:List Prt}:∀ {pg:List Int},fldsF ps pg=fldB (blkF ps pg)
 |[]=>rfl
 |a::l=>by
  have ih:=fld_blk (ps:=ps) (pg:=l)
  rw [fldsF,ih]
  by_cases h:(prtAt ps a).kind=2
  ·simp [blkF,fldB,optsI,h]
  ·simp [blkF,fldB,h]
theorem optN_len {a:Int} {n:Nat}:(optN a n).length=n:=by simp [optN]
theorem fldB_cons {p:Int×Nat} {B:List (Int×Nat)}:fldB (p::B)=optN p.1 p.2++fldB B:=by simp [fldB]
theorem fldB_app {A B:List (Int×Nat)}:fldB (A++B)=fldB A++fldB B:=by simp [fldB]
theorem fldB_next {B:List (Int×Nat)} {m:Nat} {p:Int×Nat} (h:B[m]? =some p):fldB (B.take (m+1))=fldB (B.take m)++optN p.1 p.2:=by
 rw [List.take_add_one,h,fldB_app];simp [fldB]
theorem fldB_split {B:List (Int×Nat)} {m:Nat} {p:Int×Nat} (h:B[m]? =some p):fldB B=fldB (B.take m)++(optN p.1 p.2++fldB (B.drop (m+1))):=by
 conv=>lhs;rw [←List.take_append_drop m B,drop_at h,fldB_app,fldB_cons]
theorem cutF_len:∀ {B:List (Int×Nat)} {ch:List Int},(cutF B ch).length=B.length
 |[],_=>rfl
 |p::B,ch=>by rw [cutF,List.length_cons,List.length_cons,cutF_len]
theorem cutF_at:∀ {B:List (Int×Nat)} {ch:List Int} {m:Nat} {p:Int×Nat},B[m]? =some p→(cutF B ch)[m]? =some ((ch.drop (fldB (B.take m)).length).take p.2)
 |[],_,m,p,h=>by simp at h
 |q::B,ch,0,p,h=>by
  simp at h;subst h
  simp [cutF,fldB]
 |q::B,ch,m+1,p,h=>by
  rw [List.getElem?_cons_succ] at h
  rw [cutF,List.getElem?_cons_succ,cutF_at h,List.take_succ_cons,fldB_cons,List.length_append,optN_len,List.drop_drop]
theorem optN_at {a:Int} {n k:Nat} (h:k<n):(optN a n)[k]? =some (a,(k:Int)):=by
 rw [optN,List.getElem?_map,List.getElem?_range h];rfl
theorem fldB_at {B:List (Int×Nat)} {m k:Nat} {p:Int×Nat} (h:B[m]? =some p) (hk:k<p.2):(fldB B)[(fldB (B.take m)).length+k]? =some (p.1,(k:Int)):=by
 rw [fldB_split h,List.getElem?_append_right (by omega),Nat.add_sub_cancel_left,List.getElem?_append_left (by rw [optN_len];exact hk),optN_at hk]
theorem book_asc {ps:List Prt} {pgs:List (List Int)} (B:BookOk ps pgs) {k:Nat} {pg:List Int} (hk:pgs[k]? =some pg):pg.Pairwise fun a b=>a<b:=by
 rw [List.pairwise_iff_getElem]
 intro i j hi hj hij
 have h1:=(B.at hk (List.getElem?_eq_getElem hi)).1
 have h2:=(B.at hk (List.getElem?_eq_getElem hj)).1
 omega
theorem blk_asc {ps:List Prt} {pg:List Int} (h:pg.Pairwise fun a b=>a<b):(blkF ps pg).Pairwise fun p q=>p.1<q.1:=
 List.pairwise_map.2 (h.filter _)
theorem blk_mem {ps:List Prt} {pg:List Int} {p:Int×Nat} (h:p∈blkF ps pg):p.1∈pg∧(prtAt ps p.1).kind=2∧p.2=(prtAt ps p.1).opts.toNat:=by
 obtain ⟨a,ha,rfl⟩:=List.mem_map.1 h
 rw [List.mem_filter] at ha
 exact ⟨ha.1,by simpa using ha.2,rfl⟩
theorem blk_len {ps:List Prt} {pg:List Int}:(blkF ps pg).length≤pg.length:=by
 rw [blkF,List.length_map];exact List.length_filter_le ..
def putL (L:List (Int×Int)) (az:List Int):List Int:=L.foldl (fun acc p=>acc.set p.1.toNat p.2) az
def ansB (n:Nat) (B:List (Int×Nat)) (ch:List Int) (m:Nat):List Int:=putL (((B.zip (cutF B ch)).map fun p=>(p.1.1,judF p.2)).take m) (List.replicate n (-1))
def pgA (ps:List Prt) (pg:List Int) (ch:List Int):List Int:=ansB ps.length (blkF ps pg) ch (blkF ps pg).length
theorem ansB_succ {n:Nat} {B:List (Int×Nat)} {ch:List Int} {m:Nat} {p:Int×Nat} {r:List Int} (h:B[m]? =some p) (hr:(cutF B ch)[m]? =some r):ansB n B ch (m+1)=(ansB n B ch m).set p.1.toNat (judF r):=by
 have h0:(B.zip (cutF B ch))[m]? =some (p,r):=List.getElem?_zip_eq_some.2 ⟨h,hr⟩
 have:((B.zip (cutF B ch)).map fun p=>(p.1.1,judF p.2))[m]? =some (p.1,judF r):=by
  rw [List.getElem?_map,h0];rfl
 rw [ansB,List.take_add_one,this,putL,List.foldl_append];rfl
theorem putL_len {L:List (Int×Int)}:∀ {az:List Int},(putL L az).length=az.length:=by
 induction L with
 |nil=>intro az;rfl
 |cons p L ih=>intro az;rw [putL,List.foldl_cons,←putL,ih,List.length_set]
theorem ansB_len {n B ch m}:(ansB n B ch m).length=n:=by rw [ansB,putL_len,List.length_replicate]
theorem pgA_len {ps pg ch}:(pgA ps pg ch).length=ps.length:=ansB_len
def putP (found:List Int) (pg:List Int) (az:List Int):List Int:=pg.foldl (fun acc b=>acc.set b.toNat (nth found b.toNat)) az
def ansP (ps:List Prt) (pgs:List (List Int)) (chs:Nat→List Int):Nat→List Int
 |0=>List.replicate ps.length (-1)
 |i+1=>putP (pgA ps (pgs.getD i []) (chs i)) (pgs.getD i []) (ansP ps pgs chs i)
theorem putP_len {found:List Int}:∀ {pg az:List Int},(putP found pg az).length=az.length:=by
 intro pg
 induction pg with
 |nil=>intro az;rfl
 |cons p L ih=>intro az;rw [putP,List.foldl_cons,←putP,ih,List.length_set]
theorem ansP_len {ps pgs chs}:∀ {i:Nat},(ansP ps pgs chs i).length=ps.length
 |0=>by rw [ansP,List.length_replicate]
 |i+1=>by rw [ansP,putP_len,ansP_len]
theorem putP_succ {found pg az:List Int} {j:Nat} {b:Int} (h:pg[j]? =some b):putP found (pg.take (j+1)) az=(putP found (pg.take j) az).set b.toNat (nth found b.toNat):=by
 rw [List.take_add_one,h,putP,List.foldl_append,←putP];rfl
def plTRep_0:Plan:=(.take 0 (.take 1 (.take 2 (.take 4 (.take 5 (.alt 3 (.alt 6 (.alt 7 (.take 8 (.take 9 .done)) .stop) .stop) (.alt 6 (.alt 3 (.alt 7 (.take 8 (.take 9 .done)) .stop) .stop) .stop)))))))
theorem and_mask {n:Int} (h:0≤n∧n≤1000):IntKind.wrap .u64 ((BitVec.ofInt IntKind.u64.bits n&&& BitVec.ofInt IntKind.u64.bits 4294967295).toNat:Int)=n:=by
 obtain ⟨m,rfl⟩:∃m:Nat,n=m:=⟨n.toNat,by omega⟩
 have hm:m≤1000:=by omega
 have e1:(BitVec.ofInt IntKind.u64.bits (m:Int)).toNat=m:=by
  show (BitVec.ofInt 64 (m:Int)).toNat=m
  rw [BitVec.toNat_ofInt];omega
 have e2:(BitVec.ofInt IntKind.u64.bits 4294967295).toNat=2 ^ 32-1:=by decide
 rw [BitVec.toNat_and,e1,e2,Nat.and_two_pow_sub_one_eq_mod,Nat.mod_eq_of_lt (by omega)]
 show ((m:Int) % 18446744073709551616)=m
 omega
theorem shr32 {n:Int} (h:0≤n∧n≤1000):n.fdiv (2 ^ min (32:Int).toNat IntKind.u64.bits)=0:=by
 show n.fdiv 4294967296=0
 rw [Int.fdiv_eq_ediv_of_nonneg _ (by omega)]
 omega
theorem mul64_ok (n:Int) (h:0≤n∧n≤1000):Good Tryz.prog TT false 166 [.int .u64 1, .int .u64 n] (· = .tup [.int .u64 0, .int .u64 n]):=by
 have a1:=and_mask (n:=1) (by omega)
 have a0:=and_mask (n:=0) (by omega)
 have an:=and_mask h
 have s1:=shr32 (n:=1) (by omega)
 have s0:=shr32 (n:=0) (by omega)
 have sn:=shr32 h
 refine good_of mixed tabOk Tryz.func166 rfl rfl Tryz.ntmps166 Tryz.results166 rfl rfl ?_
 (conv=>whnf);(repeat' (first|(refine arith_u ⟨by omega,by omega⟩ ?_;conv=>whnf)|(refine need_o ?_;conv=>whnf)|((simp only [a1,a0,an,s1,s0,sn,Int.one_mul,Int.zero_mul,Int.mul_zero,Int.add_zero,Int.zero_add]);conv=>whnf)|fail))
 exact ret_t (rs:=[.int .u64 0, .int .u64 n]) ⟨(rc_p rfl).g,(rc_p rfl).g,trivial⟩ rfl
theorem bitsMul_ok (n:Int) (h:0≤n∧n≤1000):Good Tryz.prog TT false 130 [.int .u64 1, .int .u64 n] (· = .tup [.int .u64 0, .int .u64 n]):=by
 refine good_of mixed tabOk Tryz.func130 rfl rfl Tryz.ntmps130 Tryz.results130 rfl rfl ?_
 (conv=>whnf);(repeat' (first|((with_reducible refine branch_ff ?_);conv=>whnf)|((refine call_e (mul64_ok n h) ?_);conv=>whnf)|fail))
 exact ret_t (rs:=[.int .u64 0, .int .u64 n]) ⟨(rc_p rfl).g,(rc_p rfl).g,trivial⟩ rfl
def repC (k n:Nat):List (List AV):=List.replicate k [AV.int .i64 (-1)]++List.replicate (n-k) [AV.int .i64 0]
theorem repC_len {k n:Nat} (h:k≤n):(repC k n).length=n:=by simp [repC];omega
theorem repC_take {k n:Nat}:(repC k n).take k=List.replicate k [AV.int .i64 (-1)]:=by simp [repC]
theorem repC_spl {k n m:Nat} (h:k+m≤n) (hm:m≤k):spl (repC k n) k ((List.replicate k [AV.int .i64 (-1)]).take m)=repC (k+m) n:=by
 have e1:(List.replicate k [AV.int .i64 (-1)]).take m=List.replicate m [AV.int .i64 (-1)]:=by rw [List.take_replicate,Nat.min_eq_left hm]
 have e2:(repC k n).drop (k+m)=List.replicate (n-(k+m)) [AV.int .i64 0]:=by
  rw [repC,List.drop_append,List.length_replicate,List.drop_of_length_le (by simp),List.nil_append,List.drop_replicate]
  congr 1
  omega
 rw [spl,repC_take,e1,List.length_replicate,e2,←List.append_assoc,List.replicate_append_replicate]
 rfl
theorem repC_first {n:Nat} (h:0<n):spl (List.replicate n [AV.int .i64 0]) 0 ([[AV.int .i64 (-1)]].take n)=repC 1 n:=by
 obtain ⟨m,rfl⟩:∃m,n=m+1:=⟨n-1,by omega⟩
 simp [spl,repC,List.replicate_succ]
theorem sub_lo {k n:Nat} {K:List (List AV)→Prop} (h:k≤n) (hK:K (List.replicate (n-k) [AV.int .i64 0])):sub (repC k n) (k:Int) ((repC k n).length:Int) K:=by
 have L:=repC_len h
 refine sub_i ⟨by omega,by omega,by omega⟩ ?_
 have e:((repC k n).take ((repC k n).length:Int).toNat).drop (k:Int).toNat=List.replicate (n-k) [AV.int .i64 0]:=by
  rw [Int.toNat_natCast,Int.toNat_natCast,List.take_length,repC,List.drop_append];simp
 rw [e];exact hK
theorem sub_hi {k n:Nat} {K:List (List AV)→Prop} (h:k≤n) (hK:K (List.replicate k [AV.int .i64 (-1)])):sub (repC k n) 0 (k:Int) K:=by
 have L:=repC_len h
 refine sub_i ⟨by omega,by omega,by omega⟩ ?_
 have e:((repC k n).take (k:Int).toNat).drop (0:Int).toNat=List.replicate k [AV.int .i64 (-1)]:=by
  rw [Int.toNat_natCast,repC_take];simp
 rw [e];exact hK
theorem repC_full (n:Nat):repC n n=(List.replicate n (-1:Int)).map encI:=by simp [repC,encI]
theorem repeat_ok (n:Nat) (hn:n≤12):Good Tryz.prog TT false 84 [ints [-1], .int .i64 n] (· = .own 0 3 1 ((List.replicate n (-1:Int)).map encI)):=by
 have L1:(List.map encI [-1]).length=1:=rfl
 have LR:(List.replicate (n:Int).toNat [AV.int .i64 0]).length=n:=by simp
 have eN:(n:Int).toNat=n:=by omega
 refine good_of mixed tabOk Tryz.func84 rfl rfl Tryz.ntmps84 Tryz.results84 rfl rfl ?_
 (conv=>whnf);(repeat' (first|(refine arith_i ⟨by omega,by omega⟩ ?_;conv=>whnf)|(refine arith_u ⟨by omega,by omega⟩ ?_;conv=>whnf)|(refine need_o ?_;conv=>whnf)|((with_reducible refine branch_ff ?_);conv=>whnf)|((refine call_e (bitsMul_ok n (by omega)) ?_);conv=>whnf)|((with_reducible refine branch_d (fun hq=>?_) (fun hq=>?_))<;>(try (exfalso;omega))<;>(conv=>whnf))))
 ·refine loop_i (fun k:Nat=>1≤k∧k≤n) (fun k=>mkSt [(7, .own 30 3 1 (repC k n)),(8, .int .i64 k)] [] false) (fun k=>n-k) 1 ⟨by omega,by omega⟩ (le_mk ⟨?_,int_eq (by rw [L1,LR];omega),trivial⟩ trivial rfl) ?_
  ·rw [←repC_first (by omega)]
   conv=>rhs;rw [←eN]
   show AV.own 30 3 1 (spl (List.replicate (n:Int).toNat [AV.int .i64 0]) 0 ((List.map encI [-1]).take (List.replicate (n:Int).toNat [AV.int .i64 0]).length))=_
   rw [LR,eN];rfl
  rintro k ⟨h1,h2⟩
  have LC:=repC_len h2
  have LZ:(List.replicate (n-k) [AV.int .i64 0]).length=n-k:=by simp
  have LA:(List.replicate k [AV.int .i64 (-1)]).length=k:=by simp
  (conv=>whnf);(repeat' (first|(refine arith_i ⟨by omega,by omega⟩ ?_;conv=>whnf)|(refine need_o ?_;conv=>whnf)|((refine slc_w ?_);conv=>whnf)|((refine sub_lo h2 ?_);conv=>whnf)|((refine sub_hi h2 ?_);conv=>whnf)|(refine draw_i 0 plTRep_0 (by decide+kernel) ?_;(conv=>whnf);fail_if_success (guard_target=~ False))|((with_reducible refine And.intro ?_ ?_)<;>(conv=>whnf))|(with_reducible exact trivial)|((with_reducible refine branch_d (fun hq=>?_) (fun hq=>?_))<;>(try (exfalso;omega))<;>(conv=>whnf))))
  all_goals first
   |(refine ⟨k+min k (n-k),⟨by omega,by omega⟩,le_mk ⟨?_,int_eq (by rw [LZ,LA];omega),trivial⟩ trivial rfl,by omega⟩
     rw [←repC_spl (m:=min k (n-k)) (by omega) (by omega)]
     show AV.own 30 3 1 (spl (repC k n) (k:Int).toNat ((List.replicate k [AV.int .i64 (-1)]).take (List.replicate (n-k) [AV.int .i64 0]).length))=_
     rw [LZ,Int.toNat_natCast,show (List.replicate k [AV.int .i64 (-1)]).take (n-k)=(List.replicate k [AV.int .i64 (-1)]).take (min k (n-k)) by rw [List.take_replicate,List.take_replicate];congr 1;omega])
   |(have hk:k=n:=by omega
     subst hk
     exact ret_o (by rw [repC_full]))
 ·have h0:n=0:=by omega
  subst h0
  refine loop_i (fun _:Unit=>True) (fun _=>mkSt [(7, .own 30 3 1 []),(8, .int .i64 0)] [] false) (fun _=>0) () trivial le_q ?_
  intro _ _
  have L0:([]:List (List AV)).length=0:=rfl
  (conv=>whnf);(repeat' (first|((with_reducible refine branch_d (fun hq=>?_) (fun hq=>?_))<;>(try (exfalso;omega))<;>(conv=>whnf))))
  exact ret_o rfl
def plT20j_0:Plan:=(.take 0 (.take 1 (.take 2 (.take 3 (.take 4 (.take 5 (.take 6 (.take 7 (.take 8 (.take 9 (.take 10 (.take 11 (.take 12 (.take 13 (.take 14 (.take 15 (.take 16 .done)))))))))))))))))
open F32
def thrC:List AV:=[.int .i64 6, .int .i64 4, .int .i64 2]
def thrV:AV:= .agg thrC
theorem thrValid_ok:Good Tryz.prog TT false 46 [thrV] (· = .bool true):=by
 refine good_of mixed tabOk Tryz.func46 rfl rfl Tryz.ntmps46 Tryz.results46 rfl rfl ?_
 (conv=>whnf);(repeat' (first|((with_reducible refine branch_tt ?_);conv=>whnf)|((with_reducible refine branch_d (fun hq=>?_) (fun hq=>?_))<;>(try (exfalso;omega))<;>(conv=>whnf))))
 all_goals exact ret_p rfl rfl
theorem isValue_ok (v:Int) (h:0≤v∧v≤9):Good Tryz.prog TT false 168 [.int .i64 v] (· = .bool true):=by
 refine good_of mixed tabOk Tryz.func168 rfl rfl Tryz.ntmps168 Tryz.results168 rfl rfl ?_
 (conv=>whnf);(repeat' (first|((with_reducible refine branch_tt ?_);conv=>whnf)|((with_reducible refine branch_d (fun hq=>?_) (fun hq=>?_))<;>(try (exfalso;omega))<;>(conv=>whnf))))
 all_goals exact ret_p rfl (bool_eq (by simp;omega))
theorem allValues1_ok (v:Int) (h:0≤v∧v≤9):Good Tryz.prog TT false 167 [.int .i64 v] (· = .bool false):=by
 refine good_of mixed tabOk Tryz.func167 rfl rfl Tryz.ntmps167 Tryz.results167 rfl rfl ?_
 (conv=>whnf);(repeat' (first|((refine call_e (isValue_ok v h) ?_);conv=>whnf)|fail))
 all_goals exact ret_p rfl (bool_eq (by simp))
theorem allValues_ok (ch:List Int) (hl:ch.length≤1000) (h:∀v∈ch,0≤v∧v≤9):Good Tryz.prog TT false 131 [ints ch] (· = .bool true):=by
 have hcn:=containsNone_ok ch 167 (by omega) fun v hv=>allValues1_ok v (h v hv)
 refine good_of mixed tabOk Tryz.func131 rfl rfl Tryz.ntmps131 Tryz.results131 rfl rfl ?_
 (conv=>whnf);(repeat' (first|((refine call_e hcn ?_);conv=>whnf)|fail))
 all_goals exact ret_p rfl (bool_eq (by simp))
set_option maxHeartbeats 4000000 in
theorem leader_ok (vs:List Int) (hp:0<vs.length) (hl:vs.length≤1000) (h9:∀v∈vs,0≤v∧v≤9):Good Tryz.prog TT false 169 [ints vs, .int .i64 2] (· = .tup [.int .i64 (bstF vs vs.length:Nat), .int .i64 (nth vs (bstF vs vs.length)), .bool (ledF vs (bstF vs vs.length) vs.length)]):=by
 have LV:(vs.map encI).length=vs.length:=List.length_map ..
 have h9n:∀k,k<vs.length→0≤nth vs k∧nth vs k≤9:=fun k hk=>h9 _ (List.mem_of_getElem? (nth_some hk))
 refine good_of mixed tabOk Tryz.func169 rfl rfl Tryz.ntmps169 Tryz.results169 rfl rfl ?_
 (conv=>whnf)
 refine loop_i (fun i:Nat=>i≤vs.length) (fun i=>mkSt [(0,ints vs),(1, .int .i64 2),(4, .int .i64 (bstF vs i:Nat)),(11,ints vs),(12, .int .i64 vs.length),(13, .int .i64 i)] [] false) (fun i=>vs.length-i) 0 (Nat.zero_le _) (le_mk ⟨rfl,rfl,rfl,rfl,int_eq (by rw [LV]),rfl,trivial⟩ trivial rfl) ?_
 intro i hi
 have hbl:=bstF_lt hp i hi
 have hbv:=nth_some hbl
 rcases Nat.lt_or_ge i vs.length with hil|hil
 ·have hv:=nth_some hil
  (conv=>whnf);(repeat' (first|(refine arith_i ⟨by omega,by omega⟩ ?_;conv=>whnf)|((refine idx_cs hv ?_);conv=>whnf)|((refine idx_cs hbv ?_);conv=>whnf)|((with_reducible refine branch_d (fun hq=>?_) (fun hq=>?_))<;>(try (exfalso;omega))<;>(conv=>whnf))))
  ·exact ⟨i+1,by omega,le_mk ⟨rfl,rfl,int_eq (by rw [bstF,if_pos (by omega)]),rfl,rfl,rfl,trivial⟩ trivial rfl,by omega⟩
  ·exact ⟨i+1,by omega,le_mk ⟨rfl,rfl,int_eq (by rw [bstF,if_neg (by omega)]),rfl,rfl,rfl,trivial⟩ trivial rfl,by omega⟩
 ·obtain rfl:i=vs.length:=by omega
  have hn:=h9n _ hbl
  generalize hb:bstF vs vs.length=o at *
  (conv=>whnf);(repeat' (first|((refine idx_cs hbv ?_);conv=>whnf)|((with_reducible refine branch_d (fun hq=>?_) (fun hq=>?_))<;>(try (exfalso;omega))<;>(conv=>whnf))))
  refine loop_i (fun i:Nat=>i≤vs.length) (fun i=>mkSt [(1, .int .i64 2),(4, .int .i64 (o:Nat)),(5, .int .i64 (nth vs o)),(6, .bool (ledF vs o i)),(30,ints vs),(31, .int .i64 vs.length),(32, .int .i64 i)] [] false) (fun i=>vs.length-i) 0 (Nat.zero_le _) (le_mk ⟨rfl,rfl,rfl,rfl,rfl,int_eq (by rw [LV]),rfl,trivial⟩ trivial rfl) ?_
  intro i hi
  rcases Nat.lt_or_ge i vs.length with hil|hil
  ·have hv:=nth_some hil
   have hni:=h9n _ hil
   have hls:=ledF_succ (vs:=vs) (o:=o) (i:=i)
   (conv=>whnf);(repeat' (first|(refine arith_i ⟨by omega,by omega⟩ ?_;conv=>whnf)|((with_reducible first|refine branch_tt ?_|refine branch_ff ?_);conv=>whnf)|((refine idx_cs hv ?_);conv=>whnf)|((with_reducible refine branch_d (fun hq=>?_) (fun hq=>?_))<;>(try (exfalso;omega))<;>(conv=>whnf))|((with_reducible refine branch_n (fun hq=>?_) (fun hq=>?_))<;>(try (exfalso;omega))<;>(conv=>whnf))))
   all_goals refine ⟨i+1,by omega,le_mk ⟨rfl,rfl,rfl,bool_eq ?_,rfl,rfl,rfl,trivial⟩ trivial rfl,by omega⟩
   all_goals rw [hls]
   ·rw [decide_eq_false (by omega),decide_eq_false (by omega),Bool.or_false,Bool.and_false]
   ·rw [decide_eq_true (p:=2≤_) (by omega),Bool.or_true,Bool.and_true]
   ·rw [decide_eq_true (p:=i=o) (by omega),Bool.true_or,Bool.and_true]
  ·obtain rfl:i=vs.length:=by omega
   (conv=>whnf);(repeat' (first|((with_reducible refine branch_d (fun hq=>?_) (fun hq=>?_))<;>(try (exfalso;omega))<;>(conv=>whnf))))
   exact ret_t (rs:=[.int .i64 (o:Nat), .int .i64 (nth vs o), .bool (ledF vs o vs.length)]) ⟨.inl (rc_p rfl), .inl (rc_p rfl), .inl (rc_p rfl),trivial⟩ rfl
set_option maxHeartbeats 4000000 in
theorem judge_ok (vs:List Int) (hp:2≤vs.length) (hl:vs.length≤5) (h9:∀v∈vs,0≤v∧v≤9):Good Tryz.prog TT false 133 [thrV,ints vs] (· = .tup [.int .i64 (judF vs), .int .i64 0]):=by
 have LV:(vs.map encI).length=vs.length:=List.length_map ..
 refine good_of mixed tabOk Tryz.func133 rfl rfl Tryz.ntmps133 Tryz.results133 rfl rfl ?_
 (conv=>whnf);(repeat' (first|((with_reducible first|refine branch_tt ?_|refine branch_ff ?_);conv=>whnf)|(with_reducible refine branch_not ?_)|((refine call_e thrValid_ok ?_);conv=>whnf)|((refine call_e (allValues_ok vs (by omega) h9) ?_);conv=>whnf)|((with_reducible refine branch_d (fun hq=>?_) (fun hq=>?_))<;>(try (exfalso;omega))<;>(conv=>whnf))))
 refine loop_i (fun i:Nat=>i≤vs.length) (fun i=>mkSt [(1,ints vs),(2, .ptr 2 0),(6, .int .i64 (drkF vs i:Nat)),(26,ints vs),(27, .int .i64 vs.length),(28, .int .i64 i)] [(2,thrC)] false) (fun i=>vs.length-i) 0 (Nat.zero_le _) (le_mk ⟨rfl,rfl,rfl,rfl,int_eq (by rw [LV]),rfl,trivial⟩ ⟨rfl,trivial⟩ rfl) ?_
 intro i hi
 have hdl:drkF vs i≤i:=by
  rw [drkF];have:=List.length_filter_le (fun v=>decide (6≤v)) (vs.take i);rw [List.length_take] at this;omega
 rcases Nat.lt_or_ge i vs.length with hil|hil
 ·have hv:=nth_some hil
  have hds:=drkF_succ hv
  (conv=>whnf);(repeat' (first|(refine arith_i ⟨by omega,by omega⟩ ?_;conv=>whnf)|((refine idx_cs hv ?_);conv=>whnf)|((with_reducible refine branch_d (fun hq=>?_) (fun hq=>?_))<;>(try (exfalso;omega))<;>(conv=>whnf))))
  ·exact ⟨i+1,by omega,le_mk ⟨rfl,rfl,int_eq (by rw [hds,if_pos (by omega)];omega),rfl,rfl,rfl,trivial⟩ ⟨rfl,trivial⟩ rfl,by omega⟩
  ·exact ⟨i+1,by omega,le_mk ⟨rfl,rfl,int_eq (by rw [hds,if_neg (by omega)];omega),rfl,rfl,rfl,trivial⟩ ⟨rfl,trivial⟩ rfl,by omega⟩
 ·obtain rfl:i=vs.length:=by omega
  have hj:∀v:Int,judF vs=v→aret (.tup [.int .i64 v, .int .i64 0]) fun x=>x= .tup [.int .i64 (judF vs), .int .i64 0]:=fun v h=>ret_t (rs:=[.int .i64 v, .int .i64 0]) ⟨.inl (rc_p rfl), .inl (rc_p rfl),trivial⟩ (by rw [h])
  (conv=>whnf);(repeat' (first|((with_reducible first|refine branch_tt ?_|refine branch_ff ?_);conv=>whnf)|((refine call_e (leader_ok vs (by omega) (by omega) h9) ?_);conv=>whnf)|((with_reducible refine branch_d (fun hq=>?_) (fun hq=>?_))<;>(try (exfalso;omega))<;>(conv=>whnf))|((with_reducible refine branch_e (fun hq=>?_) (fun hq=>?_))<;>(try (exfalso;omega))<;>(conv=>whnf))|((with_reducible refine branch_i (fun hq=>?_) (fun hq=>?_))<;>(try (exfalso;omega))<;>(conv=>whnf))))
  all_goals first
   |exact hj _ (jud1 (by omega))
   |exact hj _ (jud2 (by omega) (by assumption) (by omega))
   |exact hj _ (jud3 (by omega) (by omega))
   |exact hj _ (jud4 (by omega) (by simp_all))
   |exact hj _ (jud5 (by omega) (by omega) (by assumption))
   |exact hj _ (jud6 (by omega) (by omega) (by simp_all))
   |trace_state
def encL' (l:List Int):List AV:=[ints l]
set_option maxHeartbeats 4000000 in
theorem bSplit_ok (B:List (Int×Nat)) (ch:List Int) (hB:B.Pairwise fun p q=>p.1<q.1) (h1:∀p∈B,1≤p.2) (hl:ch.length=(fldB B).length) (hc:ch.length≤1000) (hBl:B.length≤1000):Good Tryz.prog TT false 132 [.lst 2 ((fldB B).map encF),ints ch] (· = .tup [.lst 1 ((cutF B ch).map encL'), .int .i64 0]):=by
 have LF:((fldB B).map encF).length=(fldB B).length:=List.length_map ..
 have LC:(ch.map encI).length=ch.length:=List.length_map ..
 refine good_of mixed tabOk Tryz.func132 rfl rfl Tryz.ntmps132 Tryz.results132 rfl rfl ?_
 (conv=>whnf);(repeat' (first|((refine call_e (clone_ok ch (by omega)) ?_);conv=>whnf)|((with_reducible refine branch_n (fun hq=>?_) (fun hq=>?_))<;>(try (exfalso;omega))<;>(conv=>whnf))))
 refine loop_i (fun m:Nat=>m≤B.length) (fun m=>mkSt [(0, .lst 2 ((fldB B).map encF)),(6,ints ch),(7, .own 900 22 1 (((cutF B ch).take m).map encL')),(8, .int .i64 (fldB (B.take m)).length)] [] false) (fun m=>B.length-m) 0 (Nat.zero_le _) ((le_erase 16).trans ((le_adopt 7 900 22 1 rfl).trans (le_mk ⟨rfl,rfl,rfl,rfl,trivial⟩ trivial rfl))) ?_
 intro m hm
 have hml:(cutF B ch).length=B.length:=cutF_len
 have LR:(((cutF B ch).take m).map encL').length=m:=by simp;omega
 rcases Nat.lt_or_ge m B.length with hil|hil
 ·obtain ⟨p,hp⟩:∃p,B[m]? =some p:=⟨_,List.getElem?_eq_getElem hil⟩
  have hp1:=h1 p (List.mem_of_getElem? hp)
  have hsp:=congrArg List.length (fldB_split hp)
  rw [List.length_append,List.length_append,optN_len] at hsp
  (conv=>whnf);(repeat' (first|(refine arith_i ⟨by omega,by omega⟩ ?_;conv=>whnf)|((with_reducible refine branch_d (fun hq=>?_) (fun hq=>?_))<;>(try (exfalso;omega))<;>(conv=>whnf))))
  have hf0:=fldB_at hp (k:=0) (by omega)
  rw [Nat.add_zero] at hf0
  generalize hfr:(fldB (B.take m)).length=from_ at *
  have hfn:(fldB (B.take (m+1))).length=from_+p.2:=by rw [fldB_next hp,List.length_append,optN_len,hfr]
  have hnx:(((cutF B ch).take m).map encL')++[[AV.lst 1 (((ch.map encI).take (from_+p.2)).drop from_)]]=((cutF B ch).take (m+1)).map encL':=by
   rw [List.take_add_one,cutF_at hp,hfr,List.map_append]
   simp [encL',ints,List.drop_take,List.map_drop,List.map_take]
  refine loop_i (fun j:Nat=>1≤j∧j≤p.2) (fun j=>mkSt [(0, .lst 2 ((fldB B).map encF)),(6,ints ch),(7, .own 900 22 1 (((cutF B ch).take m).map encL')),(8, .int .i64 (from_:Nat)),(9, .int .i64 (from_+j:Nat))] [] false) (fun j=>p.2-j) 1 ⟨Nat.le_refl _,hp1⟩ (le_mk ⟨rfl,rfl,rfl,rfl,int_eq (by omega),trivial⟩ trivial rfl) ?_
  rintro j ⟨hj1,hj⟩
  rcases Nat.lt_or_ge j p.2 with hjl|hjl
  ·have hfj:=fldB_at hp (k:=j) (by omega)
   rw [hfr] at hfj
   (conv=>whnf);(repeat' (first|(refine arith_i ⟨by omega,by omega⟩ ?_;conv=>whnf)|((with_reducible refine branch_tt ?_);conv=>whnf)|((refine idx_cs hfj ?_);conv=>whnf)|((refine idx_cs hf0 ?_);conv=>whnf)|(refine draw_i 17 plT20j_0 (by decide+kernel) ?_;(conv=>whnf);fail_if_success (guard_target=~ False))|((with_reducible refine branch_d (fun hq=>?_) (fun hq=>?_))<;>(try (exfalso;omega))<;>(conv=>whnf))|((with_reducible refine branch_e (fun hq=>?_) (fun hq=>?_))<;>(try (exfalso;omega))<;>(conv=>whnf))))
   all_goals first
    |(exfalso;omega)
    |exact ⟨j+1,⟨by omega,by omega⟩,le_mk ⟨rfl,rfl,rfl,rfl,int_eq (by omega),trivial⟩ trivial rfl,by omega⟩
    |trace_state
  ·obtain rfl:j=p.2:=by omega
   rcases Nat.lt_or_ge (m+1) B.length with hm1|hm1
   ·obtain ⟨q,hq⟩:∃p,B[m+1]? =some p:=⟨_,List.getElem?_eq_getElem hm1⟩
    have hq1:=h1 q (List.mem_of_getElem? hq)
    have hfq:=fldB_at hq (k:=0) (by omega)
    rw [Nat.add_zero,fldB_next hp,List.length_append,hfr,optN_len] at hfq
    have hlt:=(List.pairwise_iff_getElem.1 hB) m (m+1) hil hm1 (by omega)
    rw [(List.getElem?_eq_some_iff.1 hp).2,(List.getElem?_eq_some_iff.1 hq).2] at hlt
    (conv=>whnf);(repeat' (first|(refine need_o ?_;conv=>whnf)|((with_reducible first|refine branch_tt ?_|refine branch_ff ?_);conv=>whnf)|((refine idx_cs hfq ?_);conv=>whnf)|((refine idx_cs hf0 ?_);conv=>whnf)|((refine sub_i (by omega) ?_);conv=>whnf)|(refine draw_i 17 plT20j_0 (by decide+kernel) ?_;(conv=>whnf);fail_if_success (guard_target=~ False))|((with_reducible refine branch_d (fun hq=>?_) (fun hq=>?_))<;>(try (exfalso;omega))<;>(conv=>whnf))|((with_reducible refine branch_e (fun hq=>?_) (fun hq=>?_))<;>(try (exfalso;omega))<;>(conv=>whnf))))
    all_goals first
     |(exfalso;have hlt2:¬q.1=p.1:=(by omega);contradiction)
     |exact ⟨m+1,by omega,le_mk ⟨rfl,rfl,own_eq hnx,int_eq (by rw [hfn]),trivial⟩ trivial rfl,by omega⟩
   ·have hend:(fldB (B.drop (m+1))).length=0:=by rw [drop_end hm1];rfl
    (conv=>whnf);(repeat' (first|(refine need_o ?_;conv=>whnf)|((with_reducible refine branch_ff ?_);conv=>whnf)|((refine sub_i (by omega) ?_);conv=>whnf)|(refine draw_i 17 plT20j_0 (by decide+kernel) ?_;(conv=>whnf);fail_if_success (guard_target=~ False))|((with_reducible refine branch_d (fun hq=>?_) (fun hq=>?_))<;>(try (exfalso;omega))<;>(conv=>whnf))))
    all_goals first
     |exact ⟨m+1,by omega,le_mk ⟨rfl,rfl,own_eq hnx,int_eq (by rw [hfn]),trivial⟩ trivial rfl,by omega⟩
 ·obtain rfl:m=B.length:=by omega
  have hfe:(fldB (B.take B.length)).length=(fldB B).length:=by rw [List.take_length]
  (conv=>whnf);(repeat' (first|((with_reducible refine branch_d (fun hq=>?_) (fun hq=>?_))<;>(try (exfalso;omega))<;>(conv=>whnf))))
  exact ret_t (rs:=[.lst 1 ((cutF B ch).map encL'), .int .i64 0]) ⟨.inl (rc_o' (by rw [←hml,List.take_length])), .inl (rc_p rfl),trivial⟩ rfl
theorem encI_set {xs:List Int} {v:Int}:∀ {k:Nat},(xs.map encI).modify k (·.set 0 (.int .i64 v))=(xs.set k v).map encI:=by
 induction xs with
 |nil=>intro k;cases k<;>rfl
 |cons x xs ih=>
  intro k
  cases k with
  |zero=>simp [encI,List.modify_zero_cons]
  |succ k=>simp only [List.map_cons,List.modify_succ_cons,List.set_cons_succ,ih]
set_option maxHeartbeats 4000000 in
theorem bPage_ok (code var:Int) (ps:List Prt) (pgs:List (List Int)) (k:Nat) (pg:List Int) (hv:PapOk code var ps) (h6:ps.length≤6) (hB:BookOk ps pgs) (hk:pgs[k]? =some pg) (ch:List Int) (hch:ch.length=(fldsF ps pg).length) (hc9:∀v∈ch,0≤v∧v≤9):Good Tryz.prog TT false 85 [papV code var ps,bookV pgs,thrV, .int .i64 k,ints ch] (· = .tup [ints (pgA ps pg ch), .int .i64 0]):=by
 have L:(pgs.map encPg).length=pgs.length:=List.length_map ..
 have LS:(ps.map encPt).length=ps.length:=List.length_map ..
 have LC:(ch.map encI).length=ch.length:=List.length_map ..
 have hkl:=(List.getElem?_eq_some_iff.1 hk).1
 have b2:=hB.le
 have hn:=hv.nums
 have hln:=hB.len_le hk
 have hfl:=fldsF_len hv.parts (l:=pg) fun b hb=>hB.mem hk hb
 have hf:=bFields_ok code var ps pgs k pg hv hB hk
 have hp1:∀p∈blkF ps pg,2≤p.2∧p.2≤5∧0≤p.1∧p.1<ps.length:=fun p hp=>by
  obtain ⟨h1,h2,h3⟩:=blk_mem hp
  have h4:=hB.mem hk h1
  have h5:=(hv.at h4).2
  simp only [vPartB,decide_eq_true_eq] at h5
  omega
 have hasc:=blk_asc (ps:=ps) (book_asc hB hk)
 have hbl:=blk_len (ps:=ps) (pg:=pg)
 have hpa:pgA ps pg ch=ansB ps.length (blkF ps pg) ch (blkF ps pg).length:=rfl
 rw [fld_blk] at hf hch hfl
 have hs:=bSplit_ok (blkF ps pg) ch hasc (fun p hp=>by have:=hp1 p hp;omega) hch (by omega) (by omega)
 rw [hpa]
 generalize blkF ps pg=B at *
 have LF:((fldB B).map encF).length=(fldB B).length:=List.length_map ..
 have hcl:(cutF B ch).length=B.length:=cutF_len
 have LR:((cutF B ch).map encL').length=(cutF B ch).length:=List.length_map ..
 have hrep:=repeat_ok ps.length (by omega)
 rw [←LS] at hrep
 refine good_of mixed tabOk Tryz.func85 rfl rfl Tryz.ntmps85 Tryz.results85 rfl rfl ?_
 (conv=>whnf);(repeat' (first|((with_reducible first|refine branch_tt ?_|refine branch_ff ?_);conv=>whnf)|(with_reducible refine branch_not ?_)|((refine call_e ((vPaper_ok code var ps (by omega)).mono fun r hr=>hr.trans (bool_eq hv.v)) ?_);conv=>whnf)|((refine call_e thrValid_ok ?_);conv=>whnf)|((refine call_e (bValid_ok code var ps pgs hv hB) ?_);conv=>whnf)|((refine call_e hf ?_);conv=>whnf)|((refine call_e (allValues_ok ch (by omega) hc9) ?_);conv=>whnf)|((refine call_e hs ?_);conv=>whnf)|((refine call_e hrep ?_);conv=>whnf)|((with_reducible first|refine callS_a ?_|refine own_e ?_);conv=>whnf)|((with_reducible refine branch_d (fun hq=>?_) (fun hq=>?_))<;>(try (exfalso;omega))<;>(conv=>whnf))|((with_reducible refine branch_n (fun hq=>?_) (fun hq=>?_))<;>(try (exfalso;omega))<;>(conv=>whnf))))
 refine loop_i (fun m:Nat=>m≤B.length) (fun m=>mkSt [(7, .ptr 7 0),(12, .lst 2 ((fldB B).map encF)),(15, .own (Tg.s 69) 3 1 ((ansB ps.length B ch m).map encI)),(16, .int .i64 (fldB (B.take m)).length),(70, .lst 1 ((cutF B ch).map encL')),(71, .int .i64 B.length),(72, .int .i64 m)] [(7,thrC)] false) (fun m=>B.length-m) 0 (Nat.zero_le _) (le_mk ⟨rfl,rfl,own_eq (by rw [LS];rfl),rfl,rfl,int_eq (by rw [LR,hcl]),rfl,trivial⟩ ⟨rfl,trivial⟩ rfl) ?_
 intro m hm
 have LA:((ansB ps.length B ch m).map encI).length=ps.length:=by rw [List.length_map,ansB_len]
 rcases Nat.lt_or_ge m B.length with hil|hil
 ·obtain ⟨p,hp⟩:∃p,B[m]? =some p:=⟨_,List.getElem?_eq_getElem hil⟩
  have hp2:=hp1 p (List.mem_of_getElem? hp)
  have hsp:=congrArg List.length (fldB_split hp)
  rw [List.length_append,List.length_append,optN_len] at hsp
  have hfn:(fldB (B.take (m+1))).length=(fldB (B.take m)).length+p.2:=by rw [fldB_next hp,List.length_append,optN_len]
  have hf0:=fldB_at hp (k:=0) (by omega)
  rw [Nat.add_zero] at hf0
  have hr:=cutF_at (ch:=ch) hp
  have hsu:=ansB_succ (n:=ps.length) hp hr
  generalize (fldB (B.take m)).length=off at *
  have hrl:((ch.drop off).take p.2).length=p.2:=by rw [List.length_take,List.length_drop];omega
  have hr9:∀v∈(ch.drop off).take p.2,0≤v∧v≤9:=fun v hv=>hc9 v (List.mem_of_mem_drop (List.mem_of_mem_take hv))
  generalize (ch.drop off).take p.2=r at *
  have LRR:(r.map encI).length=r.length:=List.length_map ..
  obtain ⟨a,ha⟩:∃a,(ansB ps.length B ch m)[p.1.toNat]? =some a:=⟨_,List.getElem?_eq_getElem (by rw [ansB_len];omega)⟩
  (conv=>whnf);(repeat' (first|(refine arith_i ⟨by omega,by omega⟩ ?_;conv=>whnf)|((refine idx_cs hr ?_);conv=>whnf)|((refine idx_cs hf0 ?_);conv=>whnf)|((refine call_e (judge_ok r (by omega) (by omega) hr9) ?_);conv=>whnf)|((refine idx_ms (by omega) ha ?_);conv=>whnf)|((with_reducible refine branch_d (fun hq=>?_) (fun hq=>?_))<;>(try (exfalso;omega))<;>(conv=>whnf))|((with_reducible refine branch_n (fun hq=>?_) (fun hq=>?_))<;>(try (exfalso;omega))<;>(conv=>whnf))))
  all_goals exact ⟨m+1,by omega,le_mk ⟨rfl,rfl,own_eq (by rw [hsu];exact encI_set),int_eq (by rw [hfn];omega),rfl,rfl,rfl,trivial⟩ ⟨rfl,trivial⟩ rfl,by omega⟩
 ·obtain rfl:m=B.length:=by omega
  (conv=>whnf);(repeat' (first|((with_reducible refine branch_d (fun hq=>?_) (fun hq=>?_))<;>(try (exfalso;omega))<;>(conv=>whnf))))
  exact ret_t (rs:=[.lst 1 ((ansB ps.length B ch B.length).map encI), .int .i64 0]) ⟨.inl rc_o, .inl (rc_p rfl),trivial⟩ rfl
end Go.Proofs.YtihjphblcohdeaaGreatDoor
namespace Go.Proofs.YtihjphblcohdeaaGreatDoor
set_option maxRecDepth 10000
open Go.RowKit
def plT23d_0:Plan:=(.take 0 (.take 1 (.take 2 (.take 3 (.take 4 (.take 5 (.alt 6 (.take 7 (.take 8 (.take 9 (.take 11 (.alt 10 (.take 12 (.alt 13 (.alt 14 (.take 15 (.take 16 .done)) .stop) .stop)) .stop))))) .stop)))))))
def plT23d_6:Plan:=(.take 0 (.take 1 (.take 2 (.take 3 (.take 4 (.take 5 (.take 6 (.take 7 (.take 8 (.take 9 (.alt 10 (.take 11 .done) .stop)))))))))))
open F32
theorem isKind_ok (k:Int) (h:0≤k∧k≤2):Good Tryz.prog TT false 100 [.int .i64 k] (· = .bool true):=by
 refine good_of mixed tabOk Tryz.func100 rfl rfl Tryz.ntmps100 Tryz.results100 rfl rfl ?_
 (conv=>whnf);(repeat' (first|((with_reducible refine branch_e (fun hq=>?_) (fun hq=>?_))<;>(try (exfalso;omega))<;>(conv=>whnf))))
 all_goals first|exact ret_p rfl rfl|(exfalso;omega)
structure KeysOk (p:Prt) (ks:List Int):Prop where
 op:p.kind=1→ks=[]
 asc:ks.Pairwise fun a b=>a<b
 at_:∀k∈ks,0≤k∧k<p.opts
 len:ks.length≤5
set_option maxHeartbeats 4000000 in
theorem validKeys_ok (p:Prt) (hp:vPartB p=true) (ks:List Int) (h:KeysOk p ks):Good Tryz.prog TT false 99 [.agg (encPt p),ints ks] (· = .bool true):=by
 have hv:=vPart_nd hp
 have LK:(ks.map encI).length=ks.length:=List.length_map ..
 have h5:=h.len
 have hop:p.kind=1→ks.length=0:=fun e=>by rw [h.op e];rfl
 refine good_of mixed tabOk Tryz.func99 rfl rfl Tryz.ntmps99 Tryz.results99 rfl rfl ?_
 (conv=>whnf);(repeat' (first|((with_reducible refine branch_e (fun hq=>?_) (fun hq=>?_))<;>(try (exfalso;omega))<;>(conv=>whnf))))
 ·exact ret_p rfl (bool_eq (by have:=hop (by assumption);rw [LK,this];rfl))
 ·refine loop_i (fun i:Nat=>i≤ks.length) (fun i=>mkSt [(1,ints ks),(2, .ptr 2 0),(13,ints ks),(14, .int .i64 ks.length),(15, .int .i64 i)] [(2,encPt p)] false) (fun i=>ks.length-i) 0 (Nat.zero_le _) (le_mk ⟨rfl,rfl,rfl,int_eq (by rw [LK]),rfl,trivial⟩ ⟨rfl,trivial⟩ rfl) ?_
  intro i hi
  rcases Nat.lt_or_ge i ks.length with hil|hil
  ·obtain ⟨k,hk⟩:∃k,ks[i]? =some k:=⟨_,List.getElem?_eq_getElem hil⟩
   have hka:=h.at_ k (List.mem_of_getElem? hk)
   rcases Nat.eq_zero_or_pos i with h0|h0
   ·(conv=>whnf);(repeat' (first|(refine arith_i ⟨by omega,by omega⟩ ?_;conv=>whnf)|((with_reducible refine branch_ff ?_);conv=>whnf)|((refine idx_cs hk ?_);conv=>whnf)|((with_reducible refine branch_d (fun hq=>?_) (fun hq=>?_))<;>(try (exfalso;omega))<;>(conv=>whnf))))
    all_goals first
     |exact ⟨i+1,by omega,le_q,by omega⟩
   ·obtain ⟨k2,hk2⟩:∃k,ks[i-1]? =some k:=⟨_,List.getElem?_eq_getElem (by omega)⟩
    have hlt:=(List.pairwise_iff_getElem.1 h.asc) (i-1) i (by omega) hil (by omega)
    rw [(List.getElem?_eq_some_iff.1 hk).2,(List.getElem?_eq_some_iff.1 hk2).2] at hlt
    (conv=>whnf);(repeat' (first|(refine arith_i ⟨by omega,by omega⟩ ?_;conv=>whnf)|((with_reducible first|refine branch_tt ?_|refine branch_ff ?_);conv=>whnf)|((refine idx_cs hk ?_);conv=>whnf)|((refine idx_ms (x:=k2) (by omega) (by rw [show ((i:Int)-1).toNat=i-1 by omega];exact hk2) ?_);conv=>whnf)|((with_reducible refine branch_d (fun hq=>?_) (fun hq=>?_))<;>(try (exfalso;omega))<;>(conv=>whnf))))
    all_goals first
     |exact ⟨i+1,by omega,le_q,by omega⟩
  ·obtain rfl:i=ks.length:=by omega
   (conv=>whnf);(repeat' (first|((with_reducible refine branch_d (fun hq=>?_) (fun hq=>?_))<;>(try (exfalso;omega))<;>(conv=>whnf))))
   exact ret_p rfl rfl
set_option maxHeartbeats 2000000 in
theorem indexI_ok (l:List Int) (x:Int) (hl:l.length≤1000000):Good Tryz.prog TT false 145 [ints l, .int .i64 x] (fun r=>∃n:Int,r= .int .i64 n∧(decide (n≥0)=decide (x∈l))):=by
 have L:(l.map encI).length=l.length:=List.length_map ..
 refine good_of mixed tabOk Tryz.func145 rfl rfl Tryz.ntmps145 Tryz.results145 rfl rfl ?_
 (conv=>whnf)
 refine loop_i (fun k:Nat=>k≤l.length∧∀j y,j<k→l[j]? =some y→y≠x) (fun k=>mkSt [(0,ints l),(1, .int .i64 x),(7, .int .i64 (l.map encI).length),(8, .int .i64 k)] [] false) (fun k=>l.length-k) 0 ⟨Nat.zero_le _,nofun⟩ le_q ?_
 rintro k ⟨hk,hall⟩
 (conv=>whnf);(repeat' (first|(refine arith_i ⟨by omega,by omega⟩ ?_;conv=>whnf)|((refine idx_c (xs:=l) (by omega) fun y hy=>?_);conv=>whnf)|((with_reducible refine branch_d (fun hq=>?_) (fun hq=>?_))<;>(try (exfalso;omega))<;>(conv=>whnf))|((with_reducible refine branch_e (fun hq=>?_) (fun hq=>?_))<;>(try (exfalso;omega))<;>(conv=>whnf))))
 ·refine ret_p rfl ⟨_,rfl,?_⟩
  rw [decide_eq_true (p:=x∈l) (by rw [hq];exact List.mem_of_getElem? hy)]
  simp
 ·refine ⟨k+1,⟨by omega,fun j z hj hz=>?_⟩,le_q,by omega⟩
  rcases Nat.lt_or_ge j k with h'|h'
  ·exact hall j z h' hz
  ·obtain rfl:j=k:=by omega
   rw [hy] at hz;injection hz with hz;subst hz;apply Ne.symm;assumption
 ·refine ret_p rfl ⟨_,rfl,?_⟩
  rw [decide_eq_false (p:=x∈l) fun hh=>by
   obtain ⟨i,hi,he⟩:=List.mem_iff_getElem.1 hh
   exact absurd he (hall i _ (by omega) (List.getElem?_eq_getElem hi))]
  rfl
theorem containsI_ok (l:List Int) (x:Int) (hl:l.length≤1000000):Good Tryz.prog TT false 101 [ints l, .int .i64 x] (· = .bool (decide (x∈l))):=by
 refine good_of mixed tabOk Tryz.func101 rfl rfl Tryz.ntmps101 Tryz.results101 rfl rfl ?_
 (conv=>whnf);(repeat' (first|(((refine call_i (indexI_ok l x hl) fun r hr=>?_;obtain ⟨n,rfl,hn⟩:=hr));conv=>whnf)|fail))
 exact ret_p rfl (bool_eq hn)
def accB (p:Prt) (ks:List Int) (a:Int):Bool:=if ks=[] then decide (a=p.key) else decide (a∈ks)
set_option maxHeartbeats 4000000 in
theorem accepts_ok (p:Prt) (ks:List Int) (hk:ks.length≤1000) (a:Int):Good Tryz.prog TT false 57 [.agg (encPt p),ints ks, .int .i64 a] (· = .bool (accB p ks a)):=by
 have LK:(ks.map encI).length=ks.length:=List.length_map ..
 refine good_of mixed tabOk Tryz.func57 rfl rfl Tryz.ntmps57 Tryz.results57 rfl rfl ?_
 (conv=>whnf);(repeat' (first|((refine call_e (containsI_ok ks a (by omega)) ?_);conv=>whnf)|((with_reducible refine branch_e (fun hq=>?_) (fun hq=>?_))<;>(try (exfalso;omega))<;>(conv=>whnf))))
 ·have e:ks=[]:=List.eq_nil_of_length_eq_zero (by omega)
  exact ret_p rfl (bool_eq (by rw [accB,if_pos e];rfl))
 ·have e:ks≠[]:=fun e=>by subst e;simp_all
  exact ret_p rfl (bool_eq (by rw [accB,if_neg e]))
structure SchOk (ps:List Prt) (K:List (List Int)) (W:List Int):Prop where
 kl:K.length=ps.length
 wl:W.length=ps.length
 keys:∀(i:Nat) (p:Prt) (ks:List Int),ps[i]? = .some p→K[i]? = .some ks→KeysOk p ks
 with_:∀w∈W,0≤w∧w≤2
def schC (K:List (List Int)) (W:List Int):List AV:=[.lst 1 (K.map encL),ints W]
def schV (K:List (List Int)) (W:List Int):AV:= .agg (schC K W)
set_option maxHeartbeats 4000000 in
theorem schValid_ok (code var:Int) (ps:List Prt) (hv:PapOk code var ps) (h6:ps.length≤6) (K:List (List Int)) (W:List Int) (hS:SchOk ps K W):Good Tryz.prog TT false 56 [papV code var ps,schV K W] (· = .bool true):=by
 have LS:(ps.map encPt).length=ps.length:=List.length_map ..
 have LK:(K.map encL).length=K.length:=List.length_map ..
 have LW:(W.map encI).length=W.length:=List.length_map ..
 have hkl:=hS.kl
 have hwl:=hS.wl
 refine good_of mixed tabOk Tryz.func56 rfl rfl Tryz.ntmps56 Tryz.results56 rfl rfl ?_
 (conv=>whnf);(repeat' (first|((with_reducible first|refine branch_tt ?_|refine branch_ff ?_);conv=>whnf)|(with_reducible refine branch_not ?_)|((refine call_e ((vPaper_ok code var ps (by omega)).mono fun r hr=>hr.trans (bool_eq hv.v)) ?_);conv=>whnf)|((with_reducible refine branch_n (fun hq=>?_) (fun hq=>?_))<;>(try (exfalso;omega))<;>(conv=>whnf))))
 refine loop_i (fun i:Nat=>i≤ps.length) (fun i=>mkSt [(3, .ptr 3 0),(29, .lst 6 (ps.map encPt)),(30, .int .i64 ps.length),(31, .int .i64 i)] [(3,schC K W)] false) (fun i=>ps.length-i) 0 (Nat.zero_le _) (le_mk ⟨rfl,rfl,int_eq (by rw [LS]),rfl,trivial⟩ ⟨rfl,trivial⟩ rfl) ?_
 intro i hi
 rcases Nat.lt_or_ge i ps.length with hil|hil
 ·obtain ⟨p,hp⟩:∃p,ps[i]? =some p:=⟨_,List.getElem?_eq_getElem hil⟩
  obtain ⟨ks,hk⟩:∃p,K[i]? =some p:=⟨_,List.getElem?_eq_getElem (by omega)⟩
  obtain ⟨w,hw⟩:∃p,W[i]? =some p:=⟨_,List.getElem?_eq_getElem (by omega)⟩
  have hvk:=validKeys_ok p (hv.parts p (List.mem_of_getElem? hp)) ks (hS.keys i p ks hp hk)
  (conv=>whnf);(repeat' (first|(refine arith_i ⟨by omega,by omega⟩ ?_;conv=>whnf)|((with_reducible first|refine branch_tt ?_|refine branch_ff ?_);conv=>whnf)|(with_reducible refine branch_not ?_)|((refine idx_cs hp ?_);conv=>whnf)|((refine idx_cs hk ?_);conv=>whnf)|((refine idx_cs hw ?_);conv=>whnf)|((refine call_e hvk ?_);conv=>whnf)|((refine call_e (isKind_ok w (hS.with_ w (List.mem_of_getElem? hw))) ?_);conv=>whnf)|(refine draw_i 17 plT23d_0 (by decide+kernel) ?_;(conv=>whnf);fail_if_success (guard_target=~ False))|((with_reducible refine And.intro ?_ ?_)<;>(conv=>whnf))|(with_reducible exact trivial)|((with_reducible refine branch_d (fun hq=>?_) (fun hq=>?_))<;>(try (exfalso;omega))<;>(conv=>whnf))))
  all_goals exact ⟨i+1,by omega,le_q,by omega⟩
 ·obtain rfl:i=ps.length:=by omega
  (conv=>whnf);(repeat' (first|((with_reducible refine branch_d (fun hq=>?_) (fun hq=>?_))<;>(try (exfalso;omega))<;>(conv=>whnf))))
  exact ret_p rfl rfl
def mrkF (p:Prt) (ks:List Int) (a:Int):Int:=if p.kind=1 then -2 else if accB p ks a=true then p.max else if a= -1 then -1 else 0
def mrkL (ps:List Prt) (K:List (List Int)) (A:List Int) (n:Nat):List Int:=((List.range n).map fun i=>mrkF (ps.getD i prt0) (K.getD i []) (nth A i))++List.replicate (ps.length-n) 0
theorem mrkL_len {ps K A} {n:Nat} (h:n≤ps.length):(mrkL ps K A n).length=ps.length:=by simp [mrkL];omega
theorem mrkL_next {ps:List Prt} {K A} {i:Nat} {p:Prt} {ks:List Int} {a v:Int} (hp:ps[i]? =some p) (hk:K[i]? =some ks) (ha:A[i]? =some a) (hv:v=mrkF p ks a):mrkL ps K A (i+1)=(mrkL ps K A i).set i v:=by
 have hil:=(List.getElem?_eq_some_iff.1 hp).1
 have hl:((List.range i).map fun i=>mrkF (ps.getD i prt0) (K.getD i []) (nth A i)).length=i:=by simp
 rw [mrkL,mrkL,List.set_append_right _ _ (by omega),hl,Nat.sub_self,show ps.length-i=(ps.length-(i+1))+1 by omega,List.replicate_succ,List.set_cons_zero,List.range_succ,List.map_append,List.append_assoc]
 congr 1
 rw [hv,List.map_singleton,List.getD_eq_getElem?_getD,List.getD_eq_getElem?_getD,nth_eq ha,hp,hk];rfl
theorem mrkL_skip {ps:List Prt} {K A} {i:Nat} {p:Prt} {ks:List Int} {a:Int} (hp:ps[i]? =some p) (hk:K[i]? =some ks) (ha:A[i]? =some a) (hv:0=mrkF p ks a):mrkL ps K A (i+1)=mrkL ps K A i:=by
 have hil:=(List.getElem?_eq_some_iff.1 hp).1
 have hl:((List.range i).map fun i=>mrkF (ps.getD i prt0) (K.getD i []) (nth A i)).length=i:=by simp
 rw [mrkL,mrkL,show ps.length-i=(ps.length-(i+1))+1 by omega,List.replicate_succ,List.range_succ,List.map_append,List.append_assoc]
 congr 1
 rw [hv,List.map_singleton,List.getD_eq_getElem?_getD,List.getD_eq_getElem?_getD,nth_eq ha,hp,hk];rfl
set_option maxHeartbeats 4000000 in
theorem closed_ok (code var:Int) (ps:List Prt) (hv:PapOk code var ps) (h6:ps.length≤6) (K:List (List Int)) (W:List Int) (hS:SchOk ps K W) (A:List Int) (hA:IntL ps A):Good Tryz.prog TT false 24 [papV code var ps,schV K W,ints A] (· = .tup [ints (mrkL ps K A ps.length), .int .i64 0]):=by
 have LS:(ps.map encPt).length=ps.length:=List.length_map ..
 have LK:(K.map encL).length=K.length:=List.length_map ..
 have LA:(A.map encI).length=A.length:=List.length_map ..
 have hkl:=hS.kl
 have hal:=hA.len
 refine good_of mixed tabOk Tryz.func24 rfl rfl Tryz.ntmps24 Tryz.results24 rfl rfl ?_
 (conv=>whnf);(repeat' (first|((with_reducible refine branch_tt ?_);conv=>whnf)|(with_reducible refine branch_not ?_)|((refine call_e (schValid_ok code var ps hv h6 K W hS) ?_);conv=>whnf)|((with_reducible refine branch_n (fun hq=>?_) (fun hq=>?_))<;>(try (exfalso;omega))<;>(conv=>whnf))))
 refine loop_i (fun i:Nat=>i≤ps.length) (fun i=>mkSt [(2,ints A),(3, .ptr 3 0),(4, .ptr 4 0),(25, .lst 6 (ps.map encPt)),(26, .int .i64 ps.length),(27, .int .i64 i)] [(3,[.int .i64 code, .int .i64 var, .lst 6 (ps.map encPt)]),(4,schC K W)] false) (fun i=>ps.length-i) 0 (Nat.zero_le _) (le_mk ⟨rfl,rfl,rfl,rfl,int_eq (by rw [LS]),rfl,trivial⟩ ⟨rfl,rfl,trivial⟩ rfl) ?_
 intro i hi
 rcases Nat.lt_or_ge i ps.length with hil|hil
 ·obtain ⟨p,hp⟩:∃p,ps[i]? =some p:=⟨_,List.getElem?_eq_getElem hil⟩
  obtain ⟨a,ha⟩:∃p,A[i]? =some p:=⟨_,List.getElem?_eq_getElem (by omega)⟩
  have hI:=hA.at_ i p a hp ha
  have hI2:p.kind=2→ -1≤a∧a<p.opts:=fun h=>by rwa [IntP,if_pos h] at hI
  (conv=>whnf);(repeat' (first|(refine arith_i ⟨by omega,by omega⟩ ?_;conv=>whnf)|((with_reducible first|refine branch_tt ?_|refine branch_ff ?_);conv=>whnf)|((refine idx_cs hp ?_);conv=>whnf)|((refine idx_cs ha ?_);conv=>whnf)|((with_reducible refine branch_d (fun hq=>?_) (fun hq=>?_))<;>(try (exfalso;omega))<;>(conv=>whnf))|((with_reducible refine branch_e (fun hq=>?_) (fun hq=>?_))<;>(try (exfalso;omega))<;>(conv=>whnf))|((with_reducible refine branch_n (fun hq=>?_) (fun hq=>?_))<;>(try (exfalso;omega))<;>(conv=>whnf))))
  all_goals first
   |exact ⟨i+1,by omega,le_q,by omega⟩
 ·obtain rfl:i=ps.length:=by omega
  (conv=>whnf);(repeat' (first|(refine need_o ?_;conv=>whnf)|((with_reducible refine branch_d (fun hq=>?_) (fun hq=>?_))<;>(try (exfalso;omega))<;>(conv=>whnf))))
  refine loop_i (fun i:Nat=>i≤ps.length) (fun i=>mkSt [(2,ints A),(4, .ptr 4 0),(11, .own (Tg.s 61) 3 1 ((mrkL ps K A i).map encI)),(63, .lst 6 (ps.map encPt)),(64, .int .i64 ps.length),(65, .int .i64 i)] [(4,schC K W)] false) (fun i=>ps.length-i) 0 (Nat.zero_le _) (le_mk ⟨rfl,rfl,own_eq (by rw [LS];simp [mrkL,encI]),rfl,int_eq (by rw [LS]),rfl,trivial⟩ ⟨rfl,trivial⟩ rfl) ?_
  intro i hi
  have LM:((mrkL ps K A i).map encI).length=ps.length:=by rw [List.length_map,mrkL_len hi]
  rcases Nat.lt_or_ge i ps.length with hil|hil
  ·obtain ⟨p,hp⟩:∃p,ps[i]? =some p:=⟨_,List.getElem?_eq_getElem hil⟩
   obtain ⟨a,ha⟩:∃p,A[i]? =some p:=⟨_,List.getElem?_eq_getElem (by omega)⟩
   obtain ⟨ks,hk⟩:∃p,K[i]? =some p:=⟨_,List.getElem?_eq_getElem (by omega)⟩
   have hvp:=vPart_nd (hv.parts p (List.mem_of_getElem? hp))
   have hks:=(hS.keys i p ks hp hk).len
   obtain ⟨m0,hm0⟩:∃p,(mrkL ps K A i)[i]? =some p:=⟨_,List.getElem?_eq_getElem (by rw [mrkL_len hi];omega)⟩
   have hnx:=fun v=>mrkL_next hp hk ha (v:=v)
   have hn0:=mrkL_skip hp hk ha
   (conv=>whnf);(repeat' (first|(refine arith_i ⟨by omega,by omega⟩ ?_;conv=>whnf)|((refine idx_cs hp ?_);conv=>whnf)|((refine idx_cs ha ?_);conv=>whnf)|((refine idx_cs hk ?_);conv=>whnf)|((refine idx_cs hm0 ?_);conv=>whnf)|((refine call_e (accepts_ok p ks (by omega) a) ?_);conv=>whnf)|(refine draw_i 12 plT23d_6 (by decide+kernel) ?_;(conv=>whnf);fail_if_success (guard_target=~ False))|((with_reducible refine And.intro ?_ ?_)<;>(conv=>whnf))|(with_reducible exact trivial)|((with_reducible refine branch_d (fun hq=>?_) (fun hq=>?_))<;>(try (exfalso;omega))<;>(conv=>whnf))|((with_reducible refine branch_e (fun hq=>?_) (fun hq=>?_))<;>(try (exfalso;omega))<;>(conv=>whnf))|((with_reducible refine branch_i (fun hq=>?_) (fun hq=>?_))<;>(try (exfalso;omega))<;>(conv=>whnf))))
   ·exact ⟨i+1,by omega,le_mk ⟨rfl,rfl,own_eq (encI_set.trans (by rw [hnx _ (by rw [mrkF,if_pos (by assumption)])];rfl)),rfl,rfl,rfl,trivial⟩ ⟨rfl,trivial⟩ rfl,by omega⟩
   ·exact ⟨i+1,by omega,le_mk ⟨rfl,rfl,own_eq (encI_set.trans (by rw [hnx _ (by rw [mrkF,if_neg (by assumption),if_pos (by assumption)])];rfl)),rfl,rfl,rfl,trivial⟩ ⟨rfl,trivial⟩ rfl,by omega⟩
   ·exact ⟨i+1,by omega,le_mk ⟨rfl,rfl,own_eq (encI_set.trans (by rw [hnx _ (by rw [mrkF,if_neg (by assumption),if_neg (Bool.eq_false_iff.1 (by assumption)),if_pos (by assumption)])];rfl)),rfl,rfl,rfl,trivial⟩ ⟨rfl,trivial⟩ rfl,by omega⟩
   ·exact ⟨i+1,by omega,le_mk ⟨rfl,rfl,own_eq (by rw [hn0 (by rw [mrkF,if_neg (by assumption),if_neg (Bool.eq_false_iff.1 (by assumption)),if_neg (by assumption)])]),rfl,rfl,rfl,trivial⟩ ⟨rfl,trivial⟩ rfl,by omega⟩
  ·obtain rfl:i=ps.length:=by omega
   (conv=>whnf);(repeat' (first|((with_reducible refine branch_d (fun hq=>?_) (fun hq=>?_))<;>(try (exfalso;omega))<;>(conv=>whnf))))
   exact ret_t (rs:=[.lst 1 ((mrkL ps K A ps.length).map encI), .int .i64 0]) ⟨.inl rc_o, .inl (rc_p rfl),trivial⟩ rfl
end Go.Proofs.YtihjphblcohdeaaGreatDoor
namespace Go.Proofs.YtihjphblcohdeaaGreatDoor
set_option maxRecDepth 10000
open Go.RowKit
def plT23c_0:Plan:=(.take 0 (.take 1 (.take 2 (.take 3 (.take 4 (.take 5 (.take 6 (.take 7 (.take 8 (.take 9 (.take 10 (.take 11 (.take 12 (.alt 13 (.take 14 .done) .stop))))))))))))))
def plT23c_2:Plan:=(.take 0 (.take 1 (.take 2 (.take 3 (.take 4 (.take 5 (.take 6 (.take 7 (.take 8 (.take 9 (.take 10 (.take 11 (.take 12 (.take 13 (.take 14 (.take 15 (.take 16 (.take 17 (.take 18 (.take 19 (.take 20 (.take 21 (.take 22 (.take 23 (.take 24 (.take 25 (.take 26 (.take 27 (.take 28 (.take 29 (.take 30 (.take 31 (.take 32 (.take 33 (.take 34 (.take 35 (.take 36 (.take 37 .done))))))))))))))))))))))))))))))))))))))
open F32
structure Dark (f:List (Int×Int)) (a:List Int) (ch:List Int):Prop where
 len:ch.length=f.length
 at_:∀(j:Nat) (q:Int×Int) (v:Int),f[j]? =some q→ch[j]? =some v→if a.getD q.1.toNat (-1)=q.2 then 7≤v∧v≤9 else 0≤v∧v≤2
def labAt (x:Sit) (e:ExpD) (k:Nat):LabD:=⟨x.num,e.cand,k,e.var⟩
def PagOk (x:Sit) (A:List (List Int)) (p:LabD×List Int):Prop:=∃(i:Nat) (e:ExpD) (k:Nat) (pg a:List Int),x.exp[i]? =some e∧A[i]? =some a∧(bkOf x e)[k]? =some pg∧p.1=labAt x e k∧Dark (fldsF (papOf x e) pg) a p.2
structure CapsL (x:Sit) (A:List (List Int)) (P:List (LabD×List Int)) (L:List Cap):Prop where
 pag:∀p∈P,PagOk x A p
 cap:∀(n:Nat) (c:Cap),L[n]? =some c→c.seq=n∧∃p∈P,ScanOf p.1 p.2 n c
 all:∀p∈P,∃c∈L,ScanOf p.1 p.2 c.seq c
 len:L.length≤2 * P.length
structure Caps (x:Sit) (A:List (List Int)) (P:List (LabD×List Int)) (out:List Cap):Prop where
 pag:∀p∈P,PagOk x A p
 cap:∀c∈out,0≤c.seq∧c.seq<70∧∃p∈P,ScanOf p.1 p.2 c.seq c
 all:∀p∈P,∃c∈out,ScanOf p.1 p.2 c.seq c
 inj:∀c∈out,∀d∈out,c.seq=d.seq→c=d
 len:out.length≤70
def cap0:Cap:=⟨0,0,0,0,[],0,[],0,0,⟨0,0,0,0⟩⟩
theorem CapsL.add {x A P L p c} (h:CapsL x A P L) (hp:PagOk x A p) (hc:ScanOf p.1 p.2 (L.length:Nat) c):CapsL x A (P++[p]) (L++[c]) where
 pag:=fun q hq=>by
  rcases List.mem_append.1 hq with h1|h1
  ·exact h.pag q h1
  ·rw [List.mem_singleton.1 h1];exact hp
 cap:=fun n d hd=>by
  rcases snoc_at hd with ⟨h1,h2⟩|⟨h1,h2⟩
  ·obtain ⟨h3,q,hq,h4⟩:=h.cap n d h2
   exact ⟨h3,q,List.mem_append_left _ hq,h4⟩
  ·subst h1 h2
   exact ⟨hc.seq,p,by simp,hc⟩
 all:=fun q hq=>by
  rcases List.mem_append.1 hq with h1|h1
  ·obtain ⟨d,hd,h2⟩:=h.all q h1
   exact ⟨d,List.mem_append_left _ hd,h2⟩
  ·rw [List.mem_singleton.1 h1]
   exact ⟨c,by simp,by rw [hc.seq];exact hc⟩
 len:=by have:=h.len;simp;omega
theorem CapsL.add2 {x A P L p c} (h:CapsL x A P L) (hp:PagOk x A p) (hc:ScanOf p.1 p.2 (L.length:Nat) c):CapsL x A (P++[p]) (L++[c]++[{ c with seq:=(L++[c]).length }]) where
 pag:=(h.add hp hc).pag
 cap:=fun n d hd=>by
  rcases snoc_at hd with ⟨h1,h2⟩|⟨h1,h2⟩
  ·exact (h.add hp hc).cap n d h2
  ·subst h1 h2
   exact ⟨rfl,p,by simp,⟨hc.time,hc.src,rfl,hc.kind,hc.strip,hc.content,hc.ch,hc.tsrc,hc.tseq,hc.lab⟩⟩
 all:=fun q hq=>by
  obtain ⟨d,hd,h2⟩:=(h.add hp hc).all q hq
  exact ⟨d,List.mem_append_left _ hd,h2⟩
 len:=by have:=h.len;simp;omega
theorem flds_mem {ps:List Prt}:∀ {l:List Int} {q:Int×Int},q∈fldsF ps l→q.1∈l:=by
 intro l
 induction l with
 |nil=>intro q h;exact absurd h (by simp [fldsF])
 |cons a l ih=>
  intro q h
  rw [fldsF,List.mem_append] at h
  rcases h with h|h
  ·split at h
   ·rw [optsI,optN] at h
    obtain ⟨o,_,rfl⟩:=List.mem_map.1 h
    exact List.mem_cons_self ..
   ·cases h
  ·exact List.mem_cons_of_mem _ (ih h)
theorem lab_ok {x:Sit} (hx:SitOk x) {e:ExpD} (he:e∈x.exp) {k:Nat} (hk:k<(bkOf x e).length):LabOk (labAt x e k):=by
 have h1:=hx.exps e he
 have h2:=hx.num
 have h3:=(sit_pap hx he).2.eight
 have h4:=hx.some
 exact ⟨by show 0≤x.num∧x.num<32;omega,by show 0≤e.cand∧e.cand≤9999;omega,by show 0≤(k:Int)∧(k:Int)<32;omega,by show 0≤e.var∧e.var<32;omega⟩
theorem call_n {P:Program} {tt:Nat} {b:Bool} {f:Nat} {args:List AV} {K:AV→Prop} {alt:Prop} {Q:Int→Prop} (hG:Good P tt b f args (IntR Q)) (h:∀m:Int,Q m→K (.int .i64 m)):acall P tt b f args K alt:=
 call_i hG fun r hr=>by obtain ⟨m,rfl,h6⟩:=hr;exact h m h6
theorem call_ex {α:Type} {P:Program} {tt:Nat} {b:Bool} {f:Nat} {args:List AV} {K:AV→Prop} {alt:Prop} {Q:α→Prop} {v:α→AV} (hG:Good P tt b f args (fun r=>∃c,Q c∧r=v c)) (h:∀c,Q c→K (v c)):acall P tt b f args K alt:=
 call_i hG fun r hr=>by obtain ⟨m,h6,rfl⟩:=hr;exact h m h6
set_option maxHeartbeats 8000000 in
theorem scansR_ok (R:List Cap→AV→Prop) (hR:∀(t:Tg) out,∃r,RetV (.tup [.own t 56 13 (out.map encC), .bool true]) r∧R out r) (x:Sit) (hx:SitOk x) (A:List (List Int)) (hA:IntOk x A):Good Tryz.prog TT true 8 [.tape,sitV x, .lst 1 (A.map encL)] (fun r=>∃P out,Caps x A P out∧P.map (·.1)=labsOf x∧R out r):=by
 have hl:=sit_len hx
 have LE:(x.exp.map encE).length=x.exp.length:=List.length_map ..
 refine good_of mixed tabOk Tryz.func8 rfl rfl Tryz.ntmps8 Tryz.results8 rfl rfl ?_
 (conv=>whnf)
 refine loop_i3 (fun (i:Nat) (P:List (LabD×List Int)) (L:List Cap)=>i≤x.exp.length∧CapsL x A P L∧P.map (·.1)=(x.exp.take i).flatMap fun e=>labsE x.num e (bkOf x e).length) (fun i P L=>mkSt [(0, .tape),(2, .lst 1 (A.map encL)),(4, .ptr 4 0),(8, .own 900 56 13 (L.map encC)),(9, .int .i64 i)] [(4,sitC x)] true) (fun i _ _=>x.exp.length-i) 0 [] [] ⟨by omega,⟨by simp,by simp,by simp,by simp⟩,by simp⟩ ((le_adopt 8 900 56 13 rfl).trans le_q) ?_
 rintro i P L ⟨hi,hC,hP⟩
 rcases Nat.lt_or_ge i x.exp.length with hil|hil
 ·obtain ⟨e,he⟩:∃e,x.exp[i]? =some e:=⟨_,List.getElem?_eq_getElem (by omega)⟩
  obtain ⟨a,ha⟩:∃a,A[i]? =some a:=⟨_,List.getElem?_eq_getElem (by rw [hA.len];omega)⟩
  have hI:=hA.at_ i e a he ha
  have hem:=List.mem_of_getElem? he
  obtain ⟨hp,hV⟩:=sit_pap hx hem
  have h1:=hx.exps e hem
  have hb:=sit_bk hx hem
  have hPk:PapOk x.num e.var (papOf x e):=by have:=hV.pap;rwa [show ((e.var.toNat:Nat):Int)=e.var by omega] at this
  have h66:(papOf x e).length≤6:=hV.six
  have LB:((bkOf x e).map encPg).length=(bkOf x e).length:=List.length_map ..
  have hT:(x.exp.take (i+1)).flatMap (fun e=>labsE x.num e (bkOf x e).length)=(x.exp.take i).flatMap (fun e=>labsE x.num e (bkOf x e).length)++labsE x.num e (bkOf x e).length:=by rw [List.take_add_one,he];simp
  have hF:=flat_le hx (i+1)
  rw [hT] at hF
  generalize hP0:(x.exp.take i).flatMap (fun e=>labsE x.num e (bkOf x e).length)=P0 at *
  have hF:P0.length+(bkOf x e).length≤32:=by simpa [labsE] using hF
  (conv=>whnf);(repeat' (first|((refine idx_cs he ?_);conv=>whnf)|((with_reducible refine branch_d (fun hq=>?_) (fun hq=>?_))<;>(try (exfalso;omega))<;>(conv=>whnf))))
  refine loop_i3 (fun (k:Nat) (P:List (LabD×List Int)) (L:List Cap)=>k≤(bkOf x e).length∧CapsL x A P L∧P.map (·.1)=P0++labsE x.num e k) (fun k P L=>mkSt [(0, .tape),(2, .lst 1 (A.map encL)),(4, .ptr 4 0),(8, .own 900 56 13 (L.map encC)),(9, .int .i64 i),(10, .ptr 10 0),(11, .int .i64 k)] [(4,sitC x),(10,encE e)] true) (fun k _ _=>(bkOf x e).length-k) 0 P L ⟨by omega,hC,by simp [hP,labsE]⟩ le_q ?_
  clear hC hP P L
  rintro k P L ⟨hk,hC,hP⟩
  have hPl:P.length=P0.length+k:=by rw [←List.length_map (f:=Prod.fst),hP];simp [labsE]
  have hLl:=hC.len
  rcases Nat.lt_or_ge k (bkOf x e).length with hkl|hkl
  ·obtain ⟨pg,hpg⟩:∃pg,(bkOf x e)[k]? =some pg:=⟨_,List.getElem?_eq_getElem (by omega)⟩
   have hlab:=lab_ok hx hem hkl
   (conv=>whnf);(repeat' (first|((refine idx_ms (by omega) hb ?_);conv=>whnf)|((refine idx_ms (by omega) hp ?_);conv=>whnf)|((refine call_e (bFields_ok _ _ (papOf x e) (bkOf x e) k pg hPk hV.book hpg) ?_);conv=>whnf)|(refine draw_i 15 plT23c_0 (by decide+kernel) ?_;(conv=>whnf);fail_if_success (guard_target=~ False))|((with_reducible refine And.intro ?_ ?_)<;>(conv=>whnf))|(with_reducible exact trivial)|((with_reducible refine branch_d (fun hq=>?_) (fun hq=>?_))<;>(try (exfalso;omega))<;>(conv=>whnf))))
   have LF:((fldsF (papOf x e) pg).map encF).length=(fldsF (papOf x e) pg).length:=List.length_map ..
   have hfl:=fldsF_len hPk.parts (l:=pg) fun b hb=>hV.book.mem hpg hb
   have hpl:offP (bkOf x e) k+pg.length≤(papOf x e).length:=hV.book.len_le hpg
   have hfm:∀q∈fldsF (papOf x e) pg,0≤q.1∧q.1<a.length:=fun q hq=>by
    have:=hV.book.mem hpg (flds_mem hq)
    rw [hI.len];exact this
   refine loop_i2 (fun (j:Nat) (ch:List Int)=>j≤(fldsF (papOf x e) pg).length∧ch.length=j∧∀(m:Nat) (q:Int×Int) (v:Int),(fldsF (papOf x e) pg)[m]? =some q→ch[m]? =some v→if a.getD q.1.toNat (-1)=q.2 then 7≤v∧v≤9 else 0≤v∧v≤2) (fun j ch=>mkSt [(0, .tape),(2, .lst 1 (A.map encL)),(4, .ptr 4 0),(8, .own 900 56 13 (L.map encC)),(9, .int .i64 i),(10, .ptr 10 0),(11, .int .i64 k),(12, .lst 2 ((fldsF (papOf x e) pg).map encF)),(13, .own 902 3 1 (ch.map encI)),(14, .int .i64 j)] [(4,sitC x),(10,encE e)] true) (fun j _=>(fldsF (papOf x e) pg).length-j) 0 [] ⟨by omega,rfl,by simp⟩ ((le_erase 58).trans ((le_adopt 13 902 3 1 rfl).trans (le_mk ⟨rfl,rfl,rfl,rfl,rfl,rfl,rfl,rfl,rfl,rfl,trivial⟩ ⟨rfl,rfl,trivial⟩ rfl))) ?_
   rintro j ch ⟨hj,hcl,hct⟩
   have LC:(ch.map encI).length=j:=by rw [List.length_map,hcl]
   have LL:(L.map encC).length=L.length:=List.length_map ..
   have LA:(A.map encL).length=A.length:=List.length_map ..
   have La:(a.map encI).length=a.length:=List.length_map ..
   have hj30:j≤30:=by omega
   by_cases hjl:j<(fldsF (papOf x e) pg).length
   ·refine Exists.elim (⟨_,List.getElem?_eq_getElem hjl⟩:∃q,(fldsF (papOf x e) pg)[j]? =some q) fun q hq0=>?_
    have hqm:=hfm q (List.mem_of_getElem? hq0)
    refine Exists.elim (⟨_,List.getElem?_eq_getElem (by omega)⟩:∃v,a[q.1.toNat]? =some v) fun av hav=>?_
    have hgv:a.getD q.1.toNat (-1)=av:=by rw [List.getD_eq_getElem?_getD,hav];rfl
    (conv=>whnf);(repeat' (first|(refine arith_i ⟨by omega,by omega⟩ ?_;conv=>whnf)|(refine need_o ?_;conv=>whnf)|((with_reducible refine branch_tt ?_);conv=>whnf)|((refine idx_cs hq0 ?_);conv=>whnf)|((refine idx_cs ha ?_);conv=>whnf)|((refine idx_ms hqm.1 hav ?_);conv=>whnf)|(((refine call_n (range_ok _ _ (by omega) (by omega)) fun m1 h6=>?_;have hm1:=h6.2 (by omega)));conv=>whnf)|(refine draw_i 38 plT23c_2 (by decide+kernel) ?_;(conv=>whnf);fail_if_success (guard_target=~ False))|((with_reducible refine branch_d (fun hq=>?_) (fun hq=>?_))<;>(try (exfalso;omega))<;>(conv=>whnf))|((with_reducible refine branch_e (fun hq=>?_) (fun hq=>?_))<;>(try (exfalso;omega))<;>(conv=>whnf))))
    ·refine ⟨j+1,ch++[m1],⟨by omega,by simp [hcl],fun m r v hr hv=>?_⟩,le_mk ⟨rfl,rfl,rfl,rfl,rfl,rfl,rfl,rfl,own_eq (by rw [List.map_append];rfl),rfl,trivial⟩ ⟨rfl,rfl,trivial⟩ rfl,by omega⟩
     rcases snoc_at hv with ⟨h1,h2⟩|⟨h1,h2⟩
     ·exact hct m r v hr h2
     ·subst h1 h2;rw [hcl,hq0] at hr;cases hr;rw [hgv,if_pos (by assumption)];omega
    ·refine ⟨j+1,ch++[m1],⟨by omega,by simp [hcl],fun m r v hr hv=>?_⟩,le_mk ⟨rfl,rfl,rfl,rfl,rfl,rfl,rfl,rfl,own_eq (by rw [List.map_append];rfl),rfl,trivial⟩ ⟨rfl,rfl,trivial⟩ rfl,by omega⟩
     rcases snoc_at hv with ⟨h1,h2⟩|⟨h1,h2⟩
     ·exact hct m r v hr h2
     ·subst h1 h2;rw [hcl,hq0] at hr;cases hr;rw [hgv,if_neg (by assumption)];omega
   ·have hj':j=(fldsF (papOf x e) pg).length:=by omega
    (conv=>whnf);(repeat' (first|(refine arith_i ⟨by omega,by omega⟩ ?_;conv=>whnf)|(refine need_o ?_;conv=>whnf)|((with_reducible refine branch_tt ?_);conv=>whnf)|(with_reducible refine branch_not ?_)|(((refine call_ex (scan_ok (labAt x e k) hlab ch _) fun c hc=>?_));conv=>whnf)|(((refine call_i (one_ok 4 (by omega)) fun r hr=>?_;refine Exists.elim hr fun b hb=>?_;subst hb));conv=>whnf)|((with_reducible refine callS_a ?_);conv=>whnf)|((with_reducible refine branch_d (fun hq=>?_) (fun hq=>?_))<;>(try (exfalso;omega))<;>(conv=>whnf))|((with_reducible refine branch_i (fun hq=>?_) (fun hq=>?_))<;>(try (exfalso;omega))<;>(conv=>whnf))))
    all_goals
     rw [LL] at hc
     have hPg:PagOk x A (labAt x e k,ch):=⟨i,e,k,pg,a,he,ha,hpg,rfl,⟨by rw [hcl,hj'],hct⟩⟩
    ·refine ⟨k+1,P++[(labAt x e k,ch)],L++[c]++[{ c with seq:=(L++[c]).length }],⟨by omega,hC.add2 hPg hc,by rw [List.map_append,hP,labsE_succ,List.append_assoc];rfl⟩,le_mk ⟨rfl,rfl,rfl,own_eq ?_,rfl,rfl,rfl,trivial⟩ ⟨rfl,rfl,trivial⟩ rfl,by omega⟩
     simp [encC];rfl
    ·refine ⟨k+1,P++[(labAt x e k,ch)],L++[c],⟨by omega,hC.add hPg hc,by rw [List.map_append,hP,labsE_succ,List.append_assoc];rfl⟩,le_mk ⟨rfl,rfl,rfl,own_eq ?_,rfl,rfl,rfl,trivial⟩ ⟨rfl,rfl,trivial⟩ rfl,by omega⟩
     simp [encC];rfl
  ·obtain rfl:k=(bkOf x e).length:=by omega
   (conv=>whnf);(repeat' (first|(refine arith_i ⟨by omega,by omega⟩ ?_;conv=>whnf)|((refine idx_ms (by omega) hb ?_);conv=>whnf)|((with_reducible refine branch_d (fun hq=>?_) (fun hq=>?_))<;>(try (exfalso;omega))<;>(conv=>whnf))))
   exact ⟨i+1,P,L,⟨by omega,hC,by rw [hP,hT]⟩,le_mk ⟨rfl,rfl,rfl,rfl,rfl,trivial⟩ ⟨rfl,trivial⟩ rfl,by omega⟩
 ·obtain rfl:i=x.exp.length:=by omega
  have LL:(L.map encC).length=L.length:=List.length_map ..
  have hP1:P.map (·.1)=labsOf x:=by rw [hP,List.take_length];rfl
  have hPl:P.length≤32:=by
   have:=flat_le hx x.exp.length
   rw [←hP,List.length_map] at this;exact this
  have hLl:=hC.len
  (conv=>whnf);(repeat' (first|(((refine call_i (mixed_ok _ (by omega)) fun r hr=>?_;refine Exists.elim hr fun xs hxs=>?_;refine And.elim (fun hr2 hM=>?_) hxs;subst hr2));conv=>whnf)|((with_reducible refine branch_d (fun hq=>?_) (fun hq=>?_))<;>(try (exfalso;omega))<;>(conv=>whnf))))
  refine loop_i (fun m:Nat=>m≤xs.length) (fun m=>mkSt [(0, .tape),(8, .lst 13 (L.map encC)),(18, .lst 1 (xs.map encI)),(19, .own 903 56 13 (((xs.take m).map fun a=>L.getD a.toNat cap0).map encC)),(20, .int .i64 m)] [] true) (fun m=>xs.length-m) 0 (by omega) ((le_erase 900).trans ((le_erase 146).trans ((le_adopt 19 903 56 13 rfl).trans le_q))) ?_
  intro m hm
  have hM2:MixOk L.length xs:=by rw [LL,Int.toNat_natCast] at hM;exact hM
  have hxl:=hM2.len
  have LX:(xs.map encI).length=xs.length:=List.length_map ..
  have LO:(((xs.take m).map fun a=>L.getD a.toNat cap0).map encC).length=m:=by simp;omega
  rcases Nat.lt_or_ge m xs.length with hml|hml
  ·obtain ⟨a,ha⟩:∃a,xs[m]? =some a:=⟨_,List.getElem?_eq_getElem (by omega)⟩
   have ha1:=hM2.sub a (List.mem_of_getElem? ha)
   obtain ⟨c,hc⟩:∃c,L[a.toNat]? =some c:=⟨_,List.getElem?_eq_getElem (by omega)⟩
   have hgc:L.getD a.toNat cap0=c:=by rw [List.getD_eq_getElem?_getD,hc];rfl
   have hT:((xs.take (m+1)).map fun a=>L.getD a.toNat cap0).map encC=((xs.take m).map fun a=>L.getD a.toNat cap0).map encC++[encC c]:=by rw [List.take_add_one,ha];simp [←hgc]
   (conv=>whnf);(repeat' (first|(refine arith_i ⟨by omega,by omega⟩ ?_;conv=>whnf)|(refine need_o ?_;conv=>whnf)|((refine idx_cs ha ?_);conv=>whnf)|((refine idx_ms ha1.1 hc ?_);conv=>whnf)|((with_reducible refine branch_d (fun hq=>?_) (fun hq=>?_))<;>(try (exfalso;omega))<;>(conv=>whnf))))
   exact ⟨m+1,by omega,le_mk ⟨rfl,rfl,rfl,own_eq (by rw [hT];rfl),rfl,trivial⟩ trivial rfl,by omega⟩
  ·obtain rfl:m=xs.length:=by omega
   (conv=>whnf);(repeat' (first|((with_reducible refine branch_d (fun hq=>?_) (fun hq=>?_))<;>(try (exfalso;omega))<;>(conv=>whnf))))
   rw [List.take_length]
   obtain ⟨r,hr1,hr2⟩:=hR _ (xs.map fun a=>L.getD a.toNat cap0)
   refine ⟨⟨r,hr1,P,_,?_,hP1,hr2⟩⟩
   have key:∀a∈xs,0≤a∧a<L.length∧L[a.toNat]? =some (L.getD a.toNat cap0):=fun a ha=>by
    have h1:=hM2.sub a ha
    refine ⟨h1.1,h1.2,?_⟩
    rw [List.getD_eq_getElem?_getD,List.getElem?_eq_getElem (by omega)];rfl
   refine ⟨hC.pag,fun c hc=>?_,fun p hp=>?_,fun c hc d hd hcd=>?_,by simp;omega⟩
   ·obtain ⟨a,ha,rfl⟩:=List.mem_map.1 hc
    obtain ⟨k1,k2,k3⟩:=key a ha
    obtain ⟨h1,p,hp,h2⟩:=hC.cap _ _ k3
    rw [h1]
    exact ⟨by omega,by omega,p,hp,h2⟩
   ·obtain ⟨c,hc,h1⟩:=hC.all p hp
    obtain ⟨n,hn⟩:=List.mem_iff_getElem?.1 hc
    have hnl:=(List.getElem?_eq_some_iff.1 hn).1
    refine ⟨c,List.mem_map.2 ⟨(n:Int),hM2.all n hnl,?_⟩,h1⟩
    rw [Int.toNat_natCast,List.getD_eq_getElem?_getD,hn];rfl
   ·obtain ⟨a,ha,rfl⟩:=List.mem_map.1 hc
    obtain ⟨b,hb,rfl⟩:=List.mem_map.1 hd
    obtain ⟨k1,k2,k3⟩:=key a ha
    obtain ⟨j1,j2,j3⟩:=key b hb
    have h1:=(hC.cap _ _ k3).1
    have h2:=(hC.cap _ _ j3).1
    have:a=b:=by omega
    rw [this]
theorem scansO_ok (x:Sit) (hx:SitOk x) (A:List (List Int)) (hA:IntOk x A):Good Tryz.prog TT true 8 [.tape,sitV x, .lst 1 (A.map encL)] (fun r=>∃P out,Caps x A P out∧P.map (·.1)=labsOf x∧r= .tup [.own 0 56 13 (out.map encC), .bool true]):=
 scansR_ok (fun out r=>r= .tup [.own 0 56 13 (out.map encC), .bool true]) (fun t out=>⟨_, .inr (.inr (.inr (.inr ⟨_,_,_,_,_,rfl,rfl,rfl⟩))),rfl⟩) x hx A hA
end Go.Proofs.YtihjphblcohdeaaGreatDoor
namespace Go.Proofs.YtihjphblcohdeaaGreatDoor
set_option maxRecDepth 10000
open Go.RowKit
open F32
end Go.Proofs.YtihjphblcohdeaaGreatDoor
namespace Go.Proofs.YtihjphblcohdeaaGreatDoor
set_option maxRecDepth 10000
open Go.RowKit
def plT02a_0:Plan:=(.take 0 (.take 1 (.take 2 (.take 3 (.take 5 (.take 6 (.take 7 (.take 8 (.take 10 (.take 11 (.take 12 (.take 13 (.alt 4 (.alt 9 (.alt 14 (.alt 15 (.alt 16 (.take 17 .done) .stop) .stop) .stop) .stop) .stop)))))))))))))
def plT02a_1:Plan:=(.take 0 (.take 1 (.take 2 (.take 3 (.take 5 (.take 6 (.take 7 (.take 8 (.alt 4 (.alt 9 (.alt 10 (.alt 11 (.take 12 .done) .stop) .stop) .stop) .stop)))))))))
def plT02a_3:Plan:=(.take 0 (.take 1 (.take 2 (.take 3 (.take 4 (.take 5 (.take 6 (.take 7 (.take 9 (.take 10 (.alt 8 (.alt 11 (.alt 12 (.alt 13 (.take 14 .done) .stop) .stop) .stop) .stop)))))))))))
def plT02a_6:Plan:=(.take 0 (.take 1 (.take 2 (.take 3 (.take 4 (.take 5 (.take 6 (.take 7 (.alt 8 (.take 9 .done) .stop)))))))))
open F32
def cmpI (a b:Int):Int:=if a<b then -1 else if b<a then 1 else 0
theorem isNaN_ok {tt:Nat} (a:Int):Good Tryz.prog tt false 75 [.int .i64 a] (· = .bool false):=by
 refine good_of mixed tabOk Tryz.func75 rfl rfl Tryz.ntmps75 Tryz.results75 rfl rfl ?_
 (conv=>whnf)
 all_goals exact ret_p rfl (bool_eq (by simp))
theorem compare_ok {tt:Nat} (a b:Int):Good Tryz.prog tt false 42 [.int .i64 a, .int .i64 b] (· = .int .i64 (cmpI a b)):=by
 refine good_of mixed tabOk Tryz.func42 rfl rfl Tryz.ntmps42 Tryz.results42 rfl rfl ?_
 (conv=>whnf);(repeat' (first|((with_reducible refine branch_ff ?_);conv=>whnf)|((refine call_e (isNaN_ok a) ?_);conv=>whnf)|((refine call_e (isNaN_ok b) ?_);conv=>whnf)|((with_reducible refine branch_d (fun hq=>?_) (fun hq=>?_))<;>(try (exfalso;omega))<;>(conv=>whnf))))
 all_goals first|exact ret_p rfl (int_eq (by unfold cmpI;first|(rw [if_pos (by omega)])|(rw [if_neg (by omega),if_pos (by omega)])|(rw [if_neg (by omega),if_neg (by omega)])))
def orF:List Int→Int
 |[]=>0
 |x::xs=>if x=0 then orF xs else x
theorem or_ok {tt:Nat} (xs:List Int) (hx:xs.length≤1000):Good Tryz.prog tt false 41 [ints xs] (· = .int .i64 (orF xs)):=by
 have LX:(xs.map encI).length=xs.length:=List.length_map ..
 refine good_of mixed tabOk Tryz.func41 rfl rfl Tryz.ntmps41 Tryz.results41 rfl rfl ?_
 (conv=>whnf)
 refine loop_i (fun i:Nat=>i≤xs.length∧orF (xs.drop i)=orF xs) (fun i=>mkSt [(3, .int .i64 0),(6,ints xs),(7, .int .i64 xs.length),(8, .int .i64 i)] [] false) (fun i=>xs.length-i) 0 ⟨Nat.zero_le _,rfl⟩ (le_mk ⟨rfl,rfl,int_eq (by rw [LX]),rfl,trivial⟩ trivial rfl) ?_
 rintro i ⟨hi,ho⟩
 rcases Nat.lt_or_ge i xs.length with hil|hil
 ·obtain ⟨x,hx'⟩:∃x,xs[i]? =some x:=⟨_,List.getElem?_eq_getElem hil⟩
  rw [drop_at hx'] at ho
  (conv=>whnf);(repeat' (first|(refine arith_i ⟨by omega,by omega⟩ ?_;conv=>whnf)|((refine idx_cs hx' ?_);conv=>whnf)|((with_reducible refine branch_d (fun hq=>?_) (fun hq=>?_))<;>(try (exfalso;omega))<;>(conv=>whnf))|((with_reducible refine branch_n (fun hq=>?_) (fun hq=>?_))<;>(try (exfalso;omega))<;>(conv=>whnf))))
  ·exact ret_p rfl (int_eq (by rw [←ho];simp only [orF];rw [if_neg (by omega)]))
  ·exact ⟨i+1,⟨by omega,by rw [←ho];simp only [orF];rw [if_pos (by omega)]⟩,le_q,by omega⟩
 ·(conv=>whnf);(repeat' (first|((with_reducible refine branch_d (fun hq=>?_) (fun hq=>?_))<;>(try (exfalso;omega))<;>(conv=>whnf))))
  rw [drop_end hil] at ho
  exact ret_p rfl (int_eq (by rw [←ho];rfl))
theorem cmp_lt {a b:Int}:cmpI a b<0↔a<b:=by unfold cmpI;split<;>(try split)<;>omega
theorem cmp_eq {a b:Int}:cmpI a b=0↔a=b:=by unfold cmpI;split<;>(try split)<;>omega
structure Stp where
 time:Int
 src:Int
 seq:Int
def encSt (s:Stp):List AV:=[.int .i64 s.time, .int .i64 s.src, .int .i64 s.seq]
def cmpS (a b:Stp):Int:=orF [cmpI a.time b.time,cmpI a.src b.src,cmpI a.seq b.seq]
def cmpD (a b:Stp):Int:=orF [cmpI a.src b.src,cmpI a.seq b.seq]
theorem stampCompare_ok {tt:Nat} (a b:Stp):Good Tryz.prog tt false 149 [.agg (encSt a), .agg (encSt b)] (· = .int .i64 (cmpS a b)):=by
 refine good_of mixed tabOk Tryz.func149 rfl rfl Tryz.ntmps149 Tryz.results149 rfl rfl ?_
 (conv=>whnf);(repeat' (first|((refine call_e (compare_ok a.time b.time) ?_);conv=>whnf)|((refine call_e (compare_ok a.src b.src) ?_);conv=>whnf)|((refine call_e (compare_ok a.seq b.seq) ?_);conv=>whnf)|((refine call_e (or_ok [cmpI a.time b.time,cmpI a.src b.src,cmpI a.seq b.seq] (by simp)) ?_);conv=>whnf)|(refine draw_i 18 plT02a_0 (by decide+kernel) ?_;(conv=>whnf);fail_if_success (guard_target=~ False))|((with_reducible refine And.intro ?_ ?_)<;>(conv=>whnf))|(with_reducible exact trivial)))
 all_goals first|exact ret_p rfl rfl
theorem compareId_ok {tt:Nat} (a b:Stp):Good Tryz.prog tt false 177 [.agg (encSt a), .agg (encSt b)] (· = .int .i64 (cmpD a b)):=by
 refine good_of mixed tabOk Tryz.func177 rfl rfl Tryz.ntmps177 Tryz.results177 rfl rfl ?_
 (conv=>whnf);(repeat' (first|((refine call_e (compare_ok a.src b.src) ?_);conv=>whnf)|((refine call_e (compare_ok a.seq b.seq) ?_);conv=>whnf)|((refine call_e (or_ok [cmpI a.src b.src,cmpI a.seq b.seq] (by simp)) ?_);conv=>whnf)|(refine draw_i 13 plT02a_1 (by decide+kernel) ?_;(conv=>whnf);fail_if_success (guard_target=~ False))|((with_reducible refine And.intro ?_ ?_)<;>(conv=>whnf))|(with_reducible exact trivial)))
 all_goals first|exact ret_p rfl rfl
def cmpG (l:List Stp) (i j:Nat):Int:=orF [cmpD (l.getD i ⟨0,0,0⟩) (l.getD j ⟨0,0,0⟩),cmpI i j]
theorem groups1_ok {tt:Nat} (l:List Stp) (i j:Nat) (hi:i<l.length) (hj:j<l.length):Good Tryz.prog tt false 176 [.int .i64 i, .int .i64 j, .ref [.lst 3 (l.map encSt)]] (· = .int .i64 (cmpG l i j)):=by
 have h1:l[i]? =some (l.getD i ⟨0,0,0⟩):=by rw [List.getD_eq_getElem?_getD,List.getElem?_eq_getElem hi];rfl
 have h2:l[j]? =some (l.getD j ⟨0,0,0⟩):=by rw [List.getD_eq_getElem?_getD,List.getElem?_eq_getElem hj];rfl
 refine good_of mixed tabOk Tryz.func176 rfl rfl Tryz.ntmps176 Tryz.results176 rfl rfl ?_
 (conv=>whnf);(repeat' (first|((refine idx_cs h1 ?_);conv=>whnf)|((refine idx_cs h2 ?_);conv=>whnf)|((refine call_e (compareId_ok (l.getD i ⟨0,0,0⟩) (l.getD j ⟨0,0,0⟩)) ?_);conv=>whnf)|((refine call_e (compare_ok i j) ?_);conv=>whnf)|((refine call_e (or_ok [cmpD (l.getD i ⟨0,0,0⟩) (l.getD j ⟨0,0,0⟩),cmpI i j] (by simp)) ?_);conv=>whnf)|(refine draw_i 15 plT02a_3 (by decide+kernel) ?_;(conv=>whnf);fail_if_success (guard_target=~ False))|((with_reducible refine And.intro ?_ ?_)<;>(conv=>whnf))|(with_reducible exact trivial)))
 all_goals exact ret_p rfl rfl
def cmpC (l:List Stp) (i j:Nat):Int:=cmpS (l.getD i ⟨0,0,0⟩) (l.getD j ⟨0,0,0⟩)
theorem canonical1_ok {tt:Nat} (l:List Stp) (i j:Nat) (hi:i<l.length) (hj:j<l.length):Good Tryz.prog tt false 148 [.int .i64 i, .int .i64 j, .ref [.lst 3 (l.map encSt)]] (· = .int .i64 (cmpC l i j)):=by
 have h1:l[i]? =some (l.getD i ⟨0,0,0⟩):=by rw [List.getD_eq_getElem?_getD,List.getElem?_eq_getElem hi];rfl
 have h2:l[j]? =some (l.getD j ⟨0,0,0⟩):=by rw [List.getD_eq_getElem?_getD,List.getElem?_eq_getElem hj];rfl
 refine good_of mixed tabOk Tryz.func148 rfl rfl Tryz.ntmps148 Tryz.results148 rfl rfl ?_
 (conv=>whnf);(repeat' (first|((refine idx_cs h1 ?_);conv=>whnf)|((refine idx_cs h2 ?_);conv=>whnf)|((refine call_e (stampCompare_ok (l.getD i ⟨0,0,0⟩) (l.getD j ⟨0,0,0⟩)) ?_);conv=>whnf)|(refine draw_i 10 plT02a_6 (by decide+kernel) ?_;(conv=>whnf);fail_if_success (guard_target=~ False))|((with_reducible refine And.intro ?_ ?_)<;>(conv=>whnf))|(with_reducible exact trivial)))
 all_goals exact ret_p rfl rfl
theorem stampValid_ok (s:Stp) (h:0≤s.time∧s.time≤1000000∧0≤s.src∧s.src≤99∧0≤s.seq∧s.seq≤9999):Good Tryz.prog TT false 175 [.agg (encSt s)] (· = .bool true):=by
 refine good_of mixed tabOk Tryz.func175 rfl rfl Tryz.ntmps175 Tryz.results175 rfl rfl ?_
 (conv=>whnf);(repeat' (first|((with_reducible refine branch_tt ?_);conv=>whnf)|((with_reducible refine branch_d (fun hq=>?_) (fun hq=>?_))<;>(try (exfalso;omega))<;>(conv=>whnf))))
 all_goals exact ret_p rfl (bool_eq (by simp;omega))
theorem eq_stamp (a b c e f g:Int) (w:World):(Op.equalIn 10000 50 (.agg [Value.int .i64 a, .int .i64 b, .int .i64 c].toArray) (.agg [Value.int .i64 e, .int .i64 f, .int .i64 g].toArray)).run Tryz.prog w= .ok (a==e&&b==f&&c==g) w:=by
 have u3:=Tryz.underlying3
 have a3:=Tryz.isAgg3
 have z3:=Tryz.sizeOf3
 have hS:Tryz.prog.underlying 50=some (.struct (Tryz.prog.fieldsOf 50)):=by kernel_rfl
 have hp:Tryz.prog.stoodInHeld 50=false:=by kernel_rfl
 rw [show (10000:Nat)=9999+1 from rfl,run_equalIn_agg w 9999 50 _ _ hS hp]
 simp only [Program.fieldsOf,Tryz.underlying50]
 go_simp
 by_cases h1:a=e<;>by_cases h2:b=f<;>by_cases h3:c=g<;>simp [h1,h2,h3]
theorem guard_stamp:Tryz.prog.eqGuardType Tryz.prog.depth 50=false:=by kernel_rfl
theorem eq_ident (a b e f:Int) (w:World):(Op.equalIn 10000 52 (.agg [Value.int .i64 a, .int .i64 b].toArray) (.agg [Value.int .i64 e, .int .i64 f].toArray)).run Tryz.prog w= .ok (a==e&&b==f) w:=by
 have u3:=Tryz.underlying3
 have a3:=Tryz.isAgg3
 have z3:=Tryz.sizeOf3
 have hS:Tryz.prog.underlying 52=some (.struct (Tryz.prog.fieldsOf 52)):=by kernel_rfl
 have hp:Tryz.prog.stoodInHeld 52=false:=by kernel_rfl
 rw [show (10000:Nat)=9999+1 from rfl,run_equalIn_agg w 9999 52 _ _ hS hp]
 simp only [Program.fieldsOf,Tryz.underlying52]
 go_simp
 by_cases h1:a=e<;>by_cases h2:b=f<;>simp [h1,h2]
theorem guard_ident:Tryz.prog.eqGuardType Tryz.prog.depth 52=false:=by kernel_rfl
theorem eq_label (a b c d e f g h:Int) (w:World):(Op.equalIn 10000 54 (.agg [Value.int .i64 a, .int .i64 b, .int .i64 c, .int .i64 d].toArray) (.agg [Value.int .i64 e, .int .i64 f, .int .i64 g, .int .i64 h].toArray)).run Tryz.prog w= .ok (a==e&&b==f&&c==g&&d==h) w:=by
 have u3:=Tryz.underlying3
 have a3:=Tryz.isAgg3
 have z3:=Tryz.sizeOf3
 have hS:Tryz.prog.underlying 54=some (.struct (Tryz.prog.fieldsOf 54)):=by kernel_rfl
 have hp:Tryz.prog.stoodInHeld 54=false:=by kernel_rfl
 rw [show (10000:Nat)=9999+1 from rfl,run_equalIn_agg w 9999 54 _ _ hS hp]
 simp only [Program.fieldsOf,Tryz.underlying54]
 go_simp
 by_cases h1:a=e<;>by_cases h2:b=f<;>by_cases h3:c=g<;>by_cases h4:d=h<;>simp [h1,h2,h3,h4]
theorem guard_label:Tryz.prog.eqGuardType Tryz.prog.depth 54=false:=by kernel_rfl
end Go.Proofs.YtihjphblcohdeaaGreatDoor
namespace Go.Proofs.YtihjphblcohdeaaGreatDoor
set_option maxRecDepth 10000
open Go.RowKit
def awP:List Prt:=[⟨1,3,0,0,0,0⟩,⟨2,2,0,0,3,1⟩]
def awB:List (List Int):=[[],[0,1],[],[]]
theorem aw_pap:PapOk 0 0 awP:=⟨by decide⟩
theorem aw_book:BookOk awP awB:=⟨by decide,by decide,by decide,rfl,by decide,by decide⟩
def encMB (l:List Int):Option (List (List AV)):=some (l.map encI)
def awR (n:Nat):List (List Int):=bif Nat.beq n 0 then [[]] else [[],[0,1]]
set_option maxHeartbeats 4000000 in
theorem bMake_ok:Good Tryz.prog TT false 50 [papV 0 0 awP] (· = .tup [bookV awB, .int .i64 0]):=by
 have hN:∀p∈awP,Good Tryz.prog TT false 89 [.agg (encPt p)] (· = .int .i64 5):=fun p hp=>(need_ok p ((show ∀p∈awP,vPartB p=true by decide) p hp)).mono fun r hr=>hr.trans (congrArg (AV.int .i64) ((show ∀p∈awP,needF p=5 by decide) p hp))
 have LS:(awP.map encPt).length=2:=rfl
 have LA0:((awR 0).map encMB).length=1:=rfl
 refine good_of_c (fun i=>Nat.beq i 20) mixed tabOk Tryz.func50 rfl rfl Tryz.ntmps50 Tryz.results50 rfl rfl ?_
 (conv=>whnf);(repeat' (first|((with_reducible refine branch_tt ?_);conv=>whnf)|(with_reducible refine branch_not ?_)|((refine call_e ((vPaper_ok 0 0 awP (by decide)).mono fun r hr=>hr.trans (bool_eq aw_pap.v)) ?_);conv=>whnf)|(((refine bld_m ⟨3,1,?_⟩));conv=>whnf)|fail))
 refine loop_i (fun n:Nat=>n≤1) (fun n=>mkSt [(1, .ptr 1 0),(2, .ptr 2 0),(4, .mat 13 22 3 1 ((awR n).map encMB)),(5, .int .i64 ((2 * n:Nat):Int))] [(1,[.int .i64 0, .int .i64 0, .lst 6 (awP.map encPt)]),(2,[.nil])] false) (fun n=>1-n) 0 (by omega) le_q ?_
 intro n hn
 rcases (show n=0∨n=1 by omega) with rfl|rfl
 ·(conv=>whnf);(repeat' (first|((with_reducible refine branch_d (fun hq=>?_) (fun hq=>?_))<;>(try (exfalso;omega))<;>(conv=>whnf))))
  refine loop_i (fun m:Nat=>m≤2) (fun m=>mkSt [(1, .ptr 1 0),(2, .ptr 2 0),(4, .mat 13 22 3 1 ((awR 0).map encMB)),(5, .int .i64 m),(6, .own 900 3 1 ((([0,1]:List Int).take m).map encI)),(7, .int .i64 ((5 * m:Nat):Int))] [(1,[.int .i64 0, .int .i64 0, .lst 6 (awP.map encPt)]),(2,[.nil])] false) (fun m=>2-m) 0 (by omega) ((le_adopt 6 900 3 1 rfl).trans le_q) ?_
  intro m hm
  rcases Nat.lt_or_ge m 2 with hml|hml
  ·obtain ⟨p,hp⟩:∃p,awP[m]? =some p:=⟨_,List.getElem?_eq_getElem (by simpa [awP] using hml)⟩
   have hnd:=hN p (List.mem_of_getElem? hp)
   have LT:((([0,1]:List Int).take m).map encI).length=m:=by simp;omega
   (conv=>whnf);(repeat' (first|(refine arith_i ⟨by omega,by omega⟩ ?_;conv=>whnf)|(refine need_o ?_;conv=>whnf)|((refine idx_cs hp ?_);conv=>whnf)|((refine call_e hnd ?_);conv=>whnf)|((with_reducible refine branch_d (fun hq=>?_) (fun hq=>?_))<;>(try (exfalso;omega))<;>(conv=>whnf))))
   all_goals exact ⟨m+1,by omega,le_mk ⟨rfl,rfl,rfl,rfl,own_eq (by rcases (show m=0∨m=1 by omega) with rfl|rfl<;>rfl),int_eq (by omega),trivial⟩ ⟨rfl,rfl,trivial⟩ rfl,by omega⟩
  ·obtain rfl:m=2:=by omega
   (conv=>whnf);(repeat' (first|(refine need_o ?_;conv=>whnf)|((refine bld_m ?_);conv=>whnf)|((with_reducible refine branch_d (fun hq=>?_) (fun hq=>?_))<;>(try (exfalso;omega))<;>(conv=>whnf))))
   all_goals exact ⟨1,by omega,le_q,by omega⟩
 ·(conv=>whnf);(repeat' (first|((with_reducible refine branch_d (fun hq=>?_) (fun hq=>?_))<;>(try (exfalso;omega))<;>(conv=>whnf))))
  refine loop_i (fun k:Nat=>k≤2) (fun k=>mkSt [(1, .ptr 1 0),(2, .ptr 2 0),(4, .mat 13 22 3 1 ((awR 1++List.replicate k []).map encMB))] [(1,[.int .i64 0, .int .i64 0, .lst 6 (awP.map encPt)]),(2,[.nil])] false) (fun k=>2-k) 0 (by omega) le_q ?_
  intro k hk
  have LM:((awR 1++List.replicate k []).map encMB).length=2+k:=by rw [List.length_map,List.length_append,List.length_replicate];rfl
  have hmod:(((awR 1++List.replicate k []).map encMB).length:Int).tmod 4=((2+k) % 4:Nat):=by rw [LM,Int.tmod_eq_emod_of_nonneg (by omega)];omega
  (conv=>whnf);(repeat' (first|(refine need_o ?_;conv=>whnf)|(((refine bld_m ⟨3,1,?_⟩));conv=>whnf)|((with_reducible refine branch_d (fun hq=>?_) (fun hq=>?_))<;>(try (exfalso;omega))<;>(conv=>whnf))|((with_reducible refine branch_n (fun hq=>?_) (fun hq=>?_))<;>(try (exfalso;omega))<;>(conv=>whnf))))
  ·exact ⟨k+1,by omega,le_mk ⟨rfl,rfl,congrArg (AV.mat 13 22 3 1) (by rw [List.replicate_succ',←List.append_assoc];simp [encMB]),trivial⟩ ⟨rfl,rfl,trivial⟩ rfl,by omega⟩
  ·obtain rfl:k=2:=by omega
   refine rest_i (mkSt [(1, .ptr 1 0),(2, .ptr 2 0),(4, .lst 1 ((awR 1++List.replicate 2 []).map encPg))] [(1,[.int .i64 0, .int .i64 0, .lst 6 (awP.map encPt)]),(2,[.nil])] false) (Le.trans (le_matErase 4 13 (R:=(awR 1++List.replicate 2 []).map fun (pg:List Int)=>pg.map encI) (by rw [List.map_map];rfl)) (le_mk ⟨rfl,rfl,by rw [List.map_map];rfl,trivial⟩ ⟨rfl,rfl,trivial⟩ rfl)) ?_
   (conv=>whnf)
   exact ret_t (rs:=[bookV awB, .int .i64 0]) ⟨.inr ⟨_,_,rfl,rfl,rc_p rfl,trivial⟩, .inl (rc_p rfl),trivial⟩ rfl
def plT23f_0:Plan:=(.take 0 (.alt 1 (.alt 2 (.take 3 (.alt 4 (.alt 5 (.take 6 (.take 7 (.take 8 (.take 9 (.take 10 .done))))) .stop) .stop)) (.alt 4 (.alt 2 (.take 3 (.alt 5 (.take 6 (.take 7 (.take 8 (.take 9 (.take 10 .done))))) .stop)) .stop) .stop)) (.alt 2 (.alt 1 (.take 3 (.alt 4 (.alt 5 (.take 6 (.take 7 (.take 8 (.take 9 (.take 10 .done))))) .stop) .stop)) (.alt 4 (.alt 1 (.take 3 (.alt 5 (.take 6 (.take 7 (.take 8 (.take 9 (.take 10 .done))))) .stop)) .stop) .stop)) (.alt 4 (.alt 1 (.alt 2 (.take 3 (.alt 5 (.take 6 (.take 7 (.take 8 (.take 9 (.take 10 .done))))) .stop)) .stop) (.alt 2 (.alt 1 (.take 3 (.alt 5 (.take 6 (.take 7 (.take 8 (.take 9 (.take 10 .done))))) .stop)) .stop) .stop)) .stop))))
open F32
def awL:LabD:=⟨1,2,3,0⟩
theorem aw_lab:LabOk awL:=⟨by decide,by decide,by decide,by decide⟩
def awS:List UInt8:=stripL (encW (labG awL))
theorem aw_dam:DamU (encW (labG awL)) (awS.set 20 (chgB (awS.getD 20 0) 0))∧(erN (wordF (awS.set 20 (chgB (awS.getD 20 0) 0))) (encW (labG awL))).length=1:=
 ⟨⟨⟨by decide+kernel,by decide+kernel⟩,by decide+kernel,by decide+kernel,by decide+kernel⟩,by decide+kernel⟩
set_option maxHeartbeats 4000000 in
theorem awake19_ok:Good Tryz.prog TT false 51 [] (· = .bool true):=by
 have hm:Mods awS:=⟨by decide+kernel,by decide+kernel⟩
 have h1:=draw_ok awL aw_lab
 have h2:=change_ok awS 20 0 hm (by decide)
 have h3:=read_ok awL aw_lab _ _ aw_dam.1 (.inl rfl)
 rw [aw_dam.2] at h3
 refine good_of mixed tabOk Tryz.func51 rfl rfl Tryz.ntmps51 Tryz.results51 rfl rfl ?_
 (conv=>whnf);(repeat' (first|((with_reducible first|refine branch_tt ?_|refine branch_ff ?_);conv=>whnf)|((refine call_e h1 ?_);conv=>whnf)|((refine call_e h2 ?_);conv=>whnf)|((refine call_e h3 ?_);conv=>whnf)|((refine eq_i guard_label (fun w=>eq_label _ _ _ _ _ _ _ _ w) ?_);conv=>whnf)|((with_reducible refine branch_e (fun hq=>?_) (fun hq=>?_))<;>(try (exfalso;omega))<;>(conv=>whnf))|((with_reducible refine branch_i (fun hq=>?_) (fun hq=>?_))<;>(try (exfalso;omega))<;>(conv=>whnf))))
 ·exact ret_p rfl rfl
 ·exfalso;simp [awL] at hq
theorem aw_sch:SchOk awP [[],[]] [0,0]:=⟨rfl,rfl,fun i p ks hp hk=>by
 match i,hp,hk with
 |0,hp,hk=>cases hk;exact ⟨fun _=>rfl, .nil,by simp,by simp⟩
 |1,hp,hk=>cases hk;exact ⟨fun _=>rfl, .nil,by simp,by simp⟩
 |k+2,hp,hk=>simp at hk,by simp⟩
theorem aw_int:IntL awP [-1,1]:=⟨rfl,fun k p a hp ha=>by
 match k,hp,ha with
 |0,hp,ha=>cases hp;cases ha;rfl
 |1,hp,ha=>cases hp;cases ha;rw [IntP,if_pos rfl];decide
 |k+2,hp,ha=>simp at ha⟩
set_option maxHeartbeats 4000000 in
theorem awake23_ok:Good Tryz.prog TT false 14 [] (· = .bool true):=by
 have h1:=closed_ok 0 0 awP aw_pap (by decide) [[],[]] [0,0] aw_sch [-1,1] aw_int
 have h2:=bFields_ok 0 0 awP awB 1 [0,1] aw_pap aw_book rfl
 have h3:=(ints_ok (mrkL awP [[],[]] [-1,1] 2) [-2,2] (by decide) (by decide)).mono fun r hr=>hr.trans (bool_eq (b:=true) (by decide+kernel))
 refine good_of mixed tabOk Tryz.func14 rfl rfl Tryz.ntmps14 Tryz.results14 rfl rfl ?_
 (conv=>whnf);(repeat' (first|(refine need_o ?_;conv=>whnf)|((with_reducible first|refine branch_tt ?_|refine branch_ff ?_);conv=>whnf)|((refine call_e h1 ?_);conv=>whnf)|((refine call_e bMake_ok ?_);conv=>whnf)|((refine call_e h2 ?_);conv=>whnf)|((refine call_e h3 ?_);conv=>whnf)|((refine call_e awake19_ok ?_);conv=>whnf)|((refine nils_i [.lst 1 []] ⟨pc_nil 1,trivial⟩ ?_);conv=>whnf)|((with_reducible refine callS_a ?_);conv=>whnf)|(refine draw_i 11 plT23f_0 (by decide+kernel) ?_;(conv=>whnf);fail_if_success (guard_target=~ False))|((with_reducible refine And.intro ?_ ?_)<;>(conv=>whnf))|(with_reducible exact trivial)|((with_reducible refine branch_e (fun hq=>?_) (fun hq=>?_))<;>(try (exfalso;omega))<;>(conv=>whnf))))
 all_goals first
  |exact ret_p rfl rfl
  |(exfalso;revert hq;decide)
  |trace_state
end Go.Proofs.YtihjphblcohdeaaGreatDoor
