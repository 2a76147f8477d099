/- Several texts in one: T20i, Srt, Pl11, T22a, T22b, T22c, Pl22, T22d, T22e, TAs, T22f, Pl23, Pl24, T23g, Laid. (Printed small by a program: remarks, spaces and repeated headings are taken out.) -/
import Derived.Test.YtihjphblcohdeaaGreatDoorS8
import Derived.Test.YtihjphblcohdeaaGreatDoorS4
import Derived.Shelf.Sort.Plain
import Derived.Shelf.Slices.In.SortNone
import Derived.Shelf.Slices.Reverse
import Derived.Sort.OwnSortedInts
import Derived.Test.YtihjphblcohdeaaGreatDoorS2
import Derived.Lib.SlicesCompact
import Derived.Test.YtihjphblcohdeaaGreatDoorS7
import Derived.Test.YtihjphblcohdeaaGreatDoorRows
import Derived.ProofKit
import Derived.LaidMore
import Derived.OpenShut
import Derived.Stop.Joined
set_option linter.unusedVariables false
set_option linter.unusedSimpArgs false
set_option linter.unnecessarySimpa false
set_option linter.unusedSectionVars false
namespace Go.Proofs.YtihjphblcohdeaaGreatDoor
set_option maxRecDepth 10000
open Go.RowKit
def plT20i_0:Plan:=(.take 0 (.take 1 (.take 2 (.take 4 (.take 5 (.alt 3 (.take 6 (.take 7 (.altE 8 .done .stop))) .stop))))))
def plT20i_2:Plan:=(.take 0 (.take 1 (.take 2 (.take 3 (.take 4 (.take 5 (.take 6 (.take 7 (.take 8 (.take 9 (.take 10 (.take 11 (.take 13 (.take 14 (.alt 12 (.take 15 (.alt 16 (.alt 17 (.take 18 (.alt 19 .done .stop)) .stop) .stop)) .stop)))))))))))))))
open F32
theorem mm_eq2 {t e z:Nat} {ks ks':List (List Int)} {rs rs':List (Option (List (List AV)))} (h1:ks=ks') (h2:rs=rs'):AV.mm t e z ks rs=AV.mm t e z ks' rs':=by rw [h1,h2]
theorem st1_put {cs:List Cap} {lb:Cap→Option LabD} {i:Nat} (hi:i<cs.length) {a b c d e f g:Int} (h:st1J cs lb (i+1) i=⟨a,b,c,⟨d,e,f,g⟩⟩):
 ((((((((st1L cs lb i).modify (i:Int).toNat fun x=>x.set 0 (AV.int IntKind.i64 a)).modify (i:Int).toNat
          fun x=>x.set (0+1) (AV.int IntKind.i64 b)).modify
          (i:Int).toNat fun x=>x.set (0+1+1) (AV.int IntKind.i64 c)).modify
          (i:Int).toNat fun x=>x.set (0+1+1+1) (AV.int IntKind.i64 d)).modify
          (i:Int).toNat fun x=>x.set (0+1+1+1+1) (AV.int IntKind.i64 e)).modify
       (i:Int).toNat fun x=>x.set (0+1+1+1+1+1) (AV.int IntKind.i64 f)).modify
   (i:Int).toNat fun x=>x.set (0+1+1+1+1+1+1) (AV.int IntKind.i64 g))=st1L cs lb (i+1):=by
 obtain ⟨A,R,hA,e1,e2⟩:=st_next (cs:=cs) (lb:=lb) hi
 rw [e1,e2,h,Int.toNat_natCast,←hA]
 simp only [mod_mid]
 rfl
theorem st1_at {cs:List Cap} {lb:Cap→Option LabD} {i:Nat} (hs:scanB cs i=true):st1J cs lb (i+1) i=⟨(capAt cs i).src,(capAt cs i).seq,lstJ cs lb i,labJ cs lb i⟩:=by
 rw [st1J,if_pos ⟨Nat.lt_succ_self i,hs⟩]
theorem st1_skip {cs:List Cap} {lb:Cap→Option LabD} {i:Nat} (hi:i<cs.length) (hs:scanB cs i=false):st1L cs lb i=st1L cs lb (i+1):=by
 obtain ⟨A,R,hA,e1,e2⟩:=st_next (cs:=cs) (lb:=lb) hi
 rw [e1,e2,st1J,if_neg (fun h=>by rw [hs] at h;cases h.2)]
theorem rows_old {cs lb i} {ks:List (Int×Int)} {p:Nat} {key:Int×Int} (hn:ks.Nodup) (hp:ks[p]? =some key) (hk:key=keyJ cs lb i) (hm:memB cs lb key i=true):(rowsG cs lb i ks).set p (some ((grpF cs lb i key).map encNt++[encNt i]))=rowsG cs lb (i+1) ks:=by
 apply List.ext_getElem?
 intro j
 rw [List.getElem?_set,rowsG,rowsG,List.getElem?_map,List.getElem?_map,List.length_map]
 have hpl:=(List.getElem?_eq_some_iff.1 hp).1
 by_cases e:p=j
 ·subst e
  rw [if_pos rfl,if_pos hpl,hp]
  simp only [Option.map_some]
  rw [grpF_succ,if_pos hm,List.map_append];rfl
 ·rw [if_neg e]
  cases hj:ks[j]? with
  |none=>rfl
  |some k2=>
   have:memB cs lb k2 i=false:=by
    rw [←Bool.not_eq_true]
    intro h2
    have h3:=mem_key h2
    rw [←hk] at h3
    subst h3
    exact e ((List.getElem?_inj hpl hn).1 (hp.trans hj.symm))
   simp only [Option.map_some]
   rw [grpF_succ,this];simp
theorem rows_new {cs lb i} {ks:List (Int×Int)} (hG:GrI cs lb i ks) (hk:keyJ cs lb i∉ks) (hm:memB cs lb (keyJ cs lb i) i=true):rowsG cs lb i ks++[some [encNt i]]=rowsG cs lb (i+1) (ks++[keyJ cs lb i]):=by
 rw [rowsG,rowsG,List.map_append]
 congr 1
 ·refine List.map_congr_left fun k hk2=>?_
  have:memB cs lb k i=false:=by
   rw [←Bool.not_eq_true]
   intro h2
   exact hk (mem_key h2▸hk2)
  rw [grpF_succ,this];simp
 ·have:grpF cs lb i (keyJ cs lb i)=[]:=by
   rw [grpF,List.filter_eq_nil_iff]
   intro j hj h2
   exact hk (hG.all j (List.mem_range.1 hj) _ h2)
  rw [List.map_singleton,grpF_succ,if_pos hm,this];rfl
def st1F (cs:List Cap) (lb:Cap→Option LabD) (j:Nat):ScS:=if scanB cs j=true then ⟨(capAt cs j).src,(capAt cs j).seq,lstJ cs lb j,labJ cs lb j⟩ else ⟨0,0,0,lab0⟩
theorem st1F_scan {cs lb j} (h:scanB cs j=true):st1F cs lb j=⟨(capAt cs j).src,(capAt cs j).seq,lstJ cs lb j,labJ cs lb j⟩:=if_pos h
theorem st1_full {cs:List Cap} {lb:Cap→Option LabD} {j:Nat} (h:j<cs.length):(st1L cs lb cs.length)[j]? =some (encSS (st1F cs lb j)):=by
 rw [st1L,List.getElem?_map,List.getElem?_range h]
 simp only [Option.map_some]
 rw [st1J,st1F]
 by_cases hs:scanB cs j=true
 ·rw [if_pos ⟨h,hs⟩,if_pos hs]
 ·rw [if_neg fun e=>hs e.2,if_neg hs]
theorem SLF_len {cs lb m}:(SLF cs lb m).length≤m:=by
 rw [SLF,List.length_map]
 have:=List.length_filter_le (scanB cs) (List.range m)
 rwa [List.length_range] at this
theorem PLF_len {cs lb m}:(PLF cs lb m).length≤m:=by
 rw [PLF,List.length_map]
 have:=List.length_filter_le (fun j=>scanB cs j&&finJ cs lb j==1) (List.range m)
 rwa [List.length_range] at this
theorem SLF_next {cs lb m} (h:scanB cs m=true):SLF cs lb (m+1)=SLF cs lb m++[scsJ cs lb m]:=by
 rw [SLF,List.range_succ,List.filter_append,List.map_append];simp [h,SLF]
theorem SLF_skip {cs lb m} (h:scanB cs m=false):SLF cs lb (m+1)=SLF cs lb m:=by
 rw [SLF,List.range_succ,List.filter_append,List.map_append];simp [h,SLF]
theorem PLF_next {cs lb m} (h:scanB cs m=true) (h2:finJ cs lb m=1):PLF cs lb (m+1)=PLF cs lb m++[pagJ cs lb m]:=by
 rw [PLF,List.range_succ,List.filter_append,List.map_append];simp [h,h2,PLF]
theorem PLF_skip {cs lb m} (h:¬(scanB cs m=true∧finJ cs lb m=1)):PLF cs lb (m+1)=PLF cs lb m:=by
 rw [PLF,List.range_succ,List.filter_append,List.map_append]
 have:(scanB cs m&&finJ cs lb m==1)=false:=by
  rw [←Bool.not_eq_true,Bool.and_eq_true,beq_iff_eq];exact h
 simp [this,PLF]
theorem scsJ_eq {cs lb j}:scsJ cs lb j=⟨(capAt cs j).src,(capAt cs j).seq,finJ cs lb j,labJ cs lb j⟩:=rfl
set_option maxHeartbeats 16000000 in
theorem sort_ok (x:Sit) (hx:SitOk x) (l:List Cap) (lb:Cap→Option LabD) (hl:InOk x l lb):Good Tryz.prog TT false 11 [sitV x, .lst 13 (l.map encC)] (fun r=>∃(cs:List Cap) (S:List ScS) (Pg:List Pag),CanC l cs∧S.Perm (SLF cs lb cs.length)∧S.Pairwise (fun a b=>¬cmpSS b a<0)∧Pg.Perm (PLF cs lb cs.length)∧Pg.Pairwise (fun a b=>¬cmpPa b a<0)∧r= .tup [.agg [.lst 7 (S.map encSS), .lst 6 (Pg.map encPa)], .int .i64 0]):=by
 refine good_of mixed tabOk Tryz.func11 rfl rfl Tryz.ntmps11 Tryz.results11 rfl rfl ?_
 (conv=>whnf);(repeat' (first|((refine call_e (check_ok x hx) ?_);conv=>whnf)|(((refine call_i (intakeCan_ok l hl.cps) fun r hr=>?_;obtain ⟨cs,hC,rfl⟩:=hr));conv=>whnf)|((with_reducible refine branch_n (fun hq=>?_) (fun hq=>?_))<;>(try (exfalso;omega))<;>(conv=>whnf))))
 have hcs:=hC.cs hl.cps hl.kind
 have hcl:=hcs.len
 have LC:(cs.map encC).length=cs.length:=List.length_map ..
 (conv=>whnf);(repeat' (first|(refine need_o ?_;conv=>whnf)|((refine mkmap_m 3 1 ?_);conv=>whnf)|fail))
 refine loop_i2 (fun (i:Nat) (ks:List (Int×Int))=>i≤cs.length∧GrI cs lb i ks) (fun i ks=>mkSt [(2, .ptr 2 0),(4, .ptr 4 0),(7, .lst 13 (cs.map encC)),(9, .own (Tg.s 37) 65 7 (st1L cs lb i)),(10, .mm 38 3 1 (ks.map keyV2) (rowsG cs lb i ks)),(39, .lst 13 (cs.map encC)),(40, .int .i64 cs.length),(41, .int .i64 i)] [(2,sitC x),(4,[.nil, .nil])] false) (fun i _=>cs.length-i) 0 [] ⟨by omega,⟨by simp,by simp,fun j h=>absurd h (by omega)⟩⟩ (le_mk ⟨rfl,rfl,rfl,own_eq (by rw [LC];exact (st1_zero cs lb).symm),rfl,rfl,int_eq (by rw [LC]),rfl,trivial⟩ ⟨rfl,rfl,trivial⟩ rfl) ?_
 rintro i ks ⟨hi,hG⟩
 have L1:(st1L cs lb i).length=cs.length:=by simp [st1L]
 rcases Nat.lt_or_ge i cs.length with hil|hil
 ·have hc:cs[i]? =some (capAt cs i):=by rw [capAt,List.getD_eq_getElem?_getD,List.getElem?_eq_getElem hil];rfl
  have hcm:=(hC.mem _).1 (List.mem_of_getElem? hc)
  have hsz:(st1L cs lb i)[i]? =some (encSS ⟨0,0,0,lab0⟩):=by
   rw [st1L,List.getElem?_map,List.getElem?_range hil];simp [st1J]
  rcases hl.kind _ hcm with hk|hk
  ·have hlab:=label_ok cs hcs i (capAt cs i) hc hk (lb (capAt cs i)) (hl.read _ hcm hk)
   by_cases h0:lstJ cs lb i=0
   ·have h00:lstF cs (capAt cs i) (lb (capAt cs i))=0:=h0
    obtain ⟨hrb,lab,hlb⟩:=lst_zero h00
    obtain ⟨i0,e,k,pg,he,hkp,hle,hchl,hc9⟩:=hl.fit _ hcm hk lab hlb
    have hLF:labF cs (capAt cs i) (lb (capAt cs i))=labAt x e k:=by rw [labF,hrb,hlb,←hle];rfl
    have hfit:=fits_ok x hx i0 e he k pg hkp (capAt cs i).ch hchl hc9
    rw [h00,hLF] at hlab
    have hkeyJ:keyJ cs lb i=(e.cand,(k:Int)):=by
     show ((labF cs (capAt cs i) (lb (capAt cs i))).cand,(labF cs (capAt cs i) (lb (capAt cs i))).page)=_
     rw [hLF];rfl
    have hsB:scanB cs i=true:=by rw [scanB,hk];rfl
    have hmB:=mem_self (cs:=cs) (lb:=lb) hsB h0
    have hst1:st1J cs lb (i+1) i=⟨(capAt cs i).src,(capAt cs i).seq,0,labAt x e k⟩:=by
     rw [st1_at hsB,h0,labJ,hLF]
    by_cases hin:keyJ cs lb i∈ks
    ·obtain ⟨p,hp⟩:=List.mem_iff_getElem?.1 hin
     have hp1:(ks.map keyV2)[p]? =some [e.cand,(k:Int)]:=by rw [List.getElem?_map,hp,hkeyJ];rfl
     have hp2:∀j,j<p→(ks.map keyV2)[j]? ≠some [e.cand,(k:Int)]:=fun j hj h=>by
      rw [List.getElem?_map] at h
      obtain ⟨key,h1,h2⟩:=Option.map_eq_some_iff.1 h
      have:key=keyJ cs lb i:=by rw [hkeyJ];exact key_inj h2
      subst this
      have:=(List.getElem?_inj (by have:=(List.getElem?_eq_some_iff.1 h1).1;exact this) hG.nod).1 (h1.trans hp.symm)
      omega
     have hp3:(rowsG cs lb i ks)[p]? =some (some ((grpF cs lb i (keyJ cs lb i)).map encNt)):=by rw [rowsG,List.getElem?_map,hp];rfl
     have LG:((grpF cs lb i (keyJ cs lb i)).map encNt).length≤300:=by
      have:=List.length_filter_le (memB cs lb (keyJ cs lb i)) (List.range i)
      rw [List.length_range] at this
      rw [List.length_map,grpF];omega
     (conv=>whnf);(repeat' (first|(refine arith_i ⟨by omega,by omega⟩ ?_;conv=>whnf)|(refine need_o ?_;conv=>whnf)|((with_reducible refine branch_tt ?_);conv=>whnf)|(with_reducible refine branch_not ?_)|((refine idx_cs hc ?_);conv=>whnf)|((refine call_e (identity_ok (capAt cs i)) ?_);conv=>whnf)|((refine call_e hlab ?_);conv=>whnf)|((refine call_e hfit ?_);conv=>whnf)|((refine map_pl (keys2 ks) ?_);conv=>whnf)|((refine mm_at p _ hp1 hp2 hp3 ?_);conv=>whnf)|((refine aidx_i p rfl (by rw [List.length_map];exact (List.getElem?_eq_some_iff.1 hp).1) ?_);conv=>whnf)|((refine idx_cs0 hsz ?_);conv=>whnf)|(refine draw_i 9 plT20i_0 (by decide+kernel) ?_;(conv=>whnf);fail_if_success (guard_target=~ False))|((with_reducible refine And.intro ?_ ?_)<;>(conv=>whnf))|(with_reducible exact trivial)|((with_reducible refine branch_d (fun hq=>?_) (fun hq=>?_))<;>(try (exfalso;omega))<;>(conv=>whnf))|((with_reducible refine branch_e (fun hq=>?_) (fun hq=>?_))<;>(try (exfalso;omega))<;>(conv=>whnf))|((with_reducible refine branch_n (fun hq=>?_) (fun hq=>?_))<;>(try (exfalso;omega))<;>(conv=>whnf))))
     refine ⟨i+1,ks,⟨by omega,hG.old hin⟩,le_mk ⟨rfl,rfl,rfl,own_eq (st1_put hil hst1),mm_eq2 rfl ((List.set_set ..).trans (rows_old hG.nod hp rfl hmB)),rfl,rfl,rfl,trivial⟩ ⟨rfl,rfl,trivial⟩ rfl,by omega⟩
    ·have hset:(rowsG cs lb i ks++[none]).set ks.length (some [encNt i])=rowsG cs lb i ks++[some [encNt i]]:=by
      rw [List.set_append_right _ _ (by simp [rowsG])];simp [rowsG]
     have hno:[e.cand,(k:Int)]∉ks.map keyV2:=fun h=>by
      obtain ⟨key,h1,h2⟩:=List.mem_map.1 h
      have:key=keyJ cs lb i:=by rw [hkeyJ];exact key_inj h2
      subst this;exact hin h1
     (conv=>whnf);(repeat' (first|(refine arith_i ⟨by omega,by omega⟩ ?_;conv=>whnf)|(refine need_o ?_;conv=>whnf)|((with_reducible refine branch_tt ?_);conv=>whnf)|(with_reducible refine branch_not ?_)|((refine idx_cs hc ?_);conv=>whnf)|((refine call_e (identity_ok (capAt cs i)) ?_);conv=>whnf)|((refine call_e hlab ?_);conv=>whnf)|((refine call_e hfit ?_);conv=>whnf)|((refine map_pl (keys2 ks) ?_);conv=>whnf)|((refine mm_no hno ?_);conv=>whnf)|((refine aidx_i ks.length (by simp) (by simp) ?_);conv=>whnf)|((refine idx_cs0 hsz ?_);conv=>whnf)|(refine draw_i 9 plT20i_0 (by decide+kernel) ?_;(conv=>whnf);fail_if_success (guard_target=~ False))|((with_reducible refine And.intro ?_ ?_)<;>(conv=>whnf))|(with_reducible exact trivial)|((with_reducible refine branch_d (fun hq=>?_) (fun hq=>?_))<;>(try (exfalso;omega))<;>(conv=>whnf))|((with_reducible refine branch_e (fun hq=>?_) (fun hq=>?_))<;>(try (exfalso;omega))<;>(conv=>whnf))|((with_reducible refine branch_n (fun hq=>?_) (fun hq=>?_))<;>(try (exfalso;omega))<;>(conv=>whnf))))
     refine ⟨i+1,ks++[keyJ cs lb i],⟨by omega,hG.new hin hmB⟩,le_mk ⟨rfl,rfl,rfl,own_eq (st1_put hil hst1),mm_eq2 (by rw [List.map_append,hkeyJ];rfl) (hset.trans (rows_new hG hin hmB)),rfl,rfl,rfl,trivial⟩ ⟨rfl,rfl,trivial⟩ rfl,by omega⟩
   ·have h00:¬lstF cs (capAt cs i) (lb (capAt cs i))=0:=h0
    have hsB:scanB cs i=true:=by rw [scanB,hk];rfl
    have hns:∀key,memB cs lb key i=false:=fun key=>by
     rw [memB,beq_eq_false_iff_ne.2 h0,Bool.and_false,Bool.false_and,Bool.false_and]
    (conv=>whnf);(repeat' (first|(refine arith_i ⟨by omega,by omega⟩ ?_;conv=>whnf)|((with_reducible refine branch_ff ?_);conv=>whnf)|((refine idx_cs hc ?_);conv=>whnf)|((refine call_e (identity_ok (capAt cs i)) ?_);conv=>whnf)|((refine call_e hlab ?_);conv=>whnf)|((refine idx_cs0 hsz ?_);conv=>whnf)|(refine draw_i 9 plT20i_0 (by decide+kernel) ?_;(conv=>whnf);fail_if_success (guard_target=~ False))|((with_reducible refine And.intro ?_ ?_)<;>(conv=>whnf))|(with_reducible exact trivial)|((with_reducible refine branch_d (fun hq=>?_) (fun hq=>?_))<;>(try (exfalso;omega))<;>(conv=>whnf))|((with_reducible refine branch_e (fun hq=>?_) (fun hq=>?_))<;>(try (exfalso;omega))<;>(conv=>whnf))|((with_reducible refine branch_n (fun hq=>?_) (fun hq=>?_))<;>(try (exfalso;omega))<;>(conv=>whnf))))
    refine ⟨i+1,ks,⟨by omega,hG.skip hns⟩,le_mk ⟨rfl,rfl,rfl,own_eq (st1_put hil (st1_at hsB)),mm_eq2 rfl (rows_skip hns).symm,rfl,rfl,rfl,trivial⟩ ⟨rfl,rfl,trivial⟩ rfl,by omega⟩
  ·(conv=>whnf);(repeat' (first|(refine arith_i ⟨by omega,by omega⟩ ?_;conv=>whnf)|((refine idx_cs hc ?_);conv=>whnf)|((with_reducible refine branch_d (fun hq=>?_) (fun hq=>?_))<;>(try (exfalso;omega))<;>(conv=>whnf))|((with_reducible refine branch_n (fun hq=>?_) (fun hq=>?_))<;>(try (exfalso;omega))<;>(conv=>whnf))))
   have hsB:scanB cs i=false:=by rw [scanB,hk];rfl
   have hns:∀key,memB cs lb key i=false:=fun key=>by rw [memB,hsB];rfl
   refine ⟨i+1,ks,⟨by omega,hG.skip hns⟩,le_mk ⟨rfl,rfl,rfl,own_eq (st1_skip hil hsB),mm_eq2 rfl (rows_skip hns).symm,rfl,rfl,rfl,trivial⟩ ⟨rfl,rfl,trivial⟩ rfl,by omega⟩
 ·obtain rfl:i=cs.length:=by omega
  (conv=>whnf);(repeat' (first|((with_reducible refine branch_d (fun hq=>?_) (fun hq=>?_))<;>(try (exfalso;omega))<;>(conv=>whnf))))
  refine loop_i (fun m:Nat=>m≤cs.length) (fun m=>mkSt [(4, .ptr 4 0),(7, .lst 13 (cs.map encC)),(9, .own (Tg.s 37) 65 7 (st1L cs lb cs.length)),(10, .mm 38 3 1 (ks.map keyV2) (rowsG cs lb cs.length ks)),(16, .ptr 16 0),(90, .lst 13 (cs.map encC)),(91, .int .i64 cs.length),(92, .int .i64 m)] [(4,[.nil, .nil]),(16,[.own 900 65 7 ((SLF cs lb m).map encSS), .own 901 118 6 ((PLF cs lb m).map encPa)])] false) (fun m=>cs.length-m) 0 (Nat.zero_le _) ((le_adoptBox 16 0 900 65 7 rfl rfl).trans ((le_adoptBox 16 1 901 118 6 rfl rfl).trans (le_mk ⟨rfl,rfl,rfl,rfl,rfl,rfl,int_eq (by rw [LC]),rfl,trivial⟩ ⟨rfl,rfl,trivial⟩ rfl))) ?_
  intro m hm
  rcases Nat.lt_or_ge m cs.length with hil|hil
  ·have hc:cs[m]? =some (capAt cs m):=cap_at hil
   have hcm:=(hC.mem _).1 (List.mem_of_getElem? hc)
   have hsx:=st1_full (cs:=cs) (lb:=lb) hil
   have hSl:=SLF_len (cs:=cs) (lb:=lb) (m:=m)
   have hPl:=PLF_len (cs:=cs) (lb:=lb) (m:=m)
   have LS1:((SLF cs lb m).map encSS).length=(SLF cs lb m).length:=List.length_map ..
   have LP1:((PLF cs lb m).map encPa).length=(PLF cs lb m).length:=List.length_map ..
   have hch:=hl.cps.ch _ hcm
   rcases hl.kind _ hcm with hk|hk
   ·have hsB:scanB cs m=true:=by rw [scanB,hk];rfl
    rw [st1F_scan hsB] at hsx
    by_cases h0:lstJ cs lb m=0
    ·have hmB:=mem_self (cs:=cs) (lb:=lb) hsB h0
     have hin:=hG.all m hil _ hmB
     obtain ⟨p,hp⟩:=List.mem_iff_getElem?.1 hin
     have hp1:(ks.map keyV2)[p]? =some [(labJ cs lb m).cand,(labJ cs lb m).page]:=by rw [List.getElem?_map,hp];rfl
     have hp2:∀j,j<p→(ks.map keyV2)[j]? ≠some [(labJ cs lb m).cand,(labJ cs lb m).page]:=fun j hj h=>by
      rw [List.getElem?_map] at h
      obtain ⟨key,h1,h2⟩:=Option.map_eq_some_iff.1 h
      have:key=keyJ cs lb m:=key_inj h2
      subst this
      have:=(List.getElem?_inj (by have:=(List.getElem?_eq_some_iff.1 h1).1;exact this) hG.nod).1 (h1.trans hp.symm)
      omega
     have hp3:(rowsG cs lb cs.length ks)[p]? =some (some ((grpF cs lb cs.length (keyJ cs lb m)).map encNt)):=by rw [rowsG,List.getElem?_map,hp];rfl
     have hfin:finJ cs lb m=stG cs ((grpF cs lb cs.length (keyJ cs lb m)).headD 0) (grpF cs lb cs.length (keyJ cs lb m)) m:=if_pos h0
     have hgm:m∈grpF cs lb cs.length (keyJ cs lb m):=grp_mem.2 ⟨hil,hmB⟩
     have hglt:∀i∈grpF cs lb cs.length (keyJ cs lb m),i<cs.length:=fun i hi=>(grp_mem.1 hi).1
     have hgl:(grpF cs lb cs.length (keyJ cs lb m)).length≤1000:=by
      have:=List.length_filter_le (memB cs lb (keyJ cs lb m)) (List.range cs.length)
      rw [List.length_range] at this
      rw [grpF];omega
     have hst:Good Tryz.prog TT false 37 [.lst 13 (cs.map encC), .lst 1 ((grpF cs lb cs.length (keyJ cs lb m)).map encNt), .int .i64 m] (· = .int .i64 (finJ cs lb m)):=by
      rw [hfin]
      generalize grpF cs lb cs.length (keyJ cs lb m)=g at *
      cases g with
      |nil=>cases hgm
      |cons g0 g1=>exact stateOf_ok cs hcl (fun c hc=>hl.cps.ch c ((hC.mem c).1 hc)) g0 g1 hglt hgl m
     rw [h0] at hsx
     simp only [encSS] at hsx
     (conv=>whnf);(repeat' (first|(refine arith_i ⟨by omega,by omega⟩ ?_;conv=>whnf)|(refine need_o ?_;conv=>whnf)|((refine idx_cs hc ?_);conv=>whnf)|((refine idx_cs0 hsx ?_);conv=>whnf)|((refine map_pl (keys2 ks) ?_);conv=>whnf)|((refine mm_at p _ hp1 hp2 hp3 ?_);conv=>whnf)|((refine call_e hst ?_);conv=>whnf)|((refine call_e (clone_ok (capAt cs m).ch (by omega)) ?_);conv=>whnf)|((with_reducible refine callS_a ?_);conv=>whnf)|(refine draw_i 19 plT20i_2 (by decide+kernel) ?_;(conv=>whnf);fail_if_success (guard_target=~ False))|((with_reducible refine And.intro ?_ ?_)<;>(conv=>whnf))|(with_reducible exact trivial)|((with_reducible refine branch_d (fun hq=>?_) (fun hq=>?_))<;>(try (exfalso;omega))<;>(conv=>whnf))|((with_reducible refine branch_e (fun hq=>?_) (fun hq=>?_))<;>(try (exfalso;omega))<;>(conv=>whnf))|((with_reducible refine branch_n (fun hq=>?_) (fun hq=>?_))<;>(try (exfalso;omega))<;>(conv=>whnf))))
     all_goals first
      |(have hf1:finJ cs lb m=1:=(by assumption)
        exact ⟨m+1,by omega,le_mk ⟨rfl,rfl,rfl,rfl,rfl,rfl,rfl,rfl,trivial⟩ ⟨rfl,(by rw [SLF_next hsB,PLF_next hsB hf1,List.map_append,List.map_append];rfl),trivial⟩ rfl,by omega⟩)
      |(have hf1:¬finJ cs lb m=1:=(by assumption)
        exact ⟨m+1,by omega,le_mk ⟨rfl,rfl,rfl,rfl,rfl,rfl,rfl,rfl,trivial⟩ ⟨rfl,(by rw [SLF_next hsB,PLF_skip (fun h=>hf1 h.2),List.map_append];rfl),trivial⟩ rfl,by omega⟩)
    ·have hfin:finJ cs lb m=lstJ cs lb m:=if_neg h0
     have hl3:lstJ cs lb m=4∨lstJ cs lb m=6:=by
      rcases lst_cases (cs:=cs) (lb:=lb) (c:=capAt cs m) with h|h|h
      ·exact absurd h h0
      ·exact .inl h.1
      ·exact .inr h.1
     simp only [encSS] at hsx
     (conv=>whnf);(repeat' (first|(refine arith_i ⟨by omega,by omega⟩ ?_;conv=>whnf)|(refine need_o ?_;conv=>whnf)|((refine idx_cs hc ?_);conv=>whnf)|((refine idx_cs0 hsx ?_);conv=>whnf)|((with_reducible refine branch_d (fun hq=>?_) (fun hq=>?_))<;>(try (exfalso;omega))<;>(conv=>whnf))|((with_reducible refine branch_e (fun hq=>?_) (fun hq=>?_))<;>(try (exfalso;omega))<;>(conv=>whnf))|((with_reducible refine branch_n (fun hq=>?_) (fun hq=>?_))<;>(try (exfalso;omega))<;>(conv=>whnf))))
     all_goals exact ⟨m+1,by omega,le_mk ⟨rfl,rfl,rfl,rfl,rfl,rfl,rfl,rfl,trivial⟩ ⟨rfl,(by rw [SLF_next hsB,PLF_skip (fun h=>by omega),List.map_append,scsJ_eq,hfin];rfl),trivial⟩ rfl,by omega⟩
   ·have hsN:scanB cs m=false:=by rw [scanB,hk];rfl
    (conv=>whnf);(repeat' (first|(refine arith_i ⟨by omega,by omega⟩ ?_;conv=>whnf)|((refine idx_cs hc ?_);conv=>whnf)|((with_reducible refine branch_d (fun hq=>?_) (fun hq=>?_))<;>(try (exfalso;omega))<;>(conv=>whnf))|((with_reducible refine branch_n (fun hq=>?_) (fun hq=>?_))<;>(try (exfalso;omega))<;>(conv=>whnf))))
    exact ⟨m+1,by omega,le_mk ⟨rfl,rfl,rfl,rfl,rfl,rfl,rfl,rfl,trivial⟩ ⟨rfl,by rw [SLF_skip hsN,PLF_skip (fun h=>by rw [hsN] at h;cases h.1)];rfl,trivial⟩ rfl,by omega⟩
  ·obtain rfl:m=cs.length:=by omega
   have hSl:=SLF_len (cs:=cs) (lb:=lb) (m:=cs.length)
   have hPl:=PLF_len (cs:=cs) (lb:=lb) (m:=cs.length)
   (conv=>whnf);(repeat' (first|(((refine mcall_i [] [(0,900)] _ Le.refl (sortSS_ok _ (by omega)) rfl rfl rfl trivial ?_;rintro r ov bx' ⟨rfl,rfl,S,hS1,hS2,rfl⟩;refine ⟨rfl,?_⟩));conv=>whnf)|(((refine mcall_i [] [(0,901)] _ Le.refl (sortSP_ok _ (by omega)) rfl rfl rfl trivial ?_;rintro r ov bx' ⟨rfl,rfl,Pg,hP1,hP2,rfl⟩;refine ⟨rfl,?_⟩));conv=>whnf)|((with_reducible refine branch_d (fun hq=>?_) (fun hq=>?_))<;>(try (exfalso;omega))<;>(conv=>whnf))))
   exact ret_t (rs:=[.agg [.lst 7 (S.map encSS), .lst 6 (Pg.map encPa)], .int .i64 0]) ⟨.inr ⟨_,_,rfl,rfl,rc_o,rc_o,trivial⟩, .inl (rc_p rfl),trivial⟩ ⟨cs,S,Pg,hC,hS1,hS2,hP1,hP2,rfl⟩
def inV (S:List ScS) (Pg:List Pag):AV:= .agg [.lst 7 (S.map encSS), .lst 6 (Pg.map encPa)]
theorem sortOut_ok (x:Sit) (hx:SitOk x) (l:List Cap) (lb:Cap→Option LabD) (hl:InOk x l lb):Good Tryz.prog TT false 11 [sitV x, .lst 13 (l.map encC)] (fun r=>∃S Pg,Outc x l lb S Pg∧r= .tup [inV S Pg, .int .i64 0]):=
 (sort_ok x hx l lb hl).mono fun r hr=>by
   obtain ⟨cs,S,Pg,hC,hS1,hS2,hP1,hP2,rfl⟩:=hr
   exact ⟨S,Pg,out_of hx hl hC hS1 hS2 hP1 hP2,rfl⟩
end Go.Proofs.YtihjphblcohdeaaGreatDoor
namespace Go.Proofs.YtihjphblcohdeaaGreatDoor
set_option maxRecDepth 10000
open Go.RowKit Go.Shelf Go.Sort
section
variable {P:Program} {tt:Nat} {b:Bool} {f:Nat}
theorem ints_css {w:World} {X:Nat→Prop}:∀ {xs:List Int} {css:List (List Value)},All2 (fun ds cs=>ds.length=1∧All2 (RepV w X) ds cs) (xs.map encI) css→css=xs.map fun x=>[Value.int .i64 x]
 |[],[],_=>rfl
 |x::xs,c::css,h=>by
  obtain ⟨h1,h2⟩:=h
  have e:=ints_css h2
  obtain ⟨u,us,rfl,h3,h4⟩:=h1.2.cons_inv
  obtain rfl:=h4.nil_inv
  cases h3
  rw [e];rfl
 |[],_::_,h=>h.elim
 |_::_,[],h=>h.elim
theorem css_ints {w:World} {X:Nat→Prop}:∀ {xs:List Int},All2 (fun ds cs=>ds.length=1∧All2 (RepV w X) ds cs) (xs.map encI) (xs.map fun x=>[Value.int .i64 x])
 |[]=>trivial
 |x::xs=>⟨⟨rfl, .int _ _,trivial⟩,css_ints⟩
theorem flat1 {α β:Type} (g:α→β):∀xs:List α,(xs.map fun x=>[g x]).flatten=xs.map g
 |[]=>rfl
 |x::xs=>by simp [flat1 g xs]
theorem put_take (cur:Array Value) (ys:List Int) (h:ys.length≤cur.size):(cur.toList.take (0 * 1)++(ys.map fun x=>[Value.int .i64 x]).flatten++cur.toList.drop (0 * 1+(ys.map fun x=>[Value.int .i64 x]).flatten.length)).toArray=putCells (Value.int .i64) 0 ys.toArray cur:=by
 apply Array.ext'
 simp only [flat1,Nat.zero_mul,List.take_zero,List.nil_append,Nat.zero_add,List.length_map]
 apply List.ext_getElem?
 intro j
 refine Eq.trans ?_ Array.getElem?_toList.symm
 show (ys.map (Value.int .i64)++cur.toList.drop ys.length)[j]? =_
 by_cases hj:j<ys.length
 ·rw [List.getElem?_append_left (by simpa using hj)]
  simp [putCells,hj,show j<cur.size by omega]
 ·rw [List.getElem?_append_right (by simpa using hj)]
  simp [putCells,hj,List.getElem?_drop,show ys.length+(j-ys.length)=j by omega]
theorem refill_ok (hent:Enters P f) (xs ys:List Int) (hl:ys.length=xs.length) (E:Nat)
 (hcall:∀(w:World) (g cap:Nat),Holds (Value.int .i64) w g 0 xs.toArray→g<w.heap.size→Calls P f #[.slice (some ⟨g,0,none⟩) xs.length cap] w fun e w'=>e= .returned (.tuple #[])∧∃n os,w'=grow (putRow (Value.int .i64) (Sort.ahead w n) g 0 ys.toArray) os)
 (hnil:∀(w:World),Calls P f #[.slice none 0 0] w fun e w'=>e= .returned (.tuple #[])∧w'=w):
 GoodM P tt b f [.own 0 E 1 (xs.map encI)] [] (fun r ov bx'=>r= .tup []∧ov=[(1000, .own 0 E 1 (ys.map encI))]∧bx'=[]):=by
 refine ⟨hent,fun w0 G us S hA=>?_⟩
 obtain ⟨u,us',rfl,h1,h2⟩:=hA.cons_inv
 obtain rfl:=h2.nil_inv
 obtain ⟨hT,css,ho,hcs⟩:=(show RC w0.B G w0.toWorld (.own 0 E 1 (xs.map encI)) u from h1)
 obtain rfl:=ints_css hcs
 rcases ho.2 with ⟨rfl,h0⟩|⟨g,cap,cur,rfl,hg,hh,hc,hm,hsz,ht⟩
 ·have hx:xs=[]:=List.eq_nil_of_length_eq_zero (by simpa using h0)
  subst hx
  have hy:ys=[]:=List.eq_nil_of_length_eq_zero (by simpa using hl)
  subst hy
  refine (hnil _).mono ?_
  rintro e w' ⟨rfl,rfl⟩
  exact ⟨_, .tup [],_,[],G,rfl,⟨rfl,rfl,rfl⟩,S,⟨[],rfl,trivial⟩⟩
 ·have hlen:(xs.map encI).length=xs.length:=List.length_map ..
  rw [hlen] at hc ht ⊢
  rw [Nat.mul_one,flat1] at ht
  have hlt:g<w0.toWorld.heap.size:=(Array.getElem?_eq_some_iff.1 hh).1
  have hcur:ys.length≤cur.size:=by omega
  refine (hcall _ g cap (holds_of_blockI hh ht) hlt).mono ?_
  rintro e w' ⟨rfl,n,os,rfl⟩
  have S1:=S.copyOwn (src:=ys.map encI) (dss:=ys.map fun x=>[Value.int .i64 x]) (lo:=0) (z:=1) (T:=0) (n:=(xs.map encI).length) hT hh (by simp [hl]) (by simp;omega) css_ints
  rw [put_take cur ys hcur] at S1
  have S2:=S1.world (w':=grow (putRow (Value.int .i64) (Sort.ahead w0.toWorld n) g 0 ys.toArray) os) ?sz ?bl ?ch
  case sz=>simp [World.setRow,grow,putRow,mapBlock,Sort.ahead]
  case bl=>
   intro k hk
   by_cases hkg:k=g
   ·subst hkg
    rw [heap_sortedI _ hh,setRow_heap _ _ _ _ _ _ hh]
   ·rw [setRow_other _ _ _ _ hkg]
    have:=(grownBy_sortedI (w:=w0.toWorld) (g:=g) (n:=n) (os:=os) ys.toArray).block k (by simpa [World.setRow] using hk) (by simpa using hkg)
    exact this
  case ch=>
   refine S.chg.grown (row:=some g) (grownBy_sortedI _) (fun k hk=>?_) fun _=>by simp [grow,putRow,mapBlock,Sort.ahead]
   injection hk with hk
   subst hk
   rcases (S.ownLt 0 _ g hT rfl).1 with h|h
   ·exact .inr h
   ·exact .inl (.inr h)
  refine ⟨_, .tup [],[(1000, .own 0 E 1 (ys.map encI))],[],G,rfl,⟨rfl,rfl,rfl⟩,?_,⟨[],rfl,trivial⟩⟩
  have e:spl (xs.map encI) 0 (ys.map encI)=ys.map encI:=by simp [spl,hl]
  refine { S2 with slot:=fun i=>?_,box:=fun t cs h=>by cases h }
  by_cases hi:i=1000
  ·subst hi
   have:=S2.slot 1000
   rw [show ((mkSt (ovOf 1000 [AV.own 0 E 1 (xs.map encI)]) [] b).map (copyF 0 1 0 (ys.map encI))).slot 1000= .own 0 E 1 (spl (xs.map encI) 0 (ys.map encI)) from rfl,e] at this
   exact this
  ·rw [show (mkSt [(1000,AV.own 0 E 1 (ys.map encI))] [] b).slot i= .undef from by simp [mkSt,lk,beq_ne hi]]
   trivial
theorem shrink_ok (hent:Enters P f) (xs ys:List Int) (hl:ys.length≤xs.length) (E:Nat)
 (hcall:∀(w:World) (g cap:Nat),Holds (Value.int .i64) w g 0 xs.toArray→g<w.heap.size→xs.length≤cap→Calls P f #[.slice (some ⟨g,0,none⟩) xs.length cap] w fun e w'=>e= .returned (.slice (some ⟨g,0,none⟩) ys.length cap)∧∃n os,w'=grow (putRow (Value.int .i64) (Sort.ahead w n) g 0 (ys++List.replicate (xs.length-ys.length) 0).toArray) os)
 (hnil:∀(w:World),Calls P f #[.slice none 0 0] w fun e w'=>e= .returned (.slice none 0 0)∧w'=w):
 GoodM P tt b f [.own 0 E 1 (xs.map encI)] [] (fun r ov bx'=>r= .own 0 E 1 (ys.map encI)∧ov=[]∧bx'=[]):=by
 generalize hzs:ys++List.replicate (xs.length-ys.length) 0=zs at hcall
 have hzl:zs.length=xs.length:=by rw [←hzs];simp;omega
 have hzt:zs.take ys.length=ys:=by rw [←hzs];simp
 refine ⟨hent,fun w0 G us S hA=>?_⟩
 obtain ⟨u,us',rfl,h1,h2⟩:=hA.cons_inv
 obtain rfl:=h2.nil_inv
 obtain ⟨hT,css,ho,hcs⟩:=(show RC w0.B G w0.toWorld (.own 0 E 1 (xs.map encI)) u from h1)
 obtain rfl:=ints_css hcs
 have hS0:∀ {s:St} {G:Gh} {w':World},Sim tt w0 G s a0 w'→s.tp=b→Sim tt w0 G (mkSt [] [] b) a0 w':=fun {s G w'} S' hb=>by
  subst hb
  exact { S' with slot:=fun i=>trivial,box:=fun t cs h=>by cases h }
 rcases ho.2 with ⟨rfl,h0⟩|⟨g,cap,cur,rfl,hg,hh,hc,hm,hsz,ht⟩
 ·have hx:xs=[]:=List.eq_nil_of_length_eq_zero (by simpa using h0)
  subst hx
  have hy:ys=[]:=List.eq_nil_of_length_eq_zero (by simpa using hl)
  subst hy
  refine (hnil _).mono ?_
  rintro e w' ⟨rfl,rfl⟩
  exact ⟨_, .own 0 E 1 [],[],[],G,rfl,⟨rfl,rfl,rfl⟩,hS0 S rfl,h1⟩
 ·have hlen:(xs.map encI).length=xs.length:=List.length_map ..
  rw [hlen] at hc ht ⊢
  rw [Nat.mul_one,flat1] at ht
  have hlt:g<w0.toWorld.heap.size:=(Array.getElem?_eq_some_iff.1 hh).1
  have hcur:zs.length≤cur.size:=by omega
  refine (hcall _ g cap (holds_of_blockI hh ht) hlt hc).mono ?_
  rintro e w' ⟨rfl,n,os,rfl⟩
  have S1:=S.copyOwn (src:=zs.map encI) (dss:=zs.map fun x=>[Value.int .i64 x]) (lo:=0) (z:=1) (T:=0) (n:=(xs.map encI).length) hT hh (by simp [hzl]) (by simp;omega) css_ints
  rw [put_take cur zs hcur] at S1
  have S2:=S1.world (w':=grow (putRow (Value.int .i64) (Sort.ahead w0.toWorld n) g 0 zs.toArray) os) ?sz ?bl ?ch
  case sz=>simp [World.setRow,grow,putRow,mapBlock,Sort.ahead]
  case bl=>
   intro k hk
   by_cases hkg:k=g
   ·subst hkg
    rw [heap_sortedI _ hh,setRow_heap _ _ _ _ _ _ hh]
   ·rw [setRow_other _ _ _ _ hkg]
    have:=(grownBy_sortedI (w:=w0.toWorld) (g:=g) (n:=n) (os:=os) zs.toArray).block k (by simpa [World.setRow] using hk) (by simpa using hkg)
    exact this
  case ch=>
   refine S.chg.grown (row:=some g) (grownBy_sortedI _) (fun k hk=>?_) fun _=>by simp [grow,putRow,mapBlock,Sort.ahead]
   injection hk with hk
   subst hk
   rcases (S.ownLt 0 _ g hT rfl).1 with h|h
   ·exact .inr h
   ·exact .inl (.inr h)
  have e:spl (xs.map encI) 0 (zs.map encI)=zs.map encI:=by simp [spl,hzl]
  have hsl:=S2.slot 1000
  rw [show ((mkSt (ovOf 1000 [AV.own 0 E 1 (xs.map encI)]) [] b).map (copyF 0 1 0 (zs.map encI))).slot 1000= .own 0 E 1 (spl (xs.map encI) 0 (zs.map encI)) from rfl,e] at hsl
  obtain ⟨hT2,css2,ho2,hcs2⟩:=(show RC w0.B G _ (.own 0 E 1 (zs.map encI)) _ from hsl)
  rw [hT] at hT2
  injection hT2 with hT2
  rw [←hT2] at ho2
  obtain rfl:=ints_css hcs2
  rcases ho2.2 with ⟨e0,_⟩|⟨g2,cap2,cur2,eu,k1,k2,k3,k4,k5,k6⟩
  ·cases e0
  ·simp only [Value.slice.injEq,Option.some.injEq,Addr.mk.injEq,and_true] at eu
   obtain ⟨rfl, -,rfl⟩:=eu
   have S3:=S2.setOwn 0 (.slice (some ⟨g,0,none⟩) ys.length cap) (Nat.le_refl _) (fun _ _ _=>rfl) (fun b hb'=> .inl ⟨_,hT,hb'⟩) S2.chg
   refine ⟨_, .own 0 E 1 (ys.map encI),[],[],{ G with own:=upd G.own 0 (some (.slice (some ⟨g,0,none⟩) ys.length cap)) },rfl,⟨rfl,rfl,rfl⟩,hS0 S3 rfl,?_⟩
   have hly:(ys.map encI).length=ys.length:=List.length_map ..
   rw [flat1,List.length_map,hzl,Nat.mul_one] at k6
   refine show RC w0.B { G with own:=upd G.own 0 (some (.slice (some ⟨g,0,none⟩) ys.length cap)) } _ (.own 0 E 1 (ys.map encI)) _ from ⟨by simp [upd],ys.map fun x=>[Value.int .i64 x],⟨?_, .inr ⟨g,cap,cur2,by rw [hly],k1,k2,by rw [hly];omega,k4,k5,?_⟩⟩,css_ints⟩
   ·rw [flat1];simp
   ·rw [flat1,hly,Nat.mul_one]
    have:=congrArg (List.take ys.length) k6
    rw [List.take_take,Nat.min_eq_left hl,←List.map_take,hzt] at this
    exact this
end
end Go.Proofs.YtihjphblcohdeaaGreatDoor
namespace Go.Proofs.YtihjphblcohdeaaGreatDoor
open Go.RowKit
theorem comp_sorted {d:Array Int} (hs:∀i j,i≤j→j<d.size→d[i]! ≤d[j]!):∀m,m≤d.size→(Lib.compactUpTo d m).Pairwise (· < ·)∧(∀x∈Lib.compactUpTo d m,0<m∧x≤d[m-1]!)∧∀x,x∈Lib.compactUpTo d m↔ ∃j,j<m∧d[j]! =x
 |0,_=>by simp [Lib.compactUpTo]
 |m+1,h=>by
  obtain ⟨h1,h2,h3⟩:=comp_sorted hs m (by omega)
  have hm:d[m-1]! ≤d[m]! :=hs _ _ (by omega) (by omega)
  rw [Lib.compactUpTo_succ]
  by_cases hk:Lib.keeps d m=true
  ·rw [if_pos hk]
   refine ⟨?_,?_,?_⟩
   ·rw [List.pairwise_append]
    refine ⟨h1,List.pairwise_singleton ..,fun x hx y hy=>?_⟩
    rw [List.mem_singleton] at hy
    subst hy
    obtain ⟨hp,hle⟩:=h2 x hx
    have:d[m]! ≠d[m-1]! :=by
     unfold Lib.keeps at hk
     rw [decide_eq_true_iff] at hk
     exact hk.resolve_left (by omega)
    omega
   ·intro x hx
    rw [List.mem_append,List.mem_singleton] at hx
    refine ⟨by omega,?_⟩
    show x≤d[m]!
    rcases hx with hx|rfl
    ·have:=(h2 x hx).2;omega
    ·exact Int.le_refl _
   ·intro x
    rw [List.mem_append,List.mem_singleton,h3]
    constructor
    ·rintro (⟨j,hj,e⟩|rfl)
     ·exact ⟨j,by omega,e⟩
     ·exact ⟨m,by omega,rfl⟩
    ·rintro ⟨j,hj,e⟩
     rcases Nat.lt_or_ge j m with h'|h'
     ·exact .inl ⟨j,h',e⟩
     ·obtain rfl:j=m:=by omega
      exact .inr e.symm
  ·rw [if_neg hk,List.append_nil]
   unfold Lib.keeps at hk
   rw [decide_eq_true_iff] at hk
   have h0:m≠0:=fun e=>hk (.inl e)
   have e1:d[m]! =d[m-1]! :=Classical.byContradiction fun e=>hk (.inr e)
   refine ⟨h1,fun x hx=>⟨by omega,?_⟩,fun x=>?_⟩
   ·show x≤d[m]!
    have:=(h2 x hx).2;omega
   ·rw [h3]
    constructor
    ·rintro ⟨j,hj,e⟩;exact ⟨j,by omega,e⟩
    ·rintro ⟨j,hj,e⟩
     rcases Nat.lt_or_ge j m with h'|h'
     ·exact ⟨j,h',e⟩
     ·obtain rfl:j=m:=by omega
      exact ⟨j-1,by omega,by rw [←e1];exact e⟩
theorem comp_sort (xs:List Int):(Lib.compact (xs.mergeSort fun x y=>decide (x≤y))).Pairwise (· < ·)∧∀x,x∈Lib.compact (xs.mergeSort fun x y=>decide (x≤y))↔x∈xs:=by
 have hp:=List.pairwise_mergeSort (le:=fun x y:Int=>decide (x≤y)) (fun a b c h1 h2=>by simp at *;omega) (fun a b=>by simp;omega) xs
 have hm:∀x,x∈xs.mergeSort (fun x y=>decide (x≤y))↔x∈xs:=fun x=>List.mem_mergeSort
 generalize xs.mergeSort (fun x y=>decide (x≤y))=zs at hp hm ⊢
 have get:∀i,i<zs.length→zs.toArray[i]! =zs[i]! :=fun i hi=>by simp
 obtain ⟨h1, -,h3⟩:=comp_sorted (d:=zs.toArray) (fun i j hij hj=>by
  have hj':j<zs.length:=by simpa using hj
  rcases Nat.lt_or_ge i j with h|h
  ·have:=List.pairwise_iff_getElem.1 hp i j (by omega) hj' h
   simp only [List.getElem!_toArray]
   rw [getElem!_pos zs i (by omega),getElem!_pos zs j hj']
   simpa using this
  ·obtain rfl:i=j:=by omega
   exact Int.le_refl _) zs.length (by simp)
 refine ⟨h1,fun x=>?_⟩
 rw [←hm]
 show x∈Lib.compactUpTo zs.toArray zs.length↔_
 rw [h3,List.mem_iff_getElem]
 constructor
 ·rintro ⟨j,hj,e⟩
  exact ⟨j,hj,by rw [←e];simp only [List.getElem!_toArray];rw [getElem!_pos zs j hj]⟩
 ·rintro ⟨j,hj,e⟩
  exact ⟨j,hj,by rw [←e];simp only [List.getElem!_toArray];rw [getElem!_pos zs j hj]⟩
section
variable {α:Type}
end
end Go.Proofs.YtihjphblcohdeaaGreatDoor
namespace Go.Proofs.YtihjphblcohdeaaGreatDoor
set_option maxRecDepth 10000
open Go.RowKit Go.Shelf Go.Sort
theorem sortI_ok {b:Bool} (xs:List Int) (hl:xs.length≤1000000):GoodM Tryz.prog TT b 128 [.own 0 3 1 (xs.map encI)] [] (fun r ov bx'=>r= .tup []∧ov=[(1000, .own 0 3 1 ((xs.mergeSort fun x y=>decide (x≤y)).map encI))]∧bx'=[]):=
 refill_ok (enters_of Tryz.func128 rfl rfl) xs _ (by simp) _ (fun w g cap hH hb=>Any.slices_Sort_int laysSrt g 0 cap xs w hH hb (by omega)) (fun w=>Any.slices_Sort_int_none laysSrt none 0 w)
theorem compact_le {xs:List Int}:(Lib.compact xs).length≤xs.length:=by
 unfold Lib.compact Lib.compactUpTo
 rw [List.length_map]
 exact Nat.le_trans (List.length_filter_le ..) (by simp)
theorem compactI_ok {b:Bool} (xs:List Int) (hl:xs.length≤1000000):GoodM Tryz.prog TT b 129 [.own 0 3 1 (xs.map encI)] [] (fun r ov bx'=>r= .own 0 3 1 ((Lib.compact xs).map encI)∧ov=[]∧bx'=[]):=
 shrink_ok (enters_of Tryz.func129 rfl rfl) xs _ compact_le _ (fun w g cap hH hb hc=>(Any.slices_Compact_int laysCpt g 0 cap xs w hH (by omega) hc).mono fun e w' h=>⟨h.1,by obtain ⟨n,hn⟩:=h.2;exact ⟨n, #[],by rw [hn,grow_empty]⟩⟩) (fun w=>Any.slices_Compact_int_empty laysCpt none 0 w)
end Go.Proofs.YtihjphblcohdeaaGreatDoor
namespace Go.Proofs.YtihjphblcohdeaaGreatDoor
set_option maxRecDepth 10000
open Go.RowKit
def plT22b_0:Plan:=(.take 0 (.take 1 (.take 2 (.take 3 (.take 5 (.take 6 (.take 7 (.take 8 (.alt 4 (.alt 9 (.alt 10 (.alt 11 (.take 12 .done) .stop) .stop) .stop) .stop)))))))))
def plT22b_2:Plan:=(.take 0 (.take 1 (.take 2 (.take 4 (.take 5 (.take 6 (.alt 3 (.alt 7 (.alt 8 (.alt 9 (.take 10 .done) .stop) .stop) .stop) .stop)))))))
def plT22b_4:Plan:=(.take 0 (.take 1 (.take 2 (.take 3 (.take 4 (.take 5 (.take 6 (.take 7 (.take 8 (.take 9 (.take 10 (.alt 11 (.take 12 (.take 13 .done)) .stop))))))))))))
def plT22b_7:Plan:=(.take 0 (.take 1 (.take 2 (.take 3 (.take 4 (.take 5 (.take 6 (.take 7 (.take 8 (.take 9 (.take 10 (.take 11 (.take 12 (.alt 13 (.take 14 (.take 15 .done)) .stop))))))))))))))
def plT22b_13:Plan:=(.take 0 (.take 1 (.take 2 (.take 3 (.take 4 (.take 5 (.take 6 (.take 7 (.take 8 (.take 9 (.take 10 (.take 11 (.take 12 (.take 13 (.take 14 (.take 15 (.take 16 (.take 17 (.take 18 (.alt 19 (.take 20 .done) .stop))))))))))))))))))))
open F32
theorem compareScans_ok (a b c d:Int):Good Tryz.prog TT false 81 [.agg [.int .i64 a, .int .i64 b], .agg [.int .i64 c, .int .i64 d]] (· = .int .i64 (orF [cmpI a c,cmpI b d])):=by
 refine good_of mixed tabOk Tryz.func81 rfl rfl Tryz.ntmps81 Tryz.results81 rfl rfl ?_
 (conv=>whnf);(repeat' (first|((refine call_e (compare_ok a c) ?_);conv=>whnf)|((refine call_e (compare_ok b d) ?_);conv=>whnf)|((refine call_e (or_ok [cmpI a c,cmpI b d] (by simp)) ?_);conv=>whnf)|(refine draw_i 13 plT22b_0 (by decide+kernel) ?_;(conv=>whnf);fail_if_success (guard_target=~ False))|((with_reducible refine And.intro ?_ ?_)<;>(conv=>whnf))|(with_reducible exact trivial)))
 all_goals exact ret_p rfl rfl
theorem comparePages_ok (p:Pag) (c k:Int):Good Tryz.prog TT false 78 [.agg (encPa p), .int .i64 c, .int .i64 k] (· = .int .i64 (orF [cmpI p.cand c,cmpI p.page k])):=by
 refine good_of mixed tabOk Tryz.func78 rfl rfl Tryz.ntmps78 Tryz.results78 rfl rfl ?_
 (conv=>whnf);(repeat' (first|((refine call_e (compare_ok p.cand c) ?_);conv=>whnf)|((refine call_e (compare_ok p.page k) ?_);conv=>whnf)|((refine call_e (or_ok [cmpI p.cand c,cmpI p.page k] (by simp)) ?_);conv=>whnf)|(refine draw_i 11 plT22b_2 (by decide+kernel) ?_;(conv=>whnf);fail_if_success (guard_target=~ False))|((with_reducible refine And.intro ?_ ?_)<;>(conv=>whnf))|(with_reducible exact trivial)))
 all_goals exact ret_p rfl rfl
theorem expectedOf_ok (x:Sit) (hx:SitOk x) (i:Nat) (e:ExpD) (he:x.exp[i]? =some e):Good Tryz.prog TT false 55 [sitV x, .int .i64 e.cand] (· = .tup [.agg (encE e), .bool true]):=by
 have hbs:=bsE_ok x.exp 98 e.cand (fun e'=>cmpI e'.cand e.cand) (exp_bso hx e.cand) (by have:=sit_len hx;omega) fun f _=>expOf1_ok f e.cand
 have hbs':=hbs.mono fun r hr=>exp_place hx he hr
 refine good_of mixed tabOk Tryz.func55 rfl rfl Tryz.ntmps55 Tryz.results55 rfl rfl ?_
 (conv=>whnf);(repeat' (first|((with_reducible refine branch_tt ?_);conv=>whnf)|(with_reducible refine branch_not ?_)|((refine call_e hbs' ?_);conv=>whnf)|((refine idx_cs he ?_);conv=>whnf)|fail))
 all_goals exact ret_t (rs:=[.agg (encE e), .bool true]) ⟨.inr ⟨_,_,rfl,rfl,rc_p rfl,rc_p rfl,rc_p rfl,trivial⟩, .inl (rc_p rfl),trivial⟩ rfl
theorem pageOf1_ok (p:Pag) (c k:Int):Good Tryz.prog TT false 87 [.agg (encPa p), .agg [.int .i64 c, .int .i64 k]] (· = .int .i64 (orF [cmpI p.cand c,cmpI p.page k])):=by
 refine good_of mixed tabOk Tryz.func87 rfl rfl Tryz.ntmps87 Tryz.results87 rfl rfl ?_
 (conv=>whnf);(repeat' (first|((refine call_e (comparePages_ok p c k) ?_);conv=>whnf)|fail))
 all_goals exact ret_p rfl rfl
theorem belongs1_ok (s:ScS) (a b:Int):Good Tryz.prog TT false 80 [.agg (encSS s), .agg [.int .i64 a, .int .i64 b]] (· = .int .i64 (orF [cmpI s.src a,cmpI s.seq b])):=by
 refine good_of mixed tabOk Tryz.func80 rfl rfl Tryz.ntmps80 Tryz.results80 rfl rfl ?_
 (conv=>whnf);(repeat' (first|((refine call_e (compareScans_ok s.src s.seq a b) ?_);conv=>whnf)|fail))
 all_goals exact ret_p rfl rfl
def pgF (Pg:List Pag) (c k:Int):Option Pag:=Pg.find? fun p=>decide (p.cand=c∧p.page=k)
def pag0:Pag:=⟨0,0,0,[],0,0⟩
theorem bso_lex {α:Type} {s:List α} {ks:List (α→Int)} (d:α) (h:s.Pairwise fun a b=>lexF ks a b<0) (he:∀a b,lexF ks b d=0→lexF ks a d=lexF ks a b):BsO s fun a=>lexF ks a d:=h.imp fun {a b} hab h0=>by
 replace h0:0≤lexF ks a d:=h0
 show 0<lexF ks b d
 rcases Int.lt_trichotomy (lexF ks b d) 0 with h1|h1|h1
 ·have:=lex_trans hab h1;omega
 ·have:=he a b h1;omega
 ·exact h1
theorem lexPa (a d:Pag):lexF [Pag.cand,Pag.page] a d=orF [cmpI a.cand d.cand,cmpI a.page d.page]:=rfl
theorem lexSS (a d:ScS):lexF [ScS.src,ScS.seq] a d=orF [cmpI a.src d.src,cmpI a.seq d.seq]:=rfl
theorem bso_pag {Pg:List Pag} (h:Pg.Pairwise fun a b=>cmpPa a b<0) (c k:Int):BsO Pg fun p=>orF [cmpI p.cand c,cmpI p.page k]:=
 bso_lex (ks:=[Pag.cand,Pag.page]) (⟨c,k,0,[],0,0⟩:Pag) h fun a b hb=>by
  obtain ⟨h1,h2⟩:=(cmpPa_zero (a:=b) (b:=⟨c,k,0,[],0,0⟩)).1 hb
  rw [lexPa,lexPa,h1,h2]
theorem bso_scs {S:List ScS} (h:S.Pairwise fun a b=>cmpSS a b<0) (c k:Int):BsO S fun p=>orF [cmpI p.src c,cmpI p.seq k]:=
 bso_lex (ks:=[ScS.src,ScS.seq]) (⟨c,k,0,lab0⟩:ScS) h fun a b hb=>by
  obtain ⟨h1,h2⟩:=(cmpSS_zero (a:=b) (b:=⟨c,k,0,lab0⟩)).1 hb
  rw [lexSS,lexSS,h1,h2]
theorem pag_uniq {Pg:List Pag} (h:Pg.Pairwise fun a b=>cmpPa a b<0) {i j:Nat} {p q:Pag} (hp:Pg[i]? =some p) (hq:Pg[j]? =some q) (h1:p.cand=q.cand) (h2:p.page=q.page):i=j∧p=q:=by
 have hz:cmpPa p q=0∧cmpPa q p=0:=⟨cmpPa_zero.2 ⟨h1,h2⟩,cmpPa_zero.2 ⟨h1.symm,h2.symm⟩⟩
 have hl:=List.pairwise_iff_getElem.1 h
 obtain ⟨a1,a2⟩:=List.getElem?_eq_some_iff.1 hp
 obtain ⟨b1,b2⟩:=List.getElem?_eq_some_iff.1 hq
 have hij:i=j:=by
  rcases Nat.lt_trichotomy i j with h3|h3|h3
  ·have:=hl i j a1 b1 h3;rw [a2,b2] at this;omega
  ·exact h3
  ·have:=hl j i b1 a1 h3;rw [a2,b2] at this;omega
 subst hij
 rw [hp] at hq;cases hq;exact ⟨rfl,rfl⟩
theorem pgF_some {Pg:List Pag} (h:Pg.Pairwise fun a b=>cmpPa a b<0) {p:Pag} (hp:p∈Pg):pgF Pg p.cand p.page=some p:=by
 cases hf:pgF Pg p.cand p.page with
 |none=>
  rw [pgF,List.find?_eq_none] at hf
  exact absurd (decide_eq_true (p:=p.cand=p.cand∧p.page=p.page) ⟨rfl,rfl⟩) (hf p hp)
 |some q=>
  have h1:=List.find?_some hf
  have h2:=List.mem_of_find?_eq_some hf
  rw [decide_eq_true_eq] at h1
  obtain ⟨i,hi⟩:=List.mem_iff_getElem?.1 hp
  obtain ⟨j,hj⟩:=List.mem_iff_getElem?.1 h2
  rw [(pag_uniq h hj hi h1.1 h1.2).2]
theorem pgF_mem {Pg:List Pag} {c k:Int} {p:Pag} (h:pgF Pg c k=some p):p∈Pg∧p.cand=c∧p.page=k:=by
 have h1:=List.find?_some h
 rw [decide_eq_true_eq] at h1
 exact ⟨List.mem_of_find?_eq_some h,h1⟩
theorem pgF_none {Pg:List Pag} {c k:Int} (h:∀p∈Pg,¬(p.cand=c∧p.page=k)):pgF Pg c k=none:=by
 rw [pgF,List.find?_eq_none]
 intro p hp
 rw [decide_eq_true_eq];exact h p hp
theorem pageOf_ok (S:List ScS) (Pg:List Pag) (hl:Pg.length≤300) (h:Pg.Pairwise fun a b=>cmpPa a b<0) (c k:Int):Good Tryz.prog TT false 49 [inV S Pg, .int .i64 c, .int .i64 k] (· = .tup [.agg (encPa ((pgF Pg c k).getD pag0)), .bool (pgF Pg c k).isSome]):=by
 have hbs:=bsP_ok Pg 87 c k (fun p=>orF [cmpI p.cand c,cmpI p.page k]) (bso_pag h c k) (by omega) fun p _=>pageOf1_ok p c k
 have hz:∀p:Pag,orF [cmpI p.cand c,cmpI p.page k]=0↔p.cand=c∧p.page=k:=fun p=>cmpPa_zero (a:=p) (b:=⟨c,k,0,[],0,0⟩)
 refine good_of mixed tabOk Tryz.func49 rfl rfl Tryz.ntmps49 Tryz.results49 rfl rfl ?_
 (conv=>whnf);(repeat' (first|((with_reducible first|refine branch_tt ?_|refine branch_ff ?_);conv=>whnf)|(with_reducible refine branch_not ?_)|(((refine call_i hbs fun r hr=>?_;rcases hr with ⟨i,p,hp,h0,rfl⟩|⟨h0,i,rfl⟩<;>(conv=>whnf)));conv=>whnf)|((refine idx_cs hp ?_);conv=>whnf)|fail))
 ·have h1:=(hz p).1 h0
  have h2:pgF Pg c k=some p:=by rw [←h1.1,←h1.2];exact pgF_some h (List.mem_of_getElem? hp)
  exact ret_t (rs:=[.agg (encPa p), .bool true]) ⟨.inr ⟨_,_,rfl,rfl,rc_p rfl,rc_p rfl,rc_p rfl,rc_p rfl,rc_p rfl,rc_p rfl,trivial⟩, .inl (rc_p rfl),trivial⟩ (by rw [h2];rfl)
 ·have h2:pgF Pg c k=none:=pgF_none fun p hp hh=>h0 p hp ((hz p).2 hh)
  exact ret_t (rs:=[.agg (encPa pag0), .bool false]) ⟨.inr ⟨_,_,rfl,rfl,rc_p rfl,rc_p rfl,rc_p rfl,rc_n,rc_p rfl,rc_p rfl,trivial⟩, .inl (rc_p rfl),trivial⟩ (by rw [h2];rfl)
def usedN (S:List ScS) (i:Nat):Nat:=((S.take i).filter fun s=>decide (s.state=1)).length
theorem usedN_succ {S:List ScS} {i:Nat} {s:ScS} (h:S[i]? =some s):usedN S (i+1)=usedN S i+(if s.state=1 then 1 else 0):=by
 rw [usedN,List.take_add_one,h,List.filter_append,List.length_append,←usedN]
 by_cases h6:s.state=1<;>simp [h6]
theorem usedN_le {S:List ScS} {i:Nat}:usedN S i≤i:=by
 rw [usedN]
 have:=List.length_filter_le (fun s=>decide (s.state=1)) (S.take i)
 rw [List.length_take] at this;omega
set_option maxHeartbeats 4000000 in
theorem validStates_ok (S:List ScS) (hl:S.length≤300) (hst:∀s∈S,1≤s.state∧s.state≤6) (h:S.Pairwise fun a b=>cmpSS a b<0):Good Tryz.prog TT false 77 [.lst 7 (S.map encSS)] (· = .tup [.int .i64 (usedN S S.length:Nat), .bool true]):=by
 have LS:(S.map encSS).length=S.length:=List.length_map ..
 refine good_of mixed tabOk Tryz.func77 rfl rfl Tryz.ntmps77 Tryz.results77 rfl rfl ?_
 (conv=>whnf)
 refine loop_i (fun i:Nat=>i≤S.length) (fun i=>mkSt [(0, .lst 7 (S.map encSS)),(2, .int .i64 (usedN S i:Nat)),(6, .lst 7 (S.map encSS)),(7, .int .i64 S.length),(8, .int .i64 i)] [] false) (fun i=>S.length-i) 0 (Nat.zero_le _) (le_mk ⟨rfl,rfl,rfl,int_eq (by rw [LS]),rfl,trivial⟩ trivial rfl) ?_
 intro i hi
 rcases Nat.lt_or_ge i S.length with hil|hil
 ·obtain ⟨s,hs⟩:∃s,S[i]? =some s:=⟨_,List.getElem?_eq_getElem hil⟩
  have h1:=hst s (List.mem_of_getElem? hs)
  have hu:=usedN_succ hs
  have hul:=usedN_le (S:=S) (i:=i)
  have hgo:∀n:Int,n=(usedN S i:Int)+(if s.state=1 then 1 else 0)→AV.int .i64 n= .int .i64 (usedN S (i+1):Nat):=fun n hn=>int_eq (by rw [hu,hn];split<;>omega)
  rcases Nat.eq_zero_or_pos i with h0|h0
  ·(conv=>whnf);(repeat' (first|(refine arith_i ⟨by omega,by omega⟩ ?_;conv=>whnf)|((with_reducible refine branch_ff ?_);conv=>whnf)|((refine idx_cs hs ?_);conv=>whnf)|(refine draw_i 14 plT22b_4 (by decide+kernel) ?_;(conv=>whnf);fail_if_success (guard_target=~ False))|((with_reducible refine And.intro ?_ ?_)<;>(conv=>whnf))|(with_reducible exact trivial)|((with_reducible refine branch_d (fun hq=>?_) (fun hq=>?_))<;>(try (exfalso;omega))<;>(conv=>whnf))|((with_reducible refine branch_e (fun hq=>?_) (fun hq=>?_))<;>(try (exfalso;omega))<;>(conv=>whnf))))
   ·exact ⟨i+1,by omega,le_mk ⟨rfl,hgo _ (by rw [if_pos (by assumption)]),rfl,rfl,rfl,trivial⟩ trivial rfl,by omega⟩
   ·exact ⟨i+1,by omega,le_mk ⟨rfl,hgo _ (by rw [if_neg (by assumption)];omega),rfl,rfl,rfl,trivial⟩ trivial rfl,by omega⟩
  ·obtain ⟨s0,hs0⟩:∃s,S[i-1]? =some s:=⟨_,List.getElem?_eq_getElem (by omega)⟩
   have hlt:=(List.pairwise_iff_getElem.1 h) (i-1) i (by omega) hil (by omega)
   rw [(List.getElem?_eq_some_iff.1 hs).2,(List.getElem?_eq_some_iff.1 hs0).2] at hlt
   have hcs:=compareScans_ok s0.src s0.seq s.src s.seq
   have hlt2:orF [cmpI s0.src s.src,cmpI s0.seq s.seq]<0:=hlt
   generalize orF [cmpI s0.src s.src,cmpI s0.seq s.seq]=v at *
   (conv=>whnf);(repeat' (first|(refine arith_i ⟨by omega,by omega⟩ ?_;conv=>whnf)|((with_reducible first|refine branch_tt ?_|refine branch_ff ?_);conv=>whnf)|((refine idx_cs hs ?_);conv=>whnf)|((refine idx_ms (x:=s0) (by omega) (by rw [show ((i:Int)-1).toNat=i-1 by omega];exact hs0) ?_);conv=>whnf)|((refine call_e hcs ?_);conv=>whnf)|(refine draw_i 14 plT22b_4 (by decide+kernel) ?_;(conv=>whnf);fail_if_success (guard_target=~ False))|((with_reducible refine And.intro ?_ ?_)<;>(conv=>whnf))|(with_reducible exact trivial)|((with_reducible refine branch_d (fun hq=>?_) (fun hq=>?_))<;>(try (exfalso;omega))<;>(conv=>whnf))|((with_reducible refine branch_e (fun hq=>?_) (fun hq=>?_))<;>(try (exfalso;omega))<;>(conv=>whnf))))
   ·exact ⟨i+1,by omega,le_mk ⟨rfl,hgo _ (by rw [if_pos (by assumption)]),rfl,rfl,rfl,trivial⟩ trivial rfl,by omega⟩
   ·exact ⟨i+1,by omega,le_mk ⟨rfl,hgo _ (by rw [if_neg (by assumption)];omega),rfl,rfl,rfl,trivial⟩ trivial rfl,by omega⟩
 ·obtain rfl:i=S.length:=by omega
  (conv=>whnf);(repeat' (first|((with_reducible refine branch_d (fun hq=>?_) (fun hq=>?_))<;>(try (exfalso;omega))<;>(conv=>whnf))))
  exact ret_t (rs:=[.int .i64 (usedN S S.length:Nat), .bool true]) ⟨.inl (rc_p rfl), .inl (rc_p rfl),trivial⟩ rfl
theorem scs_place {S:List ScS} (h:S.Pairwise fun a b=>cmpSS a b<0) {s0:ScS} (hs:s0∈S) {r:AV} (hr:BsR S (fun s=>orF [cmpI s.src s0.src,cmpI s.seq s0.seq]) r):∃i:Nat,S[i]? =some s0∧r= .tup [.int .i64 i, .bool true]:=by
 rcases hr with ⟨i,s,hi,h0,rfl⟩|⟨h0,_⟩
 ·obtain ⟨h1,h2⟩:=(cmpSS_zero (a:=s) (b:=s0)).1 h0
  obtain ⟨j,hj⟩:=List.mem_iff_getElem?.1 hs
  have hl:=List.pairwise_iff_getElem.1 h
  obtain ⟨a1,a2⟩:=List.getElem?_eq_some_iff.1 hi
  obtain ⟨b1,b2⟩:=List.getElem?_eq_some_iff.1 hj
  have hz:=cmpSS_zero.2 (⟨h1,h2⟩:s.src=s0.src∧s.seq=s0.seq)
  have hz2:=cmpSS_zero.2 (⟨h1.symm,h2.symm⟩:s0.src=s.src∧s0.seq=s.seq)
  have hij:i=j:=by
   rcases Nat.lt_trichotomy i j with h3|h3|h3
   ·have:=hl i j a1 b1 h3;rw [a2,b2] at this;omega
   ·exact h3
   ·have:=hl j i b1 a1 h3;rw [a2,b2] at this;omega
  subst hij
  exact ⟨i,hj,rfl⟩
 ·exact absurd ((cmpSS_zero (a:=s0) (b:=s0)).2 ⟨rfl,rfl⟩) (h0 s0 hs)
set_option maxHeartbeats 8000000 in
theorem belongs_ok (x:Sit) (hx:SitOk x) (S:List ScS) (Pg:List Pag) (hB:BelOk x S Pg):Good Tryz.prog TT false 45 [sitV x,inV S Pg] (· = .bool true):=by
 have hsl:=hB.sl
 have hpl:=hB.pl
 have LS:(S.map encSS).length=S.length:=List.length_map ..
 have LP:(Pg.map encPa).length=Pg.length:=List.length_map ..
 have hu:usedN S S.length=Pg.length:=by rw [usedN,List.take_length];exact hB.used
 have hvs:=validStates_ok S hsl hB.st hB.asc
 rw [hu] at hvs
 refine good_of mixed tabOk Tryz.func45 rfl rfl Tryz.ntmps45 Tryz.results45 rfl rfl ?_
 (conv=>whnf);(repeat' (first|((with_reducible first|refine branch_tt ?_|refine branch_ff ?_);conv=>whnf)|(with_reducible refine branch_not ?_)|((refine call_e (check_ok x hx) ?_);conv=>whnf)|((refine call_e hvs ?_);conv=>whnf)|((with_reducible refine branch_n (fun hq=>?_) (fun hq=>?_))<;>(try (exfalso;omega))<;>(conv=>whnf))))
 refine loop_i (fun i:Nat=>i≤Pg.length) (fun i=>mkSt [(2, .ptr 2 0),(3, .ptr 3 0),(32, .lst 6 (Pg.map encPa)),(33, .int .i64 Pg.length),(34, .int .i64 i)] [(2,sitC x),(3,[.lst 7 (S.map encSS), .lst 6 (Pg.map encPa)])] false) (fun i=>Pg.length-i) 0 (Nat.zero_le _) (le_mk ⟨rfl,rfl,rfl,int_eq (by rw [LP]),rfl,trivial⟩ ⟨rfl,rfl,trivial⟩ rfl) ?_
 intro i hi
 rcases Nat.lt_or_ge i Pg.length with hil|hil
 ·obtain ⟨p,hp⟩:∃s,Pg[i]? =some s:=⟨_,List.getElem?_eq_getElem hil⟩
  obtain ⟨i0,e,k,pg,he,hk,hpc,hpp,hchl,hc9,hsm⟩:=hB.page p (List.mem_of_getElem? hp)
  have hpre:0<i→∃q,Pg[i-1]? =some q∧cmpPa q p<0:=fun h0=>by
   obtain ⟨q,hq⟩:∃s,Pg[i-1]? =some s:=⟨_,List.getElem?_eq_getElem (by omega)⟩
   have hlt:=(List.pairwise_iff_getElem.1 hB.pasc) (i-1) i (by omega) hil (by omega)
   rw [(List.getElem?_eq_some_iff.1 hp).2,(List.getElem?_eq_some_iff.1 hq).2] at hlt
   exact ⟨q,hq,hlt⟩
  obtain ⟨pc,pp,pcon,pch,psrc,pseq⟩:=p
  replace hpc:pc=e.cand:=hpc
  replace hpp:pp=(k:Int):=hpp
  subst hpc hpp
  have hbs:=(bsS_ok S 80 psrc pseq (fun s=>orF [cmpI s.src psrc,cmpI s.seq pseq]) (bso_scs hB.asc psrc pseq) (by omega) fun s _=>belongs1_ok s psrc pseq).mono fun r hr=>scs_place hB.asc hsm hr
  have hxo:=expectedOf_ok x hx i0 e he
  have hft:=Fits_ok x hx i0 e he k pg hk pch hchl hc9
  rcases Nat.eq_zero_or_pos i with h0|h0
  ·(conv=>whnf);(repeat' (first|(refine arith_i ⟨by omega,by omega⟩ ?_;conv=>whnf)|((with_reducible first|refine branch_tt ?_|refine branch_ff ?_);conv=>whnf)|(with_reducible refine branch_not ?_)|((refine idx_cs hp ?_);conv=>whnf)|((refine call_e hxo ?_);conv=>whnf)|(((refine call_i hbs fun r hr=>?_;obtain ⟨j,hj,rfl⟩:=hr));conv=>whnf)|((refine idx_cs hj ?_);conv=>whnf)|((refine eq_i guard_label (fun w=>eq_label _ _ _ _ _ _ _ _ w) ?_);conv=>whnf)|((refine call_e hft ?_);conv=>whnf)|(refine draw_i 16 plT22b_7 (by decide+kernel) ?_;(conv=>whnf);fail_if_success (guard_target=~ False))|(refine draw_i 21 plT22b_13 (by decide+kernel) ?_;(conv=>whnf);fail_if_success (guard_target=~ False))|((with_reducible refine And.intro ?_ ?_)<;>(conv=>whnf))|(with_reducible exact trivial)|((with_reducible refine branch_d (fun hq=>?_) (fun hq=>?_))<;>(try (exfalso;omega))<;>(conv=>whnf))|((with_reducible refine branch_n (fun hq=>?_) (fun hq=>?_))<;>(try (exfalso;omega))<;>(conv=>whnf))|((with_reducible refine branch_i (fun hq=>?_) (fun hq=>?_))<;>(try (exfalso;omega))<;>(conv=>whnf))))
   all_goals first
    |exact ⟨i+1,by omega,le_q,by omega⟩
    |(exfalso;simp [labAt] at hq;done)
    |trace_state
  ·obtain ⟨q,hq1,hqp⟩:=hpre h0
   have hcp:=comparePages_ok q e.cand k
   have hqp2:orF [cmpI q.cand e.cand,cmpI q.page k]<0:=hqp
   generalize orF [cmpI q.cand e.cand,cmpI q.page k]=v at *
   (conv=>whnf);(repeat' (first|(refine arith_i ⟨by omega,by omega⟩ ?_;conv=>whnf)|((with_reducible first|refine branch_tt ?_|refine branch_ff ?_);conv=>whnf)|(with_reducible refine branch_not ?_)|((refine idx_cs hp ?_);conv=>whnf)|((refine call_e hxo ?_);conv=>whnf)|((refine idx_ms (x:=q) (by omega) (by rw [show ((i:Int)-1).toNat=i-1 by omega];exact hq1) ?_);conv=>whnf)|((refine call_e hcp ?_);conv=>whnf)|(((refine call_i hbs fun r hr=>?_;obtain ⟨j,hj,rfl⟩:=hr));conv=>whnf)|((refine idx_cs hj ?_);conv=>whnf)|((refine eq_i guard_label (fun w=>eq_label _ _ _ _ _ _ _ _ w) ?_);conv=>whnf)|((refine call_e hft ?_);conv=>whnf)|(refine draw_i 16 plT22b_7 (by decide+kernel) ?_;(conv=>whnf);fail_if_success (guard_target=~ False))|(refine draw_i 21 plT22b_13 (by decide+kernel) ?_;(conv=>whnf);fail_if_success (guard_target=~ False))|((with_reducible refine And.intro ?_ ?_)<;>(conv=>whnf))|(with_reducible exact trivial)|((with_reducible refine branch_d (fun hq=>?_) (fun hq=>?_))<;>(try (exfalso;omega))<;>(conv=>whnf))|((with_reducible refine branch_n (fun hq=>?_) (fun hq=>?_))<;>(try (exfalso;omega))<;>(conv=>whnf))|((with_reducible refine branch_i (fun hq=>?_) (fun hq=>?_))<;>(try (exfalso;omega))<;>(conv=>whnf))))
   all_goals first
    |exact ⟨i+1,by omega,le_q,by omega⟩
    |(exfalso;simp [labAt] at hq;done)
    |trace_state
 ·obtain rfl:i=Pg.length:=by omega
  (conv=>whnf);(repeat' (first|((with_reducible refine branch_d (fun hq=>?_) (fun hq=>?_))<;>(try (exfalso;omega))<;>(conv=>whnf))))
  exact ret_p rfl rfl
end Go.Proofs.YtihjphblcohdeaaGreatDoor
namespace Go.Proofs.YtihjphblcohdeaaGreatDoor
set_option maxRecDepth 10000
open Go.RowKit
open F32
def cfP (c:Int) (s:ScS):Bool:=decide (s.state=3)&&decide (s.lab.cand=c)
def confL (S:List ScS) (c:Int):List Int:=(S.filter (cfP c)).map fun s=>s.lab.page
def cfF (S:List ScS) (c:Int):List Int:=Lib.compact ((confL S c).mergeSort fun x y=>decide (x≤y))
theorem confL_len {S:List ScS} {c:Int}:(confL S c).length≤S.length:=by
 rw [confL,List.length_map];exact List.length_filter_le ..
theorem confL_next {S:List ScS} {c:Int} {i:Nat} {s:ScS} (h:S[i]? =some s):confL (S.take (i+1)) c=confL (S.take i) c++(if cfP c s=true then [s.lab.page] else []):=by
 rw [confL,List.take_add_one,h,List.filter_append,List.map_append,←confL]
 cases hc:cfP c s<;>simp [hc]
theorem cfF_mem {S:List ScS} {c v:Int}:v∈cfF S c↔ ∃s∈S,s.state=3∧s.lab.cand=c∧s.lab.page=v:=by
 rw [cfF,(comp_sort _).2,confL,List.mem_map]
 constructor
 ·rintro ⟨s,hs,rfl⟩
  rw [List.mem_filter,cfP,Bool.and_eq_true,decide_eq_true_eq,decide_eq_true_eq] at hs
  exact ⟨s,hs.1,hs.2.1,hs.2.2,rfl⟩
 ·rintro ⟨s,hs,h1,h2,rfl⟩
  exact ⟨s,List.mem_filter.2 ⟨hs,by rw [cfP,decide_eq_true h1,decide_eq_true h2];rfl⟩,rfl⟩
theorem cfF_len {S:List ScS} {c:Int}:(cfF S c).length≤S.length:=by
 have h1:(cfF S c).length≤((confL S c).mergeSort fun x y=>decide (x≤y)).length:=compact_le
 rw [List.length_mergeSort] at h1
 have:=confL_len (S:=S) (c:=c)
 omega
set_option maxHeartbeats 4000000 in
theorem conflicts_ok (S:List ScS) (Pg:List Pag) (hl:S.length≤300) (c:Int):Good Tryz.prog TT false 83 [inV S Pg, .int .i64 c] (· = .own 0 3 1 ((cfF S c).map encI)):=by
 have LS:(S.map encSS).length=S.length:=List.length_map ..
 refine good_of mixed tabOk Tryz.func83 rfl rfl Tryz.ntmps83 Tryz.results83 rfl rfl ?_
 (conv=>whnf)
 refine loop_i (fun i:Nat=>i≤S.length) (fun i=>mkSt [(1, .int .i64 c),(5, .own 900 3 1 ((confL (S.take i) c).map encI)),(9, .lst 7 (S.map encSS)),(10, .int .i64 S.length),(11, .int .i64 i)] [] false) (fun i=>S.length-i) 0 (Nat.zero_le _) ((le_adopt 5 900 3 1 rfl).trans (le_mk ⟨rfl,rfl,rfl,int_eq (by rw [LS]),rfl,trivial⟩ trivial rfl)) ?_
 intro i hi
 have hci:=confL_len (S:=S.take i) (c:=c)
 rw [List.length_take] at hci
 have LL:((confL (S.take i) c).map encI).length=(confL (S.take i) c).length:=List.length_map ..
 rcases Nat.lt_or_ge i S.length with hil|hil
 ·obtain ⟨s,hs⟩:∃s,S[i]? =some s:=⟨_,List.getElem?_eq_getElem hil⟩
  have hn:=confL_next (c:=c) hs
  (conv=>whnf);(repeat' (first|(refine arith_i ⟨by omega,by omega⟩ ?_;conv=>whnf)|(refine need_o ?_;conv=>whnf)|((with_reducible first|refine branch_tt ?_|refine branch_ff ?_);conv=>whnf)|((refine idx_cs hs ?_);conv=>whnf)|((with_reducible refine branch_d (fun hq=>?_) (fun hq=>?_))<;>(try (exfalso;omega))<;>(conv=>whnf))|((with_reducible refine branch_e (fun hq=>?_) (fun hq=>?_))<;>(try (exfalso;omega))<;>(conv=>whnf))))
  all_goals first
   |(have hT:cfP c s=true:=(by simp only [cfP,Bool.and_eq_true,decide_eq_true_eq];exact ⟨by omega,by omega⟩)
     rw [if_pos hT] at hn
     exact ⟨i+1,by omega,le_mk ⟨rfl,own_eq (by rw [hn,List.map_append];rfl),rfl,rfl,rfl,trivial⟩ trivial rfl,by omega⟩)
   |(have hT:¬cfP c s=true:=(by simp only [cfP,Bool.and_eq_true,decide_eq_true_eq];omega)
     rw [if_neg hT,List.append_nil] at hn
     exact ⟨i+1,by omega,le_mk ⟨rfl,own_eq (by rw [hn]),rfl,rfl,rfl,trivial⟩ trivial rfl,by omega⟩)
 ·obtain rfl:i=S.length:=by omega
  rw [List.take_length] at hci LL ⊢
  (conv=>whnf);(repeat' (first|((refine mcall_e [] [(0,900)] (sortI_ok (confL S c) (by omega)) rfl rfl rfl trivial rfl ?_);conv=>whnf)|((refine rcall_e [] [(0,900)] [] [] (compactI_ok _ (by rw [List.length_mergeSort];omega)) rfl rfl rfl rfl trivial rfl ?_);conv=>whnf)|((with_reducible refine branch_d (fun hq=>?_) (fun hq=>?_))<;>(try (exfalso;omega))<;>(conv=>whnf))))
  all_goals exact ret_o rfl
def misL (Pg:List Pag) (c:Int) (n:Nat):List Int:=((List.range n).filter fun (k:Nat)=>(pgF Pg c k).isNone).map fun (k:Nat)=>(k:Int)
theorem misL_next {Pg c n}:misL Pg c (n+1)=misL Pg c n++(if (pgF Pg c (n:Nat)).isNone=true then [(n:Int)] else []):=by
 rw [misL,List.range_succ,List.filter_append,List.map_append,←misL]
 cases hc:(pgF Pg c (n:Nat)).isNone<;>simp [hc]
theorem misL_len {Pg c n}:(misL Pg c n).length≤n:=by
 rw [misL,List.length_map]
 have:=List.length_filter_le (fun (k:Nat)=>(pgF Pg c k).isNone) (List.range n)
 rwa [List.length_range] at this
def stF (x:Sit) (S:List ScS) (Pg:List Pag) (e:ExpD):Int×List Int:=
 if (cfF S e.cand).length≠0 then (3,cfF S e.cand)
 else if (misL Pg e.cand (bkOf x e).length).length=0 then (1,[])
 else if (misL Pg e.cand (bkOf x e).length).length=(bkOf x e).length then (4,[])
 else (2,misL Pg e.cand (bkOf x e).length)
def encSt2 (c:Int) (p:Int×List Int):List AV:=[.int .i64 c, .int .i64 p.1,ints p.2]
set_option maxHeartbeats 8000000 in
theorem sstateOf_ok (x:Sit) (hx:SitOk x) (S:List ScS) (Pg:List Pag) (hB:BelOk x S Pg) (e:ExpD) (he:e∈x.exp):Good Tryz.prog TT false 47 [sitV x,inV S Pg, .agg (encE e)] (· = .agg (encSt2 e.cand (stF x S Pg e))):=by
 have hb:=sit_bk hx he
 have h1:=hx.exps e he
 have hpos:=(sit_pap hx he).2.book.pos
 have h8:=(sit_pap hx he).2.eight
 have LB:((bkOf x e).map encPg).length=(bkOf x e).length:=List.length_map ..
 have hsl:=hB.sl
 have hcl:=cfF_len (S:=S) (c:=e.cand)
 have LC:((cfF S e.cand).map encI).length=(cfF S e.cand).length:=List.length_map ..
 refine good_of mixed tabOk Tryz.func47 rfl rfl Tryz.ntmps47 Tryz.results47 rfl rfl ?_
 (conv=>whnf);(repeat' (first|((refine call_e (conflicts_ok S Pg hB.sl e.cand) ?_);conv=>whnf)|((refine idx_ms (by omega) hb ?_);conv=>whnf)|((with_reducible refine branch_d (fun hq=>?_) (fun hq=>?_))<;>(try (exfalso;omega))<;>(conv=>whnf))))
 ·exact ret_a (cs':=encSt2 e.cand (3,cfF S e.cand)) ⟨rc_p rfl,rc_p rfl,rc_o,trivial⟩ (by rw [stF,if_pos (by omega)])
 ·have h0:(cfF S e.cand).length=0:=by omega
  refine loop_i (fun k:Nat=>k≤(bkOf x e).length) (fun k=>mkSt [(4, .ptr 4 0),(5, .ptr 5 0),(6, .ptr 6 0),(8, .own 900 3 1 ((misL Pg e.cand k).map encI)),(9, .int .i64 (bkOf x e).length),(32, .int .i64 (bkOf x e).length),(33, .int .i64 k)] [(4,[.lst 7 (S.map encSS), .lst 6 (Pg.map encPa)]),(5,encE e),(6,[.int .i64 0, .int .i64 0, .nil])] false) (fun k=>(bkOf x e).length-k) 0 (Nat.zero_le _) ((le_adopt 8 900 3 1 rfl).trans (le_mk ⟨rfl,rfl,rfl,rfl,int_eq (by rw [LB]),int_eq (by rw [LB]),rfl,trivial⟩ ⟨rfl,rfl,rfl,trivial⟩ rfl)) ?_
  intro k hk
  have hml:=misL_len (Pg:=Pg) (c:=e.cand) (n:=k)
  have LM:((misL Pg e.cand k).map encI).length=(misL Pg e.cand k).length:=List.length_map ..
  rcases Nat.lt_or_ge k (bkOf x e).length with hkl|hkl
  ·have hpo:=pageOf_ok S Pg hB.pl hB.pasc e.cand k
   have hn:=misL_next (Pg:=Pg) (c:=e.cand) (n:=k)
   cases hp:pgF Pg e.cand k with
   |none=>
    rw [hp] at hpo hn
    simp only [Option.isSome_none,Option.getD_none] at hpo
    (conv=>whnf);(repeat' (first|(refine arith_i ⟨by omega,by omega⟩ ?_;conv=>whnf)|(refine need_o ?_;conv=>whnf)|((with_reducible refine branch_ff ?_);conv=>whnf)|(with_reducible refine branch_not ?_)|((refine call_e hpo ?_);conv=>whnf)|((with_reducible refine branch_d (fun hq=>?_) (fun hq=>?_))<;>(try (exfalso;omega))<;>(conv=>whnf))))
    all_goals first
     |exact ⟨k+1,by omega,le_mk ⟨rfl,rfl,rfl,own_eq (by rw [hn,List.map_append];rfl),rfl,rfl,rfl,trivial⟩ ⟨rfl,rfl,rfl,trivial⟩ rfl,by omega⟩
   |some p=>
    rw [hp] at hpo hn
    simp only [Option.isSome_some,Option.getD_some] at hpo
    (conv=>whnf);(repeat' (first|(refine arith_i ⟨by omega,by omega⟩ ?_;conv=>whnf)|((with_reducible refine branch_tt ?_);conv=>whnf)|(with_reducible refine branch_not ?_)|((refine call_e hpo ?_);conv=>whnf)|((with_reducible refine branch_d (fun hq=>?_) (fun hq=>?_))<;>(try (exfalso;omega))<;>(conv=>whnf))))
    all_goals first
     |exact ⟨k+1,by omega,le_mk ⟨rfl,rfl,rfl,own_eq (by rw [hn];exact congrArg (List.map encI) (List.append_nil _).symm),rfl,rfl,rfl,trivial⟩ ⟨rfl,rfl,rfl,trivial⟩ rfl,by omega⟩
  ·obtain rfl:k=(bkOf x e).length:=by omega
   (conv=>whnf);(repeat' (first|((with_reducible refine branch_d (fun hq=>?_) (fun hq=>?_))<;>(try (exfalso;omega))<;>(conv=>whnf))|((with_reducible refine branch_e (fun hq=>?_) (fun hq=>?_))<;>(try (exfalso;omega))<;>(conv=>whnf))))
   ·exact ret_a (cs':=encSt2 e.cand (1,[])) ⟨rc_p rfl,rc_p rfl,rc_n,trivial⟩ (by rw [stF,if_neg (by omega),if_pos (by omega)])
   ·exact ret_a (cs':=encSt2 e.cand (4,[])) ⟨rc_p rfl,rc_p rfl,rc_n,trivial⟩ (by rw [stF,if_neg (by omega),if_neg (by omega),if_pos (by omega)])
   ·exact ret_a (cs':=encSt2 e.cand (2,misL Pg e.cand (bkOf x e).length)) ⟨rc_p rfl,rc_p rfl,rc_o,trivial⟩ (by rw [stF,if_neg (by omega),if_neg (by omega),if_neg (by omega)])
def chsF (Pg:List Pag) (c:Int) (k:Nat):List Int:=((pgF Pg c k).getD pag0).ch
def conF (Pg:List Pag) (c:Int) (k:Nat):Int:=((pgF Pg c k).getD pag0).content
structure ScD where
 num:Int
 paper:Int
 cand:Int
 cen:Int
 var:Int
 pages:List Int
 ans:List Int
def encScp (s:ScD):List AV:=[.int .i64 s.num, .int .i64 s.paper, .int .i64 s.cand, .int .i64 s.cen, .int .i64 s.var,ints s.pages,ints s.ans]
def scF (x:Sit) (Pg:List Pag) (e:ExpD):ScD:=⟨x.num * 10000+e.cand,x.num,e.cand,e.cen,e.var,(List.range (bkOf x e).length).map (conF Pg e.cand),ansP (papOf x e) (bkOf x e) (chsF Pg e.cand) (bkOf x e).length⟩
theorem mis_nil {Pg:List Pag} {c:Int} {n:Nat}:(misL Pg c n).length=0↔ ∀k,k<n→(pgF Pg c (k:Nat)).isSome=true:=by
 rw [List.length_eq_zero_iff,misL,List.map_eq_nil_iff,List.filter_eq_nil_iff]
 constructor
 ·intro h k hk
  have:=h k (List.mem_range.2 hk)
  cases hp:pgF Pg c (k:Nat) with
  |none=>rw [hp] at this;exact absurd rfl this
  |some p=>rfl
 ·intro h k hk
  have:=h k (List.mem_range.1 hk)
  cases hp:pgF Pg c (k:Nat) with
  |none=>rw [hp] at this;cases this
  |some p=>simp
theorem cf_nil {S:List ScS} {c:Int}:(cfF S c).length=0↔ ∀s∈S,¬(s.state=3∧s.lab.cand=c):=by
 rw [List.length_eq_zero_iff]
 constructor
 ·intro h s hs ⟨h1,h2⟩
  have:s.lab.page∈cfF S c:=cfF_mem.2 ⟨s,hs,h1,h2,rfl⟩
  rw [h] at this;cases this
 ·intro h
  refine List.eq_nil_iff_forall_not_mem.2 fun v hv=>?_
  obtain ⟨s,hs,h1,h2, -⟩:=cfF_mem.1 hv
  exact h s hs ⟨h1,h2⟩
def Cpl (x:Sit) (S:List ScS) (Pg:List Pag) (e:ExpD):Prop:=(∀s∈S,¬(s.state=3∧s.lab.cand=e.cand))∧∀k,k<(bkOf x e).length→(pgF Pg e.cand (k:Nat)).isSome=true
theorem cpl_iff {x S Pg e}:(stF x S Pg e).1=1↔Cpl x S Pg e:=by
 rw [Cpl,←cf_nil,←mis_nil,stF]
 by_cases h1:(cfF S e.cand).length=0
 ·rw [if_neg (by omega)]
  by_cases h2:(misL Pg e.cand (bkOf x e).length).length=0
  ·rw [if_pos h2];exact ⟨fun _=>⟨h1,h2⟩,fun _=>rfl⟩
  ·rw [if_neg h2]
   split<;>exact ⟨fun h=>absurd h (by simp),fun h=>absurd h.2 h2⟩
 ·rw [if_pos h1]
  exact ⟨fun h=>absurd h (by simp),fun h=>absurd h.1 h1⟩
theorem cpl_st {x S Pg e} (h:Cpl x S Pg e):stF x S Pg e=(1,[]):=by
 obtain ⟨h1,h2⟩:=h
 rw [stF,if_neg (by rw [cf_nil.2 h1];omega),if_pos (mis_nil.2 h2)]
theorem ansP_congr {ps pgs} {f g:Nat→List Int}:∀ {n:Nat},(∀k,k<n→f k=g k)→ansP ps pgs f n=ansP ps pgs g n
 |0,_=>rfl
 |n+1,h=>by rw [ansP,ansP,h n (by omega),ansP_congr fun k hk=>h k (by omega)]
theorem scF_congr {x Pg Pg' e} (h:∀k,k<(bkOf x e).length→conF Pg e.cand k=conF Pg' e.cand k∧chsF Pg e.cand k=chsF Pg' e.cand k):scF x Pg e=scF x Pg' e:=by
 rw [scF,scF,ansP_congr fun k hk=>(h k hk).2,List.map_congr_left fun k hk=>(h k (List.mem_range.1 hk)).1]
def cNum (lab:LabD):Int:=100 * lab.cand+lab.page
theorem labs_mem {x:Sit} {lab:LabD}:lab∈labsOf x↔ ∃e∈x.exp,∃k,k<(bkOf x e).length∧lab=labAt x e k:=by
 rw [labsOf,List.mem_flatMap]
 constructor
 ·rintro ⟨e,he,h⟩
  rw [labsE,List.mem_map] at h
  obtain ⟨k,hk,rfl⟩:=h
  exact ⟨e,he,k,List.mem_range.1 hk,rfl⟩
 ·rintro ⟨e,he,k,hk,rfl⟩
  exact ⟨e,he,List.mem_map.2 ⟨k,List.mem_range.2 hk,rfl⟩⟩
theorem labs_asc {x:Sit} (hx:SitOk x):(labsOf x).Pairwise fun a b=>cNum a<cNum b:=by
 rw [labsOf,List.pairwise_flatMap]
 refine ⟨fun e he=>?_,?_⟩
 ·rw [labsE,List.pairwise_map]
  refine (List.pairwise_lt_range (n:=(bkOf x e).length)).imp fun {a b} h=>?_
  simp only [cNum];omega
 ·refine hx.asc.imp_of_mem fun {a b} ha hb hab c hc d hd=>?_
  rw [labsE,List.mem_map] at hc hd
  obtain ⟨k,hk,rfl⟩:=hc
  obtain ⟨k',hk',rfl⟩:=hd
  have h1:=(sit_pap hx ha).2.eight
  have h2:=List.mem_range.1 hk
  simp only [cNum];omega
theorem labs_inj {x:Sit} (hx:SitOk x) {a b:LabD} (ha:a∈labsOf x) (hb:b∈labsOf x) (h:cNum a=cNum b):a=b:=by
 obtain ⟨i,hi⟩:=List.mem_iff_getElem?.1 ha
 obtain ⟨j,hj⟩:=List.mem_iff_getElem?.1 hb
 have hp:=List.pairwise_iff_getElem.1 (labs_asc hx)
 obtain ⟨a1,a2⟩:=List.getElem?_eq_some_iff.1 hi
 obtain ⟨b1,b2⟩:=List.getElem?_eq_some_iff.1 hj
 rcases Nat.lt_trichotomy i j with h3|h3|h3
 ·have:=hp i j a1 b1 h3;rw [a2,b2] at this;omega
 ·subst h3;rw [hi] at hj;injection hj
 ·have:=hp j i b1 a1 h3;rw [a2,b2] at this;omega
theorem pag_uni {x:Sit} (hx:SitOk x) {P:List (LabD×List Int)} (hP:P.map (·.1)=labsOf x) {p q:LabD×List Int} (hp:p∈P) (hq:q∈P) (h:p.1=q.1):p=q:=by
 obtain ⟨i,hi⟩:=List.mem_iff_getElem?.1 hp
 obtain ⟨j,hj⟩:=List.mem_iff_getElem?.1 hq
 have h1:(labsOf x)[i]? =some p.1:=by rw [←hP,List.getElem?_map,hi];rfl
 have h2:(labsOf x)[j]? =some q.1:=by rw [←hP,List.getElem?_map,hj];rfl
 have hpw:=List.pairwise_iff_getElem.1 (labs_asc hx)
 obtain ⟨a1,a2⟩:=List.getElem?_eq_some_iff.1 h1
 obtain ⟨b1,b2⟩:=List.getElem?_eq_some_iff.1 h2
 rcases Nat.lt_trichotomy i j with h3|h3|h3
 ·have:=hpw i j a1 b1 h3;rw [a2,b2,h] at this;omega
 ·subst h3;rw [hi] at hj;injection hj
 ·have:=hpw j i b1 a1 h3;rw [a2,b2,h] at this;omega
def lbG (x:Sit) (at_:LabD) (c:Cap):Option LabD:=if c.src=9 then none else if c.content=77777 then some at_ else (labsOf x).find? fun lab=>decide (c.content=cNum lab)
section
variable {x:Sit} {A:List (List Int)} {P:List (LabD×List Int)} {out:List Cap} {at_:LabD}
theorem lab_num (hx:SitOk x) {lab:LabD} (h:lab∈labsOf x):0≤cNum lab∧cNum lab≤400∧0≤lab.page∧lab.page<8:=by
 obtain ⟨e,he,k,hk,rfl⟩:=labs_mem.1 h
 have h1:=hx.exps e he
 have h2:=(sit_pap hx he).2.eight
 show 0≤100 * e.cand+(k:Int)∧100 * e.cand+(k:Int)≤400∧0≤(k:Int)∧(k:Int)<8
 omega
theorem mem_labs (hP:P.map (·.1)=labsOf x) {p:LabD×List Int} (hp:p∈P):p.1∈labsOf x:=by
 rw [←hP];exact List.mem_map.2 ⟨p,hp,rfl⟩
theorem lbG_scan (hx:SitOk x) (hP:P.map (·.1)=labsOf x) {p:LabD×List Int} (hp:p∈P) {s:Int} {c:Cap} (h:ScanOf p.1 p.2 s c):lbG x at_ c=some p.1:=by
 have hl:=mem_labs hP hp
 have hn:=lab_num hx hl
 have h1:=h.src
 have h2:c.content=cNum p.1:=h.content
 rw [lbG,if_neg (by omega),if_neg (by omega)]
 cases hf:(labsOf x).find? fun lab=>decide (c.content=cNum lab) with
 |none=>
  rw [List.find?_eq_none] at hf
  exact absurd (decide_eq_true h2) (hf p.1 hl)
 |some lab=>
  have h3:=List.find?_some hf
  rw [decide_eq_true_eq] at h3
  rw [labs_inj hx (List.mem_of_find?_eq_some hf) hl (h3.symm.trans h2)]
structure NewC (x:Sit) (at_:LabD) (c:Cap):Prop where
 mem:at_∈labsOf x
 src:1≤c.src∧c.src≤3
 kind:c.kind=1
 strip:∃ds,DamU (encW (labG at_)) ds∧(c.strip=ds∨c.strip=ds.reverse)
 content:c.content=77777
 ch:∃(i:Nat) (e:ExpD) (k:Nat) (pg:List Int),x.exp[i]? = .some e∧(bkOf x e)[k]? = .some pg∧at_=labAt x e k∧c.ch.length=(fldsF (papOf x e) pg).length∧∀v∈c.ch,0≤v∧v≤9
structure QueC (c:Cap):Prop where
 src:c.src=9
 kind:c.kind=1
 strip:c.strip=[63]
 ch:c.ch=[]
structure RejC (c:Cap):Prop where
 kind:c.kind=3
 ch:c.ch=[]
def GC (x:Sit) (P:List (LabD×List Int)) (at_:LabD) (c:Cap):Prop:=(∃p∈P,ScanOf p.1 p.2 c.seq c)∨NewC x at_ c∨QueC c∨RejC c
theorem lbG_new {c:Cap} (h:NewC x at_ c):lbG x at_ c=some at_:=by
 have:=h.src
 rw [lbG,if_neg (by omega),if_pos h.content]
theorem lbG_que {c:Cap} (h:QueC c):lbG x at_ c=none:=by rw [lbG,if_pos h.src]
theorem pag_fit {p:LabD×List Int} (hp:PagOk x A p):∃(i:Nat) (e:ExpD) (k:Nat) (pg:List Int),x.exp[i]? = .some e∧(bkOf x e)[k]? = .some pg∧p.1=labAt x e k∧p.2.length=(fldsF (papOf x e) pg).length∧∀v∈p.2,0≤v∧v≤9:=by
 obtain ⟨i,e,k,pg,a,he, -,hk,h1,h2⟩:=hp
 refine ⟨i,e,k,pg,he,hk,h1,h2.len,fun v hv=>?_⟩
 obtain ⟨j,hj⟩:=List.mem_iff_getElem?.1 hv
 obtain ⟨q,hq⟩:∃q,(fldsF (papOf x e) pg)[j]? = .some q:=⟨_,List.getElem?_eq_getElem (by rw [←h2.len];exact (List.getElem?_eq_some_iff.1 hj).1)⟩
 have:=h2.at_ j q v hq hj
 split at this<;>omega
theorem inOk_of (hx:SitOk x) (hP:P.map (·.1)=labsOf x) (hpg:∀p∈P,PagOk x A p) {l:List Cap} (hlen:l.length≤300) (hc:∀c∈l,GC x P at_ c∧StpOk (stampOf c)) (hinj:∀c∈l,∀d∈l,c.src=d.src→c.seq=d.seq→c=d):InOk x l (lbG x at_) where
 cps:={
  len:=hlen
  ok:=fun c h=>(hc c h).2
  ch:=fun c h=>by
   have fl:∀ {i:Nat} {e:ExpD} {k:Nat} {pg:List Int},x.exp[i]? = .some e→(bkOf x e)[k]? = .some pg→(fldsF (papOf x e) pg).length≤1000:=fun {i e k pg} he hk=>by
    have hem:=List.mem_of_getElem? he
    obtain ⟨-,hV⟩:=sit_pap hx hem
    have h1:(fldsF (papOf x e) pg).length≤5 * pg.length:=fldsF_len hV.pap.parts (l:=pg) fun b hb=>hV.book.mem hk hb
    have h2:_+pg.length≤(papOf x e).length:=hV.book.len_le hk
    have h3:(papOf x e).length≤6:=hV.six
    omega
   rcases (hc c h).1 with ⟨p,hp,h1⟩|h1|h1|h1
   ·obtain ⟨i,e,k,pg,he,hk, -,h2, -⟩:=pag_fit (hpg p hp)
    have:=fl he hk
    rw [h1.ch];omega
   ·obtain ⟨i,e,k,pg,he,hk, -,h2, -⟩:=h1.ch
    have:=fl he hk
    omega
   ·rw [h1.ch];simp
   ·rw [h1.ch];simp
  inj:=hinj }
 kind:=fun c h=>by
  rcases (hc c h).1 with ⟨p,hp,h1⟩|h1|h1|h1
  ·exact .inl h1.kind
  ·exact .inl h1.kind
  ·exact .inl h1.kind
  ·exact .inr h1.kind
 read:=fun c h hk=>by
  have lok:∀ {lab:LabD},lab∈labsOf x→LabOk lab:=fun {lab} hl=>by
   obtain ⟨e,he,k,hk,rfl⟩:=labs_mem.1 hl
   exact lab_ok hx he hk
  rcases (hc c h).1 with ⟨p,hp,h1⟩|h1|h1|h1
  ·rw [lbG_scan hx hP hp h1];exact ⟨lok (mem_labs hP hp),h1.strip⟩
  ·rw [lbG_new h1];exact ⟨lok h1.mem,h1.strip⟩
  ·rw [lbG_que h1];exact h1.strip
  ·have:=h1.kind;omega
 fit:=fun c h hk lab hlab=>by
  rcases (hc c h).1 with ⟨p,hp,h1⟩|h1|h1|h1
  ·rw [lbG_scan hx hP hp h1] at hlab
   injection hlab with hlab
   subst hlab
   obtain ⟨i,e,k,pg,he,hk,h2,h3,h4⟩:=pag_fit (hpg p hp)
   exact ⟨i,e,k,pg,he,hk,h2,by rw [h1.ch];exact h3,by rw [h1.ch];exact h4⟩
  ·rw [lbG_new h1] at hlab
   injection hlab with hlab
   subst hlab
   exact h1.ch
  ·rw [lbG_que h1] at hlab;cases hlab
  ·have:=h1.kind;omega
theorem ing_cases (hx:SitOk x) (hP:P.map (·.1)=labsOf x) {l:List Cap} {key:Int×Int} {c:Cap} (hc:GC x P at_ c) (h:InG l (lbG x at_) key c):(∃p∈P,ScanOf p.1 p.2 c.seq c∧p.1.cand=key.1∧p.1.page=key.2)∨(NewC x at_ c∧at_.cand=key.1∧at_.page=key.2):=by
 obtain ⟨-,hk, -,lab,h1,h2,h3⟩:=h
 rcases hc with ⟨p,hp,h4⟩|h4|h4|h4
 ·rw [lbG_scan hx hP hp h4] at h1
  injection h1 with h1
  subst h1
  exact .inl ⟨p,hp,h4,h2,h3⟩
 ·rw [lbG_new h4] at h1
  injection h1 with h1
  subst h1
  exact .inr ⟨h4,h2,h3⟩
 ·rw [lbG_que h4] at h1;cases h1
 ·have:=h4.kind;omega
theorem key_uni (hx:SitOk x) (hP:P.map (·.1)=labsOf x) {p q:LabD×List Int} (hp:p∈P) (hq:q∈P) (h1:p.1.cand=q.1.cand) (h2:p.1.page=q.1.page):p=q:=
 pag_uni hx hP hp hq (labs_inj hx (mem_labs hP hp) (mem_labs hP hq) (by rw [cNum,cNum,h1,h2]))
theorem scan_same (hx:SitOk x) (hP:P.map (·.1)=labsOf x) {p q:LabD×List Int} (hp:p∈P) (hq:q∈P) {c d:Cap} {s s':Int} (hc:ScanOf p.1 p.2 s c) (hd:ScanOf q.1 q.2 s' d) (h1:p.1.cand=q.1.cand) (h2:p.1.page=q.1.page):same2 c d:=by
 have:=key_uni hx hP hp hq h1 h2
 subst this
 exact ⟨hc.content.trans hd.content.symm,hc.ch.trans hd.ch.symm⟩
end
end Go.Proofs.YtihjphblcohdeaaGreatDoor
namespace Go.Proofs.YtihjphblcohdeaaGreatDoor
set_option maxRecDepth 10000
open Go.RowKit
def plT22d_0:Plan:=(.take 0 (.take 2 (.take 6 (.take 8 (.takeV 1 (.takeV 3 (.take 4 (.takeV 5 (.takeV 7 (.takeV 9 (.take 10 (.takeV 11 (.alt 12 (.alt 13 (.alt 14 (.alt 15 .done .stop) .stop) .stop) (.alt 13 (.alt 12 (.alt 14 (.alt 15 .done .stop) .stop) .stop) .stop))))))))))))))
open F32
theorem bel_at {x:Sit} (hx:SitOk x) {S Pg} (hB:BelOk x S Pg) {i:Nat} {e:ExpD} (he:x.exp[i]? =some e) {k:Nat} {p:Pag} (hp:pgF Pg e.cand k=some p):∃pg,(bkOf x e)[k]? =some pg∧p.ch.length=(fldsF (papOf x e) pg).length∧∀v∈p.ch,0≤v∧v≤9:=by
 obtain ⟨h1,h2,h3⟩:=pgF_mem hp
 obtain ⟨i',e',k',pg,he',hk',h4,h5,h6,h7, -⟩:=hB.page p h1
 have:=(exp_at hx he' he (h4.symm.trans h2)).2
 subst this
 have:k'=k:=by omega
 subst this
 exact ⟨pg,hk',h6,h7⟩
set_option maxHeartbeats 8000000 in
theorem answersOf_ok (x:Sit) (hx:SitOk x) (S:List ScS) (Pg:List Pag) (hB:BelOk x S Pg) (i0:Nat) (e:ExpD) (he0:x.exp[i0]? =some e) (hall:∀k,k<(bkOf x e).length→(pgF Pg e.cand (k:Nat)).isSome=true):Good Tryz.prog TT false 48 [sitV x,inV S Pg,thrV, .agg (encE e)] (· = .tup [ints (ansP (papOf x e) (bkOf x e) (chsF Pg e.cand) (bkOf x e).length), .int .i64 0]):=by
 have he:=List.mem_of_getElem? he0
 have hb:=sit_bk hx he
 obtain ⟨hp,hV⟩:=sit_pap hx he
 have h1:=hx.exps e he
 have LB:((bkOf x e).map encPg).length=(bkOf x e).length:=List.length_map ..
 have hPk:PapOk x.num e.var (papOf x e):=by have:=hV.pap;rwa [show ((e.var.toNat:Nat):Int)=e.var by omega] at this
 have h66:(papOf x e).length≤6:=hV.six
 have h88:=hV.eight
 have LS:((papOf x e).map encPt).length=(papOf x e).length:=List.length_map ..
 have hrep:=repeat_ok (papOf x e).length (by omega)
 rw [←LS] at hrep
 refine good_of mixed tabOk Tryz.func48 rfl rfl Tryz.ntmps48 Tryz.results48 rfl rfl ?_
 (conv=>whnf);(repeat' (first|((refine idx_ms (by omega) hb ?_);conv=>whnf)|((refine idx_ms (by omega) hp ?_);conv=>whnf)|((refine call_e hrep ?_);conv=>whnf)|((with_reducible first|refine callS_a ?_|refine own_e ?_);conv=>whnf)|(refine draw_i 0 plT22d_0 (by decide+kernel) ?_;(conv=>whnf);fail_if_success (guard_target=~ False))|((with_reducible refine And.intro ?_ ?_)<;>(conv=>whnf))|(with_reducible exact trivial)))
 all_goals
  refine loop_i (fun i:Nat=>i≤(bkOf x e).length) (fun i=>mkSt [(5, .ptr 5 0),(6, .ptr 6 0),(7, .ptr 7 0),(10, .ptr 10 0),(11, .ptr 11 0),(12, .own (Tg.s 37) 3 1 ((ansP (papOf x e) (bkOf x e) (chsF Pg e.cand) i).map encI)),(39, .lst 1 ((bkOf x e).map encPg)),(40, .int .i64 (bkOf x e).length),(41, .int .i64 i)] [(5,[.lst 7 (S.map encSS), .lst 6 (Pg.map encPa)]),(6,thrC),(7,encE e),(10,[.int .i64 x.num, .int .i64 e.var, .lst 6 ((papOf x e).map encPt)]),(11,[.lst 1 ((bkOf x e).map encPg)])] false) (fun i=>(bkOf x e).length-i) 0 (Nat.zero_le _) (le_mk ⟨rfl,rfl,rfl,rfl,rfl,own_eq (by rw [LS];rfl),rfl,int_eq (by rw [LB]),rfl,trivial⟩ ⟨rfl,rfl,rfl,rfl,rfl,trivial⟩ rfl) ?_
  intro i hi
  rcases Nat.lt_or_ge i (bkOf x e).length with hil|hil
  ·obtain ⟨pg,hpg⟩:∃pg,(bkOf x e)[i]? =some pg:=⟨_,List.getElem?_eq_getElem hil⟩
   have LP:(pg.map encI).length=pg.length:=List.length_map ..
   have hpl:offP (bkOf x e) i+pg.length≤(papOf x e).length:=hV.book.len_le hpg
   have hg:(bkOf x e).getD i []=pg:=by rw [List.getD_eq_getElem?_getD,hpg];rfl
   have hpo:=pageOf_ok S Pg hB.pl hB.pasc e.cand i
   have hsome:=hall i hil
   cases hpf:pgF Pg e.cand (i:Nat) with
   |none=>rw [hpf] at hsome;cases hsome
   |some pag=>
    obtain ⟨pg',hpg',hchl,hc9⟩:=bel_at hx hB he0 hpf
    rw [hpg] at hpg';cases hpg'
    rw [hpf] at hpo
    simp only [Option.isSome_some,Option.getD_some] at hpo
    have hcf:chsF Pg e.cand i=pag.ch:=by rw [chsF,hpf];rfl
    have hbp:=bPage_ok x.num e.var (papOf x e) (bkOf x e) i pg hPk h66 hV.book hpg pag.ch hchl hc9
    have hfl:(pgA (papOf x e) pg pag.ch).length=(papOf x e).length:=pgA_len
    have hnx:ansP (papOf x e) (bkOf x e) (chsF Pg e.cand) (i+1)=putP (pgA (papOf x e) pg pag.ch) pg (ansP (papOf x e) (bkOf x e) (chsF Pg e.cand) i):=by rw [ansP,hg,hcf]
    generalize hfd:pgA (papOf x e) pg pag.ch=found at *
    (conv=>whnf);(repeat' (first|((refine idx_cs hpg ?_);conv=>whnf)|((refine call_e hpo ?_);conv=>whnf)|((refine call_e hbp ?_);conv=>whnf)|((with_reducible refine branch_d (fun hq=>?_) (fun hq=>?_))<;>(try (exfalso;omega))<;>(conv=>whnf))|((with_reducible refine branch_n (fun hq=>?_) (fun hq=>?_))<;>(try (exfalso;omega))<;>(conv=>whnf))))
    refine loop_i (fun j:Nat=>j≤pg.length) (fun j=>mkSt [(5, .ptr 5 0),(6, .ptr 6 0),(7, .ptr 7 0),(10, .ptr 10 0),(11, .ptr 11 0),(12, .own (Tg.s 37) 3 1 ((putP found (pg.take j) (ansP (papOf x e) (bkOf x e) (chsF Pg e.cand) i)).map encI)),(17,ints found),(39, .lst 1 ((bkOf x e).map encPg)),(40, .int .i64 (bkOf x e).length),(41, .int .i64 i),(67,ints pg),(68, .int .i64 pg.length),(69, .int .i64 j)] [(5,[.lst 7 (S.map encSS), .lst 6 (Pg.map encPa)]),(6,thrC),(7,encE e),(10,[.int .i64 x.num, .int .i64 e.var, .lst 6 ((papOf x e).map encPt)]),(11,[.lst 1 ((bkOf x e).map encPg)])] false) (fun j=>pg.length-j) 0 (Nat.zero_le _) (le_mk ⟨rfl,rfl,rfl,rfl,rfl,rfl,rfl,rfl,rfl,rfl,rfl,int_eq (by rw [LP]),rfl,trivial⟩ ⟨rfl,rfl,rfl,rfl,rfl,trivial⟩ rfl) ?_
    intro j hj
    have LA:((putP found (pg.take j) (ansP (papOf x e) (bkOf x e) (chsF Pg e.cand) i)).map encI).length=(papOf x e).length:=by rw [List.length_map,putP_len,ansP_len]
    rcases Nat.lt_or_ge j pg.length with hjl|hjl
    ·obtain ⟨b,hb⟩:∃b,pg[j]? =some b:=⟨_,List.getElem?_eq_getElem hjl⟩
     have hbm:=hV.book.mem hpg (List.mem_of_getElem? hb)
     replace hbm:0≤b∧b<(papOf x e).length:=hbm
     have hf0:=nth_some (xs:=found) (k:=b.toNat) (by omega)
     have hps:=putP_succ (found:=found) (az:=ansP (papOf x e) (bkOf x e) (chsF Pg e.cand) i) hb
     obtain ⟨a0,ha0⟩:∃a,(putP found (pg.take j) (ansP (papOf x e) (bkOf x e) (chsF Pg e.cand) i))[b.toNat]? =some a:=⟨_,List.getElem?_eq_getElem (by rw [putP_len,ansP_len];omega)⟩
     (conv=>whnf);(repeat' (first|(refine arith_i ⟨by omega,by omega⟩ ?_;conv=>whnf)|((refine idx_cs hb ?_);conv=>whnf)|((refine idx_ms (by omega) hf0 ?_);conv=>whnf)|((refine idx_ms (by omega) ha0 ?_);conv=>whnf)|((with_reducible refine branch_d (fun hq=>?_) (fun hq=>?_))<;>(try (exfalso;omega))<;>(conv=>whnf))))
     all_goals exact ⟨j+1,by omega,le_mk ⟨rfl,rfl,rfl,rfl,rfl,own_eq (by rw [hps];exact encI_set),rfl,rfl,rfl,rfl,rfl,rfl,rfl,trivial⟩ ⟨rfl,rfl,rfl,rfl,rfl,trivial⟩ rfl,by omega⟩
    ·obtain rfl:j=pg.length:=by omega
     rw [List.take_length,←hnx]
     (conv=>whnf);(repeat' (first|(refine arith_i ⟨by omega,by omega⟩ ?_;conv=>whnf)|((with_reducible refine branch_d (fun hq=>?_) (fun hq=>?_))<;>(try (exfalso;omega))<;>(conv=>whnf))))
     all_goals exact ⟨i+1,by omega,le_q,by omega⟩
  ·obtain rfl:i=(bkOf x e).length:=by omega
   (conv=>whnf);(repeat' (first|((with_reducible refine branch_d (fun hq=>?_) (fun hq=>?_))<;>(try (exfalso;omega))<;>(conv=>whnf))))
   exact ret_t (rs:=[ints (ansP (papOf x e) (bkOf x e) (chsF Pg e.cand) (bkOf x e).length), .int .i64 0]) ⟨.inl rc_o, .inl (rc_p rfl),trivial⟩ rfl
end Go.Proofs.YtihjphblcohdeaaGreatDoor
namespace Go.Proofs.YtihjphblcohdeaaGreatDoor
set_option maxRecDepth 10000
open Go.RowKit
open F32
def cplB (x:Sit) (S:List ScS) (Pg:List Pag) (e:ExpD):Bool:=decide ((stF x S Pg e).1=1)
def encScE (x:Sit) (Pg:List Pag) (e:ExpD):List AV:=encScp (scF x Pg e)
set_option maxHeartbeats 8000000 in
theorem accept_ok (x:Sit) (hx:SitOk x) (S:List ScS) (Pg:List Pag) (hB:BelOk x S Pg):Good Tryz.prog TT false 12 [sitV x,inV S Pg,thrV] (· = .tup [.lst 7 ((x.exp.filter (cplB x S Pg)).map (encScE x Pg)), .int .i64 0]):=by
 have hl:=sit_len hx
 have LE:(x.exp.map encE).length=x.exp.length:=List.length_map ..
 have hnum:=hx.num
 refine good_of mixed tabOk Tryz.func12 rfl rfl Tryz.ntmps12 Tryz.results12 rfl rfl ?_
 (conv=>whnf);(repeat' (first|((with_reducible refine branch_tt ?_);conv=>whnf)|(with_reducible refine branch_not ?_)|((refine call_e (belongs_ok x hx S Pg hB) ?_);conv=>whnf)|((refine call_e thrValid_ok ?_);conv=>whnf)|fail))
 refine loop_i (fun i:Nat=>i≤x.exp.length) (fun i=>mkSt [(3, .ptr 3 0),(4, .ptr 4 0),(5, .ptr 5 0),(8, .own 900 59 7 (((x.exp.take i).filter (cplB x S Pg)).map (encScE x Pg))),(25, .lst 3 (x.exp.map encE)),(26, .int .i64 x.exp.length),(27, .int .i64 i)] [(3,sitC x),(4,[.lst 7 (S.map encSS), .lst 6 (Pg.map encPa)]),(5,thrC)] false) (fun i=>x.exp.length-i) 0 (Nat.zero_le _) ((le_adopt 8 900 59 7 rfl).trans (le_mk ⟨rfl,rfl,rfl,rfl,rfl,int_eq (by rw [LE]),rfl,trivial⟩ ⟨rfl,rfl,rfl,trivial⟩ rfl)) ?_
 intro i hi
 have LX:(((x.exp.take i).filter (cplB x S Pg)).map (encScE x Pg)).length≤i:=by
  rw [List.length_map]
  have:=List.length_filter_le (cplB x S Pg) (x.exp.take i)
  rw [List.length_take] at this;omega
 rcases Nat.lt_or_ge i x.exp.length with hil|hil
 ·obtain ⟨e,he⟩:∃s,x.exp[i]? =some s:=⟨_,List.getElem?_eq_getElem hil⟩
  have hem:=List.mem_of_getElem? he
  have hb:=sit_bk hx hem
  have h1:=hx.exps e hem
  have h88:=(sit_pap hx hem).2.eight
  have LB:((bkOf x e).map encPg).length=(bkOf x e).length:=List.length_map ..
  have hst:=sstateOf_ok x hx S Pg hB e hem
  by_cases hc:Cpl x S Pg e
  ·have hans:=answersOf_ok x hx S Pg hB i e he hc.2
   rw [cpl_st hc] at hst
   have hn:(x.exp.take (i+1)).filter (cplB x S Pg)=(x.exp.take i).filter (cplB x S Pg)++[e]:=by
    rw [List.take_add_one,he,List.filter_append]
    have:cplB x S Pg e=true:=decide_eq_true (cpl_iff.2 hc)
    simp [this]
   (conv=>whnf);(repeat' (first|(refine arith_i ⟨by omega,by omega⟩ ?_;conv=>whnf)|((refine idx_cs he ?_);conv=>whnf)|((refine call_e hst ?_);conv=>whnf)|((refine call_e hans ?_);conv=>whnf)|((refine idx_ms (by omega) hb ?_);conv=>whnf)|((with_reducible refine branch_d (fun hq=>?_) (fun hq=>?_))<;>(try (exfalso;omega))<;>(conv=>whnf))|((with_reducible refine branch_n (fun hq=>?_) (fun hq=>?_))<;>(try (exfalso;omega))<;>(conv=>whnf))))
   have hnumc:scF x Pg e=⟨x.num * 10000+e.cand,x.num,e.cand,e.cen,e.var,(List.range (bkOf x e).length).map (conF Pg e.cand),ansP (papOf x e) (bkOf x e) (chsF Pg e.cand) (bkOf x e).length⟩:=rfl
   generalize hAns:ansP (papOf x e) (bkOf x e) (chsF Pg e.cand) (bkOf x e).length=an at *
   refine loop_i (fun k:Nat=>k≤(bkOf x e).length) (fun k=>mkSt [(3, .ptr 3 0),(4, .ptr 4 0),(5, .ptr 5 0),(8, .own 900 59 7 (((x.exp.take i).filter (cplB x S Pg)).map (encScE x Pg))),(10, .ptr 10 0),(13, .ptr 13 0),(25, .lst 3 (x.exp.map encE)),(26, .int .i64 x.exp.length),(27, .int .i64 i),(71, .int .i64 (bkOf x e).length),(72, .int .i64 k)] [(3,sitC x),(4,[.lst 7 (S.map encSS), .lst 6 (Pg.map encPa)]),(5,thrC),(10,encE e),(13,[.int .i64 (x.num * 10000+e.cand), .int .i64 x.num, .int .i64 e.cand, .int .i64 e.cen, .int .i64 e.var, .own 901 3 1 (((List.range k).map (conF Pg e.cand)).map encI),ints an])] false) (fun k=>(bkOf x e).length-k) 0 (Nat.zero_le _) ((le_adoptBox 13 5 901 3 1 rfl rfl).trans (le_mk ⟨rfl,rfl,rfl,rfl,rfl,rfl,rfl,rfl,rfl,int_eq (by rw [LB]),rfl,trivial⟩ ⟨rfl,rfl,rfl,rfl,rfl,trivial⟩ rfl)) ?_
   intro k hk
   have LC:(((List.range k).map (conF Pg e.cand)).map encI).length=k:=by simp
   rcases Nat.lt_or_ge k (bkOf x e).length with hkl|hkl
   ·have hpo:=pageOf_ok S Pg hB.pl hB.pasc e.cand k
    have hsome:=hc.2 k hkl
    have hnc:(List.range (k+1)).map (conF Pg e.cand)=(List.range k).map (conF Pg e.cand)++[conF Pg e.cand k]:=by rw [List.range_succ,List.map_append];rfl
    cases hpf:pgF Pg e.cand (k:Nat) with
    |none=>rw [hpf] at hsome;cases hsome
    |some pag=>
     rw [hpf] at hpo
     simp only [Option.isSome_some,Option.getD_some] at hpo
     have hcf:conF Pg e.cand k=pag.content:=by rw [conF,hpf];rfl
     rw [hcf] at hnc
     (conv=>whnf);(repeat' (first|(refine arith_i ⟨by omega,by omega⟩ ?_;conv=>whnf)|(refine need_o ?_;conv=>whnf)|((refine call_e hpo ?_);conv=>whnf)|((with_reducible refine branch_d (fun hq=>?_) (fun hq=>?_))<;>(try (exfalso;omega))<;>(conv=>whnf))))
     all_goals exact ⟨k+1,by omega,le_mk ⟨rfl,rfl,rfl,rfl,rfl,rfl,rfl,rfl,rfl,rfl,rfl,trivial⟩ ⟨rfl,rfl,rfl,rfl,(by rw [hnc,List.map_append];rfl),trivial⟩ rfl,by omega⟩
   ·obtain rfl:k=(bkOf x e).length:=by omega
    (conv=>whnf);(repeat' (first|(refine arith_i ⟨by omega,by omega⟩ ?_;conv=>whnf)|(refine need_o ?_;conv=>whnf)|((with_reducible refine branch_d (fun hq=>?_) (fun hq=>?_))<;>(try (exfalso;omega))<;>(conv=>whnf))))
    all_goals exact ⟨i+1,by omega,le_mk ⟨rfl,rfl,rfl,own_eq (by rw [hn,List.map_append];show _=_++[encScp (scF x Pg e)];rw [hnumc];rfl),rfl,rfl,rfl,trivial⟩ ⟨rfl,rfl,rfl,trivial⟩ rfl,by omega⟩
  ·have hns:¬(stF x S Pg e).1=1:=fun h=>hc (cpl_iff.1 h)
   have hn:(x.exp.take (i+1)).filter (cplB x S Pg)=(x.exp.take i).filter (cplB x S Pg):=by
    rw [List.take_add_one,he,List.filter_append]
    have:cplB x S Pg e=false:=decide_eq_false hns
    simp [this]
   (conv=>whnf);(repeat' (first|(refine arith_i ⟨by omega,by omega⟩ ?_;conv=>whnf)|((refine idx_cs he ?_);conv=>whnf)|((refine call_e hst ?_);conv=>whnf)|((with_reducible refine branch_d (fun hq=>?_) (fun hq=>?_))<;>(try (exfalso;omega))<;>(conv=>whnf))|((with_reducible refine branch_n (fun hq=>?_) (fun hq=>?_))<;>(try (exfalso;omega))<;>(conv=>whnf))))
   all_goals exact ⟨i+1,by omega,le_mk ⟨rfl,rfl,rfl,own_eq (by rw [hn]),rfl,rfl,rfl,trivial⟩ ⟨rfl,rfl,rfl,trivial⟩ rfl,by omega⟩
 ·obtain rfl:i=x.exp.length:=by omega
  (conv=>whnf);(repeat' (first|((with_reducible refine branch_d (fun hq=>?_) (fun hq=>?_))<;>(try (exfalso;omega))<;>(conv=>whnf))))
  exact ret_t (rs:=[.lst 7 ((x.exp.filter (cplB x S Pg)).map (encScE x Pg)), .int .i64 0]) ⟨.inl (rc_o' (by rw [List.take_length])), .inl (rc_p rfl),trivial⟩ rfl
end Go.Proofs.YtihjphblcohdeaaGreatDoor
namespace Go.Proofs.YtihjphblcohdeaaGreatDoor
open Go.RowKit
section
variable {tt:Nat} {s:St}
end
end Go.Proofs.YtihjphblcohdeaaGreatDoor
namespace Go.Proofs.YtihjphblcohdeaaGreatDoor
set_option maxRecDepth 10000
open Go.RowKit
open F32
theorem sameScript_ok (a b:ScD) (ha:a.pages.length≤1000∧a.ans.length≤1000) (hb:b.pages.length≤1000∧b.ans.length≤1000):Good Tryz.prog TT false 13 [.agg (encScp a), .agg (encScp b)] (fun r=>∃v:Bool,r= .bool v∧(a=b→v=true)):=by
 have h1:=ints_ok a.pages b.pages (by omega) (by omega)
 have h2:=ints_ok a.ans b.ans (by omega) (by omega)
 refine good_of mixed tabOk Tryz.func13 rfl rfl Tryz.ntmps13 Tryz.results13 rfl rfl ?_
 (conv=>whnf);(repeat' (first|((with_reducible first|refine branch_tt ?_|refine branch_ff ?_);conv=>whnf)|((refine call_e h1 ?_);conv=>whnf)|((refine call_e h2 ?_);conv=>whnf)|((with_reducible refine branch_d (fun hq=>?_) (fun hq=>?_))<;>(try (exfalso;omega))<;>(conv=>whnf))|((with_reducible refine branch_e (fun hq=>?_) (fun hq=>?_))<;>(try (exfalso;omega))<;>(conv=>whnf))))
 ·exact ret_p rfl ⟨_,rfl,fun h=>by subst h;exact decide_eq_true rfl⟩
 all_goals exact ret_p rfl ⟨_,rfl,fun h=>by exfalso;subst h;first|omega|simp at hq⟩
section
variable {x:Sit} {A:List (List Int)} {P:List (LabD×List Int)} {at_:LabD} {l:List Cap} {S:List ScS} {Pg:List Pag} {e:ExpD}
theorem pg_val (hx:SitOk x) (hP:P.map (·.1)=labsOf x) (hG:∀c∈l,GC x P at_ c) (hO:Outc x l (lbG x at_) S Pg) (hN:∀c∈l,NewC x at_ c→rejB l c=true∨at_.cand≠e.cand) {k:Nat} {pag:Pag} (h:pgF Pg e.cand k=some pag):∃p∈P,p.1.cand=e.cand∧p.1.page=k∧pag.content=cNum p.1∧pag.ch=p.2:=by
 obtain ⟨h1,h2,h3⟩:=pgF_mem h
 obtain ⟨c,hc,h4,h5⟩:=hO.pag pag h1
 rcases ing_cases hx hP (hG c hc.1) hc with ⟨p,hp,h6,h7,h8⟩|⟨h6,h7, -⟩
 ·exact ⟨p,hp,h7.trans h2,h8.trans h3,h4.trans h6.content,h5.trans h6.ch⟩
 ·rcases hN c hc.1 h6 with h8|h8
  ·rw [hc.2.2.1] at h8;cases h8
  ·exact absurd (h7.trans h2) h8
theorem scan_ing (hx:SitOk x) (hP:P.map (·.1)=labsOf x) {p:LabD×List Int} (hp:p∈P) {c:Cap} {s:Int} (hc:c∈l) (h:ScanOf p.1 p.2 s c) (hr:rejB l c=false):InG l (lbG x at_) (p.1.cand,p.1.page) c:=
 ⟨hc,h.kind,hr,p.1,lbG_scan hx hP hp h,rfl,rfl⟩
theorem lab_pag (hP:P.map (·.1)=labsOf x) (he:e∈x.exp) {k:Nat} (hk:k<(bkOf x e).length):∃p∈P,p.1=labAt x e k:=by
 have:labAt x e k∈labsOf x:=labs_mem.2 ⟨e,he,k,hk,rfl⟩
 rw [←hP] at this
 exact List.mem_map.1 this
theorem ing_scan (hx:SitOk x) (hP:P.map (·.1)=labsOf x) (hG:∀c∈l,GC x P at_ c) (hN:∀c∈l,NewC x at_ c→rejB l c=true∨at_.cand≠e.cand) {k:Int} {c:Cap} (h:InG l (lbG x at_) (e.cand,k) c):∃p∈P,ScanOf p.1 p.2 c.seq c∧p.1.cand=e.cand∧p.1.page=k:=by
 rcases ing_cases hx hP (hG c h.1) h with h1|⟨h6,h7, -⟩
 ·exact h1
 ·rcases hN c h.1 h6 with h8|h8
  ·rw [h.2.2.1] at h8;cases h8
  ·exact absurd h7 h8
theorem cpl_of (hx:SitOk x) (hP:P.map (·.1)=labsOf x) (hG:∀c∈l,GC x P at_ c) (hO:Outc x l (lbG x at_) S Pg) (he:e∈x.exp) (hN:∀c∈l,NewC x at_ c→rejB l c=true∨at_.cand≠e.cand) (hall:∀p∈P,p.1.cand=e.cand→∃c∈l,ScanOf p.1 p.2 c.seq c∧rejB l c=false):Cpl x S Pg e:=by
 refine ⟨fun s hs ⟨h1,h2⟩=>?_,fun k hk=>?_⟩
 ·obtain ⟨c,d,hc,hd,hne⟩:=hO.conf s hs h1
  rw [h2] at hc hd
  obtain ⟨p,hp,h3,h4,h5⟩:=ing_scan hx hP hG hN hc
  obtain ⟨q,hq,h6,h7,h8⟩:=ing_scan hx hP hG hN hd
  exact hne (scan_same hx hP hp hq h3 h6 (h4.trans h7.symm) (h5.trans h8.symm))
 ·obtain ⟨p,hp,hpl⟩:=lab_pag hP he hk
  obtain ⟨c,hc,h1,h2⟩:=hall p hp (by rw [hpl];rfl)
  have hI:=scan_ing (at_:=at_) hx hP hp hc h1 h2
  rw [hpl] at hI
  obtain ⟨pag,hpg,h3,h4⟩:=hO.got _ c hI fun d hd=>by
   obtain ⟨q,hq,h6,h7,h8⟩:=ing_scan hx hP hG hN hd
   exact scan_same hx hP hq hp h6 h1 (by rw [hpl];exact h7) (by rw [hpl];exact h8)
  have:=pgF_some hO.bel.pasc hpg
  rw [h3,h4] at this
  show (pgF Pg e.cand (k:Nat)).isSome=true
  rw [show pgF Pg e.cand (k:Nat)=some pag from this];rfl
theorem cpl_val (hx:SitOk x) (hP:P.map (·.1)=labsOf x) (hG:∀c∈l,GC x P at_ c) (hO:Outc x l (lbG x at_) S Pg) (he:e∈x.exp) (hN:∀c∈l,NewC x at_ c→rejB l c=true∨at_.cand≠e.cand) (hC:Cpl x S Pg e) {k:Nat} (hk:k<(bkOf x e).length) {p:LabD×List Int} (hp:p∈P) (hpl:p.1=labAt x e k):conF Pg e.cand k=100 * e.cand+k∧chsF Pg e.cand k=p.2:=by
 have:=hC.2 k hk
 cases hpg:pgF Pg e.cand (k:Nat) with
 |none=>rw [hpg] at this;cases this
 |some pag=>
  obtain ⟨q,hq,h1,h2,h3,h4⟩:=pg_val hx hP hG hO hN hpg
  have:q=p:=key_uni hx hP hq hp (by rw [hpl];exact h1) (by rw [hpl];exact h2)
  subst this
  rw [conF,chsF,hpg]
  exact ⟨by rw [show (some pag).getD pag0=pag from rfl,h3,hpl];rfl,h4⟩
end
theorem scF_same {x:Sit} {P:List (LabD×List Int)} {at_ at2:LabD} {l l2:List Cap} {S S2:List ScS} {Pg Pg2:List Pag} {e:ExpD} (hx:SitOk x) (hP:P.map (·.1)=labsOf x) (he:e∈x.exp)
 (hG:∀c∈l,GC x P at_ c) (hO:Outc x l (lbG x at_) S Pg) (hN:∀c∈l,NewC x at_ c→rejB l c=true∨at_.cand≠e.cand) (hC:Cpl x S Pg e)
 (hG2:∀c∈l2,GC x P at2 c) (hO2:Outc x l2 (lbG x at2) S2 Pg2) (hN2:∀c∈l2,NewC x at2 c→rejB l2 c=true∨at2.cand≠e.cand) (hC2:Cpl x S2 Pg2 e):scF x Pg e=scF x Pg2 e:=
 scF_congr fun k hk=>by
  obtain ⟨p,hp,hpl⟩:=lab_pag hP he hk
  obtain ⟨h1,h2⟩:=cpl_val hx hP hG hO he hN hC hk hp hpl
  obtain ⟨h3,h4⟩:=cpl_val hx hP hG2 hO2 he hN2 hC2 hk hp hpl
  exact ⟨h1.trans h3.symm,h2.trans h4.symm⟩
def queC:Cap:=⟨60,9,1,1,[63],0,[],0,0,⟨0,0,0,0⟩⟩
def rejC:Cap:=⟨61,9,2,3,[],0,[],9,1,⟨0,0,0,0⟩⟩
section
variable {x:Sit} {A:List (List Int)} {P:List (LabD×List Int)} {out:List Cap} {at_:LabD}
theorem caps_gc (hC:Caps x A P out) {c:Cap} (h:c∈out):GC x P at_ c∧StpOk (stampOf c):=by
 obtain ⟨h1,h2,p,hp,h3⟩:=hC.cap c h
 refine ⟨.inl ⟨p,hp,h3⟩,?_⟩
 have h4:=h3.time
 have h5:=h3.src
 show 0≤c.time∧c.time≤1000000∧0≤c.src∧c.src≤99∧0≤c.seq∧c.seq≤9999
 omega
theorem caps_kind (hC:Caps x A P out) {c:Cap} (h:c∈out):c.kind=1∧1≤c.src∧c.src≤3∧c.content≠77777∨¬SitOk x:=by
 obtain ⟨h1,h2,p,hp,h3⟩:=hC.cap c h
 by_cases hx:SitOk x
 ·refine .inl ⟨h3.kind,h3.src.1,h3.src.2,?_⟩
  obtain ⟨i,e,k,pg,he,hk,hl, -⟩:=pag_fit (hC.pag p hp)
  have hm:p.1∈labsOf x:=labs_mem.2 ⟨e,List.mem_of_getElem? he,k,(List.getElem?_eq_some_iff.1 hk).1,hl⟩
  have:=lab_num hx hm
  have h4:c.content=cNum p.1:=h3.content
  omega
 ·exact .inr hx
theorem early_in (hx:SitOk x) (hP:P.map (·.1)=labsOf x) (hC:Caps x A P out) (n:Nat):InOk x (out.take n) (lbG x at_):=
 inOk_of hx hP hC.pag (by rw [List.length_take];have:=hC.len;omega) (fun c hc=>caps_gc hC (List.mem_of_mem_take hc)) fun c hc d hd _ h=>hC.inj c (List.mem_of_mem_take hc) d (List.mem_of_mem_take hd) h
theorem late_in (hx:SitOk x) (hP:P.map (·.1)=labsOf x) (hC:Caps x A P out):InOk x (out++[queC,rejC]) (lbG x at_):=by
 have hm:∀c,c∈out++[queC,rejC]↔c∈out∨c=queC∨c=rejC:=fun c=>by simp
 refine inOk_of hx hP hC.pag (by simp;have:=hC.len;omega) (fun c hc=>?_) fun c hc d hd h1 h2=>?_
 ·rcases (hm c).1 hc with h|rfl|rfl
  ·exact caps_gc hC h
  ·exact ⟨.inr (.inr (.inl ⟨rfl,rfl,rfl,rfl⟩)),by unfold StpOk;decide⟩
  ·exact ⟨.inr (.inr (.inr ⟨rfl,rfl⟩)),by unfold StpOk;decide⟩
 ·have k:∀c∈out,c.src≤3:=fun c h=>by
   obtain ⟨-, -,p, -,h3⟩:=hC.cap c h
   exact h3.src.2
  rcases (hm c).1 hc with h|rfl|rfl<;>rcases (hm d).1 hd with h'|rfl|rfl
  ·exact hC.inj c h d h' h2
  ·have:=k c h;have:queC.src=9:=rfl;omega
  ·have:=k c h;have:rejC.src=9:=rfl;omega
  ·have:=k d h';have:queC.src=9:=rfl;omega
  ·rfl
  ·cases h2
  ·have:=k d h';have:rejC.src=9:=rfl;omega
  ·cases h2
  ·rfl
theorem no_new (hx:SitOk x) (hC:Caps x A P out) {c:Cap} (h:c∈out):¬NewC x at_ c:=fun hn=>by
 rcases caps_kind hC h with h1|h1
 ·exact h1.2.2.2 hn.content
 ·exact h1 hx
theorem stable_plain (hx:SitOk x) (hP:P.map (·.1)=labsOf x) (hC:Caps x A P out) {n:Nat} {S1 S2:List ScS} {Pg1 Pg2:List Pag} (h1:Outc x (out.take n) (lbG x at_) S1 Pg1) (h2:Outc x (out++[queC,rejC]) (lbG x at_) S2 Pg2):
 (∀e∈x.exp,Cpl x S2 Pg2 e)∧∀e∈x.exp,Cpl x S1 Pg1 e→scF x Pg1 e=scF x Pg2 e:=by
 have hm:∀c,c∈out++[queC,rejC]↔c∈out∨c=queC∨c=rejC:=fun c=>by simp
 have g1:∀c∈out.take n,GC x P at_ c:=fun c hc=>(caps_gc hC (List.mem_of_mem_take hc)).1
 have g2:∀c∈out++[queC,rejC],GC x P at_ c:=fun c hc=>by
  rcases (hm c).1 hc with h|rfl|rfl
  ·exact (caps_gc hC h).1
  ·exact .inr (.inr (.inl ⟨rfl,rfl,rfl,rfl⟩))
  ·exact .inr (.inr (.inr ⟨rfl,rfl⟩))
 have n1:∀e:ExpD,∀c∈out.take n,NewC x at_ c→rejB (out.take n) c=true∨at_.cand≠e.cand:=fun e c hc hn=>absurd hn (no_new hx hC (List.mem_of_mem_take hc))
 have n2:∀e:ExpD,∀c∈out++[queC,rejC],NewC x at_ c→rejB (out++[queC,rejC]) c=true∨at_.cand≠e.cand:=fun e c hc hn=>by
  rcases (hm c).1 hc with h|rfl|rfl
  ·exact absurd hn (no_new hx hC h)
  ·have:=hn.content;cases this
  ·have:=hn.kind;cases this
 have hr:∀c∈out,rejB (out++[queC,rejC]) c=false:=fun c hc=>by
  rw [rejB,List.any_eq_false]
  intro d hd
  rw [decide_eq_true_eq]
  intro hr
  rcases caps_kind hC hc with ⟨-, -,h3, -⟩|h3
  ·rcases (hm d).1 hd with h|rfl|rfl
   ·rcases caps_kind hC h with h4|h4
    ·have:=h4.1;have:=hr.1;omega
    ·exact h4 hx
   ·have:=hr.1;cases this
   ·have:=hr.2.1;have e:rejC.tsrc=9:=rfl;omega
  ·exact h3 hx
 have hc2:∀e∈x.exp,Cpl x S2 Pg2 e:=fun e he=>cpl_of hx hP g2 h2 he (n2 e) fun p hp _=>by
  obtain ⟨c,hc,h3⟩:=hC.all p hp
  exact ⟨c,(hm c).2 (.inl hc),h3,hr c hc⟩
 exact ⟨hc2,fun e he hc=>scF_same hx hP he g1 h1 (n1 e) hc g2 h2 (n2 e) (hc2 e he)⟩
end
end Go.Proofs.YtihjphblcohdeaaGreatDoor
namespace Go.Proofs.YtihjphblcohdeaaGreatDoor
set_option maxRecDepth 10000
open Go.RowKit
def plT23g_0:Plan:=(.take 0 (.take 1 (.take 2 (.take 3 (.alt 4 (.alt 5 (.take 6 (.take 7 (.take 8 (.take 9 (.take 10 .done))))) .stop) .stop)))))
def plT23g_2:Plan:=(.take 1 (.take 2 (.alt 0 (.alt 3 (.alt 4 (.take 5 (.take 6 (.take 7 (.alt 8 (.alt 9 (.take 10 .done) .stop) .stop)))) (.alt 8 (.alt 4 (.take 5 (.take 6 (.take 7 (.alt 9 (.take 10 .done) .stop)))) .stop) .stop)) (.alt 8 (.alt 3 (.alt 4 (.take 5 (.take 6 (.take 7 (.alt 9 (.take 10 .done) .stop)))) .stop) .stop) .stop)) (.alt 3 (.alt 0 (.alt 4 (.take 5 (.take 6 (.take 7 (.alt 8 (.alt 9 (.take 10 .done) .stop) .stop)))) (.alt 8 (.alt 4 (.take 5 (.take 6 (.take 7 (.alt 9 (.take 10 .done) .stop)))) .stop) .stop)) (.alt 8 (.alt 0 (.alt 4 (.take 5 (.take 6 (.take 7 (.alt 9 (.take 10 .done) .stop)))) .stop) .stop) .stop)) (.alt 8 (.alt 0 (.alt 3 (.alt 4 (.take 5 (.take 6 (.take 7 (.alt 9 (.take 10 .done) .stop)))) .stop) .stop) (.alt 3 (.alt 0 (.alt 4 (.take 5 (.take 6 (.take 7 (.alt 9 (.take 10 .done) .stop)))) .stop) .stop) .stop)) .stop)))))
def plT23g_3:Plan:=(.take 0 (.take 1 (.take 2 (.take 3 (.take 4 (.take 5 (.take 6 (.take 7 (.take 8 (.take 9 (.alt 10 (.take 11 (.take 12 .done)) .stop)))))))))))
open F32
structure SetUp (x:Sit) (A:List (List Int)) (P:List (LabD×List Int)) (out:List Cap):Prop where
 sit:SitOk x
 int:IntOk x A
 caps:Caps x A P out
 labs:P.map (·.1)=labsOf x
theorem call_sit {b:Bool} {f:Nat} {args:List AV} {K:AV→Prop} {alt:Prop} (hG:Good Tryz.prog TT b f args (fun r=>∃x,r=sitV x∧SitOk x)) (h:∀x,SitOk x→K (sitV x)):acall Tryz.prog TT b f args K alt:=
 call_i hG fun r hr=>by obtain ⟨x,rfl,hx⟩:=hr;exact h x hx
theorem call_int {b:Bool} {f:Nat} {args:List AV} {K:AV→Prop} {alt:Prop} {x:Sit} (hG:Good Tryz.prog TT b f args (fun r=>∃A,IntOk x A∧r= .lst 1 (A.map encL))) (h:∀A,IntOk x A→K (.lst 1 (A.map encL))):acall Tryz.prog TT b f args K alt:=
 call_i hG fun r hr=>by obtain ⟨x,hx,rfl⟩:=hr;exact h x hx
theorem call_scans {b:Bool} {f:Nat} {args:List AV} {K:AV→Prop} {alt:Prop} {x:Sit} {A:List (List Int)} (hx:SitOk x) (hA:IntOk x A) (hG:Good Tryz.prog TT b f args (fun r=>∃P out,Caps x A P out∧P.map (·.1)=labsOf x∧r= .tup [.lst 13 (out.map encC), .bool true])) (h:∀P out,SetUp x A P out→out.length≤70→K (.tup [.lst 13 (out.map encC), .bool true])):acall Tryz.prog TT b f args K alt:=
 call_i hG fun r hr=>by obtain ⟨P,out,hC,hP,rfl⟩:=hr;exact h P out ⟨hx,hA,hC,hP⟩ hC.len
theorem call_sort {b:Bool} {f:Nat} {args:List AV} {K:AV→Prop} {alt:Prop} {x:Sit} {l:List Cap} {lb:Cap→Option LabD} (hG:Good Tryz.prog TT b f args (fun r=>∃S Pg,Outc x l lb S Pg∧r= .tup [inV S Pg, .int .i64 0])) (h:∀S Pg,Outc x l lb S Pg→K (.tup [inV S Pg, .int .i64 0])):acall Tryz.prog TT b f args K alt:=
 call_i hG fun r hr=>by obtain ⟨S,Pg,hO,rfl⟩:=hr;exact h S Pg hO
theorem call_same {b:Bool} {f:Nat} {args:List AV} {K:AV→Prop} {alt:Prop} {a c:ScD} (hG:Good Tryz.prog TT b f args (fun r=>∃v:Bool,r= .bool v∧(a=c→v=true))) (h:∀v:Bool,(a=c→v=true)→K (.bool v)):acall Tryz.prog TT b f args K alt:=
 call_i hG fun r hr=>by obtain ⟨v,rfl,hv⟩:=hr;exact h v hv
theorem all_cpl {x:Sit} {S:List ScS} {Pg:List Pag} (h:∀e∈x.exp,Cpl x S Pg e):x.exp.filter (cplB x S Pg)=x.exp:=
 List.filter_eq_self.2 fun e he=>decide_eq_true (cpl_iff.2 (h e he))
theorem scF_small {x:Sit} (hx:SitOk x) {Pg:List Pag} {e:ExpD} (he:e∈x.exp):(scF x Pg e).pages.length≤1000∧(scF x Pg e).ans.length≤1000:=by
 have h1:=(sit_pap hx he).2.eight
 have h2:(papOf x e).length≤6:=(sit_pap hx he).2.six
 refine ⟨?_,?_⟩
 ·rw [scF,List.length_map,List.length_range];omega
 ·show (ansP (papOf x e) (bkOf x e) (chsF Pg e.cand) (bkOf x e).length).length≤1000
  rw [ansP_len];omega
theorem cut_key {tt:Nat} {α β:Type} {K:St→Prop} {G:Prop} (I:α→β→Prop) (st:α→β→St) (main:(∀a b s,I a b→Le tt s (st a b)→rest tt K s)→G) (pf:∀a b,I a b→K (st a b)):G:=main fun a b s hI hle=>rest_i _ hle (pf a b hI)
def inC (S:List ScS) (Pg:List Pag):List AV:=[.lst 7 (S.map encSS), .lst 6 (Pg.map encPa)]
set_option maxHeartbeats 16000000 in
theorem stable_law (xs:List Int) (hxs:xs.length≤9223372036854775807):Good Tryz.prog TT false 3 [ints xs] (· = .bool true):=by
 refine good_of_c (fun i=>Nat.beq i 9) mixed tabOk Tryz.func3 rfl rfl Tryz.ntmps3 Tryz.results3 rfl rfl ?_
 (conv=>whnf);(repeat' (first|((with_reducible refine branch_tt ?_);conv=>whnf)|(with_reducible refine branch_not ?_)|((refine call_e (new_ok xs hxs) ?_);conv=>whnf)|((refine call_sit sitting_ok fun x hx=>?_);conv=>whnf)|((refine call_int (intended_ok x hx) fun A hA=>?_);conv=>whnf)|((refine call_scans hx hA (scans_ok x hx A hA) fun P out hU ho70=>?_);conv=>whnf)|(refine draw_i 11 plT23g_0 (by decide+kernel) ?_;(conv=>whnf);fail_if_success (guard_target=~ False))|((with_reducible refine And.intro ?_ ?_)<;>(conv=>whnf))|(with_reducible exact trivial)))
 have LO:(out.map encC).length=out.length:=List.length_map ..
 have hl4:=sit_len hx
 have LE0:(x.exp.map encE).length=x.exp.length:=List.length_map ..
 (conv=>whnf);(repeat' (first|((refine call_n (range_ok _ _ (by omega) (by omega)) fun m hm=>?_);conv=>whnf)|fail))
 have hm2:=hm.2 (by omega)
 have e1:((out.map encC).take m.toNat).drop (Int.toNat 0)=(out.take m.toNat).map encC:=by simp
 have hS1:=sortOut_ok x hx (out.take m.toNat) (lbG x lab0) (early_in hU.sit hU.labs hU.caps m.toNat)
 rw [←e1] at hS1
 have hS2:=sortOut_ok x hx (out++[queC,rejC]) (lbG x lab0) (late_in hU.sit hU.labs hU.caps)
 have e2:(out++[queC,rejC]).map encC=[]++out.map encC++[encC queC,encC rejC]:=by simp
 rw [e2] at hS2
 apply cut_key (tt:=TT) (fun S1 Pg1=>Outc x (out.take m.toNat) (lbG x lab0) S1 Pg1) (fun S1 Pg1=>mkSt [(4, .ptr 4 0),(5, .lst 13 (out.map encC)),(8, .ptr 8 0),(9, .ptr 9 0),(10, .int .i64 0)] [(4,sitC x),(8,thrC),(9,inC S1 Pg1)] true)
 ·intro key
  (conv=>whnf);(repeat' (first|((refine sub_i (by omega) ?_);conv=>whnf)|((refine call_sort hS1 fun S1 Pg1 hO1=>?_);conv=>whnf)|(refine draw_i 0 plT23g_2 (by decide+kernel) ?_;(conv=>whnf);fail_if_success (guard_target=~ False))|((with_reducible refine And.intro ?_ ?_)<;>(conv=>whnf))|(with_reducible exact trivial)))
  all_goals exact key S1 Pg1 _ hO1 le_q
 ·intro S1 Pg1 hO1
  (conv=>whnf);(repeat' (first|(refine need_o ?_;conv=>whnf)|((with_reducible refine branch_ff ?_);conv=>whnf)|((refine call_e (accept_ok x hx S1 Pg1 hO1.bel) ?_);conv=>whnf)|((refine nils_i [.int .i64 60, .int .i64 9, .int .i64 1, .int .i64 1, .str (bt [63]), .int .i64 0, .lst 1 [], .int .i64 0, .int .i64 0, .int .i64 0, .int .i64 0, .int .i64 0, .int .i64 0, .int .i64 61, .int .i64 9, .int .i64 2, .int .i64 3, .str (bt []), .int .i64 0, .lst 1 [], .int .i64 9, .int .i64 1, .int .i64 0, .int .i64 0, .int .i64 0, .int .i64 0] ⟨rfl,rfl,rfl,rfl,rfl,rfl,pc_nil 1,rfl,rfl,rfl,rfl,rfl,rfl,rfl,rfl,rfl,rfl,rfl,rfl,pc_nil 1,rfl,rfl,rfl,rfl,rfl,rfl,trivial⟩ ?_);conv=>whnf)|((refine call_sort hS2 fun S2 Pg2 hO2=>?_);conv=>whnf)|(((have hacc:=accept_ok x hx S2 Pg2 hO2.bel;rw [all_cpl (stable_plain hU.sit hU.labs hU.caps hO1 hO2).1] at hacc;have LX:(x.exp.map (encScE x Pg2)).length=x.exp.length:=(List.length_map ..);refine call_e hacc ?_));conv=>whnf)|((with_reducible refine callS_a ?_);conv=>whnf)|((with_reducible refine branch_n (fun hq=>?_) (fun hq=>?_))<;>(try (exfalso;omega))<;>(conv=>whnf))))
  obtain ⟨hcp,hsm⟩:=stable_plain hU.sit hU.labs hU.caps hO1 hO2
  generalize hE:x.exp.filter (cplB x S1 Pg1)=E
  have LE:(E.map (encScE x Pg1)).length=E.length:=List.length_map ..
  have hEl:E.length≤x.exp.length:=by rw [←hE];exact List.length_filter_le ..
  have hEm:∀e∈E,e∈x.exp∧scF x Pg1 e=scF x Pg2 e:=fun e he=>by
   rw [←hE,List.mem_filter,cplB,decide_eq_true_eq] at he
   exact ⟨he.1,hsm e he.1 (cpl_iff.1 he.2)⟩
  refine loop_i (fun i:Nat=>i≤E.length) (fun i=>mkSt [(11, .lst 7 (E.map (encScE x Pg1))),(16, .lst 7 (x.exp.map (encScE x Pg2))),(18, .int .i64 i)] [] true) (fun i=>E.length-i) 0 (Nat.zero_le _) (le_mk ⟨rfl,rfl,rfl,trivial⟩ trivial rfl) ?_
  intro i hi
  rcases Nat.lt_or_ge i E.length with hil|hil
  ·obtain ⟨e,heE⟩:∃e,E[i]? =some e:=⟨_,List.getElem?_eq_getElem hil⟩
   obtain ⟨hem,hes⟩:=hEm e (List.mem_of_getElem? heE)
   obtain ⟨j0,hj0⟩:=List.mem_iff_getElem?.1 hem
   have hj0l:=(List.getElem?_eq_some_iff.1 hj0).1
   (conv=>whnf);(repeat' (first|((with_reducible refine branch_d (fun hq=>?_) (fun hq=>?_))<;>(try (exfalso;omega))<;>(conv=>whnf))))
   refine loop_i2 (fun (j:Nat) (b:Bool)=>j≤x.exp.length∧(j0<j→b=true)) (fun j b=>mkSt [(11, .lst 7 (E.map (encScE x Pg1))),(16, .lst 7 (x.exp.map (encScE x Pg2))),(18, .int .i64 i),(19, .bool b),(20, .int .i64 j)] [] true) (fun j _=>x.exp.length-j) 0 false ⟨Nat.zero_le _,fun h=>absurd h (by omega)⟩ (le_mk ⟨rfl,rfl,rfl,rfl,rfl,trivial⟩ trivial rfl) ?_
   rintro j b ⟨hj,hb⟩
   rcases Nat.lt_or_ge j x.exp.length with hjl|hjl
   ·obtain ⟨e',he'⟩:∃e,x.exp[j]? =some e:=⟨_,List.getElem?_eq_getElem hjl⟩
    have hss:=sameScript_ok (scF x Pg1 e) (scF x Pg2 e') (scF_small hx hem) (scF_small hx (List.mem_of_getElem? he'))
    have hgo:∀v:Bool,(scF x Pg1 e=scF x Pg2 e'→v=true)→(j0<j+1→(b||v)=true):=fun v hv h=>by
     by_cases hjj:j0=j
     ·subst hjj
      rw [hj0] at he';cases he'
      rw [hv hes,Bool.or_true]
     ·rw [hb (by omega)];rfl
    cases b
    ·(conv=>whnf);(repeat' (first|(refine arith_i ⟨by omega,by omega⟩ ?_;conv=>whnf)|((with_reducible refine branch_ff ?_);conv=>whnf)|((refine idx_cs heE ?_);conv=>whnf)|((refine idx_cs he' ?_);conv=>whnf)|((refine call_same hss fun v hv=>?_);conv=>whnf)|(refine draw_i 13 plT23g_3 (by decide+kernel) ?_;(conv=>whnf);fail_if_success (guard_target=~ False))|((with_reducible refine And.intro ?_ ?_)<;>(conv=>whnf))|(with_reducible exact trivial)|((with_reducible refine branch_d (fun hq=>?_) (fun hq=>?_))<;>(try (exfalso;omega))<;>(conv=>whnf))))
     all_goals exact ⟨j+1,v,⟨by omega,fun h=>by simpa using hgo v hv h⟩,le_q,by omega⟩
    ·(conv=>whnf);(repeat' (first|(refine arith_i ⟨by omega,by omega⟩ ?_;conv=>whnf)|((with_reducible refine branch_tt ?_);conv=>whnf)|(refine draw_i 13 plT23g_3 (by decide+kernel) ?_;(conv=>whnf);fail_if_success (guard_target=~ False))|((with_reducible refine And.intro ?_ ?_)<;>(conv=>whnf))|(with_reducible exact trivial)|((with_reducible refine branch_d (fun hq=>?_) (fun hq=>?_))<;>(try (exfalso;omega))<;>(conv=>whnf))))
     all_goals exact ⟨j+1,true,⟨by omega,fun _=>rfl⟩,le_q,by omega⟩
   ·obtain rfl:j=x.exp.length:=by omega
    obtain rfl:b=true:=hb hj0l
    (conv=>whnf);(repeat' (first|(refine arith_i ⟨by omega,by omega⟩ ?_;conv=>whnf)|((with_reducible refine branch_tt ?_);conv=>whnf)|(with_reducible refine branch_not ?_)|((with_reducible refine branch_d (fun hq=>?_) (fun hq=>?_))<;>(try (exfalso;omega))<;>(conv=>whnf))))
    all_goals exact ⟨i+1,by omega,le_q,by omega⟩
  ·obtain rfl:i=E.length:=by omega
   (conv=>whnf);(repeat' (first|((refine call_e awake23_ok ?_);conv=>whnf)|((with_reducible refine branch_d (fun hq=>?_) (fun hq=>?_))<;>(try (exfalso;omega))<;>(conv=>whnf))))
   all_goals exact ret_p rfl rfl
end Go.Proofs.YtihjphblcohdeaaGreatDoor
namespace Go.Proofs.YtihjphblcohdeaaGreatDoor
open Go.ChangeShapes Go.WideShapes Go.ChangeAt Go.WideMaps Go.WideElems Go.RowKit
def laidL:List (String×DataW Unit):=Rows.topStableRow.laid
def nmG (j:Nat):String:=(laidL.map Prod.fst).getD j default
theorem gPow:Tryz.prog.globalNamed (nmG 0)=some 0:=by kernel_rfl
theorem gLog:Tryz.prog.globalNamed (nmG 1)=some 1:=by kernel_rfl
theorem arr_at {P:Program} {w:World} {base:Nat} {spare:Nat→Bool} {held:Bool} {fuel:Nat} {t e:TypeId} {n:Nat} {cs:List Value} {enc:TypeId×Value→Unit} {x:DataW Unit×List MemPlace} (ht:P.underlying t=some (.array n e)) (he:P.underlying e=some (.int .i64)) (hc:P.cellsOf e=1)
 (h:DataW.trod enc P w base spare held fuel t cs=some x) {zs:List Int} (hx:x.1= .agg (zs.map fun z=> .lit (.int .i64 z))) (hn:zs.length=n):∀(j:Nat) (z:Int),zs[j]? =some z→cs[j]? =some (.int .i64 z):=by
 intro j z hz
 obtain ⟨xs,m,rfl,rfl, -,hxl,hel⟩:=DataW.trod_array ht h
 have hj:j<n:=by have:=(List.getElem?_eq_some_iff.1 hz).1;omega
 have h1:=hel j hj
 rw [hc,Nat.mul_one] at h1
 obtain ⟨y,hy⟩:∃y,xs[j]? =some y:=⟨_,List.getElem?_eq_getElem (by omega)⟩
 rw [hy] at h1
 obtain ⟨k,e1,e2, -⟩:=DataW.trod_int he h1
 have h2:xs.map (·.1)=zs.map fun z=> .lit (.int .i64 z):=by simpa using hx
 have h3:(xs.map (·.1))[j]? =some (.lit (.int .i64 z)):=by rw [h2,List.getElem?_map,hz];rfl
 rw [List.getElem?_map,hy,e2] at h3
 simp at h3
 subst h3
 have h4:(cs.drop j)[0]? =some (.int .i64 k):=by
  have:((cs.drop j).take 1)[0]? =some (.int .i64 k):=by rw [e1];rfl
  rwa [List.getElem?_take_of_lt (by omega)] at this
 rwa [List.getElem?_drop,Nat.add_zero] at h4
theorem blk_lt {w:World} {g:Nat} {v:Value} (h:w.cell? ⟨g,0,none⟩=some v):g<w.heap.size:=by
 rcases Nat.lt_or_ge g w.heap.size with h1|h1
 ·exact h1
 ·simp [World.cell?,Array.getElem?_eq_none h1] at h
theorem of_laid {W:World} (h:laidMetH Tryz.prog laidL W):GlobAt W No none:=by
 rw [MakeChecks.laidMetH_plain _ _ _ (by kernel_rfl)] at h
 obtain ⟨ps,⟨g0,t0,cs0,f0,p0,q0,hg0,ht0,hv0,hd0,⟨g1,t1,cs1,f1,p1,q1,hg1,ht1,hv1,hd1,_,_⟩,_⟩,_,_⟩:=h
 obtain rfl:=Option.some.inj (gPow.symm.trans hg0)
 obtain rfl:=Option.some.inj (gLog.symm.trans hg1)
 obtain rfl:=Option.some.inj ((show (Tryz.prog.globals[0]?).map (·.type)=some 254 by kernel_rfl).symm.trans ht0)
 obtain rfl:=Option.some.inj ((show (Tryz.prog.globals[1]?).map (·.type)=some 255 by kernel_rfl).symm.trans ht1)
 have c3:Tryz.prog.cellsOf 3=1:=by kernel_rfl
 have a0:=arr_at Tryz.underlying254 Tryz.underlying3 c3 hd0 (zs:=(laidG.getD 0 (0,[])).2) rfl rfl
 have a1:=arr_at Tryz.underlying255 Tryz.underlying3 c3 hd1 (zs:=(laidG.getD 1 (0,[])).2) rfl rfl
 have b0:∀(j:Nat) (z:Int),(laidG.getD 0 (0,[])).2[j]? =some z→W.cell? ⟨0,j,none⟩=some (.int .i64 z):=fun j z h=>by rw [World.var?_cell gPow hv0 j,←Array.getElem?_toList];exact a0 j z h
 have b1:∀(j:Nat) (z:Int),(laidG.getD 1 (0,[])).2[j]? =some z→W.cell? ⟨1,j,none⟩=some (.int .i64 z):=fun j z h=>by rw [World.var?_cell gLog hv1 j,←Array.getElem?_toList];exact a1 j z h
 intro g xs h
 rw [lookG,laidG,lkG,lkG,lkG] at h
 cases h0:Nat.beq g 0
 ·rw [h0] at h
  cases h1:Nat.beq g 1
  ·rw [h1] at h;cases h
  ·rw [h1] at h
   obtain rfl:=Nat.eq_of_beq_eq_true h1
   cases h
   exact ⟨blk_lt (b1 0 _ rfl),no_,nofun,b1⟩
 ·rw [h0] at h
  obtain rfl:=Nat.eq_of_beq_eq_true h0
  cases h
  exact ⟨blk_lt (b0 0 _ rfl),no_,nofun,b0⟩
theorem door_met (os:Os) (args:Array Value):laidMetH Tryz.prog laidL ((World.doorLaid Tryz.prog 400 os).forCall (fun _ _=>0) ⟨#[],args,[]⟩).memory:=
 laidMetH_of_parts3 (fuel:=8) (laidMet_of_run' 8 (by kernel_rfl) (by kernel_rfl)) (by kernel_rfl) (by kernel_rfl)
theorem law_all {f:Nat} {args:List AV} (hG:Good Tryz.prog TT false f args (· = .bool true)) {w:World} {us:List Value} (hgl:GlobAt w No none) (h:All2 (RepV w No) args us):
 Calls Tryz.prog f us.toArray w (fun e w'=>e= .returned (.bool true)∧Chg No w w'):=by
 have hx:∀b,GX (G0 none No (none,0,0)) b→False:=fun b hb=>by rcases hb with hb|hb<;>simp_all [GM,G0,No]
 refine Calls.mono (hG.2 w No none us (none,0,0) (fun b hb=>absurd hb no_) hgl rfl (h.mono fun v u hr=>RC.ra (RepV.rc (RepV.move hr (fun _ _ _=>rfl) fun b _ hb=>(hx b hb).elim))) nofun) ?_
 rintro e w' ⟨u,r,rfl,rfl,hr,hc, -⟩
 have hu:RepV w' (GX (G0 none No (none,0,0))) (.bool true) u:=hr
 cases hu
 exact ⟨rfl,hc.down.mono fun b _ hb=>by cases hb⟩
theorem ints_row {w:World} {a:Option Addr} {len cap:Nat} {zs:List Int} (h:Ints w No a len cap zs):RepV w No (ints zs) (.slice a len cap):=ints_rep h
theorem ints_max {w:World} {a:Option Addr} {len cap:Nat} {zs:List Int} (h:Ints w No a len cap zs) (hc:cap≤maxLen):zs.length≤9223372036854775807:=by
 have h1:=h.len
 have h2:=h.cap
 have h3:maxLen=9223372036854775807:=rfl
 omega
end Go.Proofs.YtihjphblcohdeaaGreatDoor
