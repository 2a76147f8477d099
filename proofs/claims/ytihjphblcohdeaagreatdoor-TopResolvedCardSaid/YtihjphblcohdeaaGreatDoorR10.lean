/- Several texts in one: T20m, Pl32, Pl33, T23k, Laid. (Printed small by a program: remarks, spaces and repeated headings are taken out.) -/
import Derived.Test.YtihjphblcohdeaaGreatDoorR9
import Derived.Test.YtihjphblcohdeaaGreatDoorRows
import Derived.Test.YtihjphblcohdeaaGreatDoorR4
import Derived.ProofKit
import Derived.LaidMore
import Derived.OpenShut
import Derived.Stop.Joined
set_option linter.unusedVariables false
set_option linter.unusedSimpArgs false
set_option linter.unnecessarySimpa false
set_option linter.unusedSectionVars false
namespace Go.Proofs.YtihjphblcohdeaaGreatDoor
set_option maxRecDepth 10000
open Go.RowKit
def plT20m_0:Plan:=(.take 0 (.take 1 (.take 2 (.take 4 (.take 5 (.alt 3 (.take 6 (.take 7 (.altE 8 .done .stop))) .stop))))))
def plT20m_2:Plan:=(.take 0 (.take 1 (.take 2 (.take 3 (.take 4 (.take 5 (.take 6 (.take 7 (.take 8 (.take 9 (.take 10 (.take 11 (.take 13 (.take 14 (.alt 12 (.take 15 (.alt 16 (.alt 17 (.take 18 (.alt 19 .done .stop)) .stop) .stop)) .stop)))))))))))))))
open F32
set_option maxHeartbeats 4000000 in
theorem intakeCanM_ok (l:List Cap) (hl:CpsOk l):GoodM Tryz.prog TT false 33 [.own 1100 56 13 (l.map encC)] [] (fun r ov bx=>bx=[]∧ov=[(1000, .own 1100 56 13 (l.map encC))]∧∃cs,CanC l cs∧r= .tup [.lst 13 (cs.map encC), .int .i64 0]):=by
 have hlen:=hl.len
 refine good_of_m (fun _=>false) mixed tabOk Tryz.func33 rfl rfl Tryz.ntmps33 Tryz.results33 rfl rfl ?_
 (conv=>whnf);(repeat' (first|(((refine call_i (copiesCanO_ok l hl) fun r hr=>?_;obtain ⟨C,hC,rfl⟩:=hr));conv=>whnf)|((refine own_k (scal_nt C) ?_);conv=>whnf)|((with_reducible refine callS_a ?_);conv=>whnf)|((with_reducible refine branch_n (fun hq=>?_) (fun hq=>?_))<;>(try (exfalso;omega))<;>(conv=>whnf))))
 have hcs:=hC.caps hl
 have LC:(C.map encNt).length=C.length:=List.length_map ..
 have hcl:C.length≤l.length:=by have:=hC.grp.len;simpa using this
 (conv=>whnf);(repeat' (first|(refine need_o ?_;conv=>whnf)|((refine nils_i (encC cap0) ⟨rfl,rfl,rfl,rfl,rfl,rfl,pc_nil 1,rfl,rfl,rfl,rfl,rfl,rfl,trivial⟩ ?_);conv=>whnf)|fail))
 generalize hcse:C.map (capAt l)=cs at hcs
 have hcsl:cs.length=C.length:=by rw [←hcse,List.length_map]
 refine loop_i (fun k:Nat=>k≤cs.length) (fun k=>mkSt [(0, .own 1100 56 13 (l.map encC)),(6, .own (Tg.s 19) 56 13 (cpL cs k)),(20, .lst 1 (C.map encNt)),(21, .int .i64 cs.length),(22, .int .i64 k),(1000, .own 1100 56 13 (l.map encC))] [] false) (fun k=>cs.length-k) 0 (by omega) ((le_erase 11).trans (le_mk ⟨rfl,own_eq (by rw [LC];simp [cpL,hcsl]),rfl,int_eq (by rw [LC,hcsl]),rfl,rfl,trivial⟩ trivial rfl)) ?_
 intro k hk
 have L1:(cpL cs k).length=cs.length:=by simp [cpL];omega
 rcases Nat.lt_or_ge k cs.length with hkl|hkl
 ·obtain ⟨i,hi⟩:∃i,C[k]? =some i:=⟨_,List.getElem?_eq_getElem (by omega)⟩
  have hil:i<l.length:=by have:=hC.grp.lt i (List.mem_of_getElem? hi);simpa using this
  have hci:l[i]? =some (capAt l i):=by rw [capAt,List.getD_eq_getElem?_getD,List.getElem?_eq_getElem hil];rfl
  have hck:cs[k]? =some (capAt l i):=by rw [←hcse,List.getElem?_map,hi];rfl
  have hch:=hl.ch _ (List.mem_of_getElem? hci)
  generalize capAt l i=c at *
  have hz:(cpL cs k)[k]? =some (encC cap0):=by
   have h:((cs.take k).map encC).length=k:=by simp;omega
   rw [cpL,List.getElem?_append_right (by omega),h,Nat.sub_self,List.getElem?_replicate,if_pos (by omega)]
  (conv=>whnf);(repeat' (first|(refine arith_i ⟨by omega,by omega⟩ ?_;conv=>whnf)|((refine idx_cs hi ?_);conv=>whnf)|((refine idx_cs hci ?_);conv=>whnf)|((refine idx_cs0 hz ?_);conv=>whnf)|((refine call_e (clone_ok c.ch (by omega)) ?_);conv=>whnf)|((refine idx_cs0 (x:=encC c) (by obtain ⟨A,R,hA,e1,e2⟩:=cp_next hck;rw [e1,Int.toNat_natCast,←hA];simp only [mod_mid];exact mid_at) ?_);conv=>whnf)|((with_reducible refine lnk_a ?_);conv=>whnf)|((with_reducible refine branch_d (fun hq=>?_) (fun hq=>?_))<;>(try (exfalso;omega))<;>(conv=>whnf))))
  all_goals refine ⟨k+1,by omega,le_mk ⟨rfl,own_eq ?_,rfl,rfl,rfl,rfl,trivial⟩ trivial rfl,by omega⟩
  all_goals
   obtain ⟨A,R,hA,e1,e2⟩:=cp_next hck
   rw [e1,e2,Int.toNat_natCast,←hA]
   simp only [mod_mid]
   rfl
 ·obtain rfl:k=cs.length:=by omega
  (conv=>whnf);(repeat' (first|((with_reducible refine branch_d (fun hq=>?_) (fun hq=>?_))<;>(try (exfalso;omega))<;>(conv=>whnf))))
  exact retM_i (.tup [.lst 13 (cs.map encC), .int .i64 0]) [(1000, .own 1100 56 13 (l.map encC))] [] rfl ((le_erase 19).trans (le_mk ⟨congrArg (fun l=>AV.tup [.lst 13 l, .int .i64 0]) (by simp [cpL]),rfl,trivial⟩ trivial rfl)) rfl ⟨rfl,rfl,cs,hcs,rfl⟩
set_option maxHeartbeats 16000000 in
theorem sortM_ok (x:Sit) (hx:SitOk x) (l:List Cap) (lb:Cap→Option LabD) (hl:InOk x l lb):GoodM Tryz.prog TT false 11 [sitV x, .own 1101 56 13 (l.map encC)] [] (fun r ov bx=>bx=[]∧ov=[(1001, .own 1101 56 13 (l.map encC))]∧∃(cs:List Cap) (S:List ScS) (Pg:List Pag),CanC l cs∧S.Perm (SLF cs lb cs.length)∧S.Pairwise (fun a b=>¬cmpSS b a<0)∧Pg.Perm (PLF cs lb cs.length)∧Pg.Pairwise (fun a b=>¬cmpPa b a<0)∧r= .tup [.agg [.lst 7 (S.map encSS), .lst 6 (Pg.map encPa)], .int .i64 0]):=by
 refine good_of_m (fun _=>false) mixed tabOk Tryz.func11 rfl rfl Tryz.ntmps11 Tryz.results11 rfl rfl ?_
 (conv=>whnf);(repeat' (first|((refine call_e (check_ok x hx) ?_);conv=>whnf)|(((refine mcall_i [] [(1100,1101)] _ Le.refl (intakeCanM_ok l hl.cps) rfl rfl rfl trivial ?_;rintro r ov bx' ⟨rfl,rfl,cs,hC,rfl⟩;refine ⟨rfl,?_⟩));conv=>whnf)|((with_reducible refine branch_n (fun hq=>?_) (fun hq=>?_))<;>(try (exfalso;omega))<;>(conv=>whnf))))
 have hcs:=hC.cs hl.cps hl.kind
 have hcl:=hcs.len
 have LC:(cs.map encC).length=cs.length:=List.length_map ..
 (conv=>whnf);(repeat' (first|(refine need_o ?_;conv=>whnf)|((refine mkmap_m 3 1 ?_);conv=>whnf)|fail))
 refine loop_i2 (fun (i:Nat) (ks:List (Int×Int))=>i≤cs.length∧GrI cs lb i ks) (fun i ks=>mkSt [(2, .ptr 2 0),(4, .ptr 4 0),(7, .lst 13 (cs.map encC)),(9, .own (Tg.s 37) 65 7 (st1L cs lb i)),(10, .mm 38 3 1 (ks.map keyV2) (rowsG cs lb i ks)),(39, .lst 13 (cs.map encC)),(40, .int .i64 cs.length),(41, .int .i64 i),(1001, .own 1101 56 13 (l.map encC))] [(2,sitC x),(4,[.nil, .nil])] false) (fun i _=>cs.length-i) 0 [] ⟨by omega,⟨by simp,by simp,fun j h=>absurd h (by omega)⟩⟩ (le_mk ⟨rfl,rfl,rfl,own_eq (by rw [LC];exact (st1_zero cs lb).symm),rfl,rfl,int_eq (by rw [LC]),rfl,rfl,trivial⟩ ⟨rfl,rfl,trivial⟩ rfl) ?_
 rintro i ks ⟨hi,hG⟩
 have L1:(st1L cs lb i).length=cs.length:=by simp [st1L]
 rcases Nat.lt_or_ge i cs.length with hil|hil
 ·have hc:cs[i]? =some (capAt cs i):=by rw [capAt,List.getD_eq_getElem?_getD,List.getElem?_eq_getElem hil];rfl
  have hcm:=(hC.mem _).1 (List.mem_of_getElem? hc)
  have hsz:(st1L cs lb i)[i]? =some (encSS ⟨0,0,0,lab0⟩):=by
   rw [st1L,List.getElem?_map,List.getElem?_range hil];simp [st1J]
  rcases hl.kind _ hcm with hk|hk
  ·have hlab:=label_ok cs hcs i (capAt cs i) hc hk (lb (capAt cs i)) (hl.read _ hcm hk)
   by_cases h0:lstJ cs lb i=0
   ·have h00:lstF cs (capAt cs i) (lb (capAt cs i))=0:=h0
    obtain ⟨hrb,lab,hlb⟩:=lst_zero h00
    obtain ⟨i0,e,k,pg,he,hkp,hle,hchl,hc9⟩:=hl.fit _ hcm hk lab hlb
    have hLF:labF cs (capAt cs i) (lb (capAt cs i))=labAt x e k:=by rw [labF,hrb,hlb,←hle];rfl
    have hfit:=fits_ok x hx i0 e he k pg hkp (capAt cs i).ch hchl hc9
    rw [h00,hLF] at hlab
    have hkeyJ:keyJ cs lb i=(e.cand,(k:Int)):=by
     show ((labF cs (capAt cs i) (lb (capAt cs i))).cand,(labF cs (capAt cs i) (lb (capAt cs i))).page)=_
     rw [hLF];rfl
    have hsB:scanB cs i=true:=by rw [scanB,hk];rfl
    have hmB:=mem_self (cs:=cs) (lb:=lb) hsB h0
    have hst1:st1J cs lb (i+1) i=⟨(capAt cs i).src,(capAt cs i).seq,0,labAt x e k⟩:=by
     rw [st1_at hsB,h0,labJ,hLF]
    by_cases hin:keyJ cs lb i∈ks
    ·obtain ⟨p,hp⟩:=List.mem_iff_getElem?.1 hin
     have hp1:(ks.map keyV2)[p]? =some [e.cand,(k:Int)]:=by rw [List.getElem?_map,hp,hkeyJ];rfl
     have hp2:∀j,j<p→(ks.map keyV2)[j]? ≠some [e.cand,(k:Int)]:=fun j hj h=>by
      rw [List.getElem?_map] at h
      obtain ⟨key,h1,h2⟩:=Option.map_eq_some_iff.1 h
      have:key=keyJ cs lb i:=by rw [hkeyJ];exact key_inj h2
      subst this
      have:=(List.getElem?_inj (by have:=(List.getElem?_eq_some_iff.1 h1).1;exact this) hG.nod).1 (h1.trans hp.symm)
      omega
     have hp3:(rowsG cs lb i ks)[p]? =some (some ((grpF cs lb i (keyJ cs lb i)).map encNt)):=by rw [rowsG,List.getElem?_map,hp];rfl
     have LG:((grpF cs lb i (keyJ cs lb i)).map encNt).length≤300:=by
      have:=List.length_filter_le (memB cs lb (keyJ cs lb i)) (List.range i)
      rw [List.length_range] at this
      rw [List.length_map,grpF];omega
     (conv=>whnf);(repeat' (first|(refine arith_i ⟨by omega,by omega⟩ ?_;conv=>whnf)|(refine need_o ?_;conv=>whnf)|((with_reducible refine branch_tt ?_);conv=>whnf)|(with_reducible refine branch_not ?_)|((refine idx_cs hc ?_);conv=>whnf)|((refine call_e (identity_ok (capAt cs i)) ?_);conv=>whnf)|((refine call_e hlab ?_);conv=>whnf)|((refine call_e hfit ?_);conv=>whnf)|((refine map_pl (keys2 ks) ?_);conv=>whnf)|((refine mm_at p _ hp1 hp2 hp3 ?_);conv=>whnf)|((refine aidx_i p rfl (by rw [List.length_map];exact (List.getElem?_eq_some_iff.1 hp).1) ?_);conv=>whnf)|((refine idx_cs0 hsz ?_);conv=>whnf)|(refine draw_i 9 plT20m_0 (by decide+kernel) ?_;(conv=>whnf);fail_if_success (guard_target=~ False))|((with_reducible refine And.intro ?_ ?_)<;>(conv=>whnf))|(with_reducible exact trivial)|((with_reducible refine branch_d (fun hq=>?_) (fun hq=>?_))<;>(try (exfalso;omega))<;>(conv=>whnf))|((with_reducible refine branch_e (fun hq=>?_) (fun hq=>?_))<;>(try (exfalso;omega))<;>(conv=>whnf))|((with_reducible refine branch_n (fun hq=>?_) (fun hq=>?_))<;>(try (exfalso;omega))<;>(conv=>whnf))))
     refine ⟨i+1,ks,⟨by omega,hG.old hin⟩,le_mk ⟨rfl,rfl,rfl,own_eq (st1_put hil hst1),mm_eq2 rfl ((List.set_set ..).trans (rows_old hG.nod hp rfl hmB)),rfl,rfl,rfl,rfl,trivial⟩ ⟨rfl,rfl,trivial⟩ rfl,by omega⟩
    ·have hset:(rowsG cs lb i ks++[none]).set ks.length (some [encNt i])=rowsG cs lb i ks++[some [encNt i]]:=by
      rw [List.set_append_right _ _ (by simp [rowsG])];simp [rowsG]
     have hno:[e.cand,(k:Int)]∉ks.map keyV2:=fun h=>by
      obtain ⟨key,h1,h2⟩:=List.mem_map.1 h
      have:key=keyJ cs lb i:=by rw [hkeyJ];exact key_inj h2
      subst this;exact hin h1
     (conv=>whnf);(repeat' (first|(refine arith_i ⟨by omega,by omega⟩ ?_;conv=>whnf)|(refine need_o ?_;conv=>whnf)|((with_reducible refine branch_tt ?_);conv=>whnf)|(with_reducible refine branch_not ?_)|((refine idx_cs hc ?_);conv=>whnf)|((refine call_e (identity_ok (capAt cs i)) ?_);conv=>whnf)|((refine call_e hlab ?_);conv=>whnf)|((refine call_e hfit ?_);conv=>whnf)|((refine map_pl (keys2 ks) ?_);conv=>whnf)|((refine mm_no hno ?_);conv=>whnf)|((refine aidx_i ks.length (by simp) (by simp) ?_);conv=>whnf)|((refine idx_cs0 hsz ?_);conv=>whnf)|(refine draw_i 9 plT20m_0 (by decide+kernel) ?_;(conv=>whnf);fail_if_success (guard_target=~ False))|((with_reducible refine And.intro ?_ ?_)<;>(conv=>whnf))|(with_reducible exact trivial)|((with_reducible refine branch_d (fun hq=>?_) (fun hq=>?_))<;>(try (exfalso;omega))<;>(conv=>whnf))|((with_reducible refine branch_e (fun hq=>?_) (fun hq=>?_))<;>(try (exfalso;omega))<;>(conv=>whnf))|((with_reducible refine branch_n (fun hq=>?_) (fun hq=>?_))<;>(try (exfalso;omega))<;>(conv=>whnf))))
     refine ⟨i+1,ks++[keyJ cs lb i],⟨by omega,hG.new hin hmB⟩,le_mk ⟨rfl,rfl,rfl,own_eq (st1_put hil hst1),mm_eq2 (by rw [List.map_append,hkeyJ];rfl) (hset.trans (rows_new hG hin hmB)),rfl,rfl,rfl,rfl,trivial⟩ ⟨rfl,rfl,trivial⟩ rfl,by omega⟩
   ·have h00:¬lstF cs (capAt cs i) (lb (capAt cs i))=0:=h0
    have hsB:scanB cs i=true:=by rw [scanB,hk];rfl
    have hns:∀key,memB cs lb key i=false:=fun key=>by
     rw [memB,beq_eq_false_iff_ne.2 h0,Bool.and_false,Bool.false_and,Bool.false_and]
    (conv=>whnf);(repeat' (first|(refine arith_i ⟨by omega,by omega⟩ ?_;conv=>whnf)|((with_reducible refine branch_ff ?_);conv=>whnf)|((refine idx_cs hc ?_);conv=>whnf)|((refine call_e (identity_ok (capAt cs i)) ?_);conv=>whnf)|((refine call_e hlab ?_);conv=>whnf)|((refine idx_cs0 hsz ?_);conv=>whnf)|(refine draw_i 9 plT20m_0 (by decide+kernel) ?_;(conv=>whnf);fail_if_success (guard_target=~ False))|((with_reducible refine And.intro ?_ ?_)<;>(conv=>whnf))|(with_reducible exact trivial)|((with_reducible refine branch_d (fun hq=>?_) (fun hq=>?_))<;>(try (exfalso;omega))<;>(conv=>whnf))|((with_reducible refine branch_e (fun hq=>?_) (fun hq=>?_))<;>(try (exfalso;omega))<;>(conv=>whnf))|((with_reducible refine branch_n (fun hq=>?_) (fun hq=>?_))<;>(try (exfalso;omega))<;>(conv=>whnf))))
    refine ⟨i+1,ks,⟨by omega,hG.skip hns⟩,le_mk ⟨rfl,rfl,rfl,own_eq (st1_put hil (st1_at hsB)),mm_eq2 rfl (rows_skip hns).symm,rfl,rfl,rfl,rfl,trivial⟩ ⟨rfl,rfl,trivial⟩ rfl,by omega⟩
  ·(conv=>whnf);(repeat' (first|(refine arith_i ⟨by omega,by omega⟩ ?_;conv=>whnf)|((refine idx_cs hc ?_);conv=>whnf)|((with_reducible refine branch_d (fun hq=>?_) (fun hq=>?_))<;>(try (exfalso;omega))<;>(conv=>whnf))|((with_reducible refine branch_n (fun hq=>?_) (fun hq=>?_))<;>(try (exfalso;omega))<;>(conv=>whnf))))
   have hsB:scanB cs i=false:=by rw [scanB,hk];rfl
   have hns:∀key,memB cs lb key i=false:=fun key=>by rw [memB,hsB];rfl
   refine ⟨i+1,ks,⟨by omega,hG.skip hns⟩,le_mk ⟨rfl,rfl,rfl,own_eq (st1_skip hil hsB),mm_eq2 rfl (rows_skip hns).symm,rfl,rfl,rfl,rfl,trivial⟩ ⟨rfl,rfl,trivial⟩ rfl,by omega⟩
 ·obtain rfl:i=cs.length:=by omega
  (conv=>whnf);(repeat' (first|((with_reducible refine branch_d (fun hq=>?_) (fun hq=>?_))<;>(try (exfalso;omega))<;>(conv=>whnf))))
  refine loop_i (fun m:Nat=>m≤cs.length) (fun m=>mkSt [(4, .ptr 4 0),(7, .lst 13 (cs.map encC)),(9, .own (Tg.s 37) 65 7 (st1L cs lb cs.length)),(10, .mm 38 3 1 (ks.map keyV2) (rowsG cs lb cs.length ks)),(16, .ptr 16 0),(90, .lst 13 (cs.map encC)),(91, .int .i64 cs.length),(92, .int .i64 m),(1001, .own 1101 56 13 (l.map encC))] [(4,[.nil, .nil]),(16,[.own 900 65 7 ((SLF cs lb m).map encSS), .own 901 118 6 ((PLF cs lb m).map encPa)])] false) (fun m=>cs.length-m) 0 (Nat.zero_le _) ((le_adoptBox 16 0 900 65 7 rfl rfl).trans ((le_adoptBox 16 1 901 118 6 rfl rfl).trans (le_mk ⟨rfl,rfl,rfl,rfl,rfl,rfl,int_eq (by rw [LC]),rfl,rfl,trivial⟩ ⟨rfl,rfl,trivial⟩ rfl))) ?_
  intro m hm
  rcases Nat.lt_or_ge m cs.length with hil|hil
  ·have hc:cs[m]? =some (capAt cs m):=cap_at hil
   have hcm:=(hC.mem _).1 (List.mem_of_getElem? hc)
   have hsx:=st1_full (cs:=cs) (lb:=lb) hil
   have hSl:=SLF_len (cs:=cs) (lb:=lb) (m:=m)
   have hPl:=PLF_len (cs:=cs) (lb:=lb) (m:=m)
   have LS1:((SLF cs lb m).map encSS).length=(SLF cs lb m).length:=List.length_map ..
   have LP1:((PLF cs lb m).map encPa).length=(PLF cs lb m).length:=List.length_map ..
   have hch:=hl.cps.ch _ hcm
   rcases hl.kind _ hcm with hk|hk
   ·have hsB:scanB cs m=true:=by rw [scanB,hk];rfl
    rw [st1F_scan hsB] at hsx
    by_cases h0:lstJ cs lb m=0
    ·have hmB:=mem_self (cs:=cs) (lb:=lb) hsB h0
     have hin:=hG.all m hil _ hmB
     obtain ⟨p,hp⟩:=List.mem_iff_getElem?.1 hin
     have hp1:(ks.map keyV2)[p]? =some [(labJ cs lb m).cand,(labJ cs lb m).page]:=by rw [List.getElem?_map,hp];rfl
     have hp2:∀j,j<p→(ks.map keyV2)[j]? ≠some [(labJ cs lb m).cand,(labJ cs lb m).page]:=fun j hj h=>by
      rw [List.getElem?_map] at h
      obtain ⟨key,h1,h2⟩:=Option.map_eq_some_iff.1 h
      have:key=keyJ cs lb m:=key_inj h2
      subst this
      have:=(List.getElem?_inj (by have:=(List.getElem?_eq_some_iff.1 h1).1;exact this) hG.nod).1 (h1.trans hp.symm)
      omega
     have hp3:(rowsG cs lb cs.length ks)[p]? =some (some ((grpF cs lb cs.length (keyJ cs lb m)).map encNt)):=by rw [rowsG,List.getElem?_map,hp];rfl
     have hfin:finJ cs lb m=stG cs ((grpF cs lb cs.length (keyJ cs lb m)).headD 0) (grpF cs lb cs.length (keyJ cs lb m)) m:=if_pos h0
     have hgm:m∈grpF cs lb cs.length (keyJ cs lb m):=grp_mem.2 ⟨hil,hmB⟩
     have hglt:∀i∈grpF cs lb cs.length (keyJ cs lb m),i<cs.length:=fun i hi=>(grp_mem.1 hi).1
     have hgl:(grpF cs lb cs.length (keyJ cs lb m)).length≤1000:=by
      have:=List.length_filter_le (memB cs lb (keyJ cs lb m)) (List.range cs.length)
      rw [List.length_range] at this
      rw [grpF];omega
     have hst:Good Tryz.prog TT false 37 [.lst 13 (cs.map encC), .lst 1 ((grpF cs lb cs.length (keyJ cs lb m)).map encNt), .int .i64 m] (· = .int .i64 (finJ cs lb m)):=by
      rw [hfin]
      generalize grpF cs lb cs.length (keyJ cs lb m)=g at *
      cases g with
      |nil=>cases hgm
      |cons g0 g1=>exact stateOf_ok cs hcl (fun c hc=>hl.cps.ch c ((hC.mem c).1 hc)) g0 g1 hglt hgl m
     rw [h0] at hsx
     simp only [encSS] at hsx
     (conv=>whnf);(repeat' (first|(refine arith_i ⟨by omega,by omega⟩ ?_;conv=>whnf)|(refine need_o ?_;conv=>whnf)|((refine idx_cs hc ?_);conv=>whnf)|((refine idx_cs0 hsx ?_);conv=>whnf)|((refine map_pl (keys2 ks) ?_);conv=>whnf)|((refine mm_at p _ hp1 hp2 hp3 ?_);conv=>whnf)|((refine call_e hst ?_);conv=>whnf)|((refine call_e (clone_ok (capAt cs m).ch (by omega)) ?_);conv=>whnf)|((with_reducible refine callS_a ?_);conv=>whnf)|(refine draw_i 19 plT20m_2 (by decide+kernel) ?_;(conv=>whnf);fail_if_success (guard_target=~ False))|((with_reducible refine And.intro ?_ ?_)<;>(conv=>whnf))|(with_reducible exact trivial)|((with_reducible refine branch_d (fun hq=>?_) (fun hq=>?_))<;>(try (exfalso;omega))<;>(conv=>whnf))|((with_reducible refine branch_e (fun hq=>?_) (fun hq=>?_))<;>(try (exfalso;omega))<;>(conv=>whnf))|((with_reducible refine branch_n (fun hq=>?_) (fun hq=>?_))<;>(try (exfalso;omega))<;>(conv=>whnf))))
     all_goals first
      |(have hf1:finJ cs lb m=1:=(by assumption)
        exact ⟨m+1,by omega,le_mk ⟨rfl,rfl,rfl,rfl,rfl,rfl,rfl,rfl,rfl,trivial⟩ ⟨rfl,(by rw [SLF_next hsB,PLF_next hsB hf1,List.map_append,List.map_append];rfl),trivial⟩ rfl,by omega⟩)
      |(have hf1:¬finJ cs lb m=1:=(by assumption)
        exact ⟨m+1,by omega,le_mk ⟨rfl,rfl,rfl,rfl,rfl,rfl,rfl,rfl,rfl,trivial⟩ ⟨rfl,(by rw [SLF_next hsB,PLF_skip (fun h=>hf1 h.2),List.map_append];rfl),trivial⟩ rfl,by omega⟩)
    ·have hfin:finJ cs lb m=lstJ cs lb m:=if_neg h0
     have hl3:lstJ cs lb m=4∨lstJ cs lb m=6:=by
      rcases lst_cases (cs:=cs) (lb:=lb) (c:=capAt cs m) with h|h|h
      ·exact absurd h h0
      ·exact .inl h.1
      ·exact .inr h.1
     simp only [encSS] at hsx
     (conv=>whnf);(repeat' (first|(refine arith_i ⟨by omega,by omega⟩ ?_;conv=>whnf)|(refine need_o ?_;conv=>whnf)|((refine idx_cs hc ?_);conv=>whnf)|((refine idx_cs0 hsx ?_);conv=>whnf)|((with_reducible refine branch_d (fun hq=>?_) (fun hq=>?_))<;>(try (exfalso;omega))<;>(conv=>whnf))|((with_reducible refine branch_e (fun hq=>?_) (fun hq=>?_))<;>(try (exfalso;omega))<;>(conv=>whnf))|((with_reducible refine branch_n (fun hq=>?_) (fun hq=>?_))<;>(try (exfalso;omega))<;>(conv=>whnf))))
     all_goals exact ⟨m+1,by omega,le_mk ⟨rfl,rfl,rfl,rfl,rfl,rfl,rfl,rfl,rfl,trivial⟩ ⟨rfl,(by rw [SLF_next hsB,PLF_skip (fun h=>by omega),List.map_append,scsJ_eq,hfin];rfl),trivial⟩ rfl,by omega⟩
   ·have hsN:scanB cs m=false:=by rw [scanB,hk];rfl
    (conv=>whnf);(repeat' (first|(refine arith_i ⟨by omega,by omega⟩ ?_;conv=>whnf)|((refine idx_cs hc ?_);conv=>whnf)|((with_reducible refine branch_d (fun hq=>?_) (fun hq=>?_))<;>(try (exfalso;omega))<;>(conv=>whnf))|((with_reducible refine branch_n (fun hq=>?_) (fun hq=>?_))<;>(try (exfalso;omega))<;>(conv=>whnf))))
    exact ⟨m+1,by omega,le_mk ⟨rfl,rfl,rfl,rfl,rfl,rfl,rfl,rfl,rfl,trivial⟩ ⟨rfl,by rw [SLF_skip hsN,PLF_skip (fun h=>by rw [hsN] at h;cases h.1)];rfl,trivial⟩ rfl,by omega⟩
  ·obtain rfl:m=cs.length:=by omega
   have hSl:=SLF_len (cs:=cs) (lb:=lb) (m:=cs.length)
   have hPl:=PLF_len (cs:=cs) (lb:=lb) (m:=cs.length)
   (conv=>whnf);(repeat' (first|(((refine mcall_i [] [(0,900)] _ Le.refl (sortSS_ok _ (by omega)) rfl rfl rfl trivial ?_;rintro r ov bx' ⟨rfl,rfl,S,hS1,hS2,rfl⟩;refine ⟨rfl,?_⟩));conv=>whnf)|(((refine mcall_i [] [(0,901)] _ Le.refl (sortSP_ok _ (by omega)) rfl rfl rfl trivial ?_;rintro r ov bx' ⟨rfl,rfl,Pg,hP1,hP2,rfl⟩;refine ⟨rfl,?_⟩));conv=>whnf)|((with_reducible refine branch_d (fun hq=>?_) (fun hq=>?_))<;>(try (exfalso;omega))<;>(conv=>whnf))))
   exact retM_i (.tup [.agg [.lst 7 (S.map encSS), .lst 6 (Pg.map encPa)], .int .i64 0]) [(1001, .own 1101 56 13 (l.map encC))] [] rfl ((le_erase 900).trans ((le_erase 901).trans (le_mk ⟨rfl,rfl,trivial⟩ trivial rfl))) rfl ⟨rfl,rfl,cs,S,Pg,hC,hS1,hS2,hP1,hP2,rfl⟩
theorem sortOutM_ok (x:Sit) (hx:SitOk x) (l:List Cap) (lb:Cap→Option LabD) (hl:InOk x l lb):GoodM Tryz.prog TT false 11 [sitV x, .own 1101 56 13 (l.map encC)] [] (fun r ov bx=>bx=[]∧ov=[(1001, .own 1101 56 13 (l.map encC))]∧∃S Pg,Outc x l lb S Pg∧r= .tup [inV S Pg, .int .i64 0]):=
 (sortM_ok x hx l lb hl).mono fun r ov bx hr=>by
   obtain ⟨h1,h2,cs,S,Pg,hC,hS1,hS2,hP1,hP2,rfl⟩:=hr
   exact ⟨h1,h2,S,Pg,out_of hx hl hC hS1 hS2 hP1 hP2,rfl⟩
end Go.Proofs.YtihjphblcohdeaaGreatDoor
namespace Go.Proofs.YtihjphblcohdeaaGreatDoor
set_option maxRecDepth 10000
open Go.RowKit
open F32
section
variable {x:Sit} {A:List (List Int)} {P:List (LabD×List Int)} {out:List Cap} {at_:LabD} {S S0:List ScS} {Pg Pg0:List Pag} {c0:Cap}
def rejO (i:Nat) (a b:Int):Cap:=⟨9000,0,i,3,[],0,[],a,b,⟨0,0,0,0⟩⟩
structure ResL (x:Sit) (out:List Cap) (at_:LabD) (c0:Cap) (R l:List Cap):Prop where
 new:NewC x at_ c0
 time:0≤c0.time∧c0.time≤50
 seq:c0.seq=500
 mem:∀c,c∈l↔c∈out∨c=c0∨c∈R
 rej:∀r∈R,∃(i:Nat) (a b:Int),i≤999∧r=rejO i a b
 inj:∀r∈R,∀r'∈R,r.seq=r'.seq→r=r'
 len:l.length≤300
variable {R l:List Cap}
theorem res_in (hx:SitOk x) (hP:P.map (·.1)=labsOf x) (hC:Caps x A P out) (h:ResL x out at_ c0 R l):InOk x l (lbG x at_):=by
 refine inOk_of hx hP hC.pag h.len (fun c hc=>?_) fun c hc d hd h1 h2=>?_
 ·rcases (h.mem c).1 hc with h1|rfl|h1
  ·exact caps_gc hC h1
  ·refine ⟨.inr (.inl h.new),?_⟩
   have a1:=h.time
   have a2:=h.new.src
   have a3:=h.seq
   show 0≤c.time∧c.time≤1000000∧0≤c.src∧c.src≤99∧0≤c.seq∧c.seq≤9999
   omega
  ·obtain ⟨i,a,b,hi,rfl⟩:=h.rej c h1
   refine ⟨.inr (.inr (.inr ⟨rfl,rfl⟩)),?_⟩
   show (0:Int)≤9000∧(9000:Int)≤1000000∧(0:Int)≤0∧(0:Int)≤99∧0≤(i:Int)∧(i:Int)≤9999
   omega
 ·have ko:∀c∈out,1≤c.src∧c.seq<70:=fun c hc=>by
   obtain ⟨h3,h4,p, -,h5⟩:=hC.cap c hc
   exact ⟨h5.src.1,h4⟩
  have kr:∀c∈R,c.src=0:=fun c hc=>by obtain ⟨i,a,b, -,rfl⟩:=h.rej c hc;rfl
  have kn:=h.seq
  have ks:=h.new.src
  rcases (h.mem c).1 hc with a|rfl|a<;>rcases (h.mem d).1 hd with b|rfl|b
  ·exact hC.inj c a d b h2
  ·have:=ko c a;omega
  ·have:=ko c a;have:=kr d b;omega
  ·have:=ko d b;omega
  ·rfl
  ·have:=kr d b;omega
  ·have:=ko d b;have:=kr c a;omega
  ·have:=kr c a;omega
  ·exact h.inj c a d b h2
theorem res_gc (hC:Caps x A P out) (h:ResL x out at_ c0 R l):∀c∈l,GC x P at_ c:=fun c hc=>by
 rcases (h.mem c).1 hc with h1|rfl|h1
 ·exact (caps_gc hC h1).1
 ·exact .inr (.inl h.new)
 ·obtain ⟨i,a,b, -,rfl⟩:=h.rej c h1
  exact .inr (.inr (.inr ⟨rfl,rfl⟩))
theorem res_new (hx:SitOk x) (hC:Caps x A P out) (h:ResL x out at_ c0 R l) {c:Cap} (hc:c∈l) (hn:NewC x at_ c):c=c0:=by
 rcases (h.mem c).1 hc with h1|rfl|h1
 ·exact absurd hn (no_new hx hC h1)
 ·rfl
 ·obtain ⟨i,a,b, -,rfl⟩:=h.rej c h1
  have:=hn.kind;cases this
theorem res_rej (hx:SitOk x) (hC:Caps x A P out) (h:ResL x out at_ c0 R l) (c:Cap):rejB l c=true↔ ∃r∈R,r.tsrc=c.src∧r.tseq=c.seq:=by
 rw [rejB,List.any_eq_true]
 constructor
 ·rintro ⟨d,hd,h1⟩
  rw [decide_eq_true_eq] at h1
  rcases (h.mem d).1 hd with h2|rfl|h2
  ·rcases caps_kind hC h2 with h3|h3
   ·have:=h3.1;have:=h1.1;omega
   ·exact absurd hx h3
  ·have:=h.new.kind;have:=h1.1;omega
  ·exact ⟨d,h2,h1.2⟩
 ·rintro ⟨r,hr,h1⟩
  refine ⟨r,(h.mem r).2 (.inr (.inr hr)),decide_eq_true ⟨?_,h1⟩⟩
  obtain ⟨i,a,b, -,rfl⟩:=h.rej r hr
  rfl
theorem res_cpl (hx:SitOk x) (hP:P.map (·.1)=labsOf x) (hC:Caps x A P out) (h:ResL x out at_ c0 R l) (hO:Outc x l (lbG x at_) S Pg) {e:ExpD} (he:e∈x.exp) (hN:rejB l c0=true∨at_.cand≠e.cand) (hr:∀c∈out,∀p∈P,ScanOf p.1 p.2 c.seq c→p.1.cand=e.cand→rejB l c=false):Cpl x S Pg e:=
 cpl_of hx hP (res_gc hC h) hO he (fun c hc hn=>by rw [res_new hx hC h hc hn];exact hN) fun p hp hpc=>by
  obtain ⟨c,hc,h3⟩:=hC.all p hp
  exact ⟨c,(h.mem c).2 (.inl hc),h3,hr c hc p hp h3 hpc⟩
theorem res_same (hx:SitOk x) (hP:P.map (·.1)=labsOf x) (hC:Caps x A P out) (h:ResL x out at_ c0 R l) (hO:Outc x l (lbG x at_) S Pg) {e:ExpD} (he:e∈x.exp) (hN:rejB l c0=true∨at_.cand≠e.cand) (hc:Cpl x S Pg e) (hO0:Outc x out (lbG x at_) S0 Pg0):scF x Pg e=scF x Pg0 e:=
 scF_same hx hP he (res_gc hC h) hO (fun c hc hn=>by rw [res_new hx hC h hc hn];exact hN) hc (out_gc hC) hO0 (out_new hx hC e) (out_cpl hx hP hC hO0 he)
theorem res_conf (hx:SitOk x) (hP:P.map (·.1)=labsOf x) (hC:Caps x A P out) (h:ResL x out at_ c0 [] l) (hO:Outc x l (lbG x at_) S Pg) {e:ExpD} (he:e∈x.exp) (hc:e.cand=at_.cand):stF x S Pg e=(3,[at_.page]):=by
 have hrf:∀c,rejB l c=false:=fun c=>by
  rw [←Bool.not_eq_true]
  intro h1
  obtain ⟨r,hr, -⟩:=(res_rej hx hC h c).1 h1
  cases hr
 have hpm:at_∈P.map (·.1):=by rw [hP];exact h.new.mem
 obtain ⟨p,hp,hpl⟩:=List.mem_map.1 hpm
 obtain ⟨c,hcm,hcs⟩:=hC.all p hp
 have hI1:=scan_ing (at_:=at_) hx hP hp ((h.mem c).2 (.inl hcm)) hcs (hrf c)
 rw [hpl] at hI1
 have hI2:InG l (lbG x at_) (at_.cand,at_.page) c0:=⟨(h.mem c0).2 (.inr (.inl rfl)),h.new.kind,hrf c0,at_,lbG_new h.new,rfl,rfl⟩
 have hne:¬same2 c c0:=fun hs=>by
  have h1:=lab_num hx (mem_labs hP hp)
  have h2:c.content=cNum p.1:=hcs.content
  have h3:=hs.1
  have h4:=h.new.content
  omega
 obtain ⟨⟨s,hs,h1,h2,h3⟩, -⟩:=hO.conf2 _ c c0 hI1 hI2 hne
 have hmem:∀v,v∈cfF S e.cand↔v=at_.page:=fun v=>by
  rw [cfF_mem]
  constructor
  ·rintro ⟨s',hs',h4,h5,rfl⟩
   obtain ⟨c',d',hc',hd',hne'⟩:=hO.conf s' hs' h4
   rcases ing_cases hx hP (res_gc hC h c' hc'.1) hc' with ⟨q,hq,a1,a2,a3⟩|⟨a1,a2,a3⟩
   ·rcases ing_cases hx hP (res_gc hC h d' hd'.1) hd' with ⟨q',hq',b1,b2,b3⟩|⟨b1,b2,b3⟩
    ·exact absurd (scan_same hx hP hq hq' a1 b1 (a2.trans b2.symm) (a3.trans b3.symm)) hne'
    ·exact b3.symm
   ·exact a3.symm
  ·rintro rfl
   exact ⟨s,hs,h1,h2.trans hc.symm,h3⟩
 have hcf:cfF S e.cand=[at_.page]:=asc_one cfF_asc hmem
 rw [stF,if_pos (by rw [hcf];exact Nat.one_ne_zero),hcf]
 where
 asc_one {L:List Int} {v:Int} (ha:L.Pairwise (· < ·)) (hm:∀u,u∈L↔u=v):L=[v]:=by
  cases L with
  |nil=>have:=(hm v).2 rfl;cases this
  |cons a L=>
   have e1:=(hm a).1 (List.mem_cons_self ..)
   subst e1
   cases L with
   |nil=>rfl
   |cons b L=>
    have e2:=(hm b).1 (by simp)
    have:=List.rel_of_pairwise_cons ha (List.mem_cons_self ..)
    omega
theorem res_second (hx:SitOk x) (hP:P.map (·.1)=labsOf x) (hC:Caps x A P out) (h:ResL x out at_ c0 R l) (hO:Outc x l (lbG x at_) S Pg) {e:ExpD} (he:e∈x.exp) (hc:e.cand=at_.cand) (h0:rejB l c0=false) (hr:∀c∈out,∀p∈P,ScanOf p.1 p.2 c.seq c→(rejB l c=true↔p.1=at_)):Cpl x S Pg e∧∀k:Nat,(k:Int)=at_.page→k<(bkOf x e).length→conF Pg e.cand k=77777:=by
 have hgrp:∀ {k:Int} {c:Cap},InG l (lbG x at_) (e.cand,k) c→(k≠at_.page∧∃p∈P,ScanOf p.1 p.2 c.seq c∧p.1.cand=e.cand∧p.1.page=k)∨(k=at_.page∧c=c0):=fun {k c} hI=>by
  rcases ing_cases hx hP (res_gc hC h c hI.1) hI with ⟨p,hp,h1,h2,h3⟩|⟨h1,h2,h3⟩
  ·refine .inl ⟨fun hk=>?_,p,hp,h1,h2,h3⟩
   have hpa:p.1=at_:=labs_inj hx (mem_labs hP hp) h.new.mem (by rw [cNum,cNum,h2,h3,hk,hc])
   rcases (h.mem c).1 hI.1 with a|rfl|a
   ·have:=(hr c a p hp h1).2 hpa
    rw [hI.2.2.1] at this;cases this
   ·have h4:c.content=cNum p.1:=h1.content
    have h5:=lab_num hx (mem_labs hP hp)
    have h6:=h.new.content
    omega
   ·obtain ⟨i,a',b', -,rfl⟩:=h.rej c a
    have:=h1.kind;cases this
  ·exact .inr ⟨h3.symm,res_new hx hC h hI.1 h1⟩
 have hI0:InG l (lbG x at_) (e.cand,at_.page) c0:=⟨(h.mem c0).2 (.inr (.inl rfl)),h.new.kind,h0,at_,lbG_new h.new,hc.symm,rfl⟩
 have huni:∀ {k:Int} {c d:Cap},InG l (lbG x at_) (e.cand,k) c→InG l (lbG x at_) (e.cand,k) d→same2 d c:=fun {k c d} hIc hId=>by
  rcases hgrp hIc with ⟨hk,p,hp,h1,h2,h3⟩|⟨hk,rfl⟩
  ·rcases hgrp hId with ⟨-,q,hq,h4,h5,h6⟩|⟨hk', -⟩
   ·exact scan_same hx hP hq hp h4 h1 (h5.trans h2.symm) (h6.trans h3.symm)
   ·exact absurd hk' hk
  ·rcases hgrp hId with ⟨hk', -⟩|⟨-,rfl⟩
   ·exact absurd hk hk'
   ·exact ⟨rfl,rfl⟩
 refine ⟨⟨fun s hs ⟨h1,h2⟩=>?_,fun k hk=>?_⟩,fun k hk hkl=>?_⟩
 ·obtain ⟨c,d,hIc,hId,hne⟩:=hO.conf s hs h1
  rw [h2] at hIc hId
  exact hne (huni hId hIc)
 ·have hex:∃c,InG l (lbG x at_) (e.cand,(k:Int)) c:=by
   by_cases hka:(k:Int)=at_.page
   ·exact ⟨c0,by rw [hka];exact hI0⟩
   ·obtain ⟨p,hp,hpl⟩:=lab_pag hP he hk
    obtain ⟨c,hcm,h3⟩:=hC.all p hp
    have hrj:rejB l c=false:=by
     rw [←Bool.not_eq_true]
     intro h4
     have h5:=(hr c hcm p hp h3).1 h4
     rw [hpl] at h5
     exact hka (congrArg LabD.page h5)
    have hI:=scan_ing (at_:=at_) hx hP hp ((h.mem c).2 (.inl hcm)) h3 hrj
    rw [hpl] at hI
    exact ⟨c,hI⟩
  obtain ⟨c,hI⟩:=hex
  obtain ⟨pag,hpg,h3,h4⟩:=hO.got _ c hI fun d hd=>huni hI hd
  have:=pgF_some hO.bel.pasc hpg
  rw [h3,h4] at this
  rw [show pgF Pg e.cand (k:Nat)=some pag from this];rfl
 ·obtain ⟨pag,hpg,h3,h4⟩:=hO.got _ c0 hI0 fun d hd=>huni hI0 hd
  have h5:=pgF_some hO.bel.pasc hpg
  rw [h3,h4] at h5
  obtain ⟨c,hIc,h6, -⟩:=hO.pag pag hpg
  rw [h3,h4] at hIc
  rcases hgrp hIc with ⟨hk', -⟩|⟨-,rfl⟩
  ·exact absurd rfl hk'
  ·rw [conF,hk]
   rw [show pgF Pg e.cand at_.page=some pag from h5]
   exact h6.trans h.new.content
end
def labEq (a b:LabD):Bool:=a.paper==b.paper&&a.cand==b.cand&&a.page==b.page&&a.var==b.var
theorem labEq_iff {a b:LabD}:labEq a b=true↔a=b:=by
 cases a;cases b
 simp [labEq,and_assoc]
def firstF (S:List ScS) (at_:LabD) (n:Nat):List Cap:=(List.range n).flatMap fun i=>match S[i]? with
 |some s=>if labEq s.lab at_=true then [rejO i s.src s.seq] else []
 |none=>[]
theorem first_succ {S:List ScS} {at_:LabD} {i:Nat} {s:ScS} (h:S[i]? =some s):firstF S at_ (i+1)=firstF S at_ i++if labEq s.lab at_=true then [rejO i s.src s.seq] else []:=by
 rw [firstF,List.range_succ,List.flatMap_append,←firstF]
 simp [h]
theorem first_len {S:List ScS} {at_:LabD}:∀n,n≤S.length→(firstF S at_ n).length≤n
 |0,_=>Nat.le_refl 0
 |n+1,hn=>by
  rw [first_succ (List.getElem?_eq_getElem (by omega)),List.length_append]
  have:=first_len (S:=S) (at_:=at_) n (by omega)
  split
  ·simp;omega
  ·simp;omega
theorem mem_first {S:List ScS} {at_:LabD} {n:Nat} {r:Cap}:r∈firstF S at_ n↔ ∃i s,i<n∧S[i]? =some s∧s.lab=at_∧r=rejO i s.src s.seq:=by
 rw [firstF,List.mem_flatMap]
 constructor
 ·rintro ⟨i,hi,h⟩
  cases hs:S[i]? with
  |none=>rw [hs] at h;cases h
  |some s=>
   rw [hs] at h
   dsimp only at h
   split at h
   ·next hl=>exact ⟨i,s,List.mem_range.1 hi,hs,labEq_iff.1 hl,List.mem_singleton.1 h⟩
   ·cases h
 ·rintro ⟨i,s,hi,hs,hl,rfl⟩
  refine ⟨i,List.mem_range.2 hi,?_⟩
  rw [hs]
  dsimp only
  rw [if_pos (labEq_iff.2 hl)]
  exact List.mem_singleton.2 rfl
theorem nodup_len:∀ {l m:List (Int×Int)},l.Pairwise (· ≠ ·)→(∀a∈l,a∈m)→l.length≤m.length
 |[],_,_,_=>Nat.zero_le _
 |a::l,m,hn,hs=>by
  rw [List.pairwise_cons] at hn
  have ha:=hs a (List.mem_cons_self ..)
  have h1:=nodup_len (l:=l) (m:=m.erase a) hn.2 fun b hb=>(List.mem_erase_of_ne (fun h=>hn.1 b hb h.symm)).2 (hs b (List.mem_cons_of_mem _ hb))
  have h2:=List.length_erase_of_mem ha
  have h3:0<m.length:=List.length_pos_of_mem ha
  rw [List.length_cons];omega
section
variable {x:Sit} {A:List (List Int)} {P:List (LabD×List Int)} {out:List Cap} {at_:LabD} {S S0 S2 S3:List ScS} {Pg Pg0 Pg2 Pg3:List Pag} {c0:Cap}
theorem st_len {lb:Cap→Option LabD} {l:List Cap} (hO:Outc x l lb S Pg):S.length≤l.length:=by
 have h:=nodup_len (l:=S.map fun s=>(s.src,s.seq)) (m:=l.map fun c=>(c.src,c.seq)) ?_ ?_
 ·simpa using h
 ·rw [List.pairwise_map]
  refine hO.bel.asc.imp fun {a b} hab h=>?_
  have h1:=(Prod.mk.inj h).1
  have h2:=(Prod.mk.inj h).2
  rw [cmpSS,h1,h2] at hab
  simp [orF,cmpI] at hab
 ·intro a ha
  obtain ⟨s,hs,rfl⟩:=List.mem_map.1 ha
  obtain ⟨c,hc, -,h1,h2, -⟩:=hO.st s hs
  exact List.mem_map.2 ⟨c,hc,by rw [h1,h2]⟩
theorem nil_res (hC:Caps x A P out) (hn:NewC x at_ c0) (ht:0≤c0.time∧c0.time≤50) (hs:c0.seq=500):ResL x out at_ c0 [] (out++[c0]):=
 ⟨hn,ht,hs,fun c=>by simp,by simp,by simp,by have:=hC.len;simp;omega⟩
theorem one_res (hC:Caps x A P out) (hn:NewC x at_ c0) (ht:0≤c0.time∧c0.time≤50) (hs:c0.seq=500):ResL x out at_ c0 [rejO 900 c0.src c0.seq] (out++[c0]++[rejO 900 c0.src c0.seq]):=
 ⟨hn,ht,hs,fun c=>by simp,fun r hr=>⟨900,_,_,by omega,List.mem_singleton.1 hr⟩,fun r hr r' hr' _=>by rw [List.mem_singleton.1 hr,List.mem_singleton.1 hr'],by have:=hC.len;simp;omega⟩
theorem first_res (hC:Caps x A P out) (hO:Outc x out (lbG x at_) S0 Pg0) (hn:NewC x at_ c0) (ht:0≤c0.time∧c0.time≤50) (hs:c0.seq=500):ResL x out at_ c0 (firstF S0 at_ S0.length) (out++[c0]++firstF S0 at_ S0.length):=by
 have h1:=st_len hO
 have h2:=hC.len
 have h3:=first_len (S:=S0) (at_:=at_) S0.length (Nat.le_refl _)
 refine ⟨hn,ht,hs,fun c=>by simp [or_assoc],fun r hr=>?_,fun r hr r' hr' h=>?_,by simp;omega⟩
 ·obtain ⟨i,s,hi, -, -,rfl⟩:=mem_first.1 hr
  exact ⟨i,_,_,by omega,rfl⟩
 ·obtain ⟨i,s,hi,hs1, -,rfl⟩:=mem_first.1 hr
  obtain ⟨j,t,hj,ht1, -,rfl⟩:=mem_first.1 hr'
  have h4:(i:Int)=j:=h
  have h5:i=j:=by omega
  subst h5
  rw [hs1] at ht1
  cases ht1;rfl
theorem scan_lab (hx:SitOk x) (hP:P.map (·.1)=labsOf x) (hC:Caps x A P out) {c:Cap} {p:LabD×List Int} (hp:p∈P) (h:ScanOf p.1 p.2 c.seq c):labF out c (lbG x at_ c)=p.1:=by
 rw [labF,out_rej hx hC,lbG_scan hx hP hp h];rfl
theorem first_ne (hx:SitOk x) (hP:P.map (·.1)=labsOf x) (hC:Caps x A P out) (hO:Outc x out (lbG x at_) S0 Pg0) (ha:at_∈labsOf x):0<(firstF S0 at_ S0.length).length:=by
 rw [←hP] at ha
 obtain ⟨p,hp,rfl⟩:=List.mem_map.1 ha
 obtain ⟨c,hc,h3⟩:=hC.all p hp
 obtain ⟨s,hs, -, -,h4⟩:=hO.st2 c hc h3.kind
 rw [scan_lab hx hP hC hp h3] at h4
 obtain ⟨i,hi⟩:=List.mem_iff_getElem?.1 hs
 exact List.length_pos_of_mem (mem_first.2 ⟨i,s,(List.getElem?_eq_some_iff.1 hi).1,hi,h4,rfl⟩)
theorem first_rej (hx:SitOk x) (hP:P.map (·.1)=labsOf x) (hC:Caps x A P out) (hO:Outc x out (lbG x at_) S0 Pg0) {l:List Cap} (h:ResL x out at_ c0 (firstF S0 at_ S0.length) l):rejB l c0=false∧∀c∈out,∀p∈P,ScanOf p.1 p.2 c.seq c→(rejB l c=true↔p.1=at_):=by
 have hst:∀s∈S0,∃c∈out,s.src=c.src∧s.seq=c.seq∧∃p∈P,ScanOf p.1 p.2 c.seq c∧s.lab=p.1:=fun s hs=>by
  obtain ⟨c,hc, -,h1,h2,h3⟩:=hO.st s hs
  obtain ⟨-, -,p,hp,h4⟩:=hC.cap c hc
  rw [scan_lab hx hP hC hp h4] at h3
  exact ⟨c,hc,h1,h2,p,hp,h4,h3⟩
 refine ⟨?_,fun c hc p hp hcp=>?_⟩
 ·rw [←Bool.not_eq_true]
  intro h1
  obtain ⟨r,hr,h2,h3⟩:=(res_rej hx hC h c0).1 h1
  obtain ⟨i,s, -,hs, -,rfl⟩:=mem_first.1 hr
  obtain ⟨c,hc, -,h4, -⟩:=hst s (List.mem_of_getElem? hs)
  have h5:=(hC.cap c hc).2.1
  have h6:=h.seq
  have h7:s.seq=c0.seq:=h3
  omega
 ·rw [res_rej hx hC h c]
  constructor
  ·rintro ⟨r,hr,h2,h3⟩
   obtain ⟨i,s, -,hs,hl,rfl⟩:=mem_first.1 hr
   obtain ⟨c',hc', -,h4,q,hq,h5,h6⟩:=hst s (List.mem_of_getElem? hs)
   have h7:s.seq=c.seq:=h3
   have h8:c'=c:=hC.inj c' hc' c hc (by omega)
   subst h8
   have h9:=lbG_scan (at_:=at_) hx hP hp hcp
   rw [lbG_scan hx hP hq h5] at h9
   injection h9 with h9
   rw [←h9,←h6,hl]
  ·intro hpa
   obtain ⟨s,hs,h1,h2,h4⟩:=hO.st2 c hc hcp.kind
   rw [scan_lab hx hP hC hp hcp] at h4
   obtain ⟨i,hi⟩:=List.mem_iff_getElem?.1 hs
   exact ⟨_,mem_first.2 ⟨i,s,(List.getElem?_eq_some_iff.1 hi).1,hi,h4.trans hpa,rfl⟩,h1,h2⟩
theorem one_rej (hx:SitOk x) (hC:Caps x A P out) {l:List Cap} (h:ResL x out at_ c0 [rejO 900 c0.src c0.seq] l):rejB l c0=true∧∀c∈out,rejB l c=false:=by
 refine ⟨(res_rej hx hC h c0).2 ⟨_,List.mem_singleton.2 rfl,rfl,rfl⟩,fun c hc=>?_⟩
 rw [←Bool.not_eq_true]
 intro h1
 obtain ⟨r,hr,h2,h3⟩:=(res_rej hx hC h c).1 h1
 rw [List.mem_singleton.1 hr] at h3
 have h5:=(hC.cap c hc).2.1
 have h6:=h.seq
 have h7:c0.seq=c.seq:=h3
 omega
structure FinL (x:Sit) (at_:LabD) (Pg0:List Pag) (want:Int) (S3:List ScS) (Pg3:List Pag):Prop where
 cpl:∀e∈x.exp,Cpl x S3 Pg3 e
 same:∀e∈x.exp,e.cand≠at_.cand→scF x Pg3 e=scF x Pg0 e
 page:∀e∈x.exp,e.cand=at_.cand→∀k:Nat,(k:Int)=at_.page→k<(bkOf x e).length→(scF x Pg3 e).pages[k]? =some want
theorem finl_second (hx:SitOk x) (hP:P.map (·.1)=labsOf x) (hC:Caps x A P out) (hO:Outc x out (lbG x at_) S0 Pg0) {l:List Cap} (h:ResL x out at_ c0 (firstF S0 at_ S0.length) l) (hO3:Outc x l (lbG x at_) S3 Pg3):FinL x at_ Pg0 77777 S3 Pg3:=by
 obtain ⟨h0,hr⟩:=first_rej hx hP hC hO h
 have hoth:∀e∈x.exp,e.cand≠at_.cand→Cpl x S3 Pg3 e:=fun e he hne=>res_cpl hx hP hC h hO3 he (.inr fun h=>hne h.symm) fun c hc p hp h1 h2=>by
  rw [←Bool.not_eq_true]
  intro h3
  have:=(hr c hc p hp h1).1 h3
  rw [this] at h2
  exact hne h2.symm
 refine ⟨fun e he=>?_,fun e he hne=>res_same hx hP hC h hO3 he (.inr fun h=>hne h.symm) (hoth e he hne) hO,fun e he hc k hk hkl=>?_⟩
 ·by_cases hne:e.cand=at_.cand
  ·exact (res_second hx hP hC h hO3 he hne h0 hr).1
  ·exact hoth e he hne
 ·have:=(res_second hx hP hC h hO3 he hc h0 hr).2 k hk hkl
  rw [scF]
  simp only
  rw [List.getElem?_map,List.getElem?_range hkl]
  simp [this]
theorem finl_one (hx:SitOk x) (hA:IntOk x A) (hP:P.map (·.1)=labsOf x) (hC:Caps x A P out) (hO:Outc x out (lbG x at_) S0 Pg0) {l:List Cap} (h:ResL x out at_ c0 [rejO 900 c0.src c0.seq] l) (hO3:Outc x l (lbG x at_) S3 Pg3):FinL x at_ Pg0 (100 * at_.cand+at_.page) S3 Pg3:=by
 obtain ⟨h0,hr⟩:=one_rej hx hC h
 have hcpl:∀e∈x.exp,Cpl x S3 Pg3 e:=fun e he=>res_cpl hx hP hC h hO3 he (.inl h0) fun c hc p hp h1 h2=>hr c hc
 have hsame:∀e∈x.exp,scF x Pg3 e=scF x Pg0 e:=fun e he=>res_same hx hP hC h hO3 he (.inl h0) (hcpl e he) hO
 refine ⟨hcpl,fun e he _=>hsame e he,fun e he hc k hk hkl=>?_⟩
 rw [hsame e he]
 obtain ⟨i,hi⟩:=List.mem_iff_getElem?.1 he
 have hil:=(List.getElem?_eq_some_iff.1 hi).1
 obtain ⟨a,ha⟩:∃a,A[i]? =some a:=⟨_,List.getElem?_eq_getElem (by rw [hA.len];exact hil)⟩
 rw [out_script hx hA hP hC hO hi ha]
 simp only
 rw [List.getElem?_map,List.getElem?_range hkl]
 simp only [Option.map_some,hc,hk]
theorem st_one {e:ExpD} (h:Cpl x S Pg e):stF x S Pg e=(1,[]):=by
 have h:=cpl_iff.2 h
 rw [stF] at h ⊢
 split
 ·next h1=>rw [if_pos h1] at h;cases h
 ·next h1=>
  rw [if_neg h1] at h
  split
  ·rfl
  ·next h2=>
   rw [if_neg h2] at h
   split at h<;>cases h
structure MidL (x:Sit) (at_:LabD) (Pg0:List Pag) (S2:List ScS) (Pg2:List Pag):Prop where
 conf:∀e∈x.exp,e.cand=at_.cand→stF x S2 Pg2 e=(3,[at_.page])
 oth:∀e∈x.exp,e.cand≠at_.cand→stF x S2 Pg2 e=(1,[])∧scF x Pg2 e=scF x Pg0 e
theorem mid_of (hx:SitOk x) (hP:P.map (·.1)=labsOf x) (hC:Caps x A P out) (hO:Outc x out (lbG x at_) S0 Pg0) {l:List Cap} (h:ResL x out at_ c0 [] l) (hO2:Outc x l (lbG x at_) S2 Pg2):MidL x at_ Pg0 S2 Pg2:=by
 have hrf:∀c,rejB l c=false:=fun c=>by
  rw [←Bool.not_eq_true]
  intro h1
  obtain ⟨r,hr, -⟩:=(res_rej hx hC h c).1 h1
  cases hr
 refine ⟨fun e he hc=>res_conf hx hP hC h hO2 he hc,fun e he hne=>?_⟩
 have hc:=res_cpl hx hP hC h hO2 he (.inr fun h=>hne h.symm) fun c _ _ _ _ _=>hrf c
 exact ⟨st_one hc,res_same hx hP hC h hO2 he (.inr fun h=>hne h.symm) hc hO⟩
def othB (at_:LabD) (e:ExpD):Bool:=decide (e.cand≠at_.cand)
theorem mid_filter (h:MidL x at_ Pg0 S2 Pg2):x.exp.filter (cplB x S2 Pg2)=x.exp.filter (othB at_):=by
 refine List.filter_congr fun e he=>?_
 rw [cplB,othB]
 by_cases hc:e.cand=at_.cand
 ·rw [h.conf e he hc];simp [hc]
 ·rw [(h.oth e he hc).1];simp [hc]
theorem mid_map (h:MidL x at_ Pg0 S2 Pg2):(x.exp.filter (othB at_)).map (encScE x Pg2)=(x.exp.filter (othB at_)).map (encScE x Pg0):=by
 refine List.map_congr_left fun e he=>?_
 rw [List.mem_filter,othB,decide_eq_true_eq] at he
 rw [encScE,encScE,(h.oth e he.1 he.2).2]
end
theorem one_out {at_:LabD}:∀ {l:List ExpD},l.Pairwise (fun a b=>a.cand<b.cand)→(∃e∈l,e.cand=at_.cand)→(l.filter (othB at_)).length+1=l.length
 |[],_,h=>by obtain ⟨e,he, -⟩:=h;cases he
 |a::l,hp,h=>by
  rw [List.pairwise_cons] at hp
  rw [List.length_cons]
  by_cases ha:a.cand=at_.cand
  ·rw [List.filter_cons_of_neg (by simp [othB,ha])]
   have hself:l.filter (othB at_)=l:=List.filter_eq_self.2 fun e he=>by have:=hp.1 e he;exact decide_eq_true (by omega)
   rw [hself]
  ·rw [List.filter_cons_of_pos (by simp [othB,ha]),List.length_cons]
   obtain ⟨e,he,hc⟩:=h
   rcases List.mem_cons.1 he with rfl|he
   ·exact absurd hc ha
   ·rw [one_out hp.2 ⟨e,he,hc⟩]
theorem flt_at {p:ExpD→Bool} {l:List ExpD} {i:Nat} {e:ExpD} (h:l[i]? =some e) (hp:p e=true):(l.filter p)[((l.take i).filter p).length]? =some e:=by
 have hil:=(List.getElem?_eq_some_iff.1 h).1
 have h1:l=l.take i++(l.drop i):=(List.take_append_drop ..).symm
 have h2:l.drop i=e::l.drop (i+1):=by
  rw [List.drop_eq_getElem_cons hil,(List.getElem?_eq_some_iff.1 h).2]
 conv=>lhs;arg 1;rw [h1,List.filter_append]
 rw [List.getElem?_append_right (Nat.le_refl _),Nat.sub_self,h2,List.filter_cons_of_pos hp];rfl
theorem flt_succ {p:ExpD→Bool} {l:List ExpD} {i:Nat} {e:ExpD} (h:l[i]? =some e):((l.take (i+1)).filter p).length=((l.take i).filter p).length+if p e=true then 1 else 0:=by
 rw [List.take_add_one,h,List.filter_append,List.length_append]
 cases hp:p e<;>simp [hp]
end Go.Proofs.YtihjphblcohdeaaGreatDoor
namespace Go.Proofs.YtihjphblcohdeaaGreatDoor
set_option maxRecDepth 10000
open Go.RowKit
def plT23k_0:Plan:=(.take 0 (.take 1 (.take 2 (.take 3 (.alt 4 (.alt 5 (.take 6 (.take 7 (.take 8 (.take 9 (.take 10 .done))))) .stop) .stop)))))
def plT23k_2:Plan:=(.take 0 (.take 1 (.take 2 (.take 3 (.take 4 (.take 5 (.take 6 (.take 7 .done))))))))
def plT23k_5:Plan:=(.take 0 (.take 1 (.take 2 (.take 3 (.take 4 (.take 5 (.take 6 (.take 7 (.take 8 (.take 9 (.take 10 (.take 11 (.take 12 (.take 13 (.alt 14 (.take 15 (.take 16 .done)) .stop)))))))))))))))
def plT23k_9:Plan:=(.take 0 (.take 1 (.take 2 (.take 3 (.take 4 (.take 5 (.take 6 (.take 7 (.take 8 (.take 9 (.take 10 (.take 11 (.take 12 (.take 13 (.alt 14 (.alt 15 (.take 16 (.take 17 (.take 18 (.take 19 (.take 21 (.take 22 (.take 23 (.take 24 (.alt 20 (.alt 25 (.take 26 (.take 27 (.take 28 (.take 29 (.take 30 (.take 31 (.take 32 (.take 33 (.take 35 (.take 39 (.alt 34 (.alt 36 (.take 37 (.alt 38 (.take 40 (.take 41 .done)) .stop)) .stop) (.alt 36 (.alt 34 (.take 37 (.alt 38 (.take 40 (.take 41 .done)) .stop)) .stop) .stop)))))))))))) .stop) (.alt 25 (.take 26 (.alt 20 (.take 27 (.take 28 (.take 29 (.take 30 (.take 31 (.take 32 (.take 33 (.take 35 (.take 39 (.alt 34 (.alt 36 (.take 37 (.alt 38 (.take 40 (.take 41 .done)) .stop)) .stop) (.alt 36 (.alt 34 (.take 37 (.alt 38 (.take 40 (.take 41 .done)) .stop)) .stop) .stop))))))))))) .stop)) .stop)))))))))) .stop) .stop)))))))))))))))
def plT23k_11:Plan:=(.take 0 (.take 1 (.take 2 (.take 3 (.take 4 (.take 5 (.take 6 (.take 7 (.take 8 (.take 9 (.take 10 (.take 11 (.take 12 (.take 13 (.take 14 (.take 15 (.take 16 (.take 17 (.take 18 (.take 19 (.take 20 (.alt 21 (.take 22 (.take 23 (.take 24 (.take 25 (.take 26 (.take 27 (.take 29 (.take 30 (.take 31 (.alt 28 (.alt 32 (.alt 33 (.take 34 (.take 35 .done)) .stop) .stop) (.alt 32 (.alt 28 (.alt 33 (.take 34 (.take 35 .done)) .stop) .stop) .stop))))))))))) .stop))))))))))))))))))))))
def plT23k_13:Plan:=(.take 0 (.take 1 (.take 2 (.take 3 (.take 4 (.take 5 (.take 6 (.alt 7 .done .stop))))))))
open F32
theorem call_scansO {b:Bool} {f:Nat} {args:List AV} {K:AV→Prop} {alt:Prop} {x:Sit} {A:List (List Int)} (hx:SitOk x) (hA:IntOk x A) (hG:Good Tryz.prog TT b f args (fun r=>∃P out,Caps x A P out∧P.map (·.1)=labsOf x∧r= .tup [.own 0 56 13 (out.map encC), .bool true])) (h:∀P out,SetUp x A P out→out.length≤70→K (.tup [.own 0 56 13 (out.map encC), .bool true])):acall Tryz.prog TT b f args K alt:=
 call_i hG fun r hr=>by obtain ⟨P,out,hC,hP,rfl⟩:=hr;exact h P out ⟨hx,hA,hC,hP⟩ hC.len
theorem call_scan {b:Bool} {f:Nat} {args:List AV} {K:AV→Prop} {alt:Prop} {l:LabD} {ch:List Int} {seq:Int} (hG:Good Tryz.prog TT b f args (fun r=>∃c,ScanOf l ch seq c∧r= .tup [.agg (encC c), .bool true])) (h:∀c,ScanOf l ch seq c→K (.tup [.agg (encC c), .bool true])):acall Tryz.prog TT b f args K alt:=
 call_i hG fun r hr=>by obtain ⟨c,hc,rfl⟩:=hr;exact h c hc
theorem exp_inj {x:Sit} (hx:SitOk x) {a b:ExpD} (ha:a∈x.exp) (hb:b∈x.exp) (h:a.cand=b.cand):a=b:=by
 obtain ⟨i,hi⟩:=List.mem_iff_getElem?.1 ha
 obtain ⟨j,hj⟩:=List.mem_iff_getElem?.1 hb
 have hp:=List.pairwise_iff_getElem.1 hx.asc
 obtain ⟨a1,a2⟩:=List.getElem?_eq_some_iff.1 hi
 obtain ⟨b1,b2⟩:=List.getElem?_eq_some_iff.1 hj
 rcases Nat.lt_trichotomy i j with h3|h3|h3
 ·have:=hp i j a1 b1 h3;rw [a2,b2] at this;omega
 ·subst h3;rw [hi] at hj;cases hj;rfl
 ·have:=hp j i b1 a1 h3;rw [a2,b2] at this;omega
theorem new_of {x:Sit} {e:ExpD} {i k:Nat} {pg:List Int} {c:Cap} (he:x.exp[i]? =some e) (hpg:(bkOf x e)[k]? =some pg) (hm:labAt x e k∈labsOf x) (h:ScanOf (labAt x e k) (List.replicate (fldsF (papOf x e) pg).length 0) 500 c):NewC x (labAt x e k) { c with content:=77777 }:=
 ⟨hm,h.src,h.kind,h.strip,rfl,i,e,k,pg,he,hpg,rfl,by show c.ch.length=_;rw [h.ch,List.length_replicate],fun v hv=>by
   have h1:v∈c.ch:=hv
   rw [h.ch] at h1
   have:=List.eq_of_mem_replicate h1
   omega⟩
set_option maxHeartbeats 16000000 in
theorem resolved_law (xs:List Int) (hxs:xs.length≤9223372036854775807) (which:Int) (sb:Bool):Good Tryz.prog TT false 4 [ints xs, .int .i64 which, .bool sb] (· = .bool true):=by
 refine good_of_c (fun i=>Nat.beq i 14||Nat.beq i 41) mixed tabOk Tryz.func4 rfl rfl Tryz.ntmps4 Tryz.results4 rfl rfl ?_
 (conv=>whnf);(repeat' (first|((with_reducible refine branch_tt ?_);conv=>whnf)|(with_reducible refine branch_not ?_)|((refine call_e (new_ok xs hxs) ?_);conv=>whnf)|((refine call_sit sitting_ok fun x hx=>?_);conv=>whnf)|((refine call_int (intended_ok x hx) fun A hA=>?_);conv=>whnf)|((refine call_scansO hx hA (scansO_ok x hx A hA) fun P out hU ho70=>?_);conv=>whnf)|(refine draw_i 11 plT23k_0 (by decide+kernel) ?_;(conv=>whnf);fail_if_success (guard_target=~ False))|((with_reducible refine And.intro ?_ ?_)<;>(conv=>whnf))|(with_reducible exact trivial)))
 have LB:((labsOf x).map encLb).length=(labsOf x).length:=List.length_map ..
 have hl4:=sit_len hx
 have LE0:(x.exp.map encE).length=x.exp.length:=List.length_map ..
 have h32:(labsOf x).length≤32:=by have:=flat_le hx x.exp.length;rwa [List.take_length] at this
 rcases Nat.eq_zero_or_pos (labsOf x).length with hz|hz
 ·(conv=>whnf);(repeat' (first|((refine call_e (pagesOf_ok x hx) ?_);conv=>whnf)|((refine call_e awake23_ok ?_);conv=>whnf)|((with_reducible refine branch_e (fun hq=>?_) (fun hq=>?_))<;>(try (exfalso;omega))<;>(conv=>whnf))))
  all_goals exact ret_p rfl rfl
 have hcut:=cutG_in which ((labsOf x).map encLb).length (by omega)
 obtain ⟨at_,hat⟩:∃a,(labsOf x)[(cutG which ((labsOf x).map encLb).length).toNat]? =some a:=⟨_,List.getElem?_eq_getElem (by omega)⟩
 have ham:=List.mem_of_getElem? hat
 obtain ⟨e0,he0,k0,hk0,hae⟩:=labs_mem.1 ham
 subst hae
 have LO:(out.map encC).length=out.length:=List.length_map ..
 have hS0:=sortOutM_ok x hx out (lbG x (labAt x e0 k0)) (out_in hU.sit hU.labs hU.caps)
 apply cut_key (tt:=TT) (fun S0 Pg0=>Outc x out (lbG x (labAt x e0 k0)) S0 Pg0) (fun S0 Pg0=>mkSt [(2, .bool sb),(7, .tape),(8, .ptr 8 0),(9, .own 45 56 13 (out.map encC)),(12, .ptr 12 0),(13, .ptr 13 0),(15, .lst 7 (x.exp.map (encScE x Pg0)))] [(8,sitC x),(12,[.int .i64 x.num, .int .i64 e0.cand, .int .i64 (k0:Nat), .int .i64 e0.var]),(13,inC S0 Pg0)] true)
 ·intro key
  (conv=>whnf);(repeat' (first|((with_reducible refine branch_ff ?_);conv=>whnf)|((refine call_e (pagesOf_ok x hx) ?_);conv=>whnf)|((refine call_e (cut_ok which _ (by omega)) ?_);conv=>whnf)|((refine idx_ms hcut.1 hat ?_);conv=>whnf)|(((refine mcall_i [] [(1101,45)] _ Le.refl hS0 rfl rfl rfl trivial ?_;rintro r ov bx' ⟨rfl,rfl,S0,Pg0,hO,rfl⟩;refine ⟨rfl,?_⟩;have hacc:=accept_ok x hx S0 Pg0 hO.bel;rw [all_cpl fun e he=>out_cpl hU.sit hU.labs hU.caps hO he] at hacc;have LX:(x.exp.map (encScE x Pg0)).length=x.exp.length:=(List.length_map ..)));conv=>whnf)|((refine call_e hacc ?_);conv=>whnf)|((with_reducible refine branch_e (fun hq=>?_) (fun hq=>?_))<;>(try (exfalso;omega))<;>(conv=>whnf))|((with_reducible refine branch_n (fun hq=>?_) (fun hq=>?_))<;>(try (exfalso;omega))<;>(conv=>whnf))))
  all_goals exact key S0 Pg0 _ hO le_q
 intro S0 Pg0 hO
 have hsl:=hO.bel.sl
 have LX:(x.exp.map (encScE x Pg0)).length=x.exp.length:=List.length_map ..
 have LS0:(S0.map encSS).length=S0.length:=List.length_map ..
 (conv=>whnf)
 refine loop_i (fun i:Nat=>i≤S0.length) (fun i=>mkSt [(2, .bool sb),(7, .tape),(8, .ptr 8 0),(9, .own 45 56 13 (out.map encC)),(12, .ptr 12 0),(13, .ptr 13 0),(15, .lst 7 (x.exp.map (encScE x Pg0))),(17, .own 900 56 13 ((firstF S0 (labAt x e0 k0) i).map encC)),(18, .int .i64 i)] [(8,sitC x),(12,[.int .i64 x.num, .int .i64 e0.cand, .int .i64 (k0:Nat), .int .i64 e0.var]),(13,inC S0 Pg0)] true) (fun i=>S0.length-i) 0 (Nat.zero_le _) ((le_adopt 17 900 56 13 rfl).trans le_q) ?_
 intro i hi
 have LF1:((firstF S0 (labAt x e0 k0) i).map encC).length≤i:=by rw [List.length_map];exact first_len i hi
 rcases Nat.lt_or_ge i S0.length with hil|hil
 ·obtain ⟨s,hs⟩:∃s,S0[i]? =some s:=⟨_,List.getElem?_eq_getElem hil⟩
  have hfs:=first_succ (at_:=labAt x e0 k0) hs
  (conv=>whnf);(repeat' (first|(refine arith_i ⟨by omega,by omega⟩ ?_;conv=>whnf)|(refine need_o ?_;conv=>whnf)|((refine idx_cs hs ?_);conv=>whnf)|((refine eq_i guard_label (fun w=>eq_label _ _ _ _ _ _ _ _ w) ?_);conv=>whnf)|((refine nils_i (encC (rejO i s.src s.seq)) ⟨rfl,rfl,rfl,rfl,rfl,rfl,pc_nil 1,rfl,rfl,rfl,rfl,rfl,rfl,trivial⟩ ?_);conv=>whnf)|(refine draw_i 8 plT23k_13 (by decide+kernel) ?_;(conv=>whnf);fail_if_success (guard_target=~ False))|((with_reducible refine And.intro ?_ ?_)<;>(conv=>whnf))|(with_reducible exact trivial)|((with_reducible refine branch_d (fun hq=>?_) (fun hq=>?_))<;>(try (exfalso;omega))<;>(conv=>whnf))|((with_reducible refine branch_i (fun hq=>?_) (fun hq=>?_))<;>(try (exfalso;omega))<;>(conv=>whnf))))
  all_goals first
   |exact ⟨i+1,by omega,le_mk ⟨rfl,rfl,rfl,rfl,rfl,rfl,rfl,own_eq (by rw [hfs,if_pos (show labEq s.lab (labAt x e0 k0)=true by assumption),List.map_append];rfl),rfl,trivial⟩ ⟨rfl,rfl,rfl,trivial⟩ rfl,by omega⟩
   |exact ⟨i+1,by omega,le_mk ⟨rfl,rfl,rfl,rfl,rfl,rfl,rfl,own_eq (by rw [hfs,if_neg (Bool.eq_false_iff.1 (show labEq s.lab (labAt x e0 k0)=false by assumption)),List.append_nil]),rfl,trivial⟩ ⟨rfl,rfl,rfl,trivial⟩ rfl,by omega⟩
 obtain rfl:i=S0.length:=by omega
 have hV:=(sit_pap hx he0).2
 have h1:=hx.exps e0 he0
 have h8:=hV.eight
 have h66:(papOf x e0).length≤6:=hV.six
 have hPk:PapOk x.num e0.var (papOf x e0):=by have:=hV.pap;rwa [show ((e0.var.toNat:Nat):Int)=e0.var by omega] at this
 have hpp:(x.pap.map (encPap x.num))[e0.var.toNat]? =some [.int .i64 x.num, .int .i64 e0.var, .lst 6 ((papOf x e0).map encPt)]:=by rw [List.getElem?_map,(sit_pap hx he0).1];rfl
 have hbk:=sit_bk hx he0
 obtain ⟨pg,hpg⟩:∃pg,(bkOf x e0)[k0]? =some pg:=⟨_,List.getElem?_eq_getElem hk0⟩
 have LFD:((fldsF (papOf x e0) pg).map encF).length=(fldsF (papOf x e0) pg).length:=List.length_map ..
 have hfl:=fldsF_len hPk.parts (l:=pg) fun b hb=>hV.book.mem hpg hb
 have hpl:offP (bkOf x e0) k0+pg.length≤(papOf x e0).length:=hV.book.len_le hpg
 have h1v:0≤e0.var:=h1.2.2.2.2.1
 (conv=>whnf);(repeat' (first|((refine idx_i h1v hpp ?_);conv=>whnf)|((refine idx_ms h1v hbk ?_);conv=>whnf)|((refine call_e (bFields_ok _ _ (papOf x e0) (bkOf x e0) k0 pg hPk hV.book hpg) ?_);conv=>whnf)|(refine draw_i 17 plT23k_5 (by decide+kernel) ?_;(conv=>whnf);fail_if_success (guard_target=~ False))|((with_reducible refine And.intro ?_ ?_)<;>(conv=>whnf))|(with_reducible exact trivial)|((with_reducible refine branch_d (fun hq=>?_) (fun hq=>?_))<;>(try (exfalso;omega))<;>(conv=>whnf))))
 generalize hnf:(fldsF (papOf x e0) pg).length=nf at *
 refine loop_i (fun j:Nat=>j≤nf) (fun j=>mkSt [(2, .bool sb),(7, .tape),(8, .ptr 8 0),(9, .own 45 56 13 (out.map encC)),(12, .ptr 12 0),(15, .lst 7 (x.exp.map (encScE x Pg0))),(17, .own 900 56 13 ((firstF S0 (labAt x e0 k0) S0.length).map encC)),(19, .own 901 3 1 ((List.replicate j (0:Int)).map encI)),(20, .int .i64 ((nf:Int)-j))] [(8,sitC x),(12,[.int .i64 x.num, .int .i64 e0.cand, .int .i64 (k0:Nat), .int .i64 e0.var])] true) (fun j=>nf-j) 0 (Nat.zero_le _) ((le_adopt 19 901 3 1 rfl).trans (le_mk ⟨rfl,rfl,rfl,rfl,rfl,rfl,rfl,rfl,int_eq (by omega),trivial⟩ ⟨rfl,rfl,trivial⟩ rfl)) ?_
 intro j hj
 have LJ:((List.replicate j (0:Int)).map encI).length=j:=by simp
 rcases Nat.lt_or_ge j nf with hjl|hjl
 ·(conv=>whnf);(repeat' (first|(refine arith_i ⟨by omega,by omega⟩ ?_;conv=>whnf)|(refine need_o ?_;conv=>whnf)|((with_reducible refine branch_d (fun hq=>?_) (fun hq=>?_))<;>(try (exfalso;omega))<;>(conv=>whnf))))
  all_goals exact ⟨j+1,by omega,le_mk ⟨rfl,rfl,rfl,rfl,rfl,rfl,rfl,own_eq (by rw [List.replicate_succ',List.map_append];rfl),int_eq (by omega),trivial⟩ ⟨rfl,rfl,trivial⟩ rfl,by omega⟩
 obtain rfl:j=nf:=by omega
 subst hnf
 obtain ⟨i0,hi0⟩:=List.mem_iff_getElem?.1 he0
 have hlab:=lab_ok hx he0 hk0
 (conv=>whnf);(repeat' (first|(refine need_o ?_;conv=>whnf)|(((refine call_scan (scan_ok (labAt x e0 k0) hlab (List.replicate (fldsF (papOf x e0) pg).length 0) 500) fun c hc=>?_;have hn:=new_of hi0 hpg ham hc;have hr0:=nil_res hU.caps hn hc.time hc.seq;have hS2:=sortOutM_ok x hx _ (lbG x (labAt x e0 k0)) (res_in hU.sit hU.labs hU.caps hr0);rw [List.map_append] at hS2));conv=>whnf)|(((refine mcall_i [] [(1101,45)] _ Le.refl hS2 rfl rfl rfl trivial ?_;rintro r ov bx' ⟨rfl,rfl,S2,Pg2,hO2,rfl⟩;refine ⟨rfl,?_⟩));conv=>whnf)|((with_reducible refine callS_a ?_);conv=>whnf)|((with_reducible refine branch_d (fun hq=>?_) (fun hq=>?_))<;>(try (exfalso;omega))<;>(conv=>whnf))))
 have hM:=mid_of hU.sit hU.labs hU.caps hO hr0 hO2
 have hst2:=states_ok x hx S2 Pg2 hO2.bel
 have hac2:=accept_ok x hx S2 Pg2 hO2.bel
 rw [mid_filter hM,mid_map hM] at hac2
 have LS2:(x.exp.map (encStE x S2 Pg2)).length=x.exp.length:=List.length_map ..
 have LE2:((x.exp.filter (othB (labAt x e0 k0))).map (encScE x Pg0)).length=(x.exp.filter (othB (labAt x e0 k0))).length:=List.length_map ..
 have hone:=one_out hx.asc ⟨e0,he0,show e0.cand=(labAt x e0 k0).cand from rfl⟩
 have LFF:((firstF S0 (labAt x e0 k0) S0.length).map encC).length=(firstF S0 (labAt x e0 k0) S0.length).length:=List.length_map ..
 have hF0:=first_ne hU.sit hU.labs hU.caps hO ham
 have hF1:=first_len (S:=S0) (at_:=labAt x e0 k0) S0.length (Nat.le_refl _)
 apply cut_key (tt:=TT) (fun (want:Int) (Pg3:List Pag)=>∃S3,FinL x (labAt x e0 k0) Pg0 want S3 Pg3) (fun want Pg3=>mkSt [(12, .ptr 12 0),(15, .lst 7 (x.exp.map (encScE x Pg0))),(24, .lst 3 (x.exp.map (encStE x S2 Pg2))),(26, .lst 7 ((x.exp.filter (othB (labAt x e0 k0))).map (encScE x Pg0))),(28, .int .i64 want),(31, .lst 7 (x.exp.map (encScE x Pg3)))] [(12,[.int .i64 x.num, .int .i64 e0.cand, .int .i64 (k0:Nat), .int .i64 e0.var])] true)
 ·intro key
  rcases Bool.eq_false_or_eq_true sb with hsb|hsb
  rotate_left 1
  ·have hr1:=one_res hU.caps hn hc.time hc.seq
   have hS3:=sortOut_ok x hx _ (lbG x (labAt x e0 k0)) (res_in hU.sit hU.labs hU.caps hr1)
   rw [List.map_append,List.map_append] at hS3
   (conv=>whnf);(repeat' (first|(refine arith_i ⟨by omega,by omega⟩ ?_;conv=>whnf)|(refine need_o ?_;conv=>whnf)|((with_reducible first|refine branch_tt ?_|refine branch_ff ?_);conv=>whnf)|(with_reducible refine branch_not ?_)|((refine call_e hst2 ?_);conv=>whnf)|((refine call_e hac2 ?_);conv=>whnf)|((refine branch_f hsb ?_);conv=>whnf)|((refine nils_i (encC (rejO 900 c.src c.seq)) ⟨rfl,rfl,rfl,rfl,rfl,rfl,pc_nil 1,rfl,rfl,rfl,rfl,rfl,rfl,trivial⟩ ?_);conv=>whnf)|((refine call_sort hS3 fun S3 Pg3 hO3=>?_);conv=>whnf)|(((have hFin:=finl_one hU.sit hU.int hU.labs hU.caps hO hr1 hO3;have hac3:=accept_ok x hx S3 Pg3 hO3.bel;rw [all_cpl hFin.cpl] at hac3;have LX3:(x.exp.map (encScE x Pg3)).length=x.exp.length:=(List.length_map ..);refine call_e hac3 ?_));conv=>whnf)|((with_reducible refine callS_a ?_);conv=>whnf)|((with_reducible refine branch_e (fun hq=>?_) (fun hq=>?_))<;>(try (exfalso;omega))<;>(conv=>whnf))|((with_reducible refine branch_n (fun hq=>?_) (fun hq=>?_))<;>(try (exfalso;omega))<;>(conv=>whnf))))
   all_goals exact key _ Pg3 _ ⟨S3,hFin⟩ le_q
  ·have hr1:=first_res hU.caps hO hn hc.time hc.seq
   have hS3:=sortOut_ok x hx _ (lbG x (labAt x e0 k0)) (res_in hU.sit hU.labs hU.caps hr1)
   rw [List.map_append,List.map_append] at hS3
   (conv=>whnf);(repeat' (first|(refine arith_i ⟨by omega,by omega⟩ ?_;conv=>whnf)|(refine need_o ?_;conv=>whnf)|((with_reducible first|refine branch_tt ?_|refine branch_ff ?_);conv=>whnf)|(with_reducible refine branch_not ?_)|((refine call_e hst2 ?_);conv=>whnf)|((refine call_e hac2 ?_);conv=>whnf)|((refine branch_t hsb ?_);conv=>whnf)|((refine call_sort hS3 fun S3 Pg3 hO3=>?_);conv=>whnf)|(((have hFin:=finl_second hU.sit hU.labs hU.caps hO hr1 hO3;have hac3:=accept_ok x hx S3 Pg3 hO3.bel;rw [all_cpl hFin.cpl] at hac3;have LX3:(x.exp.map (encScE x Pg3)).length=x.exp.length:=(List.length_map ..);refine call_e hac3 ?_));conv=>whnf)|((with_reducible refine callS_a ?_);conv=>whnf)|((with_reducible refine branch_e (fun hq=>?_) (fun hq=>?_))<;>(try (exfalso;omega))<;>(conv=>whnf))|((with_reducible refine branch_n (fun hq=>?_) (fun hq=>?_))<;>(try (exfalso;omega))<;>(conv=>whnf))))
   all_goals exact key _ Pg3 _ ⟨S3,hFin⟩ le_q
 rintro want Pg3 ⟨S3,hFin⟩
 have LX3:(x.exp.map (encScE x Pg3)).length=x.exp.length:=List.length_map ..
 (conv=>whnf)
 refine loop_i (fun i:Nat=>i≤x.exp.length) (fun i=>mkSt [(12, .ptr 12 0),(15, .lst 7 (x.exp.map (encScE x Pg0))),(24, .lst 3 (x.exp.map (encStE x S2 Pg2))),(26, .lst 7 ((x.exp.filter (othB (labAt x e0 k0))).map (encScE x Pg0))),(28, .int .i64 want),(31, .lst 7 (x.exp.map (encScE x Pg3))),(33, .int .i64 ((x.exp.take i).filter (othB (labAt x e0 k0))).length),(34, .int .i64 i)] [(12,[.int .i64 x.num, .int .i64 e0.cand, .int .i64 (k0:Nat), .int .i64 e0.var])] true) (fun i=>x.exp.length-i) 0 (Nat.zero_le _) le_q ?_
 intro i hi
 rcases Nat.lt_or_ge i x.exp.length with hil|hil
 ·obtain ⟨e,he⟩:∃e,x.exp[i]? =some e:=⟨_,List.getElem?_eq_getElem hil⟩
  have hem:=List.mem_of_getElem? he
  have hsu:=flt_succ (p:=othB (labAt x e0 k0)) he
  by_cases hce:e.cand=e0.cand
  ·obtain rfl:=exp_inj hx hem he0 hce
   have hpb:othB (labAt x e k0) e=false:=decide_eq_false (fun h=>h rfl)
   rw [hpb] at hsu
   have hstA:(x.exp.map (encStE x S2 Pg2))[i]? =some [.int .i64 e.cand, .int .i64 3,ints [(k0:Int)]]:=by rw [List.getElem?_map,he,Option.map_some,encStE,hM.conf e hem rfl];rfl
   have hpgs:=hFin.page e hem rfl k0 rfl hk0
   have hI:Good Tryz.prog TT false 20 [ints [(k0:Int)],ints [(k0:Int)]] (· = .bool true):=by simpa using ints_ok [(k0:Int)] [(k0:Int)] (by simp) (by simp)
   have LPG:((scF x Pg3 e).pages.map encI).length=(bkOf x e).length:=by rw [List.length_map,scF];simp
   (conv=>whnf);(repeat' (first|(refine arith_i ⟨by omega,by omega⟩ ?_;conv=>whnf)|((with_reducible first|refine branch_tt ?_|refine branch_ff ?_);conv=>whnf)|(with_reducible refine branch_not ?_)|((refine idx_e hstA ?_);conv=>whnf)|((refine idx_cs he ?_);conv=>whnf)|((refine call_e hI ?_);conv=>whnf)|((refine idx_cs hpgs ?_);conv=>whnf)|(refine draw_i 8 plT23k_2 (by decide+kernel) ?_;(conv=>whnf);fail_if_success (guard_target=~ False))|(refine draw_i 42 plT23k_9 (by decide+kernel) ?_;(conv=>whnf);fail_if_success (guard_target=~ False))|((with_reducible refine And.intro ?_ ?_)<;>(conv=>whnf))|(with_reducible exact trivial)|((with_reducible refine branch_d (fun hq=>?_) (fun hq=>?_))<;>(try (exfalso;omega))<;>(conv=>whnf))|((with_reducible refine branch_e (fun hq=>?_) (fun hq=>?_))<;>(try (exfalso;omega))<;>(conv=>whnf))|((with_reducible refine branch_n (fun hq=>?_) (fun hq=>?_))<;>(try (exfalso;omega))<;>(conv=>whnf))))
   all_goals exact ⟨i+1,by omega,le_mk ⟨rfl,rfl,rfl,rfl,rfl,rfl,int_eq (by rw [hsu];simp),rfl,trivial⟩ ⟨rfl,trivial⟩ rfl,by omega⟩
  ·have hpb:othB (labAt x e0 k0) e=true:=decide_eq_true hce
   rw [hpb] at hsu
   obtain ⟨hs1,hs2⟩:=hM.oth e hem hce
   have hs3:=hFin.same e hem hce
   have hstA:(x.exp.map (encStE x S2 Pg2))[i]? =some [.int .i64 e.cand, .int .i64 1,ints []]:=by rw [List.getElem?_map,he,Option.map_some,encStE,hs1];rfl
   have hEi:=flt_at he hpb
   have hEl:=(List.getElem?_eq_some_iff.1 hEi).1
   have hss:Good Tryz.prog TT false 13 [.agg (encScp (scF x Pg0 e)), .agg (encScp (scF x Pg0 e))] (· = .bool true):=(sameScript_ok _ _ (scF_small hx hem) (scF_small hx hem)).mono fun r ⟨v,hv,h⟩=>by rw [hv,h rfl]
   have hss2:Good Tryz.prog TT false 13 [.agg (encScp (scF x Pg3 e)), .agg (encScp (scF x Pg0 e))] (· = .bool true):=by rw [hs3];exact hss
   (conv=>whnf);(repeat' (first|(refine arith_i ⟨by omega,by omega⟩ ?_;conv=>whnf)|((with_reducible first|refine branch_tt ?_|refine branch_ff ?_);conv=>whnf)|(with_reducible refine branch_not ?_)|((refine idx_e hstA ?_);conv=>whnf)|((refine idx_cs he ?_);conv=>whnf)|((refine idx_cs hEi ?_);conv=>whnf)|((refine call_e hss ?_);conv=>whnf)|((refine call_e hss2 ?_);conv=>whnf)|(refine draw_i 8 plT23k_2 (by decide+kernel) ?_;(conv=>whnf);fail_if_success (guard_target=~ False))|(refine draw_i 36 plT23k_11 (by decide+kernel) ?_;(conv=>whnf);fail_if_success (guard_target=~ False))|((with_reducible refine And.intro ?_ ?_)<;>(conv=>whnf))|(with_reducible exact trivial)|((with_reducible refine branch_d (fun hq=>?_) (fun hq=>?_))<;>(try (exfalso;omega))<;>(conv=>whnf))|((with_reducible refine branch_e (fun hq=>?_) (fun hq=>?_))<;>(try (exfalso;omega))<;>(conv=>whnf))|((with_reducible refine branch_n (fun hq=>?_) (fun hq=>?_))<;>(try (exfalso;omega))<;>(conv=>whnf))))
   all_goals exact ⟨i+1,by omega,le_mk ⟨rfl,rfl,rfl,rfl,rfl,rfl,int_eq (by rw [hsu];simp),rfl,trivial⟩ ⟨rfl,trivial⟩ rfl,by omega⟩
 ·obtain rfl:i=x.exp.length:=by omega
  rw [List.take_length]
  (conv=>whnf);(repeat' (first|((with_reducible refine branch_tt ?_);conv=>whnf)|((refine call_e awake23_ok ?_);conv=>whnf)|((with_reducible refine branch_d (fun hq=>?_) (fun hq=>?_))<;>(try (exfalso;omega))<;>(conv=>whnf))|((with_reducible refine branch_e (fun hq=>?_) (fun hq=>?_))<;>(try (exfalso;omega))<;>(conv=>whnf))))
  all_goals exact ret_p rfl rfl
end Go.Proofs.YtihjphblcohdeaaGreatDoor
namespace Go.Proofs.YtihjphblcohdeaaGreatDoor
open Go.ChangeShapes Go.WideShapes Go.ChangeAt Go.WideMaps Go.WideElems Go.RowKit
def laidL:List (String×DataW Unit):=Rows.topStableRow.laid
def nmG (j:Nat):String:=(laidL.map Prod.fst).getD j default
theorem gPow:Tryz.prog.globalNamed (nmG 0)=some 0:=by kernel_rfl
theorem gLog:Tryz.prog.globalNamed (nmG 1)=some 1:=by kernel_rfl
theorem arr_at {P:Program} {w:World} {base:Nat} {spare:Nat→Bool} {held:Bool} {fuel:Nat} {t e:TypeId} {n:Nat} {cs:List Value} {enc:TypeId×Value→Unit} {x:DataW Unit×List MemPlace} (ht:P.underlying t=some (.array n e)) (he:P.underlying e=some (.int .i64)) (hc:P.cellsOf e=1)
 (h:DataW.trod enc P w base spare held fuel t cs=some x) {zs:List Int} (hx:x.1= .agg (zs.map fun z=> .lit (.int .i64 z))) (hn:zs.length=n):∀(j:Nat) (z:Int),zs[j]? =some z→cs[j]? =some (.int .i64 z):=by
 intro j z hz
 obtain ⟨xs,m,rfl,rfl, -,hxl,hel⟩:=DataW.trod_array ht h
 have hj:j<n:=by have:=(List.getElem?_eq_some_iff.1 hz).1;omega
 have h1:=hel j hj
 rw [hc,Nat.mul_one] at h1
 obtain ⟨y,hy⟩:∃y,xs[j]? =some y:=⟨_,List.getElem?_eq_getElem (by omega)⟩
 rw [hy] at h1
 obtain ⟨k,e1,e2, -⟩:=DataW.trod_int he h1
 have h2:xs.map (·.1)=zs.map fun z=> .lit (.int .i64 z):=by simpa using hx
 have h3:(xs.map (·.1))[j]? =some (.lit (.int .i64 z)):=by rw [h2,List.getElem?_map,hz];rfl
 rw [List.getElem?_map,hy,e2] at h3
 simp at h3
 subst h3
 have h4:(cs.drop j)[0]? =some (.int .i64 k):=by
  have:((cs.drop j).take 1)[0]? =some (.int .i64 k):=by rw [e1];rfl
  rwa [List.getElem?_take_of_lt (by omega)] at this
 rwa [List.getElem?_drop,Nat.add_zero] at h4
theorem blk_lt {w:World} {g:Nat} {v:Value} (h:w.cell? ⟨g,0,none⟩=some v):g<w.heap.size:=by
 rcases Nat.lt_or_ge g w.heap.size with h1|h1
 ·exact h1
 ·simp [World.cell?,Array.getElem?_eq_none h1] at h
theorem of_laid {W:World} (h:laidMetH Tryz.prog laidL W):GlobAt W No none:=by
 rw [MakeChecks.laidMetH_plain _ _ _ (by kernel_rfl)] at h
 obtain ⟨ps,⟨g0,t0,cs0,f0,p0,q0,hg0,ht0,hv0,hd0,⟨g1,t1,cs1,f1,p1,q1,hg1,ht1,hv1,hd1,_,_⟩,_⟩,_,_⟩:=h
 obtain rfl:=Option.some.inj (gPow.symm.trans hg0)
 obtain rfl:=Option.some.inj (gLog.symm.trans hg1)
 obtain rfl:=Option.some.inj ((show (Tryz.prog.globals[0]?).map (·.type)=some 254 by kernel_rfl).symm.trans ht0)
 obtain rfl:=Option.some.inj ((show (Tryz.prog.globals[1]?).map (·.type)=some 255 by kernel_rfl).symm.trans ht1)
 have c3:Tryz.prog.cellsOf 3=1:=by kernel_rfl
 have a0:=arr_at Tryz.underlying254 Tryz.underlying3 c3 hd0 (zs:=(laidG.getD 0 (0,[])).2) rfl rfl
 have a1:=arr_at Tryz.underlying255 Tryz.underlying3 c3 hd1 (zs:=(laidG.getD 1 (0,[])).2) rfl rfl
 have b0:∀(j:Nat) (z:Int),(laidG.getD 0 (0,[])).2[j]? =some z→W.cell? ⟨0,j,none⟩=some (.int .i64 z):=fun j z h=>by rw [World.var?_cell gPow hv0 j,←Array.getElem?_toList];exact a0 j z h
 have b1:∀(j:Nat) (z:Int),(laidG.getD 1 (0,[])).2[j]? =some z→W.cell? ⟨1,j,none⟩=some (.int .i64 z):=fun j z h=>by rw [World.var?_cell gLog hv1 j,←Array.getElem?_toList];exact a1 j z h
 intro g xs h
 rw [lookG,laidG,lkG,lkG,lkG] at h
 cases h0:Nat.beq g 0
 ·rw [h0] at h
  cases h1:Nat.beq g 1
  ·rw [h1] at h;cases h
  ·rw [h1] at h
   obtain rfl:=Nat.eq_of_beq_eq_true h1
   cases h
   exact ⟨blk_lt (b1 0 _ rfl),no_,nofun,b1⟩
 ·rw [h0] at h
  obtain rfl:=Nat.eq_of_beq_eq_true h0
  cases h
  exact ⟨blk_lt (b0 0 _ rfl),no_,nofun,b0⟩
theorem door_met (os:Os) (args:Array Value):laidMetH Tryz.prog laidL ((World.doorLaid Tryz.prog 400 os).forCall (fun _ _=>0) ⟨#[],args,[]⟩).memory:=
 laidMetH_of_parts3 (fuel:=8) (laidMet_of_run' 8 (by kernel_rfl) (by kernel_rfl)) (by kernel_rfl) (by kernel_rfl)
theorem law_all {f:Nat} {args:List AV} (hG:Good Tryz.prog TT false f args (· = .bool true)) {w:World} {us:List Value} (hgl:GlobAt w No none) (h:All2 (RepV w No) args us):
 Calls Tryz.prog f us.toArray w (fun e w'=>e= .returned (.bool true)∧Chg No w w'):=by
 have hx:∀b,GX (G0 none No (none,0,0)) b→False:=fun b hb=>by rcases hb with hb|hb<;>simp_all [GM,G0,No]
 refine Calls.mono (hG.2 w No none us (none,0,0) (fun b hb=>absurd hb no_) hgl rfl (h.mono fun v u hr=>RC.ra (RepV.rc (RepV.move hr (fun _ _ _=>rfl) fun b _ hb=>(hx b hb).elim))) nofun) ?_
 rintro e w' ⟨u,r,rfl,rfl,hr,hc, -⟩
 have hu:RepV w' (GX (G0 none No (none,0,0))) (.bool true) u:=hr
 cases hu
 exact ⟨rfl,hc.down.mono fun b _ hb=>by cases hb⟩
theorem ints_row {w:World} {a:Option Addr} {len cap:Nat} {zs:List Int} (h:Ints w No a len cap zs):RepV w No (ints zs) (.slice a len cap):=ints_rep h
theorem ints_max {w:World} {a:Option Addr} {len cap:Nat} {zs:List Int} (h:Ints w No a len cap zs) (hc:cap≤maxLen):zs.length≤9223372036854775807:=by
 have h1:=h.len
 have h2:=h.cap
 have h3:maxLen=9223372036854775807:=rfl
 omega
end Go.Proofs.YtihjphblcohdeaaGreatDoor
