/- Several texts in one: T18h, Pl18d, T06, T12a, Pl12, T12b, T12c, T00, T19b, T19c, T19d, T19e, T19f. (Printed small by a program: remarks, spaces and repeated headings are taken out.) -/
import Derived.Test.YtihjphblcohdeaaGreatDoorC5
import Derived.Test.YtihjphblcohdeaaGreatDoorC4
set_option linter.unusedVariables false
set_option linter.unusedSimpArgs false
set_option linter.unnecessarySimpa false
set_option linter.unusedSectionVars false
namespace Go.Proofs.YtihjphblcohdeaaGreatDoor
set_option maxRecDepth 10000
open Go.RowKit
def plT18h_1:Plan:=(.take 0 (.take 1 (.take 2 (.take 4 (.take 5 (.take 6 (.alt 3 (.alt 7 (.take 8 (.take 9 (.altE 10 .done .stop))) .stop) (.alt 7 (.alt 3 (.take 8 (.take 9 (.altE 10 .done .stop))) .stop) .stop))))))))
open F32
def oI:Option G→Int
 |none=> -1
 |some x=>gI x
def fW (wd:List (Option G)) (i:Nat):G:=(wd.getD i none).getD 0
def filL (wd:List (Option G)) (i:Nat):List (List AV):=(List.range 12).map fun k=>[.int .i64 (if k<i then gI (fW wd k) else oI (wd.getD k none))]
def erL (wd:List (Option G)) (i:Nat):List Nat:=(List.range i).filter fun k=>(wd.getD k none).isNone
def whL (wd:List (Option G)) (i:Nat):List Nat:=(List.range i).filter fun k=>(wd.getD k none).isSome
def erN (wd:List (Option G)) (cw:List G):List Nat:=(List.range 12).filter fun k=>match wd.getD k none with|none=>false|some x=>x != cw.getD k 0
theorem fil_0 {wd:List (Option G)} (hl:wd.length=12):(wd.map oI).map encI=filL wd 0:=by
 refine List.ext_getElem? fun k=>?_
 rw [List.getElem?_map,List.getElem?_map,filL,List.getElem?_map]
 by_cases h:k<12
 ·rw [List.getElem?_range h,List.getElem?_eq_getElem (by omega)]
  simp [encI,List.getD_eq_getElem?_getD,List.getElem?_eq_getElem (show k<wd.length by omega)]
 ·rw [List.getElem?_eq_none (by omega),List.getElem?_eq_none (by rw [List.length_range];omega)];rfl
theorem fil_none {wd:List (Option G)} {i:Nat} (h:wd.getD i none=none):(filL wd i).modify (i:Int).toNat (·.set 0 (.int .i64 0))=filL wd (i+1):=by
 rw [Int.toNat_natCast,filL,mod_f,filL]
 refine List.map_congr_left fun k _=>?_
 by_cases e:k=i
 ·subst e
  rw [if_pos rfl,if_pos (Nat.lt_succ_self _),fW,h];rfl
 ·rw [if_neg e]
  by_cases h2:k<i
  ·rw [if_pos h2,if_pos (by omega)]
  ·rw [if_neg h2,if_neg (by omega)]
theorem fil_some {wd:List (Option G)} {i:Nat} {y:G} (h:wd.getD i none=some y):filL wd i=filL wd (i+1):=by
 rw [filL,filL]
 refine List.map_congr_left fun k _=>?_
 by_cases e:k=i
 ·subst e
  rw [if_neg (Nat.lt_irrefl _),if_pos (Nat.lt_succ_self _),fW,h];rfl
 ·by_cases h2:k<i
  ·rw [if_pos h2,if_pos (by omega)]
  ·rw [if_neg h2,if_neg (by omega)]
def fLst (wd:List (Option G)):List G:=(List.range 12).map (fW wd)
theorem fil_12 {wd:List (Option G)}:filL wd 12=(fLst wd).map encG:=by
 rw [filL,fLst,List.map_map]
 exact List.map_congr_left fun k hk=>by rw [if_pos (List.mem_range.1 hk)];rfl
theorem er_none {wd:List (Option G)} {i:Nat} (h:wd.getD i none=none):erL wd (i+1)=erL wd i++[i]∧whL wd (i+1)=whL wd i:=by
 rw [erL,erL,whL,whL,List.range_succ,List.filter_append,List.filter_append]
 simp [h,List.getD_eq_getElem?_getD] at h ⊢
 simp [h]
theorem er_some {wd:List (Option G)} {i:Nat} {y:G} (h:wd.getD i none=some y):erL wd (i+1)=erL wd i∧whL wd (i+1)=whL wd i++[i]:=by
 rw [erL,erL,whL,whL,List.range_succ,List.filter_append,List.filter_append]
 simp [h,List.getD_eq_getElem?_getD] at h ⊢
 simp [h]
theorem er_mem {wd:List (Option G)} {i:Nat}:i∈erL wd 12↔i<12∧wd.getD i none=none:=by
 rw [erL,List.mem_filter,List.mem_range,Option.isNone_iff_eq_none]
theorem wh_mem {wd:List (Option G)} {i:Nat}:i∈whL wd 12↔i<12∧wd.getD i none≠none:=by
 rw [whL,List.mem_filter,List.mem_range,Option.isSome_iff_ne_none]
theorem erT_ok {wd:List (Option G)} {T:List Nat} (hT:T.Sublist (whL wd 12)):(∀i∈erL wd 12++T,i<12)∧(erL wd 12++T).Nodup:=by
 refine ⟨fun i hi=>?_,?_⟩
 ·rcases List.mem_append.1 hi with h|h
  ·exact (er_mem.1 h).1
  ·exact (wh_mem.1 (hT.subset h)).1
 ·refine List.nodup_append.2 ⟨(List.nodup_range (n:=12)).filter _,((List.nodup_range (n:=12)).filter _).sublist hT,fun a ha b hb e=>?_⟩
  subst e
  exact (wh_mem.1 (hT.subset hb)).2 (er_mem.1 ha).2
theorem er_sub {wd:List (Option G)} {cw:List G}:(erN wd cw).Sublist (whL wd 12):=by
 have e:erN wd cw=(whL wd 12).filter fun k=>match wd.getD k none with|none=>false|some x=>x != cw.getD k 0:=by
  rw [whL,List.filter_filter,erN]
  refine List.filter_congr fun k _=>?_
  cases wd.getD k none<;>simp
 rw [e]
 exact List.filter_sublist
theorem er_out {wd:List (Option G)} {cw:List G} {i:Nat} (hi:i<12) (h1:i∉erL wd 12) (h2:i∉erN wd cw):fW wd i=cw.getD i 0:=by
 cases h:wd.getD i none with
 |none=>exact absurd (er_mem.2 ⟨hi,h⟩) h1
 |some x=>
  rw [fW,h]
  refine Classical.byContradiction fun hn=>h2 (List.mem_filter.2 ⟨List.mem_range.2 hi,?_⟩)
  rw [h]
  simpa using hn
theorem er_in {wd:List (Option G)} {cw:List G} {i:Nat} (h:i∈erN wd cw):i<12∧i∉erL wd 12∧fW wd i≠cw.getD i 0:=by
 obtain ⟨h1,h2⟩:=List.mem_filter.1 h
 cases hw:wd.getD i none with
 |none=>rw [hw] at h2;cases h2
 |some x=>
  rw [hw] at h2
  refine ⟨List.mem_range.1 h1,fun hm=>?_,?_⟩
  ·have:=(er_mem.1 hm).2
   rw [hw] at this;cases this
  ·rw [fW,hw]
   simpa using h2
theorem fLst_row {wd:List (Option G)} {pl:List Nat} {x:Nat→G}:(fLst wd).map encG=rowG 12 fun i=>add (fW wd i) (corrN pl x 0 i):=by
 rw [fLst,List.map_map,rowG]
 exact List.map_congr_left fun i _=>by show encG (fW wd i)=encG (add (fW wd i) 0);rw [add_zero]
theorem cor_next {f:Nat→G} {pl:List Nat} {x:Nat→G} {q i:Nat} (h:pl[q]? =some i):(rowG 12 fun i=>add (f i) (corrN pl x q i)).modify (i:Int).toNat (·.set 0 (.int .i64 (xorI (gI (add (f i) (corrN pl x q i))) (gI (x q)))))=rowG 12 fun i=>add (f i) (corrN pl x (q+1) i):=by
 rw [xor_g,Int.toNat_natCast,rowG,mod_f,rowG]
 refine List.map_congr_left fun k _=>?_
 have e:pl.getD q 0=i:=by rw [List.getD_eq_getElem?_getD,h];rfl
 by_cases hk:k=i
 ·subst hk
  rw [if_pos rfl,corrN,e,if_pos rfl,←add_assoc];rfl
 ·rw [if_neg hk,corrN,e,if_neg hk,add_zero]
theorem fin_row {cw:List G} {g:Nat→G} (hc:cw.length=12) (h:∀i,i<12→g i=cw.getD i 0):((rowG 12 g).take (((rowG 12 g).length:Int)-6).toNat).drop (0:Int).toNat=(cw.take 6).map encG:=by
 have e:(((rowG 12 g).length:Int)-6).toNat=6:=by rw [rowG_len];rfl
 have e2:rowG 12 g=cw.map encG:=by
  rw [rowG]
  refine List.ext_getElem? fun k=>?_
  rw [List.getElem?_map,List.getElem?_map]
  by_cases hk:k<12
  ·rw [List.getElem?_range hk,List.getElem?_eq_getElem (by omega)]
   simp [h k hk,List.getD_eq_getElem?_getD,List.getElem?_eq_getElem (show k<cw.length by omega)]
  ·rw [List.getElem?_eq_none (by rw [List.length_range];omega),List.getElem?_eq_none (by omega)];rfl
 rw [e,e2,←List.map_take];rfl
theorem rc_l {z:Nat} {es es':List (List AV)} (h:es=es'):RetC (.lst z es) (.lst z es'):=h▸rc_p rfl
set_option maxHeartbeats 4000000 in
theorem decode_ok (wd:List (Option G)) (cw:List G) (hl:wd.length=12) (hc:cw.length=12) (hs:∀r,r<6→synG cw r=0) (hd:2 * (erN wd cw).length+(erL wd 12).length≤6):Good Tryz.prog TT false 108 [ints (wd.map oI)] (· = .tup [.lst 1 ((cw.take 6).map encG), .int .i64 (erN wd cw).length, .int .i64 0]):=by
 have L:((wd.map oI).map encI).length=12:=by rw [List.length_map,List.length_map,hl]
 have hW:Good Tryz.prog TT false 152 [ints (wd.map oI), .int .i64 (-1)] (· = .bool true):=isWord_ok _ _ (by rw [List.length_map,hl]) fun x hx=>by
  obtain ⟨y,_,rfl⟩:=List.mem_map.1 hx
  cases y with
  |none=>exact ⟨by decide,by decide⟩
  |some y=>have:=gI_lt y;exact ⟨by show -1≤gI y;omega,this.2⟩
 refine good_of mixed tabOk Tryz.func108 rfl rfl Tryz.ntmps108 Tryz.results108 rfl rfl ?_
 (conv=>whnf);(repeat' (first|((with_reducible refine branch_tt ?_);conv=>whnf)|(with_reducible refine branch_not ?_)|((refine call_e hW ?_);conv=>whnf)|((refine call_e (clone_ok (wd.map oI) (by rw [List.length_map,hl];decide)) ?_);conv=>whnf)|fail))
 have F0:(wd.map oI).map encI=filL wd 0:=fil_0 hl
 refine loop_i (fun i:Nat=>i≤12) (fun i=>mkSt [(1, .ptr 1 0),(5, .own (.s 21) 3 1 (filL wd i)),(6, .ptr 6 0),(7, .ptr 7 0),(22, .lst 1 ((wd.map oI).map encI)),(23, .int .i64 12),(24, .int .i64 i)] [(1,[.lst 1 ((wd.map oI).map encI)]),(6,[.own 900 3 1 ((erL wd i).map encNt)]),(7,[.own 901 3 1 ((whL wd i).map encNt)])] false) (fun i=>12-i) 0 (by decide) ((le_adoptBox 6 0 900 3 1 rfl rfl).trans ((le_adoptBox 7 0 901 3 1 rfl rfl).trans (le_mk ⟨rfl,own_eq F0,rfl,rfl,rfl,int_eq (by rw [L];rfl),rfl,trivial⟩ ⟨rfl,rfl,rfl,trivial⟩ rfl))) ?_
 intro i hi
 have LF:∀i,(filL wd i).length=12:=fun i=>by simp [filL]
 have LE:((erL wd i).map encNt).length≤12:=by rw [List.length_map];exact Nat.le_trans (List.length_filter_le _ _) (by rw [List.length_range];exact hi)
 have LW:((whL wd i).map encNt).length≤12:=by rw [List.length_map];exact Nat.le_trans (List.length_filter_le _ _) (by rw [List.length_range];exact hi)
 rcases Nat.lt_or_ge i 12 with hil|hil
 ·obtain ⟨o,ho⟩:∃o,wd[i]? =some o:=⟨_,List.getElem?_eq_getElem (by omega)⟩
  have hoi:(wd.map oI)[i]? =some (oI o):=by rw [List.getElem?_map,ho];rfl
  have hgd:wd.getD i none=o:=by rw [List.getD_eq_getElem?_getD,ho];rfl
  cases o with
  |none=>
   have hz:oI (none:Option G)= -1:=rfl
   (conv=>whnf);(repeat' (first|(refine arith_i ⟨by omega,by omega⟩ ?_;conv=>whnf)|(refine need_o ?_;conv=>whnf)|((refine idx_cs hoi ?_);conv=>whnf)|(((refine idx_f (m:=i) rfl (by omega) ?_));conv=>whnf)|((with_reducible refine branch_d (fun hq=>?_) (fun hq=>?_))<;>(try (exfalso;omega))<;>(conv=>whnf))|((with_reducible refine branch_e (fun hq=>?_) (fun hq=>?_))<;>(try (exfalso;omega))<;>(conv=>whnf))))
   obtain ⟨e1,e2⟩:=er_none hgd
   all_goals exact ⟨i+1,by omega,le_mk ⟨rfl,own_eq (fil_none hgd),rfl,rfl,rfl,rfl,rfl,trivial⟩ ⟨rfl,by rw [e1,List.map_append];rfl,by rw [e2];rfl,trivial⟩ rfl,by omega⟩
  |some y=>
   have hz:oI (some y)≠ -1:=by have:=gI_lt y;show gI y≠ -1;omega
   (conv=>whnf);(repeat' (first|(refine arith_i ⟨by omega,by omega⟩ ?_;conv=>whnf)|(refine need_o ?_;conv=>whnf)|((refine idx_cs hoi ?_);conv=>whnf)|((with_reducible refine branch_d (fun hq=>?_) (fun hq=>?_))<;>(try (exfalso;omega))<;>(conv=>whnf))|((with_reducible refine branch_e (fun hq=>?_) (fun hq=>?_))<;>(try (exfalso;omega))<;>(conv=>whnf))))
   obtain ⟨e1,e2⟩:=er_some hgd
   all_goals exact ⟨i+1,by omega,le_mk ⟨rfl,own_eq (fil_some hgd),rfl,rfl,rfl,rfl,rfl,trivial⟩ ⟨rfl,by rw [e1];rfl,by rw [e2,List.map_append];rfl,trivial⟩ rfl,by omega⟩
 ·obtain rfl:i=12:=by omega
  have hS:=syndromes_ok (fLst wd) (by rw [fLst,List.length_map,List.length_range])
  rw [fil_12]
  (conv=>whnf);(repeat' (first|(((refine mcall_i [] [(1100,21)] _ Le.refl hS rfl rfl rfl trivial ?_;rintro r ov bx' ⟨rfl,rfl,rfl⟩;refine ⟨rfl,?_⟩));conv=>whnf)|((with_reducible refine branch_d (fun hq=>?_) (fun hq=>?_))<;>(try (exfalso;omega))<;>(conv=>whnf))))
  have LEN:((erL wd 12).map encNt).length=(erL wd 12).length:=List.length_map ..
  have hsyn:∀r,r<6→synG (fLst wd) r=synF (fW wd) r 12:=fun r _=>by
   rw [synG,syn_f]
   exact synF_congr r 12 fun i hi=>by rw [fLst,List.getD_eq_getElem?_getD,List.getElem?_map,List.getElem?_range hi];rfl
  have hcw:∀r,r<6→synF (fun i=>cw.getD i 0) r 12=0:=fun r hr=>by rw [←syn_f];exact hs r hr
  refine loop_i2 (fun (k:Nat) (vs:List (List AV))=>k≤(erN wd cw).length) (fun k vs=>mkSt [(5, .own (.s 21) 3 1 ((fLst wd).map encG)),(6, .ptr 6 0),(11, .int .i64 (erL wd 12).length),(12, .ptr 12 0),(13, .ptr 13 0),(14, .int .i64 k)] [(1,[.lst 1 ((wd.map oI).map encI)]),(6,[.own 900 3 1 ((erL wd 12).map encNt)]),(7,[.lst 1 ((whL wd 12).map encNt)]),(10,sumsL (synG (fLst wd))),(12,[.lst 1 vs]),(13,[.fn 154 [.ptr 10 0, .ptr 1 0, .ptr 6 0, .ptr 12 0, .ptr 7 0, .ptr 13 0]])] false) (fun k _=>(erN wd cw).length-k) 0 [] (Nat.zero_le _) ((le_erase 901).trans ((le_nilBox 12 0 1 rfl rfl).trans (le_mk ⟨rfl,rfl,int_eq (by rw [LEN]),rfl,rfl,rfl,trivial⟩ ⟨rfl,rfl,rfl,rfl,rfl,rfl,trivial⟩ rfl))) ?_
  intro k vs hk
  have hsch:=search_ok (synG (fLst wd)) ((wd.map oI).map encI) L (whL wd 12) (Nat.le_trans (List.length_filter_le _ _) (by rw [List.length_range];decide)) k 0 (erL wd 12) vs (Nat.zero_le _) (by omega) (fun T hT hl=>(goodPl (by rw [List.length_append];omega) (erT_ok hT).1 (erT_ok hT).2))
  (conv=>whnf);(repeat' (first|(refine arith_i ⟨by omega,by omega⟩ ?_;conv=>whnf)|((with_reducible first|refine branch_tt ?_|refine branch_ff ?_);conv=>whnf)|(with_reducible refine branch_not ?_)|(((refine mcall_i [(1000,10),(1001,1),(1002,6),(1003,12),(1004,7),(1005,13)] [(1102,900)] _ Le.refl hsch rfl rfl rfl ⟨⟨_,rfl,rfl,rfl⟩,⟨_,rfl,rfl,rfl⟩,⟨_,rfl,rfl,rfl⟩,⟨_,rfl,rfl,rfl⟩,⟨_,rfl,rfl,rfl⟩,⟨_,rfl,rfl,rfl⟩,trivial⟩ ?_;rintro r ov bx' ⟨rfl,hr⟩;rcases hr with ⟨T,x,h1,h2,h3,rfl,rfl⟩|⟨hno,rfl,vs',rfl⟩<;>refine ⟨rfl,?_⟩<;>(conv=>whnf)));conv=>whnf)|((with_reducible refine branch_d (fun hq=>?_) (fun hq=>?_))<;>(try (exfalso;omega))<;>(conv=>whnf))))
  ·have hT:T.Sublist (whL wd 12):=h1
   have hB:=erT_ok hT
   have hlen:(erL wd 12).length+T.length+(erN wd cw).length≤6:=by omega
   have hnear:=sol_near (R:=erN wd cw) hsyn hcw hB.1 (fun i hi=>er_out hi) hlen h3
   have hfew:=sol_few (R:=erN wd cw) hsyn hcw hB.1 (fun i hi=>er_out hi) (fun i hi=>er_in hi) ((List.nodup_range (n:=12)).filter _) hlen h3
   have L6:(erL wd 12++T).length≤6:=by rw [List.length_append];omega
   generalize hpl:erL wd 12++T=pl at L6 hB hnear h3
   have LP:(pl.map encNt).length=pl.length:=List.length_map ..
   refine loop_i (fun q:Nat=>q≤pl.length) (fun q=>mkSt [(5, .own (.s 21) 3 1 (rowG 12 fun i=>add (fW wd i) (corrN pl x q i))),(12, .ptr 12 0),(14, .int .i64 k),(59, .lst 1 (pl.map encNt)),(60, .int .i64 pl.length),(61, .int .i64 q)] [(12,[.lst 1 ((List.range pl.length).map fun c=>encG (x c))])] false) (fun q=>pl.length-q) 0 (Nat.zero_le _) ((le_erase 900).trans (le_mk ⟨own_eq fLst_row,rfl,rfl,by rw [←hpl];rfl,int_eq (by rw [LP]),rfl,trivial⟩ ⟨by rw [←hpl];rfl,trivial⟩ rfl)) ?_
   intro q hq
   have LR:(rowG 12 fun i=>add (fW wd i) (corrN pl x q i)).length=12:=rowG_len
   rcases Nat.lt_or_ge q pl.length with hql|hql
   ·obtain ⟨i,hi⟩:∃i,pl[q]? =some i:=⟨_,List.getElem?_eq_getElem hql⟩
    have hib:=hB.1 i (List.mem_of_getElem? hi)
    (conv=>whnf);(repeat' (first|(refine arith_i ⟨by omega,by omega⟩ ?_;conv=>whnf)|((refine idx_cs hi ?_);conv=>whnf)|((refine idx_f (m:=i) rfl hib ?_);conv=>whnf)|((refine idx_f (m:=q) rfl hql ?_);conv=>whnf)|(refine draw_i 11 plT18h_1 (by decide+kernel) ?_;(conv=>whnf);fail_if_success (guard_target=~ False))|((with_reducible refine And.intro ?_ ?_)<;>(conv=>whnf))|(with_reducible exact trivial)|((with_reducible refine branch_d (fun hq=>?_) (fun hq=>?_))<;>(try (exfalso;omega))<;>(conv=>whnf))))
    all_goals exact ⟨q+1,by omega,le_mk ⟨own_eq (cor_next hi),rfl,rfl,rfl,rfl,rfl,trivial⟩ ⟨rfl,trivial⟩ rfl,by omega⟩
   ·obtain rfl:q=pl.length:=by omega
    (conv=>whnf);(repeat' (first|(refine arith_i ⟨by omega,by omega⟩ ?_;conv=>whnf)|(refine need_o ?_;conv=>whnf)|((refine sub_i (by omega) ?_);conv=>whnf)|((with_reducible refine slc_e ?_);conv=>whnf)|((with_reducible refine branch_d (fun hq=>?_) (fun hq=>?_))<;>(try (exfalso;omega))<;>(conv=>whnf))))
    all_goals exact ret_t (rs:=[.lst 1 ((cw.take 6).map encG), .int .i64 (erN wd cw).length, .int .i64 0]) ⟨.inl (rc_l (fin_row hc hnear)), .inl (.inl ⟨int_eq (by omega),rfl⟩), .inl (rc_p rfl),trivial⟩ rfl
  ·have hlt:k<(erN wd cw).length:=by
    refine Classical.byContradiction fun hk2=>?_
    have ek:k=(erN wd cw).length:=by omega
    have hT:(erN wd cw).Sublist (whL wd 12):=er_sub
    exact hno (erN wd cw) _ hT ek.symm (word_sol hsyn (erT_ok hT).1 (nd_inj (erT_ok hT).2) hcw fun i hi hm=>er_out hi (fun h=>hm (List.mem_append.2 (.inl h))) fun h=>hm (List.mem_append.2 (.inr h)))
   exact ⟨k+1,vs',by omega,le_q,by omega⟩
end Go.Proofs.YtihjphblcohdeaaGreatDoor
namespace Go.Proofs.YtihjphblcohdeaaGreatDoor
open F32
instance :Std.Associative add:=⟨add_assoc⟩
instance :Std.Commutative add:=⟨add_comm⟩
def sum6 (r:Nat→G) (a:G):G:=add (mul (r 0) (gpow a 5)) (add (mul (r 1) (gpow a 4)) (add (mul (r 2) (gpow a 3)) (add (mul (r 3) (gpow a 2)) (add (mul (r 4) (gpow a 1)) (mul (r 5) (gpow a 0))))))
theorem gen_root:∀j,j<6→sum6 (fun q=>genC.getD q 0) (pwG (j+1))=gpow (pwG (j+1)) 6:=by decide+kernel
def horn (d:List G) (a:G):Nat→G
 |0=>0
 |i+1=>add (mul a (horn d a i)) (d.getD i 0)
theorem rest_horn (d:List G) {a:G} (ha:sum6 (fun q=>genC.getD q 0) a=gpow a 6):∀i,sum6 (rsE d i) a=mul (horn d a i) (gpow a 6)
 |0=>by
  simp only [sum6,rsE,zero_mul,horn,add_zero]
 |i+1=>by
  have ih:=rest_horn d ha i
  have e:sum6 (rsE d (i+1)) a=add (mul a (add (mul (rsE d i 1) (gpow a 4)) (add (mul (rsE d i 2) (gpow a 3)) (add (mul (rsE d i 3) (gpow a 2)) (add (mul (rsE d i 4) (gpow a 1)) (mul (rsE d i 5) (gpow a 0))))))) (mul (add (d.getD i 0) (rsE d i 0)) (sum6 (fun q=>genC.getD q 0) a)):=by
   have r (q:Nat):rsE d (i+1) q=add (bif Nat.blt q 5 then rsE d i (q+1) else 0) (mul (add (d.getD i 0) (rsE d i 0)) (genC.getD q 0)):=rfl
   generalize add (d.getD i 0) (rsE d i 0)=f at r
   have p (n:Nat) (x:G):mul a (mul x (gpow a n))=mul x (gpow a (n+1)):=mul_lc _ _ _
   rw [sum6,r,r,r,r,r,r,sum6]
   simp only [mul_add,add_mul,p,show Nat.blt 0 5=true from rfl,show Nat.blt 1 5=true from rfl,show Nat.blt 2 5=true from rfl,show Nat.blt 3 5=true from rfl,show Nat.blt 4 5=true from rfl,show Nat.blt 5 5=false from rfl,cond_true,cond_false,zero_mul,zero_add,mul_assoc]
   ac_rfl
  rw [e,ha,horn,add_mul,add_mul (mul a _),mul_assoc,←ih,sum6,mul_add]
  have p (n:Nat) (x:G):mul a (mul x (gpow a n))=mul x (gpow a (n+1)):=mul_lc _ _ _
  simp only [mul_add,p]
  have z (x y u v w s t:G):add (add x (add y (add u (add v w)))) (add s t)=add (add t (add x (add y (add u (add v w))))) s:=by ac_rfl
  exact z _ _ _ _ _ _ _
theorem synP_app (d l:List G) (j:Nat):∀i,i≤d.length→synP (d++l) j i=synP d j i
 |0,_=>rfl
 |i+1,h=>by
  rw [synP,synP,synP_app d l j i (by omega),List.getD_eq_getElem?_getD,List.getD_eq_getElem?_getD,List.getElem?_append_left (by omega)]
theorem encode_word (d:List G) (hd:d.length=6) (j:Nat) (hj:j<6):synG (encW d) j=0:=by
 have ha:=gen_root j hj
 have pw (m:Nat):pwG ((j+1) * m)=gpow (pwG (j+1)) m:=by rw [pw_pow,Nat.mul_comm]
 have hr:=rest_horn d ha 6
 generalize pwG (j+1)=a at ha hr pw
 have h0:synP (encW d) j 6=mul (horn d a 6) (gpow a 6):=by
  rw [encW,synP_app d _ j 6 (by omega)]
  simp only [synP,pw,horn,zero_add,mul_zero,add_mul,mul_assoc]
  have p (n:Nat) (x:G):mul a (mul x (gpow a n))=mul x (gpow a (n+1)):=mul_lc _ _ _
  simp only [mul_add,add_mul,mul_assoc,mul_lc a,show ∀n,mul a (gpow a n)=gpow a (n+1) from fun n=>rfl]
 have g (q:Nat) (h:q<6):(encW d).getD (6+q) 0=rsE d 6 q:=by
  rw [encW,List.getD_eq_getElem?_getD,List.getElem?_append_right (by omega),hd,show 6+q-6=q by omega]
  rcases (show q=0∨q=1∨q=2∨q=3∨q=4∨q=5 by omega) with rfl|rfl|rfl|rfl|rfl|rfl<;>rfl
 have e:synG (encW d) j=add (synP (encW d) j 6) (sum6 (rsE d 6) a):=by
  rw [synG,show (12:Nat)=6+5+1 from rfl]
  simp only [synP,pw]
  rw [sum6,←g 0 (by decide),←g 1 (by decide),←g 2 (by decide),←g 3 (by decide),←g 4 (by decide),←g 5 (by decide)]
  ac_rfl
 rw [e,h0,hr,add_self]
end Go.Proofs.YtihjphblcohdeaaGreatDoor
namespace Go.Proofs.YtihjphblcohdeaaGreatDoor
set_option maxRecDepth 10000
open Go.RowKit
def plT06_0:Plan:=(.take 0 (.take 1 (.take 2 (.take 3 (.take 4 (.take 5 (.take 6 (.take 7 (.take 8 .done)))))))))
theorem nth_ext {a b:List Int} (hl:a.length=b.length) (h:∀i,i<a.length→nth a i=nth b i):a=b:=by
 refine List.ext_getElem? fun i=>?_
 rcases Nat.lt_or_ge i a.length with hi|hi
 ·rw [nth_some hi,nth_some (by omega),h i hi]
 ·rw [List.getElem?_eq_none hi,List.getElem?_eq_none (by omega)]
theorem nth_eq {xs:List Int} {k:Nat} {x:Int} (h:xs[k]? =some x):nth xs k=x:=by simp [nth,List.getD_eq_getElem?_getD,h]
theorem eq_upto {a b:List Int} (hl:a.length=b.length) (h:∀j,j<a.length→nth a j=nth b j):a=b:=nth_ext hl h
theorem ne_at {a b:List Int} {k:Nat} {x y:Int} (ha:a[k]? =some x) (hb:b[k]? =some y) (h:x≠y):a≠b:=fun e=>by subst e;rw [ha] at hb;injection hb with hb;exact h hb
set_option maxHeartbeats 2000000 in
theorem ints_ok (a b:List Int) (ha:a.length≤1000000) (hb:b.length≤1000000):Good Tryz.prog TT false 20 [ints a,ints b] (· = .bool (decide (a=b))):=by
 have LA:(a.map encI).length=a.length:=List.length_map ..
 have LB:(b.map encI).length=b.length:=List.length_map ..
 refine good_of mixed tabOk Tryz.func20 rfl rfl Tryz.ntmps20 Tryz.results20 rfl rfl ?_
 (conv=>whnf);(repeat' (first|((with_reducible refine branch_n (fun hq=>?_) (fun hq=>?_))<;>(try (exfalso;omega))<;>(conv=>whnf))))
 ·exact ret_p rfl (bool_eq (by symm;exact decide_eq_false fun e=>by subst e;omega))
 ·have hl:a.length=b.length:=by omega
  refine loop_i (fun k:Nat=>k≤a.length∧∀j,j<k→nth a j=nth b j) (fun k=>mkSt [(0,ints a),(1,ints b),(5, .int .i64 k)] [] false) (fun k=>a.length-k) 0 ⟨Nat.zero_le _,nofun⟩ le_q ?_
  rintro k ⟨hk,hall⟩
  (conv=>whnf);(repeat' (first|(refine arith_i ⟨by omega,by omega⟩ ?_;conv=>whnf)|(((refine idx_c (xs:=a) (by omega) fun x hx=>?_;have hxa:=nth_eq hx));conv=>whnf)|(((refine idx_c (xs:=b) (by omega) fun y hy=>?_;have hyb:=nth_eq hy));conv=>whnf)|(refine draw_i 9 plT06_0 (by decide+kernel) ?_;(conv=>whnf);fail_if_success (guard_target=~ False))|((with_reducible refine branch_d (fun hq=>?_) (fun hq=>?_))<;>(try (exfalso;omega))<;>(conv=>whnf))|((with_reducible refine branch_n (fun hq=>?_) (fun hq=>?_))<;>(try (exfalso;omega))<;>(conv=>whnf))))
  all_goals first
   |(refine ⟨k+1,⟨by omega,fun j hj=>?_⟩,le_q,by omega⟩
     by_cases e:j=k
     ·subst e;rw [hxa,hyb];assumption
     ·exact hall j (by omega))
   |exact ret_p rfl (bool_eq (by symm;exact decide_eq_false (ne_at hx hy (by assumption))))
   |exact ret_p rfl (bool_eq (by symm;exact decide_eq_true (eq_upto hl fun j hj=>hall j (by omega))))
structure Prt where
 kind:Int
 max:Int
 topic:Int
 obj:Int
 opts:Int
 key:Int
def encPt (p:Prt):List AV:=[.int .i64 p.kind, .int .i64 p.max, .int .i64 p.topic, .int .i64 p.obj, .int .i64 p.opts, .int .i64 p.key]
def vPartB (p:Prt):Bool:=decide (1≤p.max∧p.max≤40∧0≤p.topic∧p.topic<16∧0≤p.obj∧p.obj<6∧((p.kind=1∧p.opts=0∧p.key=0)∨(p.kind=2∧2≤p.opts∧p.opts≤5∧0≤p.key∧p.key<p.opts)))
set_option maxHeartbeats 2000000 in
theorem vPart_ok (p:Prt):Good Tryz.prog TT false 134 [.agg (encPt p)] (· = .bool (vPartB p)):=by
 refine good_of mixed tabOk Tryz.func134 rfl rfl Tryz.ntmps134 Tryz.results134 rfl rfl ?_
 (conv=>whnf);(repeat' (first|((with_reducible first|refine branch_tt ?_|refine branch_ff ?_);conv=>whnf)|((with_reducible refine branch_d (fun hq=>?_) (fun hq=>?_))<;>(try (exfalso;omega))<;>(conv=>whnf))|((with_reducible refine branch_e (fun hq=>?_) (fun hq=>?_))<;>(try (exfalso;omega))<;>(conv=>whnf))))
 all_goals first
  |exact ret_p rfl (bool_eq (by symm;exact decide_eq_true (by omega)))
  |exact ret_p rfl (bool_eq (by symm;exact decide_eq_false (by omega)))
  |(refine ret_p rfl (bool_eq ?_);rw [vPartB,Bool.eq_iff_iff];simp only [decide_eq_true_eq,beq_iff_eq];omega)
  |trace_state
set_option maxHeartbeats 2000000 in
theorem rPart_ok (p:Prt):Good Tryz.prog TT false 103 [.agg (encPt p)] (· = .bool (vPartB p)):=by
 refine good_of mixed tabOk Tryz.func103 rfl rfl Tryz.ntmps103 Tryz.results103 rfl rfl ?_
 (conv=>whnf);(repeat' (first|((with_reducible first|refine branch_tt ?_|refine branch_ff ?_);conv=>whnf)|((with_reducible refine branch_d (fun hq=>?_) (fun hq=>?_))<;>(try (exfalso;omega))<;>(conv=>whnf))|((with_reducible refine branch_e (fun hq=>?_) (fun hq=>?_))<;>(try (exfalso;omega))<;>(conv=>whnf))))
 all_goals first
  |exact ret_p rfl (bool_eq (by symm;exact decide_eq_true (by omega)))
  |exact ret_p rfl (bool_eq (by symm;exact decide_eq_false (by omega)))
  |(refine ret_p rfl (bool_eq ?_);rw [vPartB,Bool.eq_iff_iff];simp only [decide_eq_true_eq,beq_iff_eq];omega)
  |trace_state
theorem all_bad {α:Type} {l:List α} {p:α→Bool} {k:Nat} {x:α} (h:l[k]? =some x) (hb:p x=false):l.all p=false:=by
 rw [List.all_eq_false];exact ⟨x,List.mem_of_getElem? h,by simp [hb]⟩
theorem all_goodL {α:Type} {l:List α} {p:α→Bool} {k:Nat} (hk:l.length≤k) (h:∀i x,i<k→l[i]? =some x→p x=true):l.all p=true:=by
 rw [List.all_eq_true]
 intro x hx
 obtain ⟨i,hi,e⟩:=List.mem_iff_getElem.1 hx
 exact h i x (by omega) (by rw [←e];exact List.getElem?_eq_getElem hi)
theorem part0_r {a b c d e f:Int} (h:vPartB ⟨a,b,c,d,e,f⟩=true) (h2:b≤12):aret (.agg [.int .i64 a, .int .i64 b, .int .i64 c, .int .i64 d, .int .i64 e, .int .i64 f]) (fun r=>∃p,r= .agg (encPt p)∧vPartB p=true∧p.max≤12):=ret_a (cs':=encPt ⟨a,b,c,d,e,f⟩) ⟨rc_p rfl,rc_p rfl,rc_p rfl,rc_p rfl,rc_p rfl,rc_p rfl,trivial⟩ ⟨⟨a,b,c,d,e,f⟩,rfl,h,h2⟩
set_option maxHeartbeats 4000000 in
theorem part0_ok:Good Tryz.prog TT true 59 [.tape, .int .i64 0] (fun r=>∃p,r= .agg (encPt p)∧vPartB p=true∧p.max≤12):=by
 refine good_of mixed tabOk Tryz.func59 rfl rfl Tryz.ntmps59 Tryz.results59 rfl rfl ?_
 (conv=>whnf);(repeat' (first|((with_reducible refine branch_ff ?_);conv=>whnf)|(((refine call_i (range_ok _ _ (by omega) (by omega)) fun r hr=>?_;obtain ⟨m1,rfl, -,h6⟩:=hr;have hm1:=h6 (by omega)));conv=>whnf)|(((refine call_i (next_ok _ (by omega)) fun r hr=>?_;obtain ⟨m1,rfl, -,h6⟩:=hr;have hm1:=h6 (by omega)));conv=>whnf)|((with_reducible refine branch_d (fun hq=>?_) (fun hq=>?_))<;>(try (exfalso;omega))<;>(conv=>whnf))|((with_reducible refine branch_e (fun hq=>?_) (fun hq=>?_))<;>(try (exfalso;omega))<;>(conv=>whnf))))
 all_goals exact part0_r (decide_eq_true (by dsimp only;omega)) (by omega)
def sumMax:List Prt→Int
 |[]=>0
 |p::l=>p.max+sumMax l
theorem sumMax_app {a b:List Prt}:sumMax (a++b)=sumMax a+sumMax b:=by
 induction a with
 |nil=>simp [sumMax]
 |cons p l ih=>rw [List.cons_append,sumMax,sumMax,ih];omega
theorem sumMax_next {l:List Prt} {k:Nat} {p:Prt} (h:l[k]? =some p):sumMax (l.take (k+1))=sumMax (l.take k)+p.max:=by
 rw [List.take_add_one,h,sumMax_app];simp [sumMax]
theorem vPart_max {p:Prt} (h:vPartB p=true):1≤p.max∧p.max≤40:=by
 have:=of_decide_eq_true h
 omega
theorem sumMax_in {l:List Prt}:(∀p∈l,vPartB p=true)→0≤sumMax l∧sumMax l≤40 * l.length:=by
 induction l with
 |nil=>intro _;simp [sumMax]
 |cons p l ih=>
  intro h
  have h1:=ih fun q hq=>h q (by simp [hq])
  have h2:=vPart_max (h p (by simp))
  rw [sumMax,List.length_cons]
  omega
def papV (code var:Int) (ps:List Prt):AV:= .agg [.int .i64 code, .int .i64 var, .lst 6 (ps.map encPt)]
def pprB (code var:Int) (ps:List Prt):Bool:=decide (0≤code∧code≤31∧0≤var∧var<4∧1≤(ps.length:Int)∧(ps.length:Int)≤24)&&ps.all vPartB&&decide (sumMax ps≤200)
theorem ppr_bad {code var:Int} {ps:List Prt} (h:¬(0≤code∧code≤31∧0≤var∧var<4∧1≤(ps.length:Int)∧(ps.length:Int)≤24)):pprB code var ps=false:=by rw [pprB,decide_eq_false h];rfl
theorem ppr_part {code var:Int} {ps:List Prt} {k:Nat} {p:Prt} (h:ps[k]? =some p) (hb:vPartB p=false):pprB code var ps=false:=by
 rw [pprB,all_bad h hb];simp
theorem ppr_sum {code var:Int} {ps:List Prt} (h1:0≤code∧code≤31∧0≤var∧var<4∧1≤(ps.length:Int)∧(ps.length:Int)≤24) (h2:ps.all vPartB=true):pprB code var ps=decide (sumMax ps≤200):=by rw [pprB,decide_eq_true h1,h2];rfl
theorem sumOfMax_ok (ps:List Prt) (h:∀p∈ps,vPartB p=true) (hl:ps.length≤1000):Good Tryz.prog TT false 135 [.lst 6 (ps.map encPt)] (· = .int .i64 (sumMax ps)):=by
 have L:(ps.map encPt).length=ps.length:=List.length_map ..
 refine good_of mixed tabOk Tryz.func135 rfl rfl Tryz.ntmps135 Tryz.results135 rfl rfl ?_
 (conv=>whnf)
 refine loop_i (fun k:Nat=>k≤ps.length) (fun k=>mkSt [(3, .int .i64 (sumMax (ps.take k))),(6, .lst 6 (ps.map encPt)),(7, .int .i64 (ps.map encPt).length),(8, .int .i64 k)] [] false) (fun k=>ps.length-k) 0 (Nat.zero_le _) (by rw [List.take_zero];exact le_q) ?_
 intro k hk
 have hs:=sumMax_in (l:=ps.take k) fun p hp=>h p (List.mem_of_mem_take hp)
 have hs2:(ps.take k).length≤1000:=by simp;omega
 (conv=>whnf);(repeat' (first|(refine arith_i ⟨by omega,by omega⟩ ?_;conv=>whnf)|(((refine idx_c (xs:=ps) (by omega) fun p hp=>?_;have hpm:=vPart_max (h p (List.mem_of_getElem? hp));have hsn:=sumMax_next hp));conv=>whnf)|((with_reducible refine branch_d (fun hq=>?_) (fun hq=>?_))<;>(try (exfalso;omega))<;>(conv=>whnf))))
 ·exact ⟨k+1,by omega,le_mk ⟨int_eq hsn.symm,rfl,rfl,rfl,trivial⟩ trivial rfl,by omega⟩
 ·have hkk:ps.take k=ps:=List.take_of_length_le (by omega)
  exact ret_p rfl (int_eq (by rw [hkk]))
theorem vPaper_ok (code var:Int) (ps:List Prt) (hl:ps.length≤1000000):Good Tryz.prog TT false 88 [papV code var ps] (· = .bool (pprB code var ps)):=by
 have L:(ps.map encPt).length=ps.length:=List.length_map ..
 refine good_of mixed tabOk Tryz.func88 rfl rfl Tryz.ntmps88 Tryz.results88 rfl rfl ?_
 (conv=>whnf);(repeat' (first|((with_reducible first|refine branch_tt ?_|refine branch_ff ?_);conv=>whnf)|((with_reducible refine branch_d (fun hq=>?_) (fun hq=>?_))<;>(try (exfalso;omega))<;>(conv=>whnf))))
 all_goals first
  |exact ret_p rfl (bool_eq (ppr_bad (by omega)).symm)
  |skip
 have hc:0≤code∧code≤31∧0≤var∧var<4∧1≤(ps.length:Int)∧(ps.length:Int)≤24:=by omega
 refine loop_i (fun k:Nat=>k≤ps.length∧∀i x,i<k→ps[i]? =some x→vPartB x=true) (fun k=>mkSt [(1, .ptr 1 0),(34, .lst 6 (ps.map encPt)),(35, .int .i64 (ps.map encPt).length),(36, .int .i64 k)] [(1,[.int .i64 code, .int .i64 var, .lst 6 (ps.map encPt)])] false) (fun k=>ps.length-k) 0 ⟨Nat.zero_le _,fun i x hi=>by omega⟩ le_q ?_
 rintro k ⟨hk,hall⟩
 rcases Nat.lt_or_ge k ps.length with hkl|hkl
 ·(conv=>whnf);(repeat' (first|(refine arith_i ⟨by omega,by omega⟩ ?_;conv=>whnf)|(with_reducible refine branch_not ?_)|(((refine idx_c (xs:=ps) (by omega) fun p hp=>?_));conv=>whnf)|((refine call_e (vPart_ok p) ?_);conv=>whnf)|((with_reducible refine branch_d (fun hq=>?_) (fun hq=>?_))<;>(try (exfalso;omega))<;>(conv=>whnf))|((with_reducible refine branch_i (fun hq=>?_) (fun hq=>?_))<;>(try (exfalso;omega))<;>(conv=>whnf))))
  all_goals first
   |exact ret_p rfl (bool_eq (ppr_part hp (by assumption)).symm)
   |(refine ⟨k+1,⟨by omega,fun i x hi hx=>?_⟩,le_q,by omega⟩
     by_cases e:i=k
     ·subst e;rw [hp] at hx;injection hx with hx;subst hx;assumption
     ·exact hall i x (by omega) hx)
 ·have hA:=all_goodL (p:=vPartB) hkl hall
  have hm:∀p∈ps,vPartB p=true:=List.all_eq_true.1 hA
  (conv=>whnf);(repeat' (first|((refine call_e (sumOfMax_ok ps hm (by omega)) ?_);conv=>whnf)|((with_reducible refine branch_d (fun hq=>?_) (fun hq=>?_))<;>(try (exfalso;omega))<;>(conv=>whnf))))
  exact ret_p rfl (bool_eq (ppr_sum hc hA).symm)
theorem rPaper_ok (code var:Int) (ps:List Prt) (hl:ps.length≤1000000):Good Tryz.prog TT false 60 [papV code var ps] (· = .bool (pprB code var ps)):=by
 have L:(ps.map encPt).length=ps.length:=List.length_map ..
 refine good_of mixed tabOk Tryz.func60 rfl rfl Tryz.ntmps60 Tryz.results60 rfl rfl ?_
 (conv=>whnf);(repeat' (first|((with_reducible first|refine branch_tt ?_|refine branch_ff ?_);conv=>whnf)|((with_reducible refine branch_d (fun hq=>?_) (fun hq=>?_))<;>(try (exfalso;omega))<;>(conv=>whnf))))
 all_goals first
  |exact ret_p rfl (bool_eq (ppr_bad (by omega)).symm)
  |skip
 have hc:0≤code∧code≤31∧0≤var∧var<4∧1≤(ps.length:Int)∧(ps.length:Int)≤24:=by omega
 refine loop_i (fun k:Nat=>k≤ps.length∧∀i x,i<k→ps[i]? =some x→vPartB x=true) (fun k=>mkSt [(1, .ptr 1 0),(3, .int .i64 (sumMax (ps.take k))),(4, .int .i64 k)] [(1,[.int .i64 code, .int .i64 var, .lst 6 (ps.map encPt)])] false) (fun k=>ps.length-k) 0 ⟨Nat.zero_le _,fun i x hi=>by omega⟩ (by rw [List.take_zero];exact le_q) ?_
 rintro k ⟨hk,hall⟩
 have hs:=sumMax_in (l:=ps.take k) fun p hp=>by
  obtain ⟨i,hi⟩:=List.getElem?_of_mem hp
  rw [List.getElem?_take] at hi
  split at hi
  ·next h=>exact hall i p h hi
  ·cases hi
 have hs2:(ps.take k).length≤24:=by simp;omega
 rcases Nat.lt_or_ge k ps.length with hkl|hkl
 ·obtain ⟨p,hp⟩:∃p,ps[k]? =some p:=⟨_,List.getElem?_eq_getElem hkl⟩
  have hsn:=sumMax_next hp
  cases hvp:vPartB p with
  |false=>
   (conv=>whnf);(repeat' (first|((with_reducible refine branch_ff ?_);conv=>whnf)|(with_reducible refine branch_not ?_)|((refine idx_cs hp ?_);conv=>whnf)|((refine call_e ((rPart_ok p).mono fun r h=>h.trans (bool_eq hvp)) ?_);conv=>whnf)|((with_reducible refine branch_d (fun hq=>?_) (fun hq=>?_))<;>(try (exfalso;omega))<;>(conv=>whnf))))
   all_goals first
    |exact ret_p rfl (bool_eq (ppr_part hp hvp).symm)
    |(exfalso;exact absurd hq (by decide))
  |true=>
   have hpm:=vPart_max hvp
   (conv=>whnf);(repeat' (first|(refine arith_i ⟨by omega,by omega⟩ ?_;conv=>whnf)|((with_reducible refine branch_tt ?_);conv=>whnf)|(with_reducible refine branch_not ?_)|((refine idx_cs hp ?_);conv=>whnf)|((refine call_e ((rPart_ok p).mono fun r h=>h.trans (bool_eq hvp)) ?_);conv=>whnf)|((with_reducible refine branch_d (fun hq=>?_) (fun hq=>?_))<;>(try (exfalso;omega))<;>(conv=>whnf))))
   refine ⟨k+1,⟨by omega,fun i x hi hx=>?_⟩,le_mk ⟨rfl,int_eq hsn.symm,rfl,trivial⟩ ⟨rfl,trivial⟩ rfl,by omega⟩
   by_cases e:i=k
   ·subst e;rw [hp] at hx;injection hx with hx;subst hx;exact hvp
   ·exact hall i x (by omega) hx
 ·have hA:=all_goodL (p:=vPartB) hkl hall
  have hkk:ps.take k=ps:=List.take_of_length_le hkl
  (conv=>whnf);(repeat' (first|((with_reducible refine branch_d (fun hq=>?_) (fun hq=>?_))<;>(try (exfalso;omega))<;>(conv=>whnf))))
  exact ret_p rfl (bool_eq (by rw [hkk];exact (ppr_sum hc hA).symm))
def needF (p:Prt):Int:=if p.kind=2 then 2+p.opts else if 30<2+p.max then 30 else 2+p.max
theorem vPart_nd {p:Prt} (h:vPartB p=true):1≤p.max∧p.max≤40∧0≤p.opts∧p.opts≤5∧(p.kind=1∨p.kind=2):=by
 have:=of_decide_eq_true h
 omega
theorem need_in {p:Prt} (h:vPartB p=true):2≤needF p∧needF p≤30:=by
 have:=vPart_nd h
 unfold needF
 split
 ·omega
 ·split<;>omega
theorem need_ok (p:Prt) (h:vPartB p=true):Good Tryz.prog TT false 89 [.agg (encPt p)] (· = .int .i64 (needF p)):=by
 have hp:=vPart_nd h
 refine good_of mixed tabOk Tryz.func89 rfl rfl Tryz.ntmps89 Tryz.results89 rfl rfl ?_
 (conv=>whnf);(repeat' (first|(refine arith_i ⟨by omega,by omega⟩ ?_;conv=>whnf)|((with_reducible refine branch_tt ?_);conv=>whnf)|(with_reducible refine branch_not ?_)|((refine call_e ((vPart_ok p).mono fun r hr=>hr.trans (bool_eq h)) ?_);conv=>whnf)|((with_reducible refine branch_e (fun hq=>?_) (fun hq=>?_))<;>(try (exfalso;omega))<;>(conv=>whnf))))
 ·exact ret_p rfl (int_eq (by rw [needF,if_pos hq]))
 ·exact ret_p rfl (int_eq (by rw [needF,if_neg hq]))
theorem rNeed_ok (p:Prt) (h:vPartB p=true):Good Tryz.prog TT false 61 [.agg (encPt p)] (· = .int .i64 (needF p)):=by
 have hp:=vPart_nd h
 refine good_of mixed tabOk Tryz.func61 rfl rfl Tryz.ntmps61 Tryz.results61 rfl rfl ?_
 (conv=>whnf);(repeat' (first|(refine arith_i ⟨by omega,by omega⟩ ?_;conv=>whnf)|((with_reducible refine branch_tt ?_);conv=>whnf)|(with_reducible refine branch_not ?_)|((refine call_e ((rPart_ok p).mono fun r hr=>hr.trans (bool_eq h)) ?_);conv=>whnf)|((with_reducible refine branch_e (fun hq=>?_) (fun hq=>?_))<;>(try (exfalso;omega))<;>(conv=>whnf))))
 ·exact ret_p rfl (int_eq (by rw [needF,if_pos hq]))
 ·exact ret_p rfl (int_eq (by rw [needF,if_neg hq]))
def encPg (pg:List Int):List AV:=[ints pg]
def bookV (pgs:List (List Int)):AV:= .agg [.lst 1 (pgs.map encPg)]
def prt0:Prt:=⟨0,0,0,0,0,0⟩
def prtAt (ps:List Prt) (i:Int):Prt:=ps.getD i.toNat prt0
theorem prtAt_at {ps:List Prt} {k:Nat} {p:Prt} (h:ps[k]? =some p):prtAt ps (k:Int)=p:=by
 rw [prtAt,Int.toNat_natCast,List.getD_eq_getElem?_getD,h];rfl
def linF (ps:List Prt):List Int→Int
 |[]=>0
 |a::l=>needF (prtAt ps a)+linF ps l
theorem linF_app {ps:List Prt} {a b:List Int}:linF ps (a++b)=linF ps a+linF ps b:=by
 induction a with
 |nil=>simp [linF]
 |cons x l ih=>rw [List.cons_append,linF,linF,ih];omega
theorem linF_next {ps:List Prt} {l:List Int} {k:Nat} {a:Int} (h:l[k]? =some a):linF ps (l.take (k+1))=linF ps (l.take k)+needF (prtAt ps a):=by
 rw [List.take_add_one,h,linF_app];simp [linF]
theorem linF_in {ps:List Prt} (hv:∀p∈ps,vPartB p=true) {l:List Int}:(∀a∈l,0≤a∧a<ps.length)→0≤linF ps l∧linF ps l≤30 * l.length:=by
 induction l with
 |nil=>intro _;simp [linF]
 |cons a l ih=>
  intro h
  have h1:=ih fun b hb=>h b (by simp [hb])
  have ha:=h a (by simp)
  have hp:ps[a.toNat]? =some ps[a.toNat]:=List.getElem?_eq_getElem (by omega)
  have h2:=need_in (hv _ (List.mem_of_getElem? hp))
  have e:prtAt ps a=ps[a.toNat]:=by rw [prtAt,List.getD_eq_getElem?_getD,hp];rfl
  rw [linF,List.length_cons,e]
  omega
def upI (n:Nat):List Int:=(List.range n).map fun (k:Nat)=>(k:Int)
theorem upI_len {n:Nat}:(upI n).length=n:=by simp [upI]
theorem upI_at {n k:Nat} {a:Int} (h:(upI n)[k]? =some a):a=k∧k<n:=by
 rw [upI,List.getElem?_map] at h
 obtain ⟨m,h1,rfl⟩:=Option.map_eq_some_iff.1 h
 obtain ⟨h2,h3⟩:=List.getElem?_eq_some_iff.1 h1
 simp at h2 h3
 exact ⟨by rw [h3],h2⟩
theorem upI_succ {n:Nat}:upI (n+1)=upI n++[(n:Int)]:=by rw [upI,List.range_succ,List.map_append];rfl
theorem upI_mem {n:Nat} {a:Int} (h:a∈upI n):0≤a∧a<n:=by
 obtain ⟨k,hk,rfl⟩:=List.mem_map.1 h
 have:=List.mem_range.1 hk
 omega
structure BookOk (ps:List Prt) (pgs:List (List Int)):Prop where
 pos:1≤pgs.length
 le:pgs.length≤12
 four:pgs.length % 4=0
 first:pgs[0]? =some []
 flat:pgs.flatten=upI ps.length
 lines:∀pg∈pgs,linF ps pg≤30
def offP (pgs:List (List Int)) (i:Nat):Nat:=(pgs.take i).flatten.length
theorem offP_0 {pgs:List (List Int)}:offP pgs 0=0:=by simp [offP]
theorem offP_next {pgs:List (List Int)} {i:Nat} {pg:List Int} (h:pgs[i]? =some pg):offP pgs (i+1)=offP pgs i+pg.length:=by
 rw [offP,List.take_add_one,h,List.flatten_append,List.length_append];simp [offP]
theorem offP_end {pgs:List (List Int)} {i:Nat} (h:pgs.length≤i):offP pgs i=pgs.flatten.length:=by rw [offP,List.take_of_length_le h]
theorem flat_at {pgs:List (List Int)} {i j:Nat} {pg:List Int} {a:Int} (h:pgs[i]? =some pg) (hj:pg[j]? =some a):pgs.flatten[offP pgs i+j]? =some a:=by
 have e:pgs=pgs.take i++pg::pgs.drop (i+1):=by
  obtain ⟨h1,h2⟩:=List.getElem?_eq_some_iff.1 h
  rw [←h2,←List.drop_eq_getElem_cons h1,List.take_append_drop]
 have hlt:=(List.getElem?_eq_some_iff.1 hj).1
 conv=>lhs;arg 1;rw [e]
 rw [List.flatten_append,List.flatten_cons,List.getElem?_append_right (by rw [offP];omega),offP,Nat.add_sub_cancel_left,List.getElem?_append_left hlt,hj]
theorem BookOk.at {ps:List Prt} {pgs:List (List Int)} (B:BookOk ps pgs) {i j:Nat} {pg:List Int} {a:Int} (h:pgs[i]? =some pg) (hj:pg[j]? =some a):a=(offP pgs i+j:Nat)∧offP pgs i+j<ps.length:=by
 have:=flat_at h hj
 rw [B.flat] at this
 exact upI_at this
theorem BookOk.mem {ps:List Prt} {pgs:List (List Int)} (B:BookOk ps pgs) {i:Nat} {pg:List Int} (h:pgs[i]? =some pg) {a:Int} (ha:a∈pg):0≤a∧a<ps.length:=by
 obtain ⟨j,hj⟩:=List.getElem?_of_mem ha
 obtain ⟨h1,h2⟩:=B.at h hj
 omega
theorem BookOk.len_le {ps:List Prt} {pgs:List (List Int)} (B:BookOk ps pgs) {i:Nat} {pg:List Int} (h:pgs[i]? =some pg):offP pgs i+pg.length≤ps.length:=by
 have h1:(pgs.take (i+1)).flatten.length≤pgs.flatten.length:=by
  conv=>rhs;rw [←List.take_append_drop (i+1) pgs]
  rw [List.flatten_append,List.length_append];omega
 rw [B.flat,upI_len] at h1
 have h2:=offP_next h
 rw [offP] at h2
 omega
def optN (a:Int) (n:Nat):List (Int×Int):=(List.range n).map fun (o:Nat)=>(a,(o:Int))
theorem optN_next {a:Int} {n:Nat}:optN a (n+1)=optN a n++[(a,(n:Int))]:=by rw [optN,List.range_succ,List.map_append];rfl
def optsI (p:Prt) (a:Int):List (Int×Int):=optN a p.opts.toNat
def fldsF (ps:List Prt):List Int→List (Int×Int)
 |[]=>[]
 |a::l=>(if (prtAt ps a).kind=2 then optsI (prtAt ps a) a else [])++fldsF ps l
theorem fldsF_app {ps:List Prt} {a b:List Int}:fldsF ps (a++b)=fldsF ps a++fldsF ps b:=by
 induction a with
 |nil=>rfl
 |cons x l ih=>rw [List.cons_append,fldsF,fldsF,ih,List.append_assoc]
theorem fldsF_next {ps:List Prt} {l:List Int} {k:Nat} {a:Int} (h:l[k]? =some a):fldsF ps (l.take (k+1))=fldsF ps (l.take k)++(if (prtAt ps a).kind=2 then optsI (prtAt ps a) a else []):=by
 rw [List.take_add_one,h,fldsF_app];simp [fldsF]
theorem fldsF_len {ps:List Prt} (hv:∀p∈ps,vPartB p=true) {l:List Int}:(∀a∈l,0≤a∧a<ps.length)→(fldsF ps l).length≤5 * l.length:=by
 induction l with
 |nil=>intro _;simp [fldsF]
 |cons a l ih=>
  intro h
  have h1:=ih fun b hb=>h b (by simp [hb])
  have ha:=h a (by simp)
  have hp:ps[a.toNat]? =some ps[a.toNat]:=List.getElem?_eq_getElem (by omega)
  have h2:=vPart_nd (hv _ (List.mem_of_getElem? hp))
  have e:prtAt ps a=ps[a.toNat]:=by rw [prtAt,List.getD_eq_getElem?_getD,hp];rfl
  rw [fldsF,List.length_append,List.length_cons,e]
  split
  ·simp only [optsI,optN,List.length_map,List.length_range];omega
  ·simp only [List.length_nil];omega
def encF (p:Int×Int):List AV:=[.int .i64 p.1, .int .i64 p.2]
structure MkOk (ps:List Prt) (i:Nat) (rows:List (List Int)) (left:Int):Prop where
 len:rows.length≤i+2
 two:2≤rows.length
 first:rows[0]? =some []
 flat:rows.flatten=upI i
 lines:∀pg∈rows,linF ps pg≤30
 last:∀pg,rows[rows.length-1]? =some pg→linF ps pg=30-left
theorem MkOk.start {ps:List Prt}:MkOk ps 0 [[],[]] 30 where
 len:=Nat.le_refl _
 two:=Nat.le_refl _
 first:=rfl
 flat:=rfl
 lines:=by intro pg h;simp at h;subst h;show (0:Int)≤30;decide
 last:=by intro pg h;simp at h;subst h;rfl
theorem set_last {α:Type} {l:List α} {x y:α} (h:l[l.length-1]? =some x):l.set (l.length-1) y=l.dropLast++[y]∧l=l.dropLast++[x]:=by
 have hl:l≠[]:=by intro e;subst e;simp at h
 have hx:l.getLast hl=x:=by
  rw [List.getLast_eq_getElem]
  obtain ⟨h1,h2⟩:=List.getElem?_eq_some_iff.1 h
  exact h2
 have e:=(List.dropLast_concat_getLast hl).symm
 rw [hx] at e
 refine ⟨?_,e⟩
 have hlen:l.length-1=l.dropLast.length:=by simp
 conv=>lhs;rw [hlen];arg 1;rw [e]
 rw [List.set_append_right _ _ (Nat.le_refl _),Nat.sub_self];rfl
theorem MkOk.put {ps:List Prt} {i:Nat} {rows:List (List Int)} {left:Int} {pg:List Int} {p:Prt} (h:MkOk ps i rows left) (hp:ps[i]? =some p) (hr:rows[rows.length-1]? =some pg) (hn:needF p≤left):MkOk ps (i+1) (rows.set (rows.length-1) (pg++[(i:Int)])) (left-needF p):=by
 obtain ⟨e1,e2⟩:=set_last (y:=pg++[(i:Int)]) hr
 have el:linF ps (pg++[(i:Int)])=30-(left-needF p):=by
  rw [linF_app,h.last pg hr,linF,linF,prtAt_at hp];omega
 have h2:=h.two
 refine ⟨by rw [List.length_set];have:=h.len;omega,by rw [List.length_set];exact h.two,?_,?_,?_,?_⟩
 ·rw [List.getElem?_set_ne (by omega)];exact h.first
 ·rw [e1,List.flatten_append,List.flatten_cons,List.flatten_nil,List.append_nil,←List.append_assoc,upI_succ]
  have:=h.flat
  rw [e2,List.flatten_append,List.flatten_cons,List.flatten_nil,List.append_nil] at this
  rw [this]
 ·intro q hq
  rw [e1] at hq
  rcases List.mem_append.1 hq with hq|hq
  ·exact h.lines q (by rw [e2];exact List.mem_append_left _ hq)
  ·rw [List.mem_singleton.1 hq,el]
   have:=h.lines pg (List.mem_of_getElem? hr)
   have:=h.last pg hr
   omega
 ·intro q hq
  rw [List.length_set,List.getElem?_set_self (by omega)] at hq
  injection hq with hq
  rw [←hq];exact el
theorem MkOk.turn {ps:List Prt} {i:Nat} {rows:List (List Int)} {left:Int} {p:Prt} (h:MkOk ps i rows left) (hp:ps[i]? =some p) (hn:needF p≤30):MkOk ps (i+1) (rows++[[(i:Int)]]) (30-needF p):=by
 have h2:=h.two
 refine ⟨by simp;have:=h.len;omega,by simp;omega,by rw [List.getElem?_append_left (by omega)];exact h.first,?_,?_,?_⟩
 ·rw [List.flatten_append,h.flat,upI_succ];rfl
 ·intro q hq
  rcases List.mem_append.1 hq with hq|hq
  ·exact h.lines q hq
  ·rw [List.mem_singleton.1 hq,linF,linF,prtAt_at hp];omega
 ·intro q hq
  simp at hq
  subst hq
  rw [linF,linF,prtAt_at hp];omega
theorem MkOk.row_len {ps:List Prt} {i:Nat} {rows:List (List Int)} {left:Int} (h:MkOk ps i rows left) {pg:List Int} (hm:pg∈rows):pg.length≤i:=by
 have:=h.flat
 have h2:pg.length≤rows.flatten.length:=by
  clear h this
  induction rows with
  |nil=>cases hm
  |cons r l ih=>
   rw [List.flatten_cons,List.length_append]
   rcases List.mem_cons.1 hm with rfl|hm
   ·omega
   ·have:=ih hm;omega
 rw [this,upI_len] at h2
 exact h2
theorem MkOk.book {ps:List Prt} {rows:List (List Int)} {left:Int} {m:Nat} (h:MkOk ps ps.length rows left) (hl:rows.length+m≤12) (h4:(rows.length+m) % 4=0):BookOk ps (rows++List.replicate m []) where
 pos:=by simp;have:=h.two;omega
 le:=by simp;exact hl
 four:=by simp;exact h4
 first:=by rw [List.getElem?_append_left (by have:=h.two;omega)];exact h.first
 flat:=by simp [h.flat]
 lines:=by
  intro pg hpg
  rcases List.mem_append.1 hpg with hq|hq
  ·exact h.lines pg hq
  ·rw [(List.mem_replicate.1 hq).2];show (0:Int)≤30;decide
structure PapOk (code var:Int) (ps:List Prt):Prop where
 v:pprB code var ps=true
theorem PapOk.parts {code var:Int} {ps:List Prt} (h:PapOk code var ps):∀p∈ps,vPartB p=true:=by
 have:=h.v
 rw [pprB,Bool.and_eq_true,Bool.and_eq_true] at this
 exact List.all_eq_true.1 this.1.2
theorem PapOk.nums {code var:Int} {ps:List Prt} (h:PapOk code var ps):0≤code∧code≤31∧0≤var∧var<4∧1≤(ps.length:Int)∧(ps.length:Int)≤24:=by
 have:=h.v
 rw [pprB,Bool.and_eq_true,Bool.and_eq_true] at this
 exact of_decide_eq_true this.1.1
theorem PapOk.at {code var:Int} {ps:List Prt} (h:PapOk code var ps) {a:Int} (ha:0≤a∧a<ps.length):ps[a.toNat]? =some (prtAt ps a)∧vPartB (prtAt ps a)=true:=by
 have hp:ps[a.toNat]? =some ps[a.toNat]:=List.getElem?_eq_getElem (by omega)
 have e:prtAt ps a=ps[a.toNat]:=by rw [prtAt,List.getD_eq_getElem?_getD,hp];rfl
 rw [e]
 exact ⟨hp,h.parts _ (List.mem_of_getElem? hp)⟩
theorem BookOk.len0 {ps:List Prt} {pgs:List (List Int)} (B:BookOk ps pgs) {i:Nat} {pg:List Int} (h:pgs[i]? =some pg) (hi:i=0):pg.length=0:=by
 subst hi
 rw [B.first] at h
 injection h with h
 rw [←h];rfl
set_option maxHeartbeats 1000000 in
theorem bValid_ok (code var:Int) (ps:List Prt) (pgs:List (List Int)) (hv:PapOk code var ps) (B:BookOk ps pgs):Good Tryz.prog TT false 52 [papV code var ps,bookV pgs] (· = .bool true):=by
 have L:(pgs.map encPg).length=pgs.length:=List.length_map ..
 have LS:(ps.map encPt).length=ps.length:=List.length_map ..
 have hn:=hv.nums
 have b1:=B.pos
 have b2:=B.le
 have b3:=B.four
 have b4:((pgs.map encPg).length:Int).tmod 4=0:=by rw [L,Int.tmod_eq_emod_of_nonneg (by omega)];omega
 refine good_of mixed tabOk Tryz.func52 rfl rfl Tryz.ntmps52 Tryz.results52 rfl rfl ?_
 (conv=>whnf);(repeat' (first|(refine need_o ?_;conv=>whnf)|((with_reducible first|refine branch_tt ?_|refine branch_ff ?_);conv=>whnf)|(with_reducible refine branch_not ?_)|((refine call_e ((vPaper_ok code var ps (by omega)).mono fun r hr=>hr.trans (bool_eq hv.v)) ?_);conv=>whnf)|((with_reducible refine branch_d (fun hq=>?_) (fun hq=>?_))<;>(try (exfalso;omega))<;>(conv=>whnf))|((with_reducible refine branch_n (fun hq=>?_) (fun hq=>?_))<;>(try (exfalso;omega))<;>(conv=>whnf))))
 refine loop_i (fun i:Nat=>i≤pgs.length) (fun i=>mkSt [(2, .ptr 2 0),(5, .int .i64 (offP pgs i)),(28, .lst 1 (pgs.map encPg)),(29, .int .i64 pgs.length),(30, .int .i64 i)] [(2,[.int .i64 code, .int .i64 var, .lst 6 (ps.map encPt)]),(3,[.lst 1 (pgs.map encPg)])] false) (fun i=>pgs.length-i) 0 (Nat.zero_le _) (le_mk ⟨rfl,int_eq (by rw [offP_0];rfl),rfl,int_eq (by rw [L]),rfl,trivial⟩ ⟨rfl,rfl,trivial⟩ rfl) ?_
 intro i hi
 rcases Nat.lt_or_ge i pgs.length with hil|hil
 ·obtain ⟨pg,hpg⟩:∃pg,pgs[i]? =some pg:=⟨_,List.getElem?_eq_getElem hil⟩
  have LP:(pg.map encI).length=pg.length:=List.length_map ..
  have h0:=fun h=>B.len0 hpg h
  have hln:=B.len_le hpg
  have hlin:=B.lines pg (List.mem_of_getElem? hpg)
  (conv=>whnf);(repeat' (first|((with_reducible first|refine branch_tt ?_|refine branch_ff ?_);conv=>whnf)|((refine idx_cs hpg ?_);conv=>whnf)|((with_reducible refine branch_d (fun hq=>?_) (fun hq=>?_))<;>(try (exfalso;omega))<;>(conv=>whnf))|((with_reducible refine branch_e (fun hq=>?_) (fun hq=>?_))<;>(try (exfalso;omega))<;>(conv=>whnf))))
  all_goals
   refine loop_i (fun j:Nat=>j≤pg.length) (fun j=>mkSt [(2, .ptr 2 0),(5, .int .i64 (offP pgs i+j:Nat)),(8, .int .i64 (linF ps (pg.take j))),(28, .lst 1 (pgs.map encPg)),(29, .int .i64 pgs.length),(30, .int .i64 i),(42, .lst 1 (pg.map encI)),(43, .int .i64 pg.length),(44, .int .i64 j)] [(2,[.int .i64 code, .int .i64 var, .lst 6 (ps.map encPt)]),(3,[.lst 1 (pgs.map encPg)])] false) (fun j=>pg.length-j) 0 (Nat.zero_le _) (le_mk ⟨rfl,rfl,rfl,rfl,rfl,rfl,rfl,int_eq (by rw [LP]),rfl,trivial⟩ ⟨rfl,rfl,trivial⟩ rfl) ?_
   intro j hj
   have hln2:=linF_in hv.parts (l:=pg.take j) fun a ha=>B.mem hpg (List.mem_of_mem_take ha)
   have hln3:(pg.take j).length≤24:=by rw [List.length_take];omega
   rcases Nat.lt_or_ge j pg.length with hjl|hjl
   ·obtain ⟨a,ha⟩:∃a,pg[j]? =some a:=⟨_,List.getElem?_eq_getElem hjl⟩
    obtain ⟨ha1,ha2⟩:=B.at hpg ha
    obtain ⟨hp1,hp2⟩:=hv.at (a:=a) (by omega)
    have hnd:=need_in hp2
    (conv=>whnf);(repeat' (first|(refine arith_i ⟨by omega,by omega⟩ ?_;conv=>whnf)|((with_reducible refine branch_ff ?_);conv=>whnf)|((refine idx_cs ha ?_);conv=>whnf)|((refine idx_ms (by omega) hp1 ?_);conv=>whnf)|((refine call_e (need_ok _ hp2) ?_);conv=>whnf)|((with_reducible refine branch_d (fun hq=>?_) (fun hq=>?_))<;>(try (exfalso;omega))<;>(conv=>whnf))|((with_reducible refine branch_n (fun hq=>?_) (fun hq=>?_))<;>(try (exfalso;omega))<;>(conv=>whnf))))
    all_goals exact ⟨j+1,by omega,le_mk ⟨rfl,int_eq (by omega),int_eq (by rw [linF_next ha]),rfl,rfl,rfl,rfl,rfl,rfl,trivial⟩ ⟨rfl,rfl,trivial⟩ rfl,by omega⟩
   ·have hjj:pg.take j=pg:=List.take_of_length_le hjl
    rw [hjj]
    (conv=>whnf);(repeat' (first|(refine arith_i ⟨by omega,by omega⟩ ?_;conv=>whnf)|((with_reducible refine branch_d (fun hq=>?_) (fun hq=>?_))<;>(try (exfalso;omega))<;>(conv=>whnf))))
    all_goals exact ⟨i+1,by omega,le_mk ⟨rfl,int_eq (by rw [offP_next hpg];congr 2;omega),rfl,rfl,rfl,trivial⟩ ⟨rfl,rfl,trivial⟩ rfl,by omega⟩
 ·have he:=offP_end hil
  rw [B.flat,upI_len] at he
  (conv=>whnf);(repeat' (first|((with_reducible refine branch_d (fun hq=>?_) (fun hq=>?_))<;>(try (exfalso;omega))<;>(conv=>whnf))))
  exact ret_p rfl (bool_eq (by rw [he,LS];exact beq_self_eq_true _))
set_option maxHeartbeats 1000000 in
theorem bFields_ok (code var:Int) (ps:List Prt) (pgs:List (List Int)) (k:Nat) (pg:List Int) (hv:PapOk code var ps) (B:BookOk ps pgs) (hk:pgs[k]? =some pg):Good Tryz.prog TT false 17 [papV code var ps,bookV pgs, .int .i64 k] (· = .own 0 103 2 ((fldsF ps pg).map encF)):=by
 have L:(pgs.map encPg).length=pgs.length:=List.length_map ..
 have LS:(ps.map encPt).length=ps.length:=List.length_map ..
 have LP:(pg.map encI).length=pg.length:=List.length_map ..
 have hkl:=(List.getElem?_eq_some_iff.1 hk).1
 have b2:=B.le
 have hn:=hv.nums
 have hln:=B.len_le hk
 refine good_of mixed tabOk Tryz.func17 rfl rfl Tryz.ntmps17 Tryz.results17 rfl rfl ?_
 (conv=>whnf);(repeat' (first|((with_reducible first|refine branch_tt ?_|refine branch_ff ?_);conv=>whnf)|(with_reducible refine branch_not ?_)|((refine call_e (bValid_ok code var ps pgs hv B) ?_);conv=>whnf)|((refine idx_cs hk ?_);conv=>whnf)|((with_reducible refine branch_d (fun hq=>?_) (fun hq=>?_))<;>(try (exfalso;omega))<;>(conv=>whnf))))
 refine loop_i (fun j:Nat=>j≤pg.length) (fun j=>mkSt [(3, .ptr 3 0),(7, .own 7 103 2 ((fldsF ps (pg.take j)).map encF)),(30, .lst 1 (pg.map encI)),(31, .int .i64 pg.length),(32, .int .i64 j)] [(3,[.int .i64 code, .int .i64 var, .lst 6 (ps.map encPt)]),(4,[.lst 1 (pgs.map encPg)])] false) (fun j=>pg.length-j) 0 (Nat.zero_le _) ((le_adopt 7 7 103 2 rfl).trans (le_mk ⟨rfl,rfl,rfl,int_eq (by rw [LP]),rfl,trivial⟩ ⟨rfl,rfl,trivial⟩ rfl)) ?_
 intro j hj
 have hfl:=fldsF_len hv.parts (l:=pg.take j) fun a ha=>B.mem hk (List.mem_of_mem_take ha)
 have hln3:(pg.take j).length≤24:=by rw [List.length_take];omega
 have LF:((fldsF ps (pg.take j)).map encF).length=(fldsF ps (pg.take j)).length:=List.length_map ..
 rcases Nat.lt_or_ge j pg.length with hjl|hjl
 ·obtain ⟨a,ha⟩:∃a,pg[j]? =some a:=⟨_,List.getElem?_eq_getElem hjl⟩
  obtain ⟨ha1,ha2⟩:=B.at hk ha
  obtain ⟨hp1,hp2⟩:=hv.at (a:=a) (by omega)
  have hnd:=vPart_nd hp2
  have hnx:=fldsF_next (ps:=ps) ha
  (conv=>whnf);(repeat' (first|(refine arith_i ⟨by omega,by omega⟩ ?_;conv=>whnf)|((refine idx_cs ha ?_);conv=>whnf)|((refine idx_ms (by omega) hp1 ?_);conv=>whnf)|((with_reducible refine branch_d (fun hq=>?_) (fun hq=>?_))<;>(try (exfalso;omega))<;>(conv=>whnf))|((with_reducible refine branch_n (fun hq=>?_) (fun hq=>?_))<;>(try (exfalso;omega))<;>(conv=>whnf))))
  ·rw [if_neg (by assumption),List.append_nil] at hnx
   exact ⟨j+1,by omega,le_mk ⟨rfl,own_eq (by rw [hnx]),rfl,rfl,rfl,trivial⟩ ⟨rfl,rfl,trivial⟩ rfl,by omega⟩
  ·refine loop_i (fun o:Nat=>(o:Int)≤(prtAt ps a).opts) (fun o=>mkSt [(3, .ptr 3 0),(7, .own 7 103 2 ((fldsF ps (pg.take j)++optN a o).map encF)),(9, .int .i64 a),(30, .lst 1 (pg.map encI)),(31, .int .i64 pg.length),(32, .int .i64 j),(48, .int .i64 (prtAt ps a).opts),(49, .int .i64 o)] [(3,[.int .i64 code, .int .i64 var, .lst 6 (ps.map encPt)]),(4,[.lst 1 (pgs.map encPg)])] false) (fun o=>5-o) 0 (by omega) (le_mk ⟨rfl,own_eq (by simp [optN]),rfl,rfl,rfl,rfl,rfl,rfl,trivial⟩ ⟨rfl,rfl,trivial⟩ rfl) ?_
   intro o ho
   have LF:((fldsF ps (pg.take j)++optN a o).map encF).length=(fldsF ps (pg.take j)).length+o:=by simp [optN]
   (conv=>whnf);(repeat' (first|(refine arith_i ⟨by omega,by omega⟩ ?_;conv=>whnf)|(refine need_o ?_;conv=>whnf)|((with_reducible refine branch_d (fun hq=>?_) (fun hq=>?_))<;>(try (exfalso;omega))<;>(conv=>whnf))))
   ·exact ⟨o+1,by omega,le_mk ⟨rfl,own_eq (by rw [optN_next];simp [encF]),rfl,rfl,rfl,rfl,rfl,rfl,trivial⟩ ⟨rfl,rfl,trivial⟩ rfl,by omega⟩
   ·obtain rfl:o=(prtAt ps a).opts.toNat:=by omega
    rw [if_pos (by assumption)] at hnx
    exact ⟨j+1,by omega,le_mk ⟨rfl,own_eq (by rw [hnx];rfl),rfl,rfl,rfl,trivial⟩ ⟨rfl,rfl,trivial⟩ rfl,by omega⟩
 ·have hjj:pg.take j=pg:=List.take_of_length_le hjl
  (conv=>whnf);(repeat' (first|((with_reducible refine branch_d (fun hq=>?_) (fun hq=>?_))<;>(try (exfalso;omega))<;>(conv=>whnf))))
  exact ret_o (own_eq (by rw [hjj]))
def encM12 (pg:List Int):Option (List (List AV)):=some (pg.map encI)
theorem m12_app {rows:List (List Int)} {pg:List Int}:(rows++[pg]).map encM12=rows.map encM12++[some (pg.map encI)]:=by rw [List.map_append];rfl
theorem ridx_l {rows:List (List Int)} {n:Int} {pg:List Int} {K:Option (List (List AV))→Prop} (h0:0≤n) (h1:rows[n.toNat]? =some pg) (h:K (encM12 pg)):ridx (rows.map encM12) n K:=
 ridx_i h0 (by rw [List.getElem?_map,h1];rfl) h
theorem ridx_q {L:List (Option (List (List AV)))} {n:Int} {x:Option (List (List AV))} {K:Option (List (List AV))→Prop} (h0:0≤n) (h1:n.toNat<L.length) (h:K x):ridx (L.set n.toNat x) n K:=
 ridx_i h0 (List.getElem?_set_self h1) h
set_option maxHeartbeats 1000000 in
theorem rMake_ok (code var:Int) (ps:List Prt) (hv:PapOk code var ps) (h6:ps.length≤6):Good Tryz.prog TT false 28 [papV code var ps] (fun r=>∃pgs,BookOk ps pgs∧pgs.length≤8∧r= .tup [bookV pgs, .int .i64 0]):=by
 have LS:(ps.map encPt).length=ps.length:=List.length_map ..
 refine good_of_c (fun i=>Nat.beq i 19) mixed tabOk Tryz.func28 rfl rfl Tryz.ntmps28 Tryz.results28 rfl rfl ?_
 (conv=>whnf);(repeat' (first|((with_reducible refine branch_tt ?_);conv=>whnf)|(with_reducible refine branch_not ?_)|((refine call_e ((rPaper_ok code var ps (by omega)).mono fun r hr=>hr.trans (bool_eq hv.v)) ?_);conv=>whnf)|(((refine bld_m ⟨3,1,?_⟩));conv=>whnf)|fail))
 refine loop_i3 (fun (i:Nat) (rows:List (List Int)) (left:Int)=>i≤ps.length∧MkOk ps i rows left∧0≤left∧left≤30) (fun i rows left=>mkSt [(1, .ptr 1 0),(2, .ptr 2 0),(4, .mat 13 22 3 1 (rows.map encM12)),(5, .int .i64 left),(6, .int .i64 i)] [(1,[.int .i64 code, .int .i64 var, .lst 6 (ps.map encPt)]),(2,[.nil])] false) (fun i _ _=>ps.length-i) 0 [[],[]] 30 ⟨Nat.zero_le _, .start,by decide⟩ le_q ?_
 rintro i rows left ⟨hi,hM,hl0,hl3⟩
 have hM2:=hM.two
 have hM3:=hM.len
 have LR:(rows.map encM12).length=rows.length:=List.length_map ..
 have LR1:(rows.map encM12++[some []]).length=rows.length+1:=by simp
 rcases Nat.lt_or_ge i ps.length with hil|hil
 ·obtain ⟨p,hp⟩:∃p,ps[i]? =some p:=⟨_,List.getElem?_eq_getElem hil⟩
  have hp2:=hv.parts p (List.mem_of_getElem? hp)
  have hnd:=need_in hp2
  rcases Int.lt_or_le left (needF p) with hc|hc
  ·have hlast':(rows.map encM12++[some []])[(((rows.map encM12++[some []]).length:Int)-1).toNat]? =some (some []):=by rw [LR1,show (((rows.length+1:Nat):Int)-1).toNat=rows.length by omega,List.getElem?_append_right (by simp)];simp
   have hset:∀x:Option (List (List AV)),(rows.map encM12++[some []]).set (((rows.map encM12++[some []]).length:Int)-1).toNat x=rows.map encM12++[x]:=fun x=>by
    rw [LR1,show (((rows.length+1:Nat):Int)-1).toNat=rows.length by omega,List.set_append_right _ _ (by simp)];simp
   (conv=>whnf);(repeat' (first|(refine arith_i ⟨by omega,by omega⟩ ?_;conv=>whnf)|(refine need_o ?_;conv=>whnf)|((refine idx_cs hp ?_);conv=>whnf)|((refine call_e (rNeed_ok _ hp2) ?_);conv=>whnf)|(((refine bld_m ⟨3,1,?_⟩));conv=>whnf)|((refine ridx_i (by omega) hlast' ?_);conv=>whnf)|((refine ridx_q (by omega) (by omega) ?_);conv=>whnf)|((with_reducible refine branch_d (fun hq=>?_) (fun hq=>?_))<;>(try (exfalso;omega))<;>(conv=>whnf))))
   refine ⟨i+1,rows++[[(i:Int)]],30-needF p,⟨by omega,hM.turn hp hnd.2,by omega,by omega⟩,le_mk ⟨rfl,rfl,congrArg (AV.mat 13 22 3 1) ?_,rfl,rfl,trivial⟩ ⟨rfl,rfl,trivial⟩ rfl,by omega⟩
   rw [m12_app]
   refine (congrArg (List.set · _ _) (hset _)).trans ?_
   show (rows.map encM12++[none]).set (((rows.map encM12++[some []]).length:Int)-1).toNat _=_
   rw [LR1,show (((rows.length+1:Nat):Int)-1).toNat=rows.length by omega,List.set_append_right _ _ (by simp)]
   simp [encI]
  ·obtain ⟨lst,hlast⟩:∃pg,rows[rows.length-1]? =some pg:=⟨_,List.getElem?_eq_getElem (by omega)⟩
   have hll:=hM.row_len (List.mem_of_getElem? hlast)
   have LL:(lst.map encI).length=lst.length:=List.length_map ..
   have hix:(((rows.map encM12).length:Int)-1).toNat=rows.length-1:=by omega
   have hlast':rows[(((rows.map encM12).length:Int)-1).toNat]? =some lst:=by rw [hix];exact hlast
   (conv=>whnf);(repeat' (first|(refine arith_i ⟨by omega,by omega⟩ ?_;conv=>whnf)|(refine need_o ?_;conv=>whnf)|((refine idx_cs hp ?_);conv=>whnf)|((refine call_e (rNeed_ok _ hp2) ?_);conv=>whnf)|((refine ridx_l (by omega) hlast' ?_);conv=>whnf)|((refine ridx_q (by omega) (by omega) ?_);conv=>whnf)|((with_reducible refine branch_d (fun hq=>?_) (fun hq=>?_))<;>(try (exfalso;omega))<;>(conv=>whnf))))
   refine ⟨i+1,_,left-needF p,⟨by omega,hM.put hp hlast hc,by omega,by omega⟩,le_mk ⟨rfl,rfl,congrArg (AV.mat 13 22 3 1) ?_,rfl,rfl,trivial⟩ ⟨rfl,rfl,trivial⟩ rfl,by omega⟩
   refine (List.set_set ..).trans ?_
   rw [hix,List.map_set]
   exact congrArg _ (congrArg some (by rw [List.map_append];rfl))
 ·obtain rfl:i=ps.length:=by omega
  (conv=>whnf);(repeat' (first|((with_reducible refine branch_d (fun hq=>?_) (fun hq=>?_))<;>(try (exfalso;omega))<;>(conv=>whnf))))
  refine loop_i (fun m:Nat=>rows.length+m≤8) (fun m=>mkSt [(2, .ptr 2 0),(4, .mat 13 22 3 1 ((rows++List.replicate m []).map encM12))] [(2,[.nil])] false) (fun m=>8-m) 0 (by omega) (le_mk ⟨rfl,congrArg (AV.mat 13 22 3 1) (by simp),trivial⟩ ⟨rfl,trivial⟩ rfl) ?_
  intro m hm
  have LM:((rows++List.replicate m []).map encM12).length=rows.length+m:=by simp
  have hmod:(((rows++List.replicate m []).map encM12).length:Int).tmod 4=((rows.length+m) % 4:Nat):=by rw [LM,Int.tmod_eq_emod_of_nonneg (by omega)];omega
  (conv=>whnf);(repeat' (first|(refine need_o ?_;conv=>whnf)|(((refine bld_m ⟨3,1,?_⟩));conv=>whnf)|((with_reducible refine branch_d (fun hq=>?_) (fun hq=>?_))<;>(try (exfalso;omega))<;>(conv=>whnf))|((with_reducible refine branch_n (fun hq=>?_) (fun hq=>?_))<;>(try (exfalso;omega))<;>(conv=>whnf))))
  ·exact ⟨m+1,by omega,le_mk ⟨rfl,congrArg (AV.mat 13 22 3 1) (by rw [List.replicate_succ',←List.append_assoc,m12_app];rfl),trivial⟩ ⟨rfl,trivial⟩ rfl,by omega⟩
  ·have hB:=hM.book (m:=m) (by omega) (by omega)
   refine rest_i (mkSt [(2, .ptr 2 0),(4, .lst 1 ((rows++List.replicate m []).map encPg))] [(2,[.nil])] false) (Le.trans (le_matErase 4 13 (R:=(rows++List.replicate m []).map fun (pg:List Int)=>pg.map encI) (by rw [List.map_map];rfl)) (le_mk ⟨rfl,by rw [List.map_map];rfl,trivial⟩ ⟨rfl,trivial⟩ rfl)) ?_
   (conv=>whnf)
   exact ret_t (rs:=[bookV (rows++List.replicate m []), .int .i64 0]) ⟨.inr ⟨_,_,rfl,rfl,rc_p rfl,trivial⟩, .inl (rc_p rfl),trivial⟩ ⟨_,hB,by simp;omega,rfl⟩
def plT00_0:Plan:=(.take 0 (.take 1 (.take 2 (.alt 3 (.alt 4 (.alt 5 (.take 6 (.alt 7 .done .stop)) .stop) .stop) .stop))))
def plT00_2:Plan:=(.take 0 (.take 1 (.take 2 (.take 5 (.take 6 (.take 7 (.alt 3 (.alt 4 (.take 10 (.alt 8 (.alt 9 (.alt 11 (.take 12 (.alt 13 .done .stop)) .stop) .stop) .stop)) (.alt 8 (.alt 4 (.take 10 (.alt 9 (.alt 11 (.take 12 (.alt 13 .done .stop)) .stop) .stop)) .stop) .stop)) (.alt 8 (.alt 3 (.alt 4 (.take 10 (.alt 9 (.alt 11 (.take 12 (.alt 13 .done .stop)) .stop) .stop)) .stop) .stop) .stop))))))))
def plT00_3:Plan:=(.take 0 (.take 1 (.take 2 (.take 3 (.take 5 (.take 6 (.take 7 (.take 8 (.alt 4 (.alt 9 (.take 10 (.alt 11 (.alt 12 (.take 13 (.alt 14 .done .stop)) .stop) .stop)) .stop) .stop)))))))))
theorem sum12 {l:List Prt}:(∀p∈l,vPartB p=true∧p.max≤12)→sumMax l≤12 * l.length:=by
 induction l with
 |nil=>intro _;simp [sumMax]
 |cons p l ih=>
  intro h
  have h1:=ih fun q hq=>h q (by simp [hq])
  have h2:=(h p (by simp)).2
  rw [sumMax,List.length_cons]
  omega
theorem paper_ok (code var:Int) (h1:0≤code∧code≤31) (h2:0≤var∧var<4):Good Tryz.prog TT true 27 [.tape, .int .i64 code, .int .i64 var] (fun r=>∃ps,r=papV code var ps∧PapOk code var ps∧ps.length≤6):=by
 refine good_of mixed tabOk Tryz.func27 rfl rfl Tryz.ntmps27 Tryz.results27 rfl rfl ?_
 (conv=>whnf);(repeat' (first|(((refine call_i (range_ok _ _ (by omega) (by omega)) fun r hr=>?_;obtain ⟨m1,rfl, -,h6⟩:=hr;have hm1:=h6 (by omega)));conv=>whnf)|fail))
 refine loop_i2 (fun (k:Nat) (ps:List Prt)=>(k:Int)+ps.length=m1∧∀p∈ps,vPartB p=true∧p.max≤12) (fun k ps=>mkSt [(0, .tape),(6, .ptr 6 0),(7, .ptr 7 0),(8, .int .i64 k)] [(6,[.int .i64 0, .int .i64 0, .nil]),(7,[.int .i64 code, .int .i64 var, .own 900 92 6 (ps.map encPt)])] true) (fun k _=>k) m1.toNat [] ⟨by simp;omega,by simp⟩ ((le_adoptBox 7 2 900 92 6 rfl rfl).trans (le_mk ⟨rfl,rfl,rfl,int_eq (by omega),trivial⟩ ⟨rfl,rfl,trivial⟩ rfl)) ?_
 rintro k ps ⟨hk,hps⟩
 have LS:(ps.map encPt).length=ps.length:=List.length_map ..
 (conv=>whnf);(repeat' (first|(refine arith_i ⟨by omega,by omega⟩ ?_;conv=>whnf)|(refine need_o ?_;conv=>whnf)|(((refine call_i part0_ok fun r hr=>?_;obtain ⟨p,rfl,hp⟩:=hr));conv=>whnf)|(refine draw_i 7 plT00_0 (by decide+kernel) ?_;(conv=>whnf);fail_if_success (guard_target=~ False))|((with_reducible refine And.intro ?_ ?_)<;>(conv=>whnf))|(with_reducible exact trivial)|((with_reducible refine branch_d (fun hq=>?_) (fun hq=>?_))<;>(try (exfalso;omega))<;>(conv=>whnf))))
 ·exact ⟨k-1,ps++[p],⟨by simp;omega,fun q hq=>(List.mem_append.1 hq).elim (hps q) fun h=>by rw [List.mem_singleton.1 h];exact hp⟩,le_mk ⟨rfl,rfl,rfl,int_eq (by omega),trivial⟩ ⟨rfl,by rw [List.map_append];rfl,trivial⟩ rfl,by omega⟩
 ·have hs:=sum12 hps
  refine ret_a (cs':=[.int .i64 code, .int .i64 var, .lst 6 (ps.map encPt)]) ⟨rc_p rfl,rc_p rfl,rc_o,trivial⟩ ⟨ps,rfl,⟨?_⟩,by omega⟩
  rw [pprB,decide_eq_true (by omega),decide_eq_true (by omega),List.all_eq_true.2 fun p hp=>(hps p hp).1];rfl
structure PapD where
 var:Int
 parts:List Prt
structure ExpD where
 cand:Int
 cen:Int
 var:Int
structure Sit where
 num:Int
 pap:List PapD
 bk:List (List (List Int))
 exp:List ExpD
def encPap (num:Int) (p:PapD):List AV:=[.int .i64 num, .int .i64 p.var, .lst 6 (p.parts.map encPt)]
def encBk (pgs:List (List Int)):List AV:=[.lst 1 (pgs.map encPg)]
def encE (e:ExpD):List AV:=[.int .i64 e.cand, .int .i64 e.cen, .int .i64 e.var]
def sitC (x:Sit):List AV:=[.int .i64 x.num, .lst 3 (x.pap.map (encPap x.num)), .lst 1 (x.bk.map encBk), .lst 3 (x.exp.map encE)]
def sitV (x:Sit):AV:= .agg (sitC x)
structure VarOk (num:Int) (v:Nat) (p:PapD) (pgs:List (List Int)):Prop where
 var:p.var=v
 pap:PapOk num v p.parts
 book:BookOk p.parts pgs
 six:p.parts.length≤6
 eight:pgs.length≤8
def VarsOk (num:Int) (ps:List PapD) (bs:List (List (List Int))):Prop:=ps.length=bs.length∧∀(v:Nat) (p:PapD) (b:List (List Int)),ps[v]? =some p→bs[v]? =some b→VarOk num v p b
theorem VarsOk.snoc {num:Int} {ps:List PapD} {bs:List (List (List Int))} (h:VarsOk num ps bs) {p:PapD} {b:List (List Int)} (hp:VarOk num ps.length p b):VarsOk num (ps++[p]) (bs++[b]):=by
 refine ⟨by simp [h.1],fun v q c hq hc=>?_⟩
 rcases snoc_at hq with ⟨h1,h2⟩|⟨h1,h2⟩
 ·rw [List.getElem?_append_left (by have:=h.1;omega)] at hc
  exact h.2 v q c h2 hc
 ·subst h1 h2
  rw [h.1,List.getElem?_append_right (Nat.le_refl _),Nat.sub_self] at hc
  injection hc with hc
  subst hc;exact hp
structure SitOk (x:Sit):Prop where
 num:0≤x.num∧x.num≤1
 vars:VarsOk x.num x.pap x.bk
 some:1≤x.pap.length∧x.pap.length≤2
 exps:∀e∈x.exp,0≤e.cand∧e.cand≤3∧1≤e.cen∧e.cen≤2∧0≤e.var∧e.var<x.pap.length
 asc:x.exp.Pairwise fun a b=>a.cand<b.cand
set_option maxHeartbeats 2000000 in
theorem sitting_ok:Good Tryz.prog TT true 7 [.tape, .int .i64 0] (fun r=>∃x,r=sitV x∧SitOk x):=by
 refine good_of mixed tabOk Tryz.func7 rfl rfl Tryz.ntmps7 Tryz.results7 rfl rfl ?_
 (conv=>whnf);(repeat' (first|(((refine call_i (next_ok _ (by omega)) fun r hr=>?_;obtain ⟨num,rfl, -,h6⟩:=hr;have hnum:=h6 (by omega)));conv=>whnf)|fail))
 refine loop_i3 (fun (v:Nat) (ps:List PapD) (bs:List (List (List Int)))=>v≤2∧ps.length=v∧VarsOk num ps bs) (fun v ps bs=>mkSt [(0, .tape),(1, .int .i64 0),(4, .ptr 4 0),(5, .ptr 5 0),(6, .int .i64 v)] [(4,[.int .i64 0, .nil, .nil, .nil]),(5,[.int .i64 num, .own 900 70 3 (ps.map (encPap num)), .own 901 72 1 (bs.map encBk), .nil])] true) (fun v _ _=>2-v) 0 [] [] ⟨by decide,rfl,rfl,by simp⟩ ((le_adoptBox 5 1 900 70 3 rfl rfl).trans ((le_adoptBox 5 2 901 72 1 rfl rfl).trans (le_mk ⟨rfl,rfl,rfl,rfl,rfl,trivial⟩ ⟨rfl,rfl,trivial⟩ rfl))) ?_
 rintro v ps bs ⟨hv,hpl,hV⟩
 have LP:(ps.map (encPap num)).length=ps.length:=List.length_map ..
 have LB:(bs.map encBk).length=bs.length:=List.length_map ..
 have hb2:=hV.1
 (conv=>whnf);(repeat' (first|(refine arith_i ⟨by omega,by omega⟩ ?_;conv=>whnf)|(refine need_o ?_;conv=>whnf)|(((refine call_i (range_ok _ _ (by omega) (by omega)) fun r hr=>?_;obtain ⟨m1,rfl, -,h6⟩:=hr;have hm1:=h6 (by omega)));conv=>whnf)|(((refine call_i (paper_ok num v (by omega) (by omega)) fun r hr=>?_;obtain ⟨pp,rfl,hpp,h6⟩:=hr));conv=>whnf)|(((refine call_i (rMake_ok num v pp hpp h6) fun r hr=>?_;obtain ⟨pgs,hB,h8,rfl⟩:=hr));conv=>whnf)|(refine draw_i 11 plT00_2 (by decide+kernel) ?_;(conv=>whnf);fail_if_success (guard_target=~ False))|((with_reducible refine And.intro ?_ ?_)<;>(conv=>whnf))|(with_reducible exact trivial)|((with_reducible refine branch_d (fun hq=>?_) (fun hq=>?_))<;>(try (exfalso;omega))<;>(conv=>whnf))))
 any_goals exact ⟨v+1,ps++[⟨v,pp⟩],bs++[pgs],⟨by omega,by simp;omega,hV.snoc ⟨by rw [hpl],by rw [hpl];exact hpp,hB,h6,h8⟩⟩,le_mk ⟨rfl,rfl,rfl,rfl,rfl,trivial⟩ ⟨rfl,by rw [List.map_append,List.map_append];rfl,trivial⟩ rfl,by omega⟩
 refine loop_i2 (fun (i:Nat) (es:List ExpD)=>i≤4∧es.length≤i∧(∀e∈es,0≤e.cand∧e.cand<i∧1≤e.cen∧e.cen≤2∧0≤e.var∧e.var<ps.length)∧es.Pairwise fun a b=>a.cand<b.cand) (fun i es=>mkSt [(0, .tape),(1, .int .i64 0),(4, .ptr 4 0),(5, .ptr 5 0),(10, .int .i64 i)] [(4,[.int .i64 0, .nil, .nil, .nil]),(5,[.int .i64 num, .own 900 70 3 (ps.map (encPap num)), .own 901 72 1 (bs.map encBk), .own 902 85 3 (es.map encE)])] true) (fun i _=>4-i) 0 [] ⟨by decide,by simp,by simp, .nil⟩ ((le_adoptBox 5 3 902 85 3 rfl rfl).trans (le_mk ⟨rfl,rfl,rfl,rfl,rfl,trivial⟩ ⟨rfl,rfl,trivial⟩ rfl)) ?_
 rintro i es ⟨hi,hel,hes,has⟩
 have LE:(es.map encE).length=es.length:=List.length_map ..
 (conv=>whnf);(repeat' (first|(refine arith_i ⟨by omega,by omega⟩ ?_;conv=>whnf)|(refine need_o ?_;conv=>whnf)|((with_reducible refine branch_ff ?_);conv=>whnf)|(((refine call_i (range_ok _ _ (by omega) (by omega)) fun r hr=>?_;obtain ⟨m1,rfl, -,h6⟩:=hr;have hr1:=h6 (by omega)));conv=>whnf)|(((refine call_i (next_ok 4 (by omega)) fun r hr=>?_;obtain ⟨m4,rfl, -,h6⟩:=hr;have hm4:=h6 (by omega)));conv=>whnf)|(((refine call_i (next_ok _ (by omega)) fun r hr=>?_;obtain ⟨m2,rfl, -,h6⟩:=hr;have hm2:=h6 (by omega)));conv=>whnf)|(refine draw_i 14 plT00_3 (by decide+kernel) ?_;(conv=>whnf);fail_if_success (guard_target=~ False))|((with_reducible refine And.intro ?_ ?_)<;>(conv=>whnf))|(with_reducible exact trivial)|((with_reducible refine branch_d (fun hq=>?_) (fun hq=>?_))<;>(try (exfalso;omega))<;>(conv=>whnf))))
 ·refine ⟨i+1,es++[⟨i,m1,m2⟩],⟨by omega,by simp;omega,fun e he=>?_,?_⟩,le_mk ⟨rfl,rfl,rfl,rfl,rfl,trivial⟩ ⟨rfl,by rw [List.map_append];rfl,trivial⟩ rfl,by omega⟩
  ·rcases List.mem_append.1 he with he|he
   ·have:=hes e he;omega
   ·rw [List.mem_singleton.1 he]
    refine ⟨?_,?_,?_,?_,?_,?_⟩<;>dsimp only<;>omega
  ·rw [List.pairwise_append]
   exact ⟨has,List.pairwise_singleton ..,fun a ha b hb=>by rw [List.mem_singleton.1 hb];exact (hes a ha).2.1⟩
 ·exact ⟨i+1,es,⟨by omega,by omega,fun e he=>by have:=hes e he;omega,has⟩,le_q,by omega⟩
 ·refine ret_a (cs':=sitC ⟨num,ps,bs,es⟩) ⟨rc_p rfl,rc_o,rc_o,rc_o,trivial⟩ ⟨⟨num,ps,bs,es⟩,rfl,⟨by dsimp only;omega,hV,by dsimp only;omega,fun e he=>by have:=hes e he;dsimp only;omega,has⟩⟩
def insI (xs:List Int) (m:Nat) (x:Int):List Int:=xs.take m++x::xs.drop m
theorem ins_ok {xs:List Int} {m:Nat} {x:Int}:(((xs.map encI).take m).drop (Int.toNat 0)++[[.int .i64 x]])++(((xs.map encI).take (((xs.map encI).length:Int)).toNat).drop m)=(insI xs m x).map encI:=by
 rw [Int.toNat_natCast,List.take_of_length_le (Nat.le_refl _)]
 simp [encI,insI]
theorem ins_perm {xs:List Int} {m:Nat} {x:Int}:(insI xs m x).Perm (x::xs):=by
 have:=List.perm_middle (a:=x) (l₁:=xs.take m) (l₂:=xs.drop m)
 rwa [List.take_append_drop] at this
theorem order_ok (n:Int) (hn:0≤n∧n≤1000):Good Tryz.prog TT true 62 [.tape, .int .i64 n] (fun r=>∃xs:List Int,r= .own 0 3 1 (xs.map encI)∧xs.Perm (upI n.toNat)):=by
 refine good_of mixed tabOk Tryz.func62 rfl rfl Tryz.ntmps62 Tryz.results62 rfl rfl ?_
 (conv=>whnf)
 refine loop_i2 (fun (i:Nat) (xs:List Int)=>(i:Int)≤n∧xs.Perm (upI i)) (fun i xs=>mkSt [(0, .tape),(1, .int .i64 n),(5, .own 22 3 1 (xs.map encI)),(6, .int .i64 i)] [] true) (fun i _=>n.toNat-i) 0 [] ⟨by omega, .nil⟩ ((le_adopt 5 22 3 1 rfl).trans le_q) ?_
 rintro i xs ⟨hi,hp⟩
 have hlen:xs.length=i:=by rw [hp.length_eq,upI_len]
 have LX:(xs.map encI).length=xs.length:=List.length_map ..
 (conv=>whnf);(repeat' (first|(refine arith_i ⟨by omega,by omega⟩ ?_;conv=>whnf)|(((refine call_i (next_ok _ (by omega)) fun r hr=>?_;obtain ⟨m2,rfl, -,h6⟩:=hr;have hm2:=h6 (by omega)));conv=>whnf)|((refine sub_i (by omega) ?_);conv=>whnf)|((refine need_i (by simp only [List.length_append,List.length_take,List.length_drop,List.length_map,List.length_cons,List.length_nil];omega) ?_);conv=>whnf)|((with_reducible refine slc_e ?_);conv=>whnf)|((with_reducible refine branch_d (fun hq=>?_) (fun hq=>?_))<;>(try (exfalso;omega))<;>(conv=>whnf))))
 ·refine ⟨i+1,insI xs m2.toNat i,⟨by omega,?_⟩,le_mk ⟨rfl,rfl,own_eq ins_ok,rfl,trivial⟩ trivial rfl,by omega⟩
  rw [upI_succ]
  exact ins_perm.trans ((List.Perm.cons _ hp).trans (List.perm_append_comm (l₁:=[(i:Int)])))
 ·exact ret_o ⟨xs,rfl,by rw [show n.toNat=i by omega];exact hp⟩
structure MixOk (n:Nat) (xs:List Int):Prop where
 all:∀k:Nat,k<n→(k:Int)∈xs
 sub:∀x∈xs,0≤x∧x<n
 len:xs.length≤n+3
set_option maxHeartbeats 1000000 in
theorem mixed_ok (n:Int) (hn:0≤n∧n≤1000):Good Tryz.prog TT true 31 [.tape, .int .i64 n] (fun r=>∃xs:List Int,r= .own 0 3 1 (xs.map encI)∧MixOk n.toNat xs):=by
 refine good_of mixed tabOk Tryz.func31 rfl rfl Tryz.ntmps31 Tryz.results31 rfl rfl ?_
 (conv=>whnf);(repeat' (first|(((refine call_i (order_ok n hn) fun r hr=>?_;obtain ⟨xs0,rfl,hp⟩:=hr));conv=>whnf)|(((refine call_i (next_ok _ (by omega)) fun r hr=>?_;obtain ⟨m0,rfl, -,h6⟩:=hr;have hm0:=h6 (by omega)));conv=>whnf)|fail))
 have hlen0:xs0.length=n.toNat:=by rw [hp.length_eq,upI_len]
 refine loop_i3 (fun (i:Nat) (xs:List Int) (b:Bool)=>i≤3∧n.toNat+i≤xs.length+3∧xs.length+i≤n.toNat+3∧(∀k:Nat,k<n.toNat→(k:Int)∈xs)∧∀x∈xs,0≤x∧x<n.toNat) (fun i xs b=>mkSt [(0, .tape),(1, .int .i64 n),(5, .own (Tg.s (bif b then 35 else 12)) 3 1 (xs.map encI)),(6, .int .i64 i)] [] true) (fun i _ _=>i) m0.toNat xs0 false ⟨by omega,by omega,by omega,fun k hk=>(hp.mem_iff).2 (List.mem_map.2 ⟨k,List.mem_range.2 hk,rfl⟩),fun x hx=>upI_mem ((hp.mem_iff).1 hx)⟩ (le_mk ⟨rfl,rfl,rfl,int_eq (by omega),trivial⟩ trivial rfl) ?_
 rintro i xs b ⟨hi,hl1,hl2,hall,hsub⟩
 have LX:(xs.map encI).length=xs.length:=List.length_map ..
 cases b
 all_goals
  (conv=>whnf);(repeat' (first|(refine arith_i ⟨by omega,by omega⟩ ?_;conv=>whnf)|((with_reducible first|refine branch_tt ?_|refine branch_ff ?_);conv=>whnf)|(((refine call_i (next_ok n (by omega)) fun r hr=>?_;obtain ⟨m3,rfl, -,h6⟩:=hr;have hm3:=h6 (by omega)));conv=>whnf)|(((refine call_i (next_ok _ (by omega)) fun r hr=>?_;obtain ⟨m2,rfl, -,h6⟩:=hr;have hm2:=h6 (by omega)));conv=>whnf)|((refine sub_i (by omega) ?_);conv=>whnf)|((refine need_i (by simp only [List.length_append,List.length_take,List.length_drop,List.length_map,List.length_cons,List.length_nil];omega) ?_);conv=>whnf)|((with_reducible refine slc_e ?_);conv=>whnf)|((with_reducible refine branch_d (fun hq=>?_) (fun hq=>?_))<;>(try (exfalso;omega))<;>(conv=>whnf))))
  ·have hip:=ins_perm (xs:=xs) (m:=m2.toNat) (x:=m3)
   have hil:=hip.length_eq
   rw [List.length_cons] at hil
   refine ⟨i-1,insI xs m2.toNat m3,true,⟨by omega,by omega,by omega,fun k hk=>hip.mem_iff.2 (List.mem_cons_of_mem _ (hall k hk)),fun x hx=>?_⟩,le_mk ⟨rfl,rfl,own_eq ins_ok,int_eq (by omega),trivial⟩ trivial rfl,by omega⟩
   rcases List.mem_cons.1 (hip.mem_iff.1 hx) with rfl|hx
   ·omega
   ·exact hsub x hx
  all_goals exact ret_o ⟨xs,rfl,hall,hsub,by omega⟩
end Go.Proofs.YtihjphblcohdeaaGreatDoor
namespace Go.Proofs.YtihjphblcohdeaaGreatDoor
set_option maxRecDepth 10000
open Go.RowKit
open F32
structure LabD where
 paper:Int
 cand:Int
 page:Int
 var:Int
def encLb (l:LabD):List AV:=[.int .i64 l.paper, .int .i64 l.cand, .int .i64 l.page, .int .i64 l.var]
structure LabOk (l:LabD):Prop where
 paper:0≤l.paper∧l.paper<32
 cand:0≤l.cand∧l.cand≤9999
 page:0≤l.page∧l.page<32
 var:0≤l.var∧l.var<32
def gOf (n:Int):G:=⟨n.toNat % 32,Nat.mod_lt _ (by decide)⟩
theorem gI_gOf {n:Int} (h:0≤n∧n<32):gI (gOf n)=n:=by
 show ((n.toNat % 32:Nat):Int)=n
 omega
def labG (l:LabD):List G:=[gOf l.paper,gOf (l.cand / 1024),gOf (l.cand / 32 % 32),gOf (l.cand % 32),gOf l.page,gOf l.var]
theorem isSymbol_ok (n:Int):Good Tryz.prog TT false 170 [.int .i64 n] (· = .bool (decide (0≤n∧n<32))):=by
 refine good_of mixed tabOk Tryz.func170 rfl rfl Tryz.ntmps170 Tryz.results170 rfl rfl ?_
 (conv=>whnf);(repeat' (first|((with_reducible first|refine branch_tt ?_|refine branch_ff ?_);conv=>whnf)|((with_reducible refine branch_d (fun hq=>?_) (fun hq=>?_))<;>(try (exfalso;omega))<;>(conv=>whnf))))
 all_goals first
  |exact ret_p rfl (bool_eq (by symm;exact decide_eq_true (by omega)))
  |exact ret_p rfl (bool_eq (by symm;exact decide_eq_false (by omega)))
  |(refine ret_p rfl (bool_eq ?_);rw [Bool.eq_iff_iff];simp only [decide_eq_true_eq];omega)
  |trace_state
theorem labValid_ok (l:LabD) (h:LabOk l):Good Tryz.prog TT false 136 [.agg (encLb l)] (· = .bool true):=by
 have h1:=h.paper
 have h2:=h.cand
 have h3:=h.page
 have h4:=h.var
 refine good_of mixed tabOk Tryz.func136 rfl rfl Tryz.ntmps136 Tryz.results136 rfl rfl ?_
 (conv=>whnf);(repeat' (first|((with_reducible refine branch_tt ?_);conv=>whnf)|((refine call_e ((isSymbol_ok _).mono fun r hr=>hr.trans (bool_eq (b:=true) (decide_eq_true (by omega)))) ?_);conv=>whnf)|((with_reducible refine branch_d (fun hq=>?_) (fun hq=>?_))<;>(try (exfalso;omega))<;>(conv=>whnf))))
 all_goals exact ret_p rfl (bool_eq (by first|rfl|exact decide_eq_true (by omega)))
theorem symbols_ok (l:LabD) (h:LabOk l):Good Tryz.prog TT false 91 [.agg (encLb l)] (· = .tup [.lst 1 ((labG l).map encG), .int .i64 0]):=by
 have h1:=h.paper
 have h2:=h.cand
 have h3:=h.page
 have h4:=h.var
 have t1:l.cand.tdiv 1024=l.cand / 1024:=Int.tdiv_eq_ediv_of_nonneg h2.1
 have t2:(l.cand.tdiv 32).tmod 32=l.cand / 32 % 32:=by rw [Int.tdiv_eq_ediv_of_nonneg h2.1,Int.tmod_eq_emod_of_nonneg (by omega)]
 have t3:l.cand.tmod 32=l.cand % 32:=Int.tmod_eq_emod_of_nonneg h2.1
 have t4:l.cand.tdiv 32=l.cand / 32:=Int.tdiv_eq_ediv_of_nonneg h2.1
 have b1:0≤l.cand.tdiv 1024∧l.cand.tdiv 1024<32:=by rw [t1];omega
 have b2:0≤(l.cand.tdiv 32).tmod 32∧(l.cand.tdiv 32).tmod 32<32:=by rw [t2];omega
 have b3:0≤l.cand.tmod 32∧l.cand.tmod 32<32:=by rw [t3];omega
 have b4:0≤l.cand.tdiv 32∧l.cand.tdiv 32<1000:=by rw [t4];omega
 refine good_of mixed tabOk Tryz.func91 rfl rfl Tryz.ntmps91 Tryz.results91 rfl rfl ?_
 (conv=>whnf);(repeat' (first|(refine arith_i ⟨by omega,by omega⟩ ?_;conv=>whnf)|(refine need_o ?_;conv=>whnf)|((with_reducible refine branch_tt ?_);conv=>whnf)|(with_reducible refine branch_not ?_)|((refine call_e (labValid_ok l h) ?_);conv=>whnf)|fail))
 refine ret_t (rs:=[.lst 1 ((labG l).map encG), .int .i64 0]) ⟨.inl (rc_o' ?_), .inl (rc_p rfl),trivial⟩ rfl
 rw [t1,t2,t3,labG]
 simp only [List.map_cons,List.map_nil,encG]
 rw [gI_gOf h1,gI_gOf (n:=l.cand / 1024) (by omega),gI_gOf (n:=l.cand / 32 % 32) (by omega),gI_gOf (n:=l.cand % 32) (by omega),gI_gOf h3,gI_gOf h4]
def bitG (g:G) (b:Nat):UInt8:=if g.1.testBit (4-b) then 49 else 48
def bitsG (g:G):List UInt8:=(List.range 5).map (bitG g)
def stripL (cw:List G):List UInt8:=List.replicate 7 49++cw.flatMap bitsG++List.replicate 7 48
theorem sym_calls (l:LabD) (h:LabOk l) (W:World) (hgl:GlobAt W No none):Calls Tryz.prog 91 #[.agg #[.int .i64 l.paper, .int .i64 l.cand, .int .i64 l.page, .int .i64 l.var]] W fun e w'=>∃A c,e= .returned (.tuple #[.slice A 6 c, .int .i64 0])∧Chg No W w'∧Ints w' No A 6 c ((labG l).map gI):=by
 refine ((symbols_ok l h).2 W No none [.agg #[.int .i64 l.paper, .int .i64 l.cand, .int .i64 l.page, .int .i64 l.var]] (none,0,0) (fun b hb=>absurd hb no_) hgl rfl ⟨⟨[_,_,_,_],rfl,RepV.int _ _,RepV.int _ _,RepV.int _ _,RepV.int _ _,trivial⟩,trivial⟩ nofun).mono ?_
 rintro e w' ⟨u,r,rfl,rfl,⟨us,rfl,hr⟩,hc, -⟩
 obtain ⟨u1,us1,rfl,k1,k2⟩:=hr.cons_inv
 obtain ⟨u2,us2,rfl,k3,k4⟩:=k2.cons_inv
 obtain rfl:=k4.nil_inv
 have k1':RepV w' (GX (G0 none No (none,0,0))) (ints ((labG l).map gI)) u1:=by
  have:(labG l).map encG=((labG l).map gI).map encI:=by rw [List.map_map];rfl
  rw [this] at k1;exact k1
 obtain ⟨A,c,rfl,hI⟩:=rep_ints k1'
 have k3':RepV w' (GX (G0 none No (none,0,0))) (.int .i64 0) u2:=k3
 cases k3'
 exact ⟨A,c,rfl,hc.down.mono (fun b _ hb=>by cases hb),hI.move _ (fun b _ _=>rfl) (fun b _ hb=>absurd hb no_)⟩
theorem enc_calls (d:List G) (hd:d.length=6) (hl:(encW d).length=12) (W:World) (hgl:GlobAt W No none) (A:Option Addr) (c:Nat) (hI:Ints W No A 6 c (d.map gI)):Calls Tryz.prog 92 #[.slice A 6 c] W fun e w'=>∃A c,e= .returned (.tuple #[.slice A 12 c, .int .i64 0])∧Chg No W w'∧Ints w' No A 12 c ((encW d).map gI):=by
 have hrep:RepV W (GX (G0 none No (none,0,0))) (.lst 1 (d.map encG)) (.slice A 6 c):=by
  have:d.map encG=(d.map gI).map encI:=by rw [List.map_map];rfl
  rw [this]
  exact ints_rep (hI.move _ (fun b _ _=>rfl) (fun b hb he=>by rcases he with he|he<;>simp_all [GM,G0,No]))
 refine ((encode_ok d hd).2 W No none [.slice A 6 c] (none,0,0) (fun b hb=>absurd hb no_) hgl rfl ⟨hrep,trivial⟩ nofun).mono ?_
 rintro e w' ⟨u,r,rfl,rfl,⟨us,rfl,hr⟩,hc, -⟩
 obtain ⟨u1,us1,rfl,k1,k2⟩:=hr.cons_inv
 obtain ⟨u2,us2,rfl,k3,k4⟩:=k2.cons_inv
 obtain rfl:=k4.nil_inv
 have k1':RepV w' (GX (G0 none No (none,0,0))) (ints ((encW d).map gI)) u1:=by
  have:(encW d).map encG=((encW d).map gI).map encI:=by rw [List.map_map];rfl
  rw [this] at k1;exact k1
 obtain ⟨A,c,rfl,hI⟩:=rep_ints k1'
 rw [List.length_map,hl] at hI ⊢
 have k3':RepV w' (GX (G0 none No (none,0,0))) (.int .i64 0) u2:=k3
 cases k3'
 exact ⟨A,c,rfl,hc.down.mono (fun b _ hb=>by cases hb),hI.move _ (fun b _ _=>rfl) (fun b _ hb=>absurd hb no_)⟩
theorem glob_chg {w W:World} (h:GlobAt w No none) (c:Chg No w W):GlobAt W No none:=fun g xs hx=>by
 obtain ⟨h1,h2,h3,h4⟩:=h g xs hx
 exact ⟨Nat.lt_of_lt_of_le h1 c.size,h2,h3,fun j x hj=>(c.cell h1 no_).trans (h4 j x hj)⟩
theorem encW_len {d:List G} (h:d.length=6):(encW d).length=12:=by simp [encW,h]
theorem builder_stay {T e:TypeId} {B b:Nat} {bs:List Value} {w w':World} (h:Lib.IsBuilderF T e B b bs w) (hb:Below w.heap.size w w'):Lib.IsBuilderF T e B b bs w':=by
 have hg:w.grownBy w' none:=⟨hb.os,hb.tape,hb.output,hb.size,fun k hk _=>hb.block k hk⟩
 have key:∀p,Lib.BuilderAtF T e B b p bs w→Lib.BuilderAtF T e B b p bs w':=fun p ⟨h1,v,h2,h3,h4⟩=>by
  have hlt:b<w.heap.size:=(Array.getElem?_eq_some_iff.1 h2).1
  refine ⟨h1,v,(hb.block b hlt).trans h2,h3.kept hg ?_,h4⟩
  cases hv:v.ownBlock with
  |none=>exact .inl rfl
  |some k=>exact .inr nofun
 exact h.imp (key _) (key _)
theorem bits_at (g:G) (j:Nat) (hj:j<5):(bitsG g).take (j+1)=(bitsG g).take j++[bitG g j]:=by
 rw [List.take_add_one]
 congr 1
 simp [bitsG,hj]
theorem bit_val:∀(g:_root_.Fin 32) (j:_root_.Fin 5),(48+bits BinOp.and IntKind.i64 (gI g / 2 ^ (4-j.val)) 1) % 256=((bitG g j.val).toNat:Int):=by decide+kernel
set_option maxHeartbeats 4000000 in
set_option maxRecDepth 1000000 in
theorem draw_walk (l:LabD) (h:LabOk l) (w:World) (hgl:GlobAt w No none):Calls Tryz.prog 53 #[.agg #[.int .i64 l.paper, .int .i64 l.cand, .int .i64 l.page, .int .i64 l.var]] w fun e w'=>e= .returned (.tuple #[.string ⟨(stripL (encW (labG l))).toArray⟩, .int .i64 0])∧Below w.heap.size w w':=by
 have hS:=fun W hg=>sym_calls l h W hg
 have hE:=fun W hg A c hI=>enc_calls (labG l) rfl (encW_len rfl) W hg A c hI
 have hwl:(encW (labG l)).length=12:=encW_len rfl
 generalize encW (labG l)=cw at hE hwl ⊢
 have hR1:∀W,Calls Tryz.prog 94 #[.string ⟨#[49]⟩, .int .i64 7] W fun e w'=>e= .returned (.string ⟨#[49,49,49,49,49,49,49]⟩)∧Below W.heap.size W w':=fun W=>Any.strings_Repeat_main laysRep extraRep ⟨#[49]⟩ 7 W (by decide) (by decide) (by decide) (by decide)
 have hR0:∀W,Calls Tryz.prog 94 #[.string ⟨#[48]⟩, .int .i64 7] W fun e w'=>e= .returned (.string ⟨#[48,48,48,48,48,48,48]⟩)∧Below W.heap.size W w':=fun W=>Any.strings_Repeat_main laysRep extraRep ⟨#[48]⟩ 7 W (by decide) (by decide) (by decide) (by decide)
 have hWB:∀(B:Nat) (bs:List Value) (c:Int) (W:World),Lib.IsBuilderF 174 5 B B bs W→bs.length+1≤140737488355328→B≤W.heap.size→Calls Tryz.prog 95 #[.pointer (some ⟨B,0,none⟩), .int .u8 c] W fun e w'=>e= .returned .nilIface∧Lib.IsBuilderF 174 5 B B (bs++[.int .u8 c]) w'∧Below B W w':=
  fun B bs c W h1 h2 h3=>(Any.Builder_WriteByte_k laysWB extraWB B B bs c W h1 h2 h3).mono fun e w' h=>⟨h.1, .inr h.2.1,h.2.2.1⟩
 have hWS:∀(B:Nat) (l:List UInt8) (s:ByteArray) (W:World),Lib.IsBuilderF 174 5 B B (Lib.byteCells l) W→l.length≤1000→s.size≤1000→B≤W.heap.size→Calls Tryz.prog 93 #[.pointer (some ⟨B,0,none⟩), .string s] W fun e w'=>e= .returned (.tuple #[.int .i64 s.size, .nilIface])∧Lib.IsBuilderF 174 5 B B (Lib.byteCells (l++s.data.toList)) w'∧Below B W w':=
  fun B l s W h1 h2 h3 h4=>(Any.Builder_WriteString_k laysWS extraWS B B (Lib.byteCells l) s W h1 (by simp [Lib.byteCells];omega) h4).mono fun e w' h=>⟨h.1, .inr (by rw [Lib.byteCells_append];exact h.2.1),h.2.2.1⟩
 have hBS:∀(B:Nat) (l:List UInt8) (W:World),Lib.IsBuilderF 174 5 B B (Lib.byteCells l) W→B≤W.heap.size→Calls Tryz.prog 96 #[.pointer (some ⟨B,0,none⟩)] W fun e w'=>e= .returned (.string ⟨l.toArray⟩)∧Below B W w':=
  fun B l W h1 h2=>(Any.Builder_String_any_k laysBS extraBS B B l W h1 h2).mono fun e w' h=>⟨h.1,h.2.2.1⟩
 go_enter Tryz.func53,Tryz.ntmps53
 go_wp2_with (go_at_call 91;refine (hS _ (glob_chg hgl ((Chg.refl _ w).alloc _))).mono ?_)
 rintro e W1 ⟨A,c,rfl,c1,I1⟩
 go_wp2_with (go_at_call 92;refine (hE W1 (glob_chg (glob_chg hgl ((Chg.refl _ w).alloc _)) c1) A c I1).mono ?_)
 rintro e W2 ⟨A2,c2,rfl,c3,I2⟩
 have hsz:w.heap.size≤W2.heap.size:=(((Chg.refl No w).alloc _).trans (c1.trans c3)).size
 have hbw:Below w.heap.size w W2:=(((Chg.refl No w).alloc _).trans (c1.trans c3)).below
 obtain ⟨wb,off,rfl,hwb, -,hcell⟩:=I2.int_at (by decide)
 have hfresh:=Lib.fresh_isBuilder 174 5 W2
 go_wp2_with (go_at_call 94;refine (hR1 _).mono ?_)
 rintro e W3 ⟨rfl,b3⟩
 have hI3:Lib.IsBuilderF 174 5 W2.heap.size W2.heap.size (Lib.byteCells []) W3:=by
  refine .inl ⟨Nat.le_refl _, .slice none 0 0,?_,World.ownsRowF_of (World.ownsRow_nil _ _ _ _),nofun⟩
  rw [b3.block _ (by simp)]
  exact heap_alloc_new W2 _
 have hb3:Below W2.heap.size W2 W3:=((Below.refl _ W2).alloc (Nat.le_refl _) _).trans (b3.mono (by simp))
 go_wp2_with (go_at_call 93;refine (hWS W2.heap.size [] _ W3 hI3 (by decide) (by decide) hb3.size).mono ?_)
 rintro e W4 rfl hI4 b4
 have hb4:=hb3.trans b4
 have hwl31:∀i,((cw.take i).flatMap bitsG).length≤900:=fun i=>by
  have:∀l:List G,(l.flatMap bitsG).length=5 * l.length:=fun l=>by
   induction l with
   |nil=>rfl
   |cons x l ih=>rw [List.flatMap_cons,List.length_append,ih,List.length_cons];simp [bitsG];omega
  rw [this,List.length_take];omega
 go_wp2
 go_loopw [31] (fun v wr=>∃i:Nat,i≤12∧v= .int .i64 i∧Lib.IsBuilderF 174 5 W2.heap.size W2.heap.size (Lib.byteCells (List.replicate 7 49++(cw.take i).flatMap bitsG)) wr∧Below W2.heap.size W2 wr) (fun v _=>12-(Lib.intOf v).toNat)
 case atStart=>exact ⟨0,by decide,rfl,hI4,hb4⟩
 case round=>
  obtain ⟨i,hi,rfl,hI,hb⟩:=hrel
  rcases Nat.lt_or_ge i 12 with hlt|hge
  ·obtain ⟨g,hg⟩:∃g,cw[i]? =some g:=⟨_,List.getElem?_eq_getElem (by omega)⟩
   have hck:wr.cell? ⟨wb,off+i,none⟩=some (.int .i64 (gI g)):=by
    rw [hb.cell hwb,hcell i hlt]
    congr 2
    simp [nth,List.getD_eq_getElem?_getD,hg]
   go_wp2
   obtain ⟨wo,rfl⟩:∃wo:World,wo=wr:=⟨_,rfl⟩
   go_loopw [35] (fun v wr=>∃j:Nat,j≤5∧v= .int .i64 j∧Lib.IsBuilderF 174 5 W2.heap.size W2.heap.size (Lib.byteCells (List.replicate 7 49++(cw.take i).flatMap bitsG++(bitsG g).take j)) wr∧Below W2.heap.size W2 wr) (fun v _=>5-(Lib.intOf v).toNat)
   case atStart=>exact ⟨0,by decide,rfl,by simpa using hI,hb⟩
   case round=>
    obtain ⟨j,hj,rfl,hJ,hbj⟩:=hrel
    rcases Nat.lt_or_ge j 5 with hjl|hjl
    ·have hlen:(Lib.byteCells (List.replicate 7 49++(cw.take i).flatMap bitsG++(bitsG g).take j)).length+1≤140737488355328:=by
      have:=hwl31 i
      simp only [Lib.byteCells,List.length_map,List.length_append,List.length_replicate,List.length_take]
      omega
     go_wp2_with (go_at_call 95;refine (hWB W2.heap.size _ _ wr hJ hlen hbj.size).mono ?_)
     rw [show (48+bits BinOp.and IntKind.i64 (gI g / 2 ^ (4-j)) 1) % 256=((bitG g j).toNat:Int) from bit_val g ⟨j,hjl⟩]
     rintro e W5 ⟨rfl,h5,b5⟩
     go_wp2
     go_roundw
     case rel=>
      have hdec:decide ((i:Int)<12)=true:=decide_eq_true (by omega)
      simp only [hdec]
      (repeat apply Exists.intro)
      refine ⟨⟨j+1,by omega,rfl,?_,hbj.trans b5⟩,rfl⟩
      rw [bits_at g j hjl,←List.append_assoc,Lib.byteCells_append]
      exact h5
     case measure=>
      simp [Lib.intOf]
      omega
    ·obtain rfl:j=5:=by omega
     go_wp2
     refine ⟨⟨i+1,by omega,rfl,?_,hbj⟩,?_⟩
     ·have e1:(cw.take (i+1)).flatMap bitsG=(cw.take i).flatMap bitsG++bitsG g:=by rw [List.take_add_one,hg];simp
      rw [e1,←List.append_assoc]
      have e2:(bitsG g).take 5=bitsG g:=List.take_of_length_le (by simp [bitsG])
      rw [e2] at hJ
      exact hJ
     ·simp only [Lib.intOf]
      omega
  ·obtain rfl:i=12:=by omega
   have hl7:(List.replicate 7 (49:UInt8)++(cw.take 12).flatMap bitsG).length≤1000:=by
    have:=hwl31 12
    rw [List.length_append,List.length_replicate];omega
   go_wp2_with (go_at_call 94;refine (hR0 _).mono ?_)
   rintro e W5 ⟨rfl,b5⟩
   have hI5:=builder_stay hI b5
   have hb5:Below W2.heap.size W2 W5:=hb.trans (b5.mono hb.size)
   go_wp2_with (go_at_call 93;refine (hWS W2.heap.size _ _ W5 hI5 hl7 (by decide) hb5.size).mono ?_)
   rintro e W6 rfl hI6 b6
   have hcw:cw.take 12=cw:=List.take_of_length_le (by omega)
   have hI6':Lib.IsBuilderF 174 5 W2.heap.size W2.heap.size (Lib.byteCells (stripL cw)) W6:=by
    rw [hcw] at hI6
    exact hI6
   go_wp2_with (go_at_call 96;refine (hBS W2.heap.size (stripL cw) W6 hI6' (hb5.trans b6).size).mono ?_)
   rintro e W7 ⟨rfl,b7⟩
   go_wp2
   go_ret2
   exact ⟨rfl,hbw.trans ((hb5.trans (b6.trans b7)).mono hsz)⟩
theorem draw_ok (l:LabD) (h:LabOk l):Good Tryz.prog TT false 53 [.agg (encLb l)] (· = .tup [.str ⟨(stripL (encW (labG l))).toArray⟩, .int .i64 0]):=by
 refine ⟨enters_of Tryz.func53 rfl rfl,fun w X tp us hd hX hgl htp hA hta=>?_⟩
 obtain ⟨u,us,rfl,⟨vs,rfl,h1⟩,h2⟩:=hA.cons_inv
 obtain rfl:=h2.nil_inv
 obtain ⟨u1,v1,rfl,k1,h1⟩:=h1.cons_inv
 obtain ⟨u2,v2,rfl,k2,h1⟩:=h1.cons_inv
 obtain ⟨u3,v3,rfl,k3,h1⟩:=h1.cons_inv
 obtain ⟨u4,v4,rfl,k4,h1⟩:=h1.cons_inv
 obtain rfl:=h1.nil_inv
 have htp':tp=none:=Option.not_isSome_iff_eq_none.1 (by rw [htp];nofun)
 subst htp'
 rw [arg_int (show RA w.heap.size (G0 none X hd) w _ u1 from k1),arg_int (show RA w.heap.size (G0 none X hd) w _ u2 from k2),arg_int (show RA w.heap.size (G0 none X hd) w _ u3 from k3),arg_int (show RA w.heap.size (G0 none X hd) w _ u4 from k4)]
 refine (draw_walk l h w (fun g xs hx=>by obtain ⟨a,b,c,d⟩:=hgl g xs hx;exact ⟨a,no_,c,d⟩)).mono ?_
 rintro e w' ⟨rfl,hb⟩
 exact ⟨_, .tup [.str ⟨(stripL (encW (labG l))).toArray⟩, .int .i64 0],rfl,rfl,⟨[_,_],rfl,RepV.str _,RepV.int _ _,trivial⟩,ChgQ.up ((Chg.of_below hb rfl).mono fun b _ h=>h.elim) tt_q,nofun⟩
def bt (ds:List UInt8):ByteArray:=⟨ds.toArray⟩
theorem bt_size (ds:List UInt8):(bt ds).size=ds.length:=by simp [bt,ByteArray.size]
theorem bt_at (ds:List UInt8) (i:Nat):(bt ds)[i]? =ds[i]? :=by
 by_cases h:i<ds.length
 ·rw [List.getElem?_eq_getElem h,getElem?_pos (bt ds) i (by rw [bt_size];exact h)]
  rfl
 ·rw [List.getElem?_eq_none (by omega),getElem?_neg (bt ds) i (by rw [bt_size];exact h)]
theorem bt_sub (ds:List UInt8) (lo hi:Nat):((bt ds).extract lo hi).data.toList=(ds.take hi).drop lo:=by
 rw [ByteArray.data_extract]
 simp [bt,List.extract_eq_take_drop,List.drop_take]
theorem byte_c {ds:List UInt8} {i:Nat} {x:UInt8} {n:Int} {K:Int→Prop} (hn:n=i) (h:ds[i]? =some x) (k:K x.toNat):byteAt (bt ds) n K:=by
 subst hn
 exact byte_i (by omega) (by rw [Int.toNat_natCast,bt_at];exact h) k
structure Mods (ds:List UInt8):Prop where
 len:ds.length=74
 all:∀x∈ds,x=48∨x=49∨x=63
theorem Mods.rev {ds:List UInt8} (h:Mods ds):Mods ds.reverse:=⟨by rw [List.length_reverse];exact h.len,fun x hx=>h.all x (List.mem_reverse.1 hx)⟩
theorem isStrip_ok (ds:List UInt8) (h:Mods ds):Good Tryz.prog TT false 150 [.str (bt ds)] (· = .bool true):=by
 have hl:=h.len
 have hs:=bt_size ds
 refine good_of mixed tabOk Tryz.func150 rfl rfl Tryz.ntmps150 Tryz.results150 rfl rfl ?_
 (conv=>whnf);(repeat' (first|((with_reducible refine branch_n (fun hq=>?_) (fun hq=>?_))<;>(try (exfalso;omega))<;>(conv=>whnf))))
 refine loop_i (fun i:Nat=>i≤74) (fun i=>mkSt [(0, .str (bt ds)),(7, .int .i64 i)] [] false) (fun i=>74-i) 0 (by decide) le_q ?_
 intro i hi
 rcases Nat.lt_or_ge i 74 with hil|hil
 ·obtain ⟨x,hx⟩:∃x,ds[i]? =some x:=⟨_,List.getElem?_eq_getElem (by omega)⟩
  have hx3:=h.all x (List.mem_of_getElem? hx)
  rcases hx3 with rfl|rfl|rfl
  all_goals
   have e8:((48:UInt8).toNat:Int)=48:=rfl
   have e9:((49:UInt8).toNat:Int)=49:=rfl
   have e3:((63:UInt8).toNat:Int)=63:=rfl
   (conv=>whnf);(repeat' (first|(refine arith_i ⟨by omega,by omega⟩ ?_;conv=>whnf)|((with_reducible first|refine branch_tt ?_|refine branch_ff ?_);conv=>whnf)|((refine byte_c (i:=i) rfl hx ?_);conv=>whnf)|((with_reducible refine branch_d (fun hq=>?_) (fun hq=>?_))<;>(try (exfalso;omega))<;>(conv=>whnf))|((with_reducible refine branch_n (fun hq=>?_) (fun hq=>?_))<;>(try (exfalso;omega))<;>(conv=>whnf))))
   all_goals exact ⟨i+1,by omega,le_q,by omega⟩
 ·obtain rfl:i=74:=by omega
  (conv=>whnf);(repeat' (first|((with_reducible refine branch_d (fun hq=>?_) (fun hq=>?_))<;>(try (exfalso;omega))<;>(conv=>whnf))))
  exact ret_p rfl rfl
def val5:List UInt8→Nat
 |[]=>0
 |x::l=>(if x=49 then 2 ^ l.length else 0)+val5 l
theorem val5_snoc {l:List UInt8} {x:UInt8}:val5 (l++[x])=2 * val5 l+(if x=49 then 1 else 0):=by
 induction l with
 |nil=>simp [val5]
 |cons y l ih=>
  rw [List.cons_append,val5,val5,ih,List.length_append,List.length_singleton,Nat.pow_succ]
  split<;>omega
theorem val5_lt {l:List UInt8}:val5 l<2 ^ l.length:=by
 induction l with
 |nil=>simp [val5]
 |cons y l ih=>
  rw [val5,List.length_cons,Nat.pow_succ]
  split<;>omega
def symL (ds:List UInt8) (k:Nat):List UInt8:=(ds.drop (7+5 * k)).take 5
def symF (ds:List UInt8) (k:Nat):Option G:=if 63∈symL ds k then none else some (gOf (val5 (symL ds k)))
def wordF (ds:List UInt8):List (Option G):=(List.range 12).map (symF ds)
theorem symL_at {ds:List UInt8} {k j:Nat} (hj:j<5):(symL ds k)[j]? =ds[7+5 * k+j]? :=by
 rw [symL,List.getElem?_take_of_lt hj,List.getElem?_drop]
theorem symL_len {ds:List UInt8} {k:Nat} (h:ds.length=74) (hk:k<12):(symL ds k).length=5:=by
 rw [symL,List.length_take,List.length_drop];omega
def wdL (ds:List UInt8) (i:Nat) (v:Int):List (List AV):=(List.range 12).map fun k=>[.int .i64 (if k<i then oI (symF ds k) else if k=i then v else 0)]
theorem wdL_at {ds:List UInt8} {i:Nat} {v:Int} (hi:i<12):(wdL ds i v)[i]? =some [.int .i64 v]:=by
 rw [wdL,List.getElem?_map,List.getElem?_range hi];simp
theorem wdL_set {ds:List UInt8} {i:Nat} {v u:Int}:(wdL ds i v).modify (i:Int).toNat (·.set 0 (.int .i64 u))=wdL ds i u:=by
 rw [Int.toNat_natCast]
 apply List.ext_getElem?
 intro k
 rw [List.getElem?_modify]
 by_cases h:k<12
 ·have e:∀v,(wdL ds i v)[k]? =some [.int .i64 (if k<i then oI (symF ds k) else if k=i then v else 0)]:=fun v=>by
   rw [wdL,List.getElem?_map,List.getElem?_range h];rfl
  rw [e,e]
  by_cases hk:i=k
  ·subst hk;simp
  ·simp [hk,Ne.symm hk]
 ·have e:∀v,(wdL ds i v)[k]? =none:=fun v=>List.getElem?_eq_none (by simp [wdL];omega)
  rw [e,e];rfl
theorem wdL_next {ds:List UInt8} {i:Nat}:wdL ds i (oI (symF ds i))=wdL ds (i+1) 0:=by
 refine List.map_congr_left fun k _=>?_
 by_cases h:k<i
 ·rw [if_pos h,if_pos (by omega)]
 ·rw [if_neg h]
  by_cases hk:k=i
  ·subst hk;rw [if_pos rfl,if_pos (by omega)]
  ·rw [if_neg hk,if_neg (by omega),ite_self]
theorem wdL_end {ds:List UInt8} {v:Int}:wdL ds 12 v=((wordF ds).map oI).map fun n=>[.int .i64 n]:=by
 rw [wdL,wordF,List.map_map,List.map_map]
 refine List.map_congr_left fun k hk=>?_
 rw [if_pos (List.mem_range.1 hk)];rfl
theorem idx_cs0 {cs:List (List AV)} {k:Nat} {x:List AV} {K:List AV→Prop} (h1:cs[k]? =some x) (h:K x):idx cs (k:Int) K:=
 idx_i (by omega) (by rw [Int.toNat_natCast];exact h1) h
set_option maxHeartbeats 1000000 in
theorem word_ok (ds:List UInt8) (h:Mods ds):Good Tryz.prog TT false 107 [.str (bt ds)] (· = .tup [ints ((wordF ds).map oI), .int .i64 0]):=by
 have hl:=h.len
 have hs:=bt_size ds
 have e8:((48:UInt8).toNat:Int)=48:=rfl
 have e9:((49:UInt8).toNat:Int)=49:=rfl
 have e3:((63:UInt8).toNat:Int)=63:=rfl
 have LW:∀i v,(wdL ds i v).length=12:=fun i v=>by simp [wdL]
 refine good_of mixed tabOk Tryz.func107 rfl rfl Tryz.ntmps107 Tryz.results107 rfl rfl ?_
 (conv=>whnf);(repeat' (first|(refine need_o ?_;conv=>whnf)|((with_reducible refine branch_tt ?_);conv=>whnf)|(with_reducible refine branch_not ?_)|((refine call_e (isStrip_ok ds h) ?_);conv=>whnf)|fail))
 refine loop_i (fun i:Nat=>i≤12) (fun i=>mkSt [(0, .str (bt ds)),(4, .own 11 3 1 (wdL ds i 0)),(13, .int .i64 12),(14, .int .i64 i)] [] false) (fun i=>12-i) 0 (by decide) (le_mk ⟨rfl,own_eq (by rfl),rfl,rfl,trivial⟩ trivial rfl) ?_
 intro i hi
 rcases Nat.lt_or_ge i 12 with hil|hil
 ·have hL:=symL_len hl hil
  (conv=>whnf);(repeat' (first|((with_reducible refine branch_d (fun hq=>?_) (fun hq=>?_))<;>(try (exfalso;omega))<;>(conv=>whnf))))
  refine loop_i (fun j:Nat=>j≤5∧∀x∈(symL ds i).take j,x=48∨x=49) (fun j=>mkSt [(0, .str (bt ds)),(4, .own 11 3 1 (wdL ds i (val5 ((symL ds i).take j)))),(5, .int .i64 i),(13, .int .i64 12),(14, .int .i64 i),(17, .int .i64 j)] [] false) (fun j=>5-j) 0 ⟨by decide,by simp⟩ le_q ?_
  rintro j ⟨hj,hall⟩
  have hv:=val5_lt (l:=(symL ds i).take j)
  have hvl:((symL ds i).take j).length=j:=by rw [List.length_take,hL];omega
  rw [hvl] at hv
  have hsh:∀n:Int,n=(val5 ((symL ds i).take j):Int) * 2 ^ min (Int.toNat 1) IntKind.i64.bits→ -9223372036854775808≤n∧n≤9223372036854775807:=fun n hn=>by
   have h2:2 ^ j≤2 ^ 5:=Nat.pow_le_pow_right (by decide) hj
   have h3:(2:Int) ^ min (Int.toNat 1) IntKind.i64.bits=2:=by decide
   rw [h3] at hn
   omega
  have h2v:∀x:UInt8,x=48∨x=49→IntKind.i64.wrap ((BitVec.ofInt IntKind.i64.bits ((val5 ((symL ds i).take j):Int) * 2 ^ min (Int.toNat 1) IntKind.i64.bits)|||BitVec.ofInt IntKind.i64.bits ((x.toNat:Int)-48)).toNat:Int)=((2 * val5 ((symL ds i).take j)+(if x=49 then 1 else 0):Nat):Int):=fun x hx=>by
   have h2:2 ^ j≤2 ^ 5:=Nat.pow_le_pow_right (by decide) hj
   have h3:∀(v:_root_.Fin 32) (d:_root_.Fin 2),IntKind.i64.wrap ((BitVec.ofInt IntKind.i64.bits ((v.val:Int) * 2 ^ min (Int.toNat 1) IntKind.i64.bits)|||BitVec.ofInt IntKind.i64.bits (d.val:Int)).toNat:Int)=((2 * v.val+d.val:Nat):Int):=by decide+kernel
   have h4:=h3 ⟨val5 ((symL ds i).take j),by omega⟩
   rcases hx with rfl|rfl
   ·exact h4 0
   ·exact h4 1
  rcases Nat.lt_or_ge j 5 with hjl|hjl
  ·have hx0:(symL ds i)[j]? =ds[7+5 * i+j]? :=symL_at hjl
   obtain ⟨x,hx⟩:∃x,ds[7+5 * i+j]? =some x:=⟨_,List.getElem?_eq_getElem (by omega)⟩
   rw [hx] at hx0
   have hsn:(symL ds i).take (j+1)=(symL ds i).take j++[x]:=by rw [List.take_add_one,hx0];rfl
   have hmem:x∈symL ds i:=List.mem_of_getElem? hx0
   rcases h.all x (List.mem_of_getElem? hx) with rfl|rfl|rfl
   all_goals
    (conv=>whnf);(repeat' (first|(refine arith_i ⟨by omega,by omega⟩ ?_;conv=>whnf)|(refine arith_8 ⟨by omega,by omega⟩ ?_;conv=>whnf)|(refine need_o ?_;conv=>whnf)|((first|refine byte_c (i:=7+5 * i+j) (by omega) hx ?_|refine idx_cs0 (wdL_at hil) ?_|refine arith_i (hsh _ rfl) ?_);conv=>whnf)|((with_reducible refine branch_d (fun hq=>?_) (fun hq=>?_))<;>(try (exfalso;omega))<;>(conv=>whnf))|((with_reducible refine branch_e (fun hq=>?_) (fun hq=>?_))<;>(try (exfalso;omega))<;>(conv=>whnf))))
   iterate 2
    refine ⟨j+1,⟨hjl,fun x hx=>?_⟩,le_mk ⟨rfl,own_eq (wdL_set.trans (congrArg (wdL ds i) ?_)),rfl,rfl,rfl,rfl,trivial⟩ trivial rfl,by omega⟩
    ·rw [hsn] at hx
     rcases List.mem_append.1 hx with h|h
     ·exact hall x h
     ·rw [List.mem_singleton.1 h];decide
    ·rw [hsn,val5_snoc];exact h2v _ (by decide)
   exact ⟨i+1,by omega,le_mk ⟨rfl,own_eq (wdL_set.trans (by rw [←wdL_next,symF,if_pos hmem];rfl)),rfl,rfl,trivial⟩ trivial rfl,by omega⟩
  ·obtain rfl:j=5:=by omega
   have e5:(symL ds i).take 5=symL ds i:=List.take_of_length_le (by omega)
   rw [e5] at hall
   have hF:oI (symF ds i)=(val5 (symL ds i):Int):=by
    rw [symF,if_neg (fun h63=>by rcases hall 63 h63 with h|h<;>cases h)]
    rw [oI,gI_gOf (by rw [e5] at hv;omega)]
   rw [e5]
   (conv=>whnf);(repeat' (first|(refine arith_i ⟨by omega,by omega⟩ ?_;conv=>whnf)|((with_reducible refine branch_d (fun hq=>?_) (fun hq=>?_))<;>(try (exfalso;omega))<;>(conv=>whnf))))
   exact ⟨i+1,by omega,le_mk ⟨rfl,own_eq (by rw [←hF];exact wdL_next),rfl,rfl,trivial⟩ trivial rfl,by omega⟩
 ·obtain rfl:i=12:=by omega
  (conv=>whnf);(repeat' (first|((with_reducible refine branch_d (fun hq=>?_) (fun hq=>?_))<;>(try (exfalso;omega))<;>(conv=>whnf))))
  exact ret_t (rs:=[.lst 1 (((wordF ds).map oI).map encI), .int .i64 0]) ⟨.inl (rc_o' wdL_end), .inl (rc_p rfl),trivial⟩ rfl
end Go.Proofs.YtihjphblcohdeaaGreatDoor
namespace Go.Proofs.YtihjphblcohdeaaGreatDoor
set_option maxRecDepth 10000
open Go.RowKit
def plT19e_0:Plan:=(.take 0 (.take 1 (.take 2 (.take 3 (.take 4 (.take 5 (.take 6 (.take 7 (.take 8 (.take 9 (.take 10 (.take 11 (.take 12 (.take 13 .done))))))))))))))
def plT19e_2:Plan:=(.take 0 (.take 1 (.take 3 (.take 4 (.take 5 (.take 7 (.take 8 (.take 11 (.alt 2 (.alt 6 (.alt 9 (.take 10 (.alt 12 (.take 13 (.take 14 .done)) .stop)) .stop) (.alt 9 (.alt 6 (.take 10 (.alt 12 (.take 13 (.take 14 .done)) .stop)) .stop) .stop)) (.alt 6 (.alt 2 (.alt 9 (.take 10 (.alt 12 (.take 13 (.take 14 .done)) .stop)) .stop) (.alt 9 (.alt 2 (.take 10 (.alt 12 (.take 13 (.take 14 .done)) .stop)) .stop) .stop)) (.alt 9 (.alt 2 (.alt 6 (.take 10 (.alt 12 (.take 13 (.take 14 .done)) .stop)) .stop) (.alt 6 (.alt 2 (.take 10 (.alt 12 (.take 13 (.take 14 .done)) .stop)) .stop) .stop)) .stop)))))))))))
open F32
theorem marked_ok (ds:List UInt8) (h:Mods ds) (c d:UInt8):Good Tryz.prog TT false 151 [.str (bt ds), .str ⟨#[c]⟩, .str ⟨#[d]⟩] (· = .bool (decide (4≤(ds.take 7).count c)&&decide (4≤(ds.drop 67).count d))):=by
 have hl:=h.len
 have hs:=bt_size ds
 have s1:((bt ds).extract (0:Int).toNat (7:Int).toNat).data.toList=ds.take 7:=by rw [bt_sub];rfl
 have s2:∀n:Int,n=74→((bt ds).extract (67:Int).toNat n.toNat).data.toList=ds.drop 67:=fun n hn=>by
  subst hn
  rw [bt_sub,show (74:Int).toNat=74 from rfl,List.take_of_length_le (by omega)];rfl
 refine good_of mixed tabOk Tryz.func151 rfl rfl Tryz.ntmps151 Tryz.results151 rfl rfl ?_
 (conv=>whnf);(repeat' (first|((with_reducible first|refine branch_tt ?_|refine branch_ff ?_);conv=>whnf)|((refine subS_i (by omega) ?_);conv=>whnf)|((refine call_e (countS_ok _ _) ?_);conv=>whnf)|((with_reducible refine branch_d (fun hq=>?_) (fun hq=>?_))<;>(try (exfalso;omega))<;>(conv=>whnf))))
 ·rw [s1] at hq
  exact ret_p rfl (by rw [s2 _ (by omega),decide_eq_true (show 4≤(ds.take 7).count c by omega),Bool.true_and];exact congrArg _ (decide_eq_decide.2 (by omega)))
 ·rw [s1] at hq
  exact ret_p rfl (by rw [decide_eq_false (show ¬ 4≤(ds.take 7).count c by omega),Bool.false_and])
theorem two_counts (l:List UInt8):l.count 49+l.count 48≤l.length:=by
 induction l with
 |nil=>simp
 |cons x l ih=>
  rw [List.count_cons,List.count_cons,List.length_cons]
  by_cases h:x=49
  ·subst h;simp;omega
  ·by_cases h2:x=48
   ·subst h2;simp;omega
   ·simp [h,h2];omega
theorem rev_take {ds:List UInt8} (h:ds.length=74):ds.reverse.take 7=(ds.drop 67).reverse:=by rw [List.take_reverse,h]
theorem rev_drop {ds:List UInt8} (h:ds.length=74):ds.reverse.drop 67=(ds.take 7).reverse:=by rw [List.drop_reverse,h]
structure DamU (cw:List G) (ds:List UInt8):Prop where
 mods:Mods ds
 m1:4≤(ds.take 7).count 49
 m2:4≤(ds.drop 67).count 48
 wd:2 * (erN (wordF ds) cw).length+(erL (wordF ds) 12).length≤6
theorem upright_ok {cw:List G} (ds ds':List UInt8) (h:DamU cw ds) (h':ds'=ds∨ds'=ds.reverse):Good Tryz.prog TT false 106 [.str (bt ds')] (· = .tup [.str (bt ds), .int .i64 0]):=by
 have hm':Mods ds':=by rcases h' with rfl|rfl;exact h.mods;exact h.mods.rev
 refine good_of mixed tabOk Tryz.func106 rfl rfl Tryz.ntmps106 Tryz.results106 rfl rfl ?_
 (conv=>whnf);(repeat' (first|((with_reducible refine branch_tt ?_);conv=>whnf)|(with_reducible refine branch_not ?_)|((refine call_e (isStrip_ok ds' hm') ?_);conv=>whnf)|((refine call_e (marked_ok ds' hm' _ _) ?_);conv=>whnf)|((refine call_e (flip_ok (bt ds') (by rw [bt_size,hm'.len];decide)) ?_);conv=>whnf)|((with_reducible refine branch_i (fun hq=>?_) (fun hq=>?_))<;>(try (exfalso;omega))<;>(conv=>whnf))))
 ·rcases h' with rfl|rfl
  ·exact ret_t (rs:=[.str (bt ds'), .int .i64 0]) ⟨.inl (rc_p rfl), .inl (rc_p rfl),trivial⟩ rfl
  ·exfalso
   rw [rev_take h.mods.len,List.count_reverse,rev_drop h.mods.len,List.count_reverse] at hq
   simp only [Bool.and_eq_true,decide_eq_true_eq] at hq
   have:=two_counts (ds.drop 67)
   have:=h.m2
   rw [List.length_drop,h.mods.len] at *
   omega
 ·rcases h' with rfl|rfl
  ·exfalso
   have h1:=h.m1
   have h2:=h.m2
   simp [h1,h2] at *
  ·exact ret_t (rs:=[.str (bt ds), .int .i64 0]) ⟨.inl (by simp only [bt,List.reverse_reverse];exact rc_p rfl), .inl (rc_p rfl),trivial⟩ rfl
 ·exfalso
  rcases h' with rfl|rfl
  ·have h1:=h.m1
   have h2:=h.m2
   simp [h1,h2] at *
  ·rw [rev_take h.mods.len,List.count_reverse,rev_drop h.mods.len,List.count_reverse] at hq
   have h1:=h.m1
   have h2:=h.m2
   simp [h1,h2] at hq
theorem lab_idx {l:LabD} {k:Nat} {x:G} {K:List AV→Prop} (h:(labG l)[k]? =some x) (k1:K (encG x)):idx (((encW (labG l)).take 6).map encG) (k:Int) K:=
 idx_cs (by rw [encW,List.take_append_of_le_length (by simp [labG]),List.take_of_length_le (by simp [labG])];exact h) k1
set_option maxHeartbeats 1000000 in
theorem read_ok (l:LabD) (hL:LabOk l) (ds ds':List UInt8) (h:DamU (encW (labG l)) ds) (h':ds'=ds∨ds'=ds.reverse):Good Tryz.prog TT false 67 [.str (bt ds')] (· = .tup [.agg (encLb l), .int .i64 (erN (wordF ds) (encW (labG l))).length, .int .i64 0]):=by
 have hc:=hL.cand
 have e0:=gI_gOf hL.paper
 have e1:=gI_gOf (n:=l.cand / 1024) (by omega)
 have e2:=gI_gOf (n:=l.cand / 32 % 32) (by omega)
 have e3:=gI_gOf (n:=l.cand % 32) (by omega)
 have e4:=gI_gOf hL.page
 have e5:=gI_gOf hL.var
 refine good_of mixed tabOk Tryz.func67 rfl rfl Tryz.ntmps67 Tryz.results67 rfl rfl ?_
 (conv=>whnf);(repeat' (first|(refine arith_i ⟨by omega,by omega⟩ ?_;conv=>whnf)|((refine call_e (upright_ok ds ds' h h') ?_);conv=>whnf)|((refine call_e (word_ok ds h.mods) ?_);conv=>whnf)|((refine call_e (decode_ok (wordF ds) (encW (labG l)) (by simp [wordF]) (by simp [encW,labG,horn]) (encode_word _ rfl) h.wd) ?_);conv=>whnf)|((refine lab_idx (k:=1) rfl ?_);conv=>whnf)|((refine lab_idx (k:=2) rfl ?_);conv=>whnf)|((refine lab_idx (k:=3) rfl ?_);conv=>whnf)|((refine lab_idx (k:=0) rfl ?_);conv=>whnf)|((refine lab_idx (k:=4) rfl ?_);conv=>whnf)|((refine lab_idx (k:=5) rfl ?_);conv=>whnf)|(refine draw_i 14 plT19e_0 (by decide+kernel) ?_;(conv=>whnf);fail_if_success (guard_target=~ False))|(refine draw_i 0 plT19e_2 (by decide+kernel) ?_;(conv=>whnf);fail_if_success (guard_target=~ False))|((with_reducible refine And.intro ?_ ?_)<;>(conv=>whnf))|(with_reducible exact trivial)|((with_reducible refine branch_d (fun hq=>?_) (fun hq=>?_))<;>(try (exfalso;omega))<;>(conv=>whnf))|((with_reducible refine branch_n (fun hq=>?_) (fun hq=>?_))<;>(try (exfalso;omega))<;>(conv=>whnf))))
 all_goals
  have e6:(gI (gOf (l.cand / 1024)) * 32+gI (gOf (l.cand / 32 % 32))) * 32+gI (gOf (l.cand % 32))=l.cand:=by omega
  exact ret_t (rs:=[.agg (encLb l), .int .i64 (erN (wordF ds) (encW (labG l))).length, .int .i64 0]) ⟨.inr ⟨_,_,rfl,rfl, .inl ⟨int_eq e0.symm,rfl⟩, .inl ⟨int_eq e6.symm,rfl⟩, .inl ⟨int_eq e4.symm,rfl⟩, .inl ⟨int_eq e5.symm,rfl⟩,trivial⟩, .inl (rc_p rfl), .inl (rc_p rfl),trivial⟩ rfl
theorem isStrip_un:Good Tryz.prog TT false 150 [.str (bt [63])] (· = .bool false):=by
 have hs:(bt [63]).size=1:=rfl
 refine good_of mixed tabOk Tryz.func150 rfl rfl Tryz.ntmps150 Tryz.results150 rfl rfl ?_
 (conv=>whnf);(repeat' (first|((with_reducible refine branch_n (fun hq=>?_) (fun hq=>?_))<;>(try (exfalso;omega))<;>(conv=>whnf))))
 exact ret_p rfl rfl
theorem upright_un:Good Tryz.prog TT false 106 [.str (bt [63])] (· = .tup [.str ⟨#[]⟩, .int .i64 7]):=by
 refine good_of mixed tabOk Tryz.func106 rfl rfl Tryz.ntmps106 Tryz.results106 rfl rfl ?_
 (conv=>whnf);(repeat' (first|((with_reducible refine branch_ff ?_);conv=>whnf)|(with_reducible refine branch_not ?_)|((refine call_e isStrip_un ?_);conv=>whnf)|fail))
 exact ret_t (rs:=[.str ⟨#[]⟩, .int .i64 7]) ⟨.inl (rc_p rfl), .inl (rc_p rfl),trivial⟩ rfl
theorem read_un:Good Tryz.prog TT false 67 [.str (bt [63])] (· = .tup [.agg [.int .i64 0, .int .i64 0, .int .i64 0, .int .i64 0], .int .i64 0, .int .i64 7]):=by
 refine good_of mixed tabOk Tryz.func67 rfl rfl Tryz.ntmps67 Tryz.results67 rfl rfl ?_
 (conv=>whnf);(repeat' (first|((refine call_e upright_un ?_);conv=>whnf)|((with_reducible refine branch_n (fun hq=>?_) (fun hq=>?_))<;>(try (exfalso;omega))<;>(conv=>whnf))))
 exact ret_t (rs:=[.agg [.int .i64 0, .int .i64 0, .int .i64 0, .int .i64 0], .int .i64 0, .int .i64 7]) ⟨.inr ⟨_,_,rfl,rfl,rc_p rfl,rc_p rfl,rc_p rfl,rc_p rfl,trivial⟩, .inl (rc_p rfl), .inl (rc_p rfl),trivial⟩ rfl
end Go.Proofs.YtihjphblcohdeaaGreatDoor
namespace Go.Proofs.YtihjphblcohdeaaGreatDoor
set_option maxRecDepth 10000
open Go.RowKit
def plT19f_0:Plan:=(.take 0 (.take 1 (.take 3 (.take 5 (.take 6 (.take 7 (.alt 2 (.take 4 (.alt 8 (.take 9 (.take 10 .done)) .stop)) (.alt 8 (.alt 2 (.take 4 (.take 9 (.take 10 .done))) .stop) .stop))))))))
open F32
def chgB (x:UInt8) (how:Int):UInt8:=if how=1 then 63 else if x=48 then 49 else 48
theorem sz1 (x:UInt8):(ByteArray.mk #[x]).size=1:=rfl
theorem bt_cut {ds:List UInt8} {n:Nat} (x:UInt8) (hn:n<ds.length):(bt ds).extract (0:Int).toNat (n:Int).toNat++⟨#[x]⟩++(bt ds).extract ((n:Int)+1).toNat (((bt ds).size:Nat):Int).toNat=bt (ds.set n x):=by
 apply ByteArray.ext
 apply Array.toList_inj.1
 rw [ByteArray.data_append,ByteArray.data_append,Array.toList_append,Array.toList_append,bt_sub,bt_sub,bt_size]
 simp only [Int.toNat_natCast,Int.toNat_zero,List.drop_zero,List.take_length]
 show ds.take n++[x]++ds.drop ((n:Int)+1).toNat=ds.set n x
 rw [show ((n:Int)+1).toNat=n+1 by omega,List.set_eq_take_append_cons_drop,if_pos hn,List.append_assoc];rfl
theorem change_ok (ds:List UInt8) (n:Nat) (how:Int) (h:Mods ds) (hn:n<74):Good Tryz.prog TT false 90 [.str (bt ds), .int .i64 n, .int .i64 how] (· = .str (bt (ds.set n (chgB (ds.getD n 0) how)))):=by
 have hl:=h.len
 have hs:=bt_size ds
 obtain ⟨x,hx⟩:∃x,ds[n]? =some x:=⟨_,List.getElem?_eq_getElem (by omega)⟩
 have hg:ds.getD n 0=x:=by rw [List.getD_eq_getElem?_getD,hx];rfl
 rw [hg]
 have e8:((48:UInt8).toNat:Int)=48:=rfl
 have e9:((49:UInt8).toNat:Int)=49:=rfl
 have e3:((63:UInt8).toNat:Int)=63:=rfl
 refine good_of mixed tabOk Tryz.func90 rfl rfl Tryz.ntmps90 Tryz.results90 rfl rfl ?_
 rcases h.all x (List.mem_of_getElem? hx) with rfl|rfl|rfl
 all_goals
  (conv=>whnf);(repeat' (first|(refine arith_i ⟨by omega,by omega⟩ ?_;conv=>whnf)|((with_reducible refine branch_ff ?_);conv=>whnf)|((refine byte_c (i:=n) rfl hx ?_);conv=>whnf)|((refine subS_i (by omega) ?_);conv=>whnf)|((refine need_i (by first|(simp only [ByteArray.size_append,ByteArray.size_extract,sz1,hs,hl];omega)|omega) ?_);conv=>whnf)|(refine draw_i 11 plT19f_0 (by decide+kernel) ?_;(conv=>whnf);fail_if_success (guard_target=~ False))|((with_reducible refine And.intro ?_ ?_)<;>(conv=>whnf))|(with_reducible exact trivial)|((with_reducible refine branch_d (fun hq=>?_) (fun hq=>?_))<;>(try (exfalso;omega))<;>(conv=>whnf))|((with_reducible refine branch_e (fun hq=>?_) (fun hq=>?_))<;>(try (exfalso;omega))<;>(conv=>whnf))))
  all_goals exact ret_p rfl (str_eq ((bt_cut _ (by omega)).trans (by simp [chgB,hq])))
structure Dm (cw:List G) (ds:List UInt8) (a b:Nat) (S:List Nat) (w:Bool):Prop where
 mods:Mods ds
 m1:7≤(ds.take 7).count 49+a
 m2:7≤(ds.drop 67).count 48+b
 good:∀k,k<12→k∉S→symL ds k=bitsG (cw.getD k 0)
 bad:∀k,k<12→k∈S→if w then 63∈symL ds k else 63∉symL ds k
theorem count_set (l:List UInt8) (n:Nat) (x y:UInt8):l.count y≤(l.set n x).count y+1:=by
 induction l generalizing n with
 |nil=>simp
 |cons z l ih=>
  cases n with
  |zero=>rw [List.set_cons_zero,List.count_cons,List.count_cons];split<;>split<;>omega
  |succ n=>rw [List.set_cons_succ,List.count_cons,List.count_cons];have:=ih n;omega
theorem symL_set {ds:List UInt8} {n k:Nat} {x:UInt8} (h:n<7+5 * k∨12+5 * k≤n):symL (ds.set n x) k=symL ds k:=by
 apply List.ext_getElem?
 intro j
 by_cases hj:j<5
 ·rw [symL_at hj,symL_at hj,List.getElem?_set_ne (by omega)]
 ·rw [List.getElem?_eq_none (by simp [symL];omega),List.getElem?_eq_none (by simp [symL];omega)]
theorem Mods.set {ds:List UInt8} {n:Nat} {x:UInt8} (h:Mods ds) (hx:x=48∨x=49∨x=63):Mods (ds.set n x):=
 ⟨by rw [List.length_set];exact h.len,fun y hy=>by rcases List.mem_or_eq_of_mem_set hy with h1|rfl;exact h.all y h1;exact hx⟩
theorem chg_mod (x:UInt8) (how:Int):chgB x how=48∨chgB x how=49∨chgB x how=63:=by
 unfold chgB;split
 ·exact .inr (.inr rfl)
 ·split
  ·exact .inr (.inl rfl)
  ·exact .inl rfl
theorem Dm.mark1 {cw ds a b w n how} (h:Dm cw ds a b [] w) (hn:n<7):Dm cw (ds.set n (chgB (ds.getD n 0) how)) (a+1) b [] w where
 mods:=h.mods.set (chg_mod ..)
 m1:=by
  rw [List.take_set]
  have:=count_set (ds.take 7) n (chgB (ds.getD n 0) how) 49
  have:=h.m1
  omega
 m2:=by rw [List.drop_set_of_lt (by omega)];exact h.m2
 good:=fun k hk hS=>by rw [symL_set (by omega)];exact h.good k hk hS
 bad:=fun k hk hS=>by cases hS
theorem Dm.mark2 {cw ds a b w n how} (h:Dm cw ds a b [] w) (hn:67≤n):Dm cw (ds.set n (chgB (ds.getD n 0) how)) a (b+1) [] w where
 mods:=h.mods.set (chg_mod ..)
 m1:=by rw [List.take_set_of_le (by omega)];exact h.m1
 m2:=by
  rw [List.drop_set,if_neg (by omega)]
  have:=count_set (ds.drop 67) (n-67) (chgB (ds.getD n 0) how) 48
  have:=h.m2
  omega
 good:=fun k hk hS=>by rw [symL_set (by omega)];exact h.good k hk hS
 bad:=fun k hk hS=>by cases hS
theorem bits_no (g:G):63∉bitsG g:=by
 intro h
 obtain ⟨j,_,e⟩:=List.mem_map.1 h
 unfold bitG at e
 split at e<;>cases e
theorem Dm.sym {cw ds a b S w k j} (h:Dm cw ds a b S w) (hk:k<12) (hS:k∉S) (hj:j<5):Dm cw (ds.set (7+5 * k+j) (chgB (ds.getD (7+5 * k+j) 0) (if w then 1 else 0))) a b (k::S) w where
 mods:=h.mods.set (chg_mod ..)
 m1:=by rw [List.take_set_of_le (by omega)];exact h.m1
 m2:=by rw [List.drop_set_of_lt (by omega)];exact h.m2
 good:=fun i hi hiS=>by
  have h1:i≠k:=fun e=>hiS (e▸List.mem_cons_self ..)
  rw [symL_set (by omega)]
  exact h.good i hi fun e=>hiS (List.mem_cons_of_mem _ e)
 bad:=fun i hi hiS=>by
  by_cases h1:i=k
  ·subst h1
   have hl:=h.mods.len
   cases w with
   |true=>
    show 63∈_
    refine List.mem_of_getElem? (i:=j) ?_
    rw [symL_at hj,List.getElem?_set_self (by omega)];rfl
   |false=>
    show 63∉_
    intro h63
    obtain ⟨m,hm⟩:=List.mem_iff_getElem?.1 h63
    have hm5:m<5:=by
     have:=(List.getElem?_eq_some_iff.1 hm).1
     simp [symL] at this;omega
    rw [symL_at hm5] at hm
    by_cases e:m=j
    ·subst e
     rw [List.getElem?_set_self (by omega)] at hm
     have hc:chgB (ds.getD (7+5 * i+m) 0) 0=63:=by simpa using hm
     unfold chgB at hc
     rw [if_neg (by decide)] at hc
     split at hc<;>cases hc
    ·rw [List.getElem?_set_ne (by omega),←symL_at hm5,h.good i hi hS] at hm
     exact bits_no _ (List.mem_of_getElem? hm)
  ·rw [symL_set (by omega)]
   exact h.bad i hi (by rcases List.mem_cons.1 hiS with e|e;exact absurd e h1;exact e)
theorem val_bits:∀g:G,val5 (bitsG g)=g.val:=by decide+kernel
theorem gOf_val (g:G):gOf (g.val:Nat)=g:=by
 have:=g.isLt
 exact Fin.ext (by show ((g.val:Int).toNat) % 32=g.val;rw [Int.toNat_natCast,Nat.mod_eq_of_lt this])
theorem wordF_at {ds:List UInt8} {k:Nat} (hk:k<12):(wordF ds).getD k none=symF ds k:=by
 rw [List.getD_eq_getElem?_getD,wordF,List.getElem?_map,List.getElem?_range hk];rfl
theorem Dm.ok {cw ds a b S w} (h:Dm cw ds a b S w) (ha:a≤3) (hb:b≤3) (hS:S.length≤if w then 6 else 3):DamU cw ds:=by
 have hg:∀k,k<12→k∉S→symF ds k=some (cw.getD k 0):=fun k hk hS=>by
  rw [symF,h.good k hk hS,if_neg (bits_no _),val_bits,gOf_val]
 have hN:∀k∈erN (wordF ds) cw,k<12∧k∈S∧w=false:=fun k hk=>by
  obtain ⟨h1,h2⟩:=List.mem_filter.1 hk
  have h12:=List.mem_range.1 h1
  rw [wordF_at h12] at h2
  by_cases hkS:k∈S
  ·refine ⟨h12,hkS,?_⟩
   have h3:=h.bad k h12 hkS
   cases w with
   |false=>rfl
   |true=>have h4:63∈symL ds k:=h3;rw [symF,if_pos h4] at h2;cases h2
  ·rw [hg k h12 hkS] at h2;simp at h2
 have hL:∀k∈erL (wordF ds) 12,k<12∧k∈S∧w=true:=fun k hk=>by
  obtain ⟨h1,h2⟩:=List.mem_filter.1 hk
  have h12:=List.mem_range.1 h1
  rw [wordF_at h12] at h2
  by_cases hkS:k∈S
  ·refine ⟨h12,hkS,?_⟩
   have h3:=h.bad k h12 hkS
   cases w with
   |true=>rfl
   |false=>have h4:63∉symL ds k:=h3;rw [symF,if_neg h4] at h2;cases h2
  ·rw [hg k h12 hkS] at h2;cases h2
 have n1:(erN (wordF ds) cw).length≤S.length:=nodup_le (List.nodup_range.filter _:(erN (wordF ds) cw).Nodup) (b:=S) fun k hk=>(hN k hk).2.1
 have n2:(erL (wordF ds) 12).length≤S.length:=nodup_le (List.nodup_range.filter _:(erL (wordF ds) 12).Nodup) (b:=S) fun k hk=>(hL k hk).2.1
 refine ⟨h.mods,by have:=h.m1;omega,by have:=h.m2;omega,?_⟩
 cases w with
 |true=>
  have e:erN (wordF ds) cw=[]:=List.eq_nil_iff_forall_not_mem.2 fun k hk=>by cases (hN k hk).2.2
  have hS':S.length≤6:=hS
  rw [e,List.length_nil];omega
 |false=>
  have e:erL (wordF ds) 12=[]:=List.eq_nil_iff_forall_not_mem.2 fun k hk=>by cases (hL k hk).2.2
  have hS':S.length≤3:=hS
  rw [e,List.length_nil];omega
theorem bits_len (g:G):(bitsG g).length=5:=by simp [bitsG]
theorem fbits_len (L:List G):(L.flatMap bitsG).length=5 * L.length:=by
 induction L with
 |nil=>rfl
 |cons g L ih=>rw [List.flatMap_cons,List.length_append,ih,bits_len,List.length_cons];omega
theorem strip_at {cw:List G} (hc:cw.length=12) {k:Nat} (hk:k<12):symL (stripL cw) k=bitsG (cw.getD k 0):=by
 have hg:cw.getD k 0=cw[k]'(by omega):=by rw [List.getD_eq_getElem?_getD,List.getElem?_eq_getElem (by omega)];rfl
 have e:cw=cw.take k++cw.getD k 0::cw.drop (k+1):=by rw [hg,←List.drop_eq_getElem_cons,List.take_append_drop]
 have e2:stripL cw=(List.replicate 7 49++(cw.take k).flatMap bitsG)++(bitsG (cw.getD k 0)++((cw.drop (k+1)).flatMap bitsG++List.replicate 7 48)):=by
  have:cw.flatMap bitsG=(cw.take k).flatMap bitsG++(bitsG (cw.getD k 0)++(cw.drop (k+1)).flatMap bitsG):=by
   conv=>lhs;rw [e]
   rw [List.flatMap_append,List.flatMap_cons]
  rw [stripL,this];simp [List.append_assoc]
 rw [symL,e2,List.drop_left' (by rw [List.length_append,fbits_len,List.length_replicate,List.length_take];omega),List.take_left' (bits_len _)]
theorem strip_dm {cw:List G} (hc:cw.length=12) (w:Bool):Dm cw (stripL cw) 0 0 [] w where
 mods:=⟨by rw [stripL,List.length_append,List.length_append,fbits_len,hc];simp,fun x hx=>by
  rw [stripL,List.mem_append,List.mem_append] at hx
  rcases hx with (h|h)|h
  ·exact .inr (.inl (List.eq_of_mem_replicate h))
  ·obtain ⟨g,_,h⟩:=List.mem_flatMap.1 h
   obtain ⟨j,_,rfl⟩:=List.mem_map.1 h
   unfold bitG;split
   ·exact .inr (.inl rfl)
   ·exact .inl rfl
  ·exact .inl (List.eq_of_mem_replicate h)⟩
 m1:=by
  rw [stripL,List.append_assoc,List.take_left' (by simp)];simp
 m2:=by
  rw [stripL,List.drop_left' (by rw [List.length_append,fbits_len,hc];simp)];simp
 good:=fun k hk _=>strip_at hc hk
 bad:=fun k hk hS=>by cases hS
end Go.Proofs.YtihjphblcohdeaaGreatDoor
