/- Several texts in one: T02b, T02c, T20a, T20b, T20c, T20d, T20e, T20f, T20g, T20h, Pl21. (Printed small by a program: remarks, spaces and repeated headings are taken out.) -/
import Derived.Test.YtihjphblcohdeaaGreatDoorS7
import Derived.Test.YtihjphblcohdeaaGreatDoorS4
set_option linter.unusedVariables false
set_option linter.unusedSimpArgs false
set_option linter.unnecessarySimpa false
set_option linter.unusedSectionVars false
namespace Go.Proofs.YtihjphblcohdeaaGreatDoor
set_option maxRecDepth 10000
open Go.RowKit
def plT02b_6:Plan:=(.take 0 (.take 1 (.take 2 (.take 4 (.take 5 (.take 6 (.take 7 (.take 12 (.alt 3 (.alt 8 (.take 9 (.takeQ 11 (.take 13 (.takeQ 10 (.takeQ 14 (.alt 15 (.take 16 (.take 17 .done)) .stop)))))) (.alt 11 (.take 13 (.takeQ 8 (.take 9 (.takeQ 10 (.takeQ 14 (.alt 15 (.take 16 (.take 17 .done)) .stop)))))) .stop)) (.alt 8 (.alt 3 (.take 9 (.takeQ 11 (.take 13 (.takeQ 10 (.takeQ 14 (.alt 15 (.take 16 (.take 17 .done)) .stop)))))) (.alt 11 (.take 13 (.takeQ 3 (.take 9 (.takeQ 10 (.takeQ 14 (.alt 15 (.take 16 (.take 17 .done)) .stop)))))) .stop)) (.alt 11 (.take 13 (.takeQ 3 (.takeQ 8 (.take 9 (.takeQ 10 (.takeQ 14 (.alt 15 (.take 16 (.take 17 .done)) .stop))))))) .stop)))))))))))
def plT02b_7:Plan:=(.take 1 (.take 5 (.alt 0 (.take 2 (.takeQ 4 (.take 6 (.takeQ 3 (.takeQ 7 (.alt 8 (.take 9 (.take 10 (.take 11 (.take 12 (.take 14 (.take 15 (.take 16 (.takeQ 13 (.takeQ 17 (.take 18 (.take 19 .done))))))))))) .stop)))))) (.alt 4 (.take 6 (.takeQ 0 (.take 2 (.takeQ 3 (.takeQ 7 (.alt 8 (.take 9 (.take 10 (.take 11 (.take 12 (.take 14 (.take 15 (.take 16 (.takeQ 13 (.takeQ 17 (.take 18 (.take 19 .done))))))))))) .stop)))))) .stop))))
open F32
open Go.Shelf Go.Sort
theorem or_lt {a:Int} {l:List Int}:orF (a::l)<0↔a<0∨(a=0∧orF l<0):=by
 rw [orF];split<;>omega
theorem or_zero {a:Int} {l:List Int}:orF (a::l)=0↔a=0∧orF l=0:=by
 rw [orF];split<;>omega
def lexF {α:Type} (ks:List (α→Int)) (x y:α):Int:=orF (ks.map fun k=>cmpI (k x) (k y))
theorem lex_nil {α:Type} {x y:α}:¬lexF [] x y<0:=by simp [lexF,orF]
theorem lex_cons {α:Type} {k:α→Int} {ks:List (α→Int)} {x y:α}:lexF (k::ks) x y<0↔k x<k y∨(k x=k y∧lexF ks x y<0):=by
 rw [lexF,List.map_cons,or_lt,cmp_lt,cmp_eq];rfl
theorem lex_zero {α:Type} {k:α→Int} {ks:List (α→Int)} {x y:α}:lexF (k::ks) x y=0↔k x=k y∧lexF ks x y=0:=by
 rw [lexF,List.map_cons,or_zero,cmp_eq];rfl
theorem lex_irr {α:Type} {ks:List (α→Int)} {x:α}:¬lexF ks x x<0:=by
 induction ks with
 |nil=>exact lex_nil
 |cons k ks ih=>rw [lex_cons];omega
theorem lex_trans {α:Type} {ks:List (α→Int)} {x y z:α} (h1:lexF ks x y<0) (h2:lexF ks y z<0):lexF ks x z<0:=by
 induction ks with
 |nil=>exact absurd h1 lex_nil
 |cons k ks ih=>
  rw [lex_cons] at h1 h2 ⊢
  rcases h1 with h1|⟨h1,h3⟩<;>rcases h2 with h2|⟨h2,h4⟩
  ·exact .inl (by omega)
  ·exact .inl (by omega)
  ·exact .inl (by omega)
  ·exact .inr ⟨by omega,ih h3 h4⟩
theorem lex_ntrans {α:Type} {ks:List (α→Int)} {x y z:α} (h1:¬lexF ks x y<0) (h2:¬lexF ks y z<0):¬lexF ks x z<0:=by
 induction ks with
 |nil=>exact lex_nil
 |cons k ks ih=>
  rw [lex_cons] at h1 h2 ⊢
  intro h
  rcases h with h|⟨h,h3⟩
  ·omega
  ·have e1:k x=k y:=by omega
   have e2:k y=k z:=by omega
   exact ih (fun h=>h1 (.inr ⟨e1,h⟩)) (fun h=>h2 (.inr ⟨e2,h⟩)) h3
theorem lex_total {α:Type} {ks:List (α→Int)} {x y:α} (h1:¬lexF ks x y<0) (h2:¬lexF ks y x<0):lexF ks x y=0:=by
 induction ks with
 |nil=>rfl
 |cons k ks ih=>
  rw [lex_cons] at h1 h2
  rw [lex_zero]
  have e:k x=k y:=by omega
  exact ⟨e,ih (fun h=>h1 (.inr ⟨e,h⟩)) (fun h=>h2 (.inr ⟨e.symm,h⟩))⟩
theorem lex_swo {α ι:Type} (ks:List (α→Int)) (v:ι→α) {cf:ι→ι→Int} (h:∀i j,cf i j=lexF ks (v i) (v j)):SWO (ltOf cf) where
 irrefl x:=by rw [ltOf,h];exact decide_eq_false lex_irr
 trans x y z h1 h2:=by
  rw [ltOf,h] at *
  exact decide_eq_true (lex_trans (of_decide_eq_true h1) (of_decide_eq_true h2))
 ntrans x y z h1 h2:=by
  rw [ltOf,h] at *
  exact decide_eq_false (lex_ntrans (of_decide_eq_false h1) (of_decide_eq_false h2))
theorem perm_unmap {α β:Type} (f:α→β):∀ {l:List β} {m:List α},l.Perm (m.map f)→∃m':List α,m'.Perm m∧l=m'.map f:=by
 intro l m h
 generalize hm:m.map f=k at h
 induction h generalizing m with
 |nil=>exact ⟨[],by rw [List.map_eq_nil_iff.1 hm],rfl⟩
 |cons x _ ih=>
  obtain ⟨a,m1,rfl,rfl,h2⟩:=List.map_eq_cons_iff.1 hm
  obtain ⟨m',h3,h4⟩:=ih h2
  exact ⟨a::m',h3.cons a,by rw [h4];rfl⟩
 |swap x y l=>
  obtain ⟨a,m1,rfl,rfl,h2⟩:=List.map_eq_cons_iff.1 hm
  obtain ⟨b,m2,rfl,rfl,h3⟩:=List.map_eq_cons_iff.1 h2
  exact ⟨b::a::m2,List.Perm.swap ..,by rw [←h3];rfl⟩
 |trans _ _ ih1 ih2=>
  obtain ⟨m1,h1,h2⟩:=ih2 hm
  obtain ⟨m2,h3,h4⟩:=ih1 h2.symm
  exact ⟨m2,h3.trans h1,h4⟩
def nOf:List AV→Nat
 | .int _ n::_=>n.toNat
 |_=>0
theorem nOf_enc (k:Nat):nOf (encNt k)=k:=by show ((k:Int).toNat)=k;omega
def st0:Stp:=⟨0,0,0⟩
def StpOk (s:Stp):Prop:=0≤s.time∧s.time≤1000000∧0≤s.src∧s.src≤99∧0≤s.seq∧s.seq≤9999
theorem or_or (a b c:Int):orF [orF [a,b],c]=orF [a,b,c]:=by
 simp only [orF]
 by_cases h:a=0<;>by_cases h2:b=0<;>simp [h,h2]
theorem cmpG_lex (l:List Stp) (i j:Nat):cmpG l i j=lexF [fun k=>(l.getD k st0).src,fun k=>(l.getD k st0).seq,fun k=>(k:Int)] i j:=by
 simp only [cmpG,cmpD,lexF,List.map_cons,List.map_nil]
 exact or_or _ _ _
theorem sortN_ok (l:List Stp) (g:Nat) (cf:Nat→Nat→Int) (ks:List (Nat→Int)) (hcf:∀i j,cf i j=lexF ks i j) (eg:Enters Tryz.prog g) (hg:∀i j,i<l.length→j<l.length→Good Tryz.prog 1000000 false g [.int .i64 (i:Nat), .int .i64 (j:Nat), .ref [.lst 3 (l.map encSt)]] (· = .int .i64 (cf i j))) (hl:l.length≤1000) (od:List Nat) (ho:∀k∈od,k<l.length) (hol:od.length≤1000):GoodM Tryz.prog TT false 147 [.own 0 3 1 (od.map encNt), .fn g [.ptr 1001 0]] [(1001,[.lst 3 (l.map encSt)])] (fun r ov bx'=>r= .tup []∧bx'=[(1001,[.lst 3 (l.map encSt)])]∧∃od':List Nat,od'.Perm od∧od'.Pairwise (fun x y=>¬cf y x<0)∧ov=[(1000, .own 0 3 1 (od'.map encNt))]):=by
 have h:=sort1_ok (P:=Tryz.prog) (tt:=TT) (b:=false) (f:=147) laysSI laysSI0 rfl (enters_of Tryz.func147 rfl rfl) 3 g (fun args w=>run_enter eg args w) (fun x y=>cf (nOf x) (nOf y)) (od.map encNt) (by simp;omega) (cap:=[.ptr 1001 0]) (capL:=[.ref [.lst 3 (l.map encSt)]]) (bx:=[(1001,[.lst 3 (l.map encSt)])])
  (fun c hc=>by obtain ⟨k,_,rfl⟩:=List.mem_map.1 hc;exact ⟨rfl,rfl⟩)
  (.inr ⟨_,rfl,rfl,rfl,rfl⟩)
  (lex_swo ks (fun i:_root_.Fin _=>nOf ((od.map encNt).getD i.val [])) fun i j=>hcf _ _)
  (fun x hx y hy=>by
    obtain ⟨i,hi,rfl⟩:=List.mem_map.1 hx
    obtain ⟨j,hj,rfl⟩:=List.mem_map.1 hy
    rw [nOf_enc,nOf_enc]
    exact hg i j (ho i hi) (ho j hj))
 refine h.mono fun r ov bx' hr=>?_
 obtain ⟨h1,h2,es',h3,h4,h5⟩:=hr
 obtain ⟨od',h6,rfl⟩:=perm_unmap encNt h3
 exact ⟨h1,h2,od',h6,(List.pairwise_map.1 h4).imp fun {a b} h=>by rw [nOf_enc,nOf_enc] at h;exact h,h5⟩
theorem sortG_ok (l:List Stp) (hl:l.length≤1000) (od:List Nat) (ho:∀k∈od,k<l.length) (hol:od.length≤1000):GoodM Tryz.prog TT false 147 [.own 0 3 1 (od.map encNt), .fn 176 [.ptr 1001 0]] [(1001,[.lst 3 (l.map encSt)])] (fun r ov bx'=>r= .tup []∧bx'=[(1001,[.lst 3 (l.map encSt)])]∧∃od':List Nat,od'.Perm od∧od'.Pairwise (fun x y=>¬cmpG l y x<0)∧ov=[(1000, .own 0 3 1 (od'.map encNt))]):=
 sortN_ok l _ (cmpG l) _ (cmpG_lex l) (enters_of Tryz.func176 rfl rfl) (fun i j hi hj=>groups1_ok l i j hi hj) hl od ho hol
theorem sortC_ok (l:List Stp) (hl:l.length≤1000) (od:List Nat) (ho:∀k∈od,k<l.length) (hol:od.length≤1000):GoodM Tryz.prog TT false 147 [.own 0 3 1 (od.map encNt), .fn 148 [.ptr 1001 0]] [(1001,[.lst 3 (l.map encSt)])] (fun r ov bx'=>r= .tup []∧bx'=[(1001,[.lst 3 (l.map encSt)])]∧∃od':List Nat,od'.Perm od∧od'.Pairwise (fun x y=>¬cmpC l y x<0)∧ov=[(1000, .own 0 3 1 (od'.map encNt))]):=
 sortN_ok l _ (cmpC l) [fun k=>(l.getD k st0).time,fun k=>(l.getD k st0).src,fun k=>(l.getD k st0).seq] (fun i j=>rfl) (enters_of Tryz.func148 rfl rfl) (fun i j hi hj=>canonical1_ok l i j hi hj) hl od ho hol
structure StOk (l:List Stp):Prop where
 len:l.length≤300
 ok:∀s∈l,StpOk s
 inj:∀s∈l,∀u∈l,s.src=u.src→s.seq=u.seq→s=u
structure GrpOk (l:List Stp) (F:List Nat):Prop where
 lt:∀f∈F,f<l.length
 dis:F.Pairwise fun f g=>l.getD f st0≠l.getD g st0
 all:∀s∈l,∃f∈F,l.getD f st0=s
def encGr (f:Nat):List AV:=[.int .i64 (f:Int), .bool false]
theorem cmpD_lex (a b:Stp):cmpD a b=lexF [Stp.src,Stp.seq] a b:=rfl
theorem cmpD_zero {a b:Stp}:cmpD a b=0↔a.src=b.src∧a.seq=b.seq:=by
 rw [cmpD_lex,lex_zero,lex_zero];simp [lexF,orF]
structure GI (l:List Stp) (od:List Nat) (m:Nat) (F:List Nat):Prop where
 zero:m=0→F=[]
 lt:∀f∈F,f<l.length
 asc:F.Pairwise fun f g=>cmpD (l.getD f st0) (l.getD g st0)<0
 all:∀j k,j<m→od[j]? =some k→∃f∈F,l.getD f st0=l.getD k st0
 last:0<m→∃F0 f,F=F0++[f]∧∀k,od[m-1]? =some k→l.getD f st0=l.getD k st0
theorem GI.len {l od m F} (h:GI l od m F):F.length≤l.length:=by
 have h1:F.Nodup:=h.asc.imp fun {a b} h e=>by subst e;exact lex_irr (ks:=[Stp.src,Stp.seq]) h
 have:=nodup_le h1 (b:=List.range l.length) fun f hf=>List.mem_range.2 (h.lt f hf)
 simpa using this
theorem GI.new {l od m F i} (h:GI l od m F) (hi:od[m]? =some i) (hil:i<l.length) (hl:∀F0 f,F=F0++[f]→cmpD (l.getD f st0) (l.getD i st0)<0):GI l od (m+1) (F++[i]) where
 zero:=nofun
 lt:=fun f hf=>by
  rcases List.mem_append.1 hf with h1|h1
  ·exact h.lt f h1
  ·rw [List.mem_singleton.1 h1];exact hil
 asc:=List.pairwise_append.2 ⟨h.asc,List.pairwise_singleton ..,fun a ha b hb=>by
  rw [List.mem_singleton.1 hb]
  rcases Nat.eq_zero_or_pos m with h0|h0
  ·rw [h.zero h0] at ha;cases ha
  ·obtain ⟨F0,f,rfl,_⟩:=h.last h0
   have h1:=hl F0 f rfl
   rcases List.mem_append.1 ha with h2|h2
   ·exact lex_trans (ks:=[Stp.src,Stp.seq]) ((List.pairwise_append.1 h.asc).2.2 a h2 f (by simp)) h1
   ·rw [List.mem_singleton.1 h2];exact h1⟩
 all:=fun j k hj hk=>by
  rcases Nat.lt_or_ge j m with h1|h1
  ·obtain ⟨f,hf,h2⟩:=h.all j k h1 hk
   exact ⟨f,List.mem_append_left _ hf,h2⟩
  ·obtain rfl:j=m:=by omega
   rw [hi] at hk;cases hk
   exact ⟨i,by simp,rfl⟩
 last:=fun _=>⟨F,i,rfl,fun k hk=>by rw [Nat.add_sub_cancel,hi] at hk;cases hk;rfl⟩
theorem GI.same {l od m F0 f i} (h:GI l od m (F0++[f])) (hi:od[m]? =some i) (he:l.getD f st0=l.getD i st0):GI l od (m+1) (F0++[f]) where
 zero:=nofun
 lt:=h.lt
 asc:=h.asc
 all:=fun j k hj hk=>by
  rcases Nat.lt_or_ge j m with h1|h1
  ·exact h.all j k h1 hk
  ·obtain rfl:j=m:=by omega
   rw [hi] at hk;cases hk
   exact ⟨f,by simp,he⟩
 last:=fun _=>⟨F0,f,rfl,fun k hk=>by rw [Nat.add_sub_cancel,hi] at hk;cases hk;exact he⟩
theorem GI.done {l od F} (h:GI l od od.length F) (hp:od.Perm (List.range l.length)):GrpOk l F where
 lt:=h.lt
 dis:=h.asc.imp fun {a b} h e=>by rw [e] at h;exact lex_irr (ks:=[Stp.src,Stp.seq]) h
 all:=fun s hs=>by
  obtain ⟨n,hn⟩:=List.mem_iff_getElem?.1 hs
  have hnl:=(List.getElem?_eq_some_iff.1 hn).1
  obtain ⟨j,hj⟩:=List.mem_iff_getElem?.1 (hp.mem_iff.2 (List.mem_range.2 hnl))
  obtain ⟨f,hf,h1⟩:=h.all j n (List.getElem?_eq_some_iff.1 hj).1 hj
  exact ⟨f,hf,h1.trans (by rw [List.getD_eq_getElem?_getD,hn];rfl)⟩
set_option maxHeartbeats 4000000 in
theorem groups_ok (l:List Stp) (hl:StOk l) (cls:List Int) (hc:cls=List.replicate l.length 0):Good Tryz.prog TT false 146 [.lst 3 (l.map encSt),ints cls] (fun r=>∃F,GrpOk l F∧r= .own 0 230 2 (F.map encGr)):=by
 have hlen:=hl.len
 have LE:(l.map encSt).length=l.length:=List.length_map ..
 refine good_of mixed tabOk Tryz.func146 rfl rfl Tryz.ntmps146 Tryz.results146 rfl rfl ?_
 (conv=>whnf)
 refine loop_i (fun i:Nat=>i≤l.length) (fun i=>mkSt [(1,ints cls),(2, .ptr 2 0),(5, .own 900 3 1 ((List.range i).map encNt)),(13, .lst 3 (l.map encSt)),(14, .int .i64 l.length),(15, .int .i64 i)] [(2,[.lst 3 (l.map encSt)])] false) (fun i=>l.length-i) 0 (by omega) ((le_adopt 5 900 3 1 rfl).trans (le_mk ⟨rfl,rfl,rfl,rfl,int_eq (by rw [LE]),rfl,trivial⟩ ⟨rfl,trivial⟩ rfl)) ?_
 intro i hi
 have LR:((List.range i).map encNt).length=i:=by simp
 rcases Nat.lt_or_ge i l.length with hil|hil
 ·obtain ⟨s,hs⟩:∃s,l[i]? =some s:=⟨_,List.getElem?_eq_getElem (by omega)⟩
  have hv:=stampValid_ok s (hl.ok s (List.mem_of_getElem? hs))
  (conv=>whnf);(repeat' (first|(refine arith_i ⟨by omega,by omega⟩ ?_;conv=>whnf)|(refine need_o ?_;conv=>whnf)|((with_reducible refine branch_tt ?_);conv=>whnf)|((refine idx_cs hs ?_);conv=>whnf)|((refine call_e hv ?_);conv=>whnf)|((with_reducible refine branch_d (fun hq=>?_) (fun hq=>?_))<;>(try (exfalso;omega))<;>(conv=>whnf))))
  exact ⟨i+1,by omega,le_mk ⟨rfl,rfl,own_eq (by rw [List.range_succ,List.map_append];rfl),rfl,rfl,rfl,trivial⟩ ⟨rfl,trivial⟩ rfl,by omega⟩
 ·obtain rfl:i=l.length:=by omega
  have hsort:=sortG_ok l (by omega) (List.range l.length) (fun k hk=>List.mem_range.1 hk) (by simp;omega)
  (conv=>whnf);(repeat' (first|(((refine mcall_i [(1001,2)] [(0,900)] _ Le.refl hsort rfl rfl rfl ⟨⟨_,rfl,rfl,rfl⟩,trivial⟩ ?_;rintro r ov bx' ⟨rfl,rfl,od,hp,hso,rfl⟩;refine ⟨rfl,?_⟩));conv=>whnf)|((with_reducible refine branch_d (fun hq=>?_) (fun hq=>?_))<;>(try (exfalso;omega))<;>(conv=>whnf))))
  have LO:(od.map encNt).length=od.length:=List.length_map ..
  have hol:od.length=l.length:=by rw [hp.length_eq];simp
  refine loop_i2 (fun (m:Nat) (F:List Nat)=>m≤od.length∧GI l od m F) (fun m F=>mkSt [(1,ints cls),(2, .ptr 2 0),(8, .own 901 230 2 (F.map encGr)),(30, .lst 1 (od.map encNt)),(31, .int .i64 od.length),(32, .int .i64 m)] [(2,[.lst 3 (l.map encSt)])] false) (fun m _=>od.length-m) 0 [] ⟨by omega,⟨fun _=>rfl,by simp,by simp,fun j _ h=>absurd h (by omega),fun h=>absurd h (by omega)⟩⟩ ((le_erase 900).trans ((le_adopt 8 901 230 2 rfl).trans (le_mk ⟨rfl,rfl,rfl,rfl,int_eq (by rw [LO]),rfl,trivial⟩ ⟨rfl,trivial⟩ rfl))) ?_
  rintro m F ⟨hm,hG⟩
  have hFl:=hG.len
  have LF:(F.map encGr).length=F.length:=List.length_map ..
  rcases Nat.lt_or_ge m od.length with hml|hml
  ·obtain ⟨i,hio⟩:∃i,od[m]? =some i:=⟨_,List.getElem?_eq_getElem hml⟩
   have hil:i<l.length:=List.mem_range.1 (hp.mem_iff.1 (List.mem_of_getElem? hio))
   have hsi:l[i]? =some (l.getD i st0):=by rw [List.getD_eq_getElem?_getD,List.getElem?_eq_getElem hil];rfl
   have hci:cls[i]? =some 0:=by rw [hc,List.getElem?_replicate,if_pos hil]
   rcases Nat.eq_zero_or_pos m with h0|h0
   ·have hF0:=hG.zero h0
    subst hF0
    have LF0:((List.map encGr []):List (List AV)).length=0:=rfl
    (conv=>whnf);(repeat' (first|(refine arith_i ⟨by omega,by omega⟩ ?_;conv=>whnf)|(refine need_o ?_;conv=>whnf)|((with_reducible refine branch_tt ?_);conv=>whnf)|((refine idx_cs hio ?_);conv=>whnf)|(refine draw_i 18 plT02b_6 (by decide+kernel) ?_;(conv=>whnf);fail_if_success (guard_target=~ False))|((with_reducible refine And.intro ?_ ?_)<;>(conv=>whnf))|(with_reducible exact trivial)|((with_reducible refine branch_d (fun hq=>?_) (fun hq=>?_))<;>(try (exfalso;omega))<;>(conv=>whnf))))
    all_goals exact ⟨m+1,[]++[i],⟨by omega,hG.new hio hil (by simp)⟩,le_mk ⟨rfl,rfl,rfl,rfl,rfl,rfl,trivial⟩ ⟨rfl,trivial⟩ rfl,by omega⟩
   ·obtain ⟨F0,f,hF,hlast⟩:=hG.last h0
    subst hF
    have hfl:f<l.length:=hG.lt f (by simp)
    have hsf:l[f]? =some (l.getD f st0):=by rw [List.getD_eq_getElem?_getD,List.getElem?_eq_getElem hfl];rfl
    have hcf:cls[f]? =some 0:=by rw [hc,List.getElem?_replicate,if_pos hfl]
    have hFf:(F0++[f])[F0.length]? =some f:=by simp
    have hle:((F0++[f]).map encGr).length=F0.length+1:=by simp
    by_cases hz:cmpD (l.getD f st0) (l.getD i st0)=0
    ·have hse:l.getD f st0=l.getD i st0:=by
      have:=cmpD_zero.1 hz
      exact hl.inj _ (List.mem_of_getElem? hsf) _ (List.mem_of_getElem? hsi) this.1 this.2
     (conv=>whnf);(repeat' (first|(refine arith_i ⟨by omega,by omega⟩ ?_;conv=>whnf)|((with_reducible first|refine branch_tt ?_|refine branch_ff ?_);conv=>whnf)|(with_reducible refine branch_not ?_)|((refine idx_cs hio ?_);conv=>whnf)|((refine idx_ms (by omega) (show (F0++[f])[_]? =some f by rw [←hFf];congr 1;omega) ?_);conv=>whnf)|((refine idx_cs hsf ?_);conv=>whnf)|((refine idx_cs hsi ?_);conv=>whnf)|((refine eq_i guard_stamp (fun w=>eq_stamp _ _ _ _ _ _ w) ?_);conv=>whnf)|((refine idx_cs hcf ?_);conv=>whnf)|((refine idx_cs hci ?_);conv=>whnf)|((refine call_e (compareId_ok (l.getD f st0) (l.getD i st0)) ?_);conv=>whnf)|(refine draw_i 18 plT02b_6 (by decide+kernel) ?_;(conv=>whnf);fail_if_success (guard_target=~ False))|(refine draw_i 20 plT02b_7 (by decide+kernel) ?_;(conv=>whnf);fail_if_success (guard_target=~ False))|((with_reducible refine And.intro ?_ ?_)<;>(conv=>whnf))|(with_reducible exact trivial)|((with_reducible refine branch_d (fun hq=>?_) (fun hq=>?_))<;>(try (exfalso;omega))<;>(conv=>whnf))|((with_reducible refine branch_n (fun hq=>?_) (fun hq=>?_))<;>(try (exfalso;omega))<;>(conv=>whnf))|((with_reducible refine branch_i (fun hq=>?_) (fun hq=>?_))<;>(try (exfalso;omega))<;>(conv=>whnf))))
     all_goals try exact ⟨m+1,F0++[f],⟨by omega,hG.same hio hse⟩,le_mk ⟨rfl,rfl,rfl,rfl,rfl,rfl,trivial⟩ ⟨rfl,trivial⟩ rfl,by omega⟩
     all_goals (exfalso;rw [hse] at hq;simp at hq)
    ·have hlt:cmpD (l.getD f st0) (l.getD i st0)<0:=by
      obtain ⟨k,hk⟩:∃k,od[m-1]? =some k:=⟨_,List.getElem?_eq_getElem (by omega)⟩
      have h1:=(List.pairwise_iff_getElem.1 hso) (m-1) m (by omega) hml (by omega)
      rw [(List.getElem?_eq_some_iff.1 hk).2,(List.getElem?_eq_some_iff.1 hio).2] at h1
      have h2:¬cmpD (l.getD i st0) (l.getD f st0)<0:=fun h=>h1 (by
       rw [cmpG,or_lt]
       rw [hlast k hk] at h
       exact .inl h)
      exact Classical.byContradiction fun h3=>hz (lex_total (ks:=[Stp.src,Stp.seq]) h3 h2)
     (conv=>whnf);(repeat' (first|(refine arith_i ⟨by omega,by omega⟩ ?_;conv=>whnf)|(refine need_o ?_;conv=>whnf)|((with_reducible refine branch_ff ?_);conv=>whnf)|((refine idx_cs hio ?_);conv=>whnf)|((refine idx_ms (by omega) (show (F0++[f])[_]? =some f by rw [←hFf];congr 1;omega) ?_);conv=>whnf)|((refine idx_cs hsf ?_);conv=>whnf)|((refine idx_cs hsi ?_);conv=>whnf)|((refine call_e (compareId_ok (l.getD f st0) (l.getD i st0)) ?_);conv=>whnf)|(refine draw_i 18 plT02b_6 (by decide+kernel) ?_;(conv=>whnf);fail_if_success (guard_target=~ False))|((with_reducible refine And.intro ?_ ?_)<;>(conv=>whnf))|(with_reducible exact trivial)|((with_reducible refine branch_d (fun hq=>?_) (fun hq=>?_))<;>(try (exfalso;omega))<;>(conv=>whnf))|((with_reducible refine branch_n (fun hq=>?_) (fun hq=>?_))<;>(try (exfalso;omega))<;>(conv=>whnf))))
     all_goals exact ⟨m+1,F0++[f]++[i],⟨by omega,hG.new hio hil fun F1 f1 e=>by obtain ⟨-,e2⟩:=List.append_inj' e rfl;cases e2;exact hlt⟩,le_mk ⟨rfl,rfl,own_eq (by simp [encGr]),rfl,rfl,rfl,trivial⟩ ⟨rfl,trivial⟩ rfl,by omega⟩
  ·obtain rfl:m=od.length:=by omega
   (conv=>whnf);(repeat' (first|((with_reducible refine branch_d (fun hq=>?_) (fun hq=>?_))<;>(try (exfalso;omega))<;>(conv=>whnf))))
   exact ret_o ⟨F,hG.done hp,rfl⟩
structure CanI (l:List Stp) (C:List Nat):Prop where
 grp:GrpOk l C
 asc:C.Pairwise fun i j=>cmpS (l.getD i st0) (l.getD j st0)<0
theorem cmpS_lex (a b:Stp):cmpS a b=lexF [Stp.time,Stp.src,Stp.seq] a b:=rfl
theorem cmpS_zero {a b:Stp} (h:cmpS a b=0):a=b:=by
 rw [cmpS_lex,lex_zero,lex_zero,lex_zero] at h
 obtain ⟨h1,h2,h3, -⟩:=h
 cases a;cases b;simp at h1 h2 h3;simp [h1,h2,h3]
theorem GrpOk.perm {l F C} (h:GrpOk l F) (hp:C.Perm F):GrpOk l C where
 lt:=fun f hf=>h.lt f (hp.mem_iff.1 hf)
 dis:=hp.symm.pairwise h.dis fun h=>Ne.symm h
 all:=fun s hs=>by obtain ⟨f,hf,h1⟩:=h.all s hs;exact ⟨f,hp.mem_iff.2 hf,h1⟩
theorem GrpOk.can {l F C} (h:GrpOk l F) (hp:C.Perm F) (hs:C.Pairwise fun x y=>¬cmpC l y x<0):CanI l C where
 grp:=h.perm hp
 asc:=by
  have h1:=(h.perm hp).dis
  refine (h1.and hs).imp fun {a b} h=>?_
  exact Classical.byContradiction fun h3=>h.1 (cmpS_zero (lex_total (ks:=[Stp.time,Stp.src,Stp.seq]) h3 h.2))
theorem GrpOk.len {l F} (h:GrpOk l F):F.length≤l.length:=by
 have h1:F.Nodup:=h.dis.imp fun {a b} h e=>h (by rw [e])
 have:=nodup_le h1 (b:=List.range l.length) fun f hf=>List.mem_range.2 (h.lt f hf)
 simpa using this
set_option maxHeartbeats 4000000 in
theorem stampCanR_ok (R:List Nat→AV→Prop) (hR:∀(t:Tg) C,∃r,RetV (.tup [.own t 3 1 (C.map encNt), .int .i64 0]) r∧R C r) (l:List Stp) (hl:StOk l) (cls:List Int) (hc:cls=List.replicate l.length 0):Good Tryz.prog TT false 105 [.lst 3 (l.map encSt),ints cls] (fun r=>∃C:List Nat,CanI l C∧R C r):=by
 have hlen:=hl.len
 have LE:(l.map encSt).length=l.length:=List.length_map ..
 have LC:(cls.map encI).length=l.length:=by rw [List.length_map,hc,List.length_replicate]
 refine good_of mixed tabOk Tryz.func105 rfl rfl Tryz.ntmps105 Tryz.results105 rfl rfl ?_
 (conv=>whnf);(repeat' (first|(((refine call_i (groups_ok l hl cls hc) fun r hr=>?_;obtain ⟨F,hF,rfl⟩:=hr));conv=>whnf)|((with_reducible refine branch_n (fun hq=>?_) (fun hq=>?_))<;>(try (exfalso;omega))<;>(conv=>whnf))))
 have LF:(F.map encGr).length=F.length:=List.length_map ..
 have hFl:=hF.len
 refine loop_i (fun m:Nat=>m≤F.length) (fun m=>mkSt [(2, .ptr 2 0),(6, .own 900 3 1 ((F.take m).map encNt)),(16, .lst 2 (F.map encGr)),(17, .int .i64 F.length),(18, .int .i64 m)] [(2,[.lst 3 (l.map encSt)])] false) (fun m=>F.length-m) 0 (by omega) ((le_erase 16).trans ((le_adopt 6 900 3 1 rfl).trans (le_mk ⟨rfl,rfl,rfl,int_eq (by rw [LF]),rfl,trivial⟩ ⟨rfl,trivial⟩ rfl))) ?_
 intro m hm
 have LT:((F.take m).map encNt).length=m:=by simp;omega
 rcases Nat.lt_or_ge m F.length with hml|hml
 ·obtain ⟨f,hf⟩:∃f,F[m]? =some f:=⟨_,List.getElem?_eq_getElem hml⟩
  (conv=>whnf);(repeat' (first|(refine arith_i ⟨by omega,by omega⟩ ?_;conv=>whnf)|(refine need_o ?_;conv=>whnf)|((with_reducible refine branch_ff ?_);conv=>whnf)|(with_reducible refine branch_not ?_)|((refine idx_cs hf ?_);conv=>whnf)|((with_reducible refine branch_d (fun hq=>?_) (fun hq=>?_))<;>(try (exfalso;omega))<;>(conv=>whnf))))
  exact ⟨m+1,by omega,le_mk ⟨rfl,own_eq (by rw [List.take_add_one,hf];simp [encNt]),rfl,rfl,rfl,trivial⟩ ⟨rfl,trivial⟩ rfl,by omega⟩
 ·obtain rfl:m=F.length:=by omega
  rw [List.take_length]
  rw [List.take_length] at LT
  have hsort:=sortC_ok l (by omega) F hF.lt (by omega)
  (conv=>whnf);(repeat' (first|(((refine mcall_i [(1001,2)] [(0,900)] _ Le.refl hsort rfl rfl rfl ⟨⟨_,rfl,rfl,rfl⟩,trivial⟩ ?_;rintro r ov bx' ⟨rfl,rfl,od,hp,hso,rfl⟩;refine ⟨rfl,?_⟩));conv=>whnf)|((with_reducible refine branch_d (fun hq=>?_) (fun hq=>?_))<;>(try (exfalso;omega))<;>(conv=>whnf))))
  all_goals
   obtain ⟨r,hr1,hr2⟩:=hR _ od
   exact ⟨⟨r,hr1,od,hF.can hp hso,hr2⟩⟩
theorem stampCanonical_ok (l:List Stp) (hl:StOk l) (cls:List Int) (hc:cls=List.replicate l.length 0):Good Tryz.prog TT false 105 [.lst 3 (l.map encSt),ints cls] (fun r=>∃C:List Nat,CanI l C∧r= .tup [.lst 1 (C.map encNt), .int .i64 0]):=
 stampCanR_ok (fun C r=>r= .tup [.lst 1 (C.map encNt), .int .i64 0]) (fun t C=>⟨_, .inr (.inr (.inr (.inl ⟨[.own t 3 1 (C.map encNt), .int .i64 0],[.lst 1 (C.map encNt), .int .i64 0],rfl,rfl,⟨.inl rc_o, .inl (rc_p rfl),trivial⟩⟩))),rfl⟩) l hl cls hc
end Go.Proofs.YtihjphblcohdeaaGreatDoor
namespace Go.Proofs.YtihjphblcohdeaaGreatDoor
set_option maxRecDepth 10000
open Go.RowKit
def plT02c_0:Plan:=(.take 0 (.take 1 (.take 2 (.take 3 (.take 4 (.take 5 (.take 6 (.take 7 (.take 8 .done)))))))))
def plT02c_2:Plan:=(.take 0 (.take 1 (.take 2 (.take 3 (.take 4 (.take 5 (.alt 6 (.take 7 .done) .stop)))))))
open F32
theorem equalI_ok (a b:List Int) (ha:a.length≤1000000) (hb:b.length≤1000000):Good Tryz.prog TT false 72 [ints a,ints b] (· = .bool (decide (a=b))):=by
 have LA:(a.map encI).length=a.length:=List.length_map ..
 have LB:(b.map encI).length=b.length:=List.length_map ..
 by_cases hl:a.length=b.length
 ·refine good_of mixed tabOk Tryz.func72 rfl rfl Tryz.ntmps72 Tryz.results72 rfl rfl ?_
  (conv=>whnf);(repeat' (first|((with_reducible refine branch_n (fun hq=>?_) (fun hq=>?_))<;>(try (exfalso;omega))<;>(conv=>whnf))))
  refine loop_i (fun i:Nat=>i≤a.length∧∀j,j<i→nth a j=nth b j) (fun i=>mkSt [(0,ints a),(1,ints b),(11,ints a),(12, .int .i64 a.length),(13, .int .i64 i)] [] false) (fun i=>a.length-i) 0 ⟨by omega,nofun⟩ (le_mk ⟨rfl,rfl,rfl,int_eq (by rw [LA]),rfl,trivial⟩ trivial rfl) ?_
  rintro i ⟨hi,he⟩
  rcases Nat.lt_or_ge i a.length with hil|hil
  ·obtain ⟨x,hx⟩:∃x,a[i]? =some x:=⟨_,List.getElem?_eq_getElem (by omega)⟩
   obtain ⟨y,hy⟩:∃x,b[i]? =some x:=⟨_,List.getElem?_eq_getElem (by omega)⟩
   (conv=>whnf);(repeat' (first|(refine arith_i ⟨by omega,by omega⟩ ?_;conv=>whnf)|((refine idx_cs hx ?_);conv=>whnf)|((refine idx_cs hy ?_);conv=>whnf)|(refine draw_i 9 plT02c_0 (by decide+kernel) ?_;(conv=>whnf);fail_if_success (guard_target=~ False))|((with_reducible refine branch_d (fun hq=>?_) (fun hq=>?_))<;>(try (exfalso;omega))<;>(conv=>whnf))|((with_reducible refine branch_n (fun hq=>?_) (fun hq=>?_))<;>(try (exfalso;omega))<;>(conv=>whnf))))
   ·exact ret_p rfl (bool_eq (decide_eq_false (ne_at hx hy (by assumption))).symm)
   ·refine ⟨i+1,⟨by omega,fun j hj=>?_⟩,le_q,by omega⟩
    rcases Nat.lt_or_ge j i with h|h
    ·exact he j h
    ·obtain rfl:j=i:=by omega
     rw [nth_eq hx,nth_eq hy];assumption
  ·(conv=>whnf);(repeat' (first|((with_reducible refine branch_d (fun hq=>?_) (fun hq=>?_))<;>(try (exfalso;omega))<;>(conv=>whnf))))
   exact ret_p rfl (bool_eq (decide_eq_true (eq_upto hl fun j hj=>he j (by omega))).symm)
 ·refine good_of mixed tabOk Tryz.func72 rfl rfl Tryz.ntmps72 Tryz.results72 rfl rfl ?_
  (conv=>whnf);(repeat' (first|((with_reducible refine branch_n (fun hq=>?_) (fun hq=>?_))<;>(try (exfalso;omega))<;>(conv=>whnf))))
  exact ret_p rfl (bool_eq (decide_eq_false fun e=>hl (by rw [e])).symm)
def stampOf (c:Cap):Stp:=⟨c.time,c.src,c.seq⟩
theorem can1_ok (c:Cap):Good Tryz.prog TT false 65 [.agg (encC c)] (· = .agg (encSt (stampOf c))):=by
 refine good_of mixed tabOk Tryz.func65 rfl rfl Tryz.ntmps65 Tryz.results65 rfl rfl ?_
 (conv=>whnf)
 exact ret_a (cs':=encSt (stampOf c)) ⟨rc_p rfl,rc_p rfl,rc_p rfl,trivial⟩ rfl
theorem same_ok (c:Cap) (hc:c.ch.length≤1000):Good Tryz.prog TT false 66 [.agg (encC c), .agg (encC c)] (· = .bool true):=by
 have hE:=equalI_ok c.ch c.ch (by omega) (by omega)
 refine good_of mixed tabOk Tryz.func66 rfl rfl Tryz.ntmps66 Tryz.results66 rfl rfl ?_
 (conv=>whnf);(repeat' (first|((with_reducible first|refine branch_tt ?_|refine branch_ff ?_);conv=>whnf)|((refine eq_i guard_stamp (fun w=>eq_stamp _ _ _ _ _ _ w) ?_);conv=>whnf)|((refine eq_i guard_ident (fun w=>eq_ident _ _ _ _ w) ?_);conv=>whnf)|((refine eq_i guard_label (fun w=>eq_label _ _ _ _ _ _ _ _ w) ?_);conv=>whnf)|((refine call_e hE ?_);conv=>whnf)|((with_reducible refine branch_d (fun hq=>?_) (fun hq=>?_))<;>(try (exfalso;omega))<;>(conv=>whnf))|((with_reducible refine branch_e (fun hq=>?_) (fun hq=>?_))<;>(try (exfalso;omega))<;>(conv=>whnf))|((with_reducible refine branch_i (fun hq=>?_) (fun hq=>?_))<;>(try (exfalso;omega))<;>(conv=>whnf))))
 all_goals first|(exfalso;simp at hq;done)|exact ret_p rfl (bool_eq (by simp))
set_option maxHeartbeats 4000000 in
structure CpsOk (l:List Cap):Prop where
 len:l.length≤300
 ok:∀c∈l,StpOk (stampOf c)
 ch:∀c∈l,c.ch.length≤1000
 inj:∀c∈l,∀d∈l,c.src=d.src→c.seq=d.seq→c=d
def capAt (l:List Cap) (i:Nat):Cap:=l.getD i cap0
theorem zero_int02 (w:World):(zeroValue 3).run Tryz.prog w= .ok (.int .i64 0) w:=by
 have u3:=Tryz.underlying3
 go_simp
theorem key_stamp:KeyOk Tryz.prog 50 3 where
 under:=⟨_,Tryz.underlying50⟩
 check:=fun b xs w hx=>by
  obtain ⟨a,b1,c,rfl⟩:∃a b c,xs=[a,b,c]:=by
   match xs,hx with
   |[a,b,c],_=>exact ⟨a,b,c,rfl⟩
  have u3:=Tryz.underlying3
  show (Instr.checkKey b 10000 50 (.agg #[.int .i64 a, .int .i64 b1, .int .i64 c])).run Tryz.prog w= .ok () w
  have a3:=Tryz.isAgg3
  have z3:=Tryz.sizeOf3
  have hS:Tryz.prog.underlying 50=some (.struct (Tryz.prog.fieldsOf 50)):=by kernel_rfl
  show (Instr.checkKey b (9999+1) 50 (.agg #[.int .i64 a, .int .i64 b1, .int .i64 c])).run Tryz.prog w= .ok () w
  have k3:∀(n:Int) (w:World),(Instr.checkKey b 9999 3 (.int .i64 n)).run Tryz.prog w= .ok () w:=fun n w=>by
   show (Instr.checkKey b (9998+1) 3 (.int .i64 n)).run Tryz.prog w= .ok () w
   unfold Instr.checkKey
   simp only [Sem.run_bind,run_underlying u3,Result.andThen_ok,Sem.run_pure]
  unfold Instr.checkKey
  simp only [Sem.run_bind,run_underlying hS,Result.andThen_ok,Program.fieldsOf,Tryz.underlying50]
  go_simp
 eq:=fun xs ys w hx hy=>by
  obtain ⟨a,b,c,rfl⟩:∃a b c,xs=[a,b,c]:=by
   match xs,hx with
   |[a,b,c],_=>exact ⟨a,b,c,rfl⟩
  obtain ⟨d,e,f,rfl⟩:∃a b c,ys=[a,b,c]:=by
   match ys,hy with
   |[a,b,c],_=>exact ⟨a,b,c,rfl⟩
  have h:=eq_stamp a b c d e f w
  have e1:(a==d&&b==e&&c==f)=([a,b,c]==[d,e,f]):=by
   simp [Bool.and_assoc]
  rw [←e1]
  exact h
theorem map_st {ks:List (List Int)} {A:Prop} (h4:∀k∈ks,k.length=3) (h:A):mapTyS Tryz.prog 226 3 ks (.int .i64 0) A:=mapS_i Tryz.underlying226 key_stamp zero_int02 h4 h
theorem sget_none {α:Type} {k:List Int}:∀ {l:List (List Int×α)},(∀p∈l,p.1≠k)→sget k l=none
 |[],_=>rfl
 |(k',v)::l,h=>by
  have h1:(k==k')=false:=by
   rw [beq_eq_false_iff_ne];exact fun e=>h (k',v) (List.mem_cons_self ..) e.symm
  rw [sget,h1]
  exact sget_none fun p hp=>h p (List.mem_cons_of_mem _ hp)
theorem sget_some {α:Type} {k:List Int}:∀ {l:List (List Int×α)} {p:List Int×α},p∈l→p.1=k→∃v,sget k l=some v∧(k,v)∈l
 |(k',v)::l,p,hp,hk=>by
  rw [sget]
  by_cases h1:k=k'
  ·rw [beq_iff_eq.2 h1];exact ⟨v,rfl,by rw [h1];exact List.mem_cons_self ..⟩
  ·rw [beq_eq_false_iff_ne.2 h1]
   rcases List.mem_cons.1 hp with h2|h2
   ·subst h2;exact absurd hk.symm h1
   ·obtain ⟨u,h3,h4⟩:=sget_some h2 hk
    exact ⟨u,h3,List.mem_cons_of_mem _ h4⟩
def keyS (c:Cap):List Int:=[c.time,c.src,c.seq]
structure SplI (l:List Cap) (i:Nat) (kvs:List (List Int×Int)):Prop where
 mem:∀p∈kvs,∃(j:Nat) (c:Cap),l[j]? =some c∧p=(keyS c,(j:Int))
 all:∀(j:Nat) (c:Cap),j<i→l[j]? =some c→∃p∈kvs,p.1=keyS c
theorem SplI.new {l i kvs c} (h:SplI l i kvs) (hc:l[i]? =some c) (hn:∀p∈kvs,p.1≠keyS c):SplI l (i+1) (kvs++[(keyS c,(i:Int))]) where
 mem:=fun p hp=>by
  rcases List.mem_append.1 hp with h1|h1
  ·exact h.mem p h1
  ·exact ⟨i,c,hc,List.mem_singleton.1 h1⟩
 all:=fun j d hj hd=>by
  rcases Nat.lt_or_ge j i with h1|h1
  ·obtain ⟨p,hp,h2⟩:=h.all j d h1 hd
   exact ⟨p,List.mem_append_left _ hp,h2⟩
  ·obtain rfl:j=i:=by omega
   rw [hc] at hd;cases hd
   exact ⟨_,List.mem_append_right _ (List.mem_singleton.2 rfl),rfl⟩
theorem SplI.same {l i kvs c} (h:SplI l i kvs) (hc:l[i]? =some c) (hn:∃p∈kvs,p.1=keyS c):SplI l (i+1) kvs where
 mem:=h.mem
 all:=fun j d hj hd=>by
  rcases Nat.lt_or_ge j i with h1|h1
  ·exact h.all j d h1 hd
  ·obtain rfl:j=i:=by omega
   rw [hc] at hd;cases hd
   exact hn
theorem SplI.len3 {l i kvs} (h:SplI l i kvs):∀k∈kvs.map (·.1),k.length=3:=fun k hk=>by
 obtain ⟨p,hp,rfl⟩:=List.mem_map.1 hk
 obtain ⟨j,c,_,rfl⟩:=h.mem p hp
 rfl
theorem SplI.get {l i kvs c} (hl:CpsOk l) (hc:c∈l) (h:SplI l i kvs):(sget (keyS c) kvs=none∧∀p∈kvs,p.1≠keyS c)∨∃j:Nat,sget (keyS c) kvs=some (j:Int)∧l[j]? =some c∧∃p∈kvs,p.1=keyS c:=by
 by_cases hn:∀p∈kvs,p.1≠keyS c
 ·exact .inl ⟨sget_none hn,hn⟩
 ·obtain ⟨p,hp,hk⟩:∃p,p∈kvs∧p.1=keyS c:=Classical.byContradiction fun h1=>hn fun p hp hk=>h1 ⟨p,hp,hk⟩
  obtain ⟨v,h1,h2⟩:=sget_some hp hk
  obtain ⟨j,d,h3,h4⟩:=h.mem _ h2
  injection h4 with h4 h5
  injection h4 with e1 e2
  injection e2 with e2 e3
  injection e3 with e3 e4
  have hd:=hl.inj d (List.mem_of_getElem? h3) c hc e2.symm e3.symm
  subst hd h5
  exact .inr ⟨j,h1,h3,p,hp,hk⟩
def stL (l:List Cap) (i:Nat):List (List AV):=(l.take i).map (fun c=>encSt (stampOf c))++List.replicate (l.length-i) [.int .i64 0, .int .i64 0, .int .i64 0]
theorem stL_at {l:List Cap} {i:Nat} (hi:i<l.length):(stL l i)[i]? =some [.int .i64 0, .int .i64 0, .int .i64 0]:=by
 have h:((l.take i).map fun c=>encSt (stampOf c)).length=i:=by simp;omega
 rw [stL,List.getElem?_append_right (by omega),h,Nat.sub_self,List.getElem?_replicate,if_pos (by omega)]
theorem stL_set {l:List Cap} {i:Nat} {c:Cap} (hc:l[i]? =some c):((((stL l i).modify (i:Int).toNat fun x=>x.set 0 (AV.int IntKind.i64 (stampOf c).time)).modify (i:Int).toNat fun x=>x.set (0+1) (AV.int IntKind.i64 (stampOf c).src)).modify (i:Int).toNat fun x=>x.set (0+1+1) (AV.int IntKind.i64 (stampOf c).seq))=stL l (i+1):=by
 have hil:=(List.getElem?_eq_some_iff.1 hc).1
 have h:((l.take i).map fun c=>encSt (stampOf c)).length=i:=by simp;omega
 have e:l.length-i=(l.length-(i+1))+1:=by omega
 rw [Int.toNat_natCast]
 apply List.ext_getElem?
 intro k
 simp only [List.getElem?_modify]
 by_cases hk:i=k
 ·subst hk
  rw [stL_at hil]
  have h2:(stL l (i+1))[i]? =some (encSt (stampOf c)):=by
   rw [stL,List.getElem?_append_left (by simp;omega),List.getElem?_map,List.getElem?_take_of_lt (by omega),hc];rfl
  rw [h2];simp [encSt]
 ·rcases Nat.lt_or_ge k i with h2|h2
  ·have h3:∀n,k<n→n≤l.length→(stL l n)[k]? =(l[k]?).map fun c=>encSt (stampOf c):=fun n hn hn2=>by
    rw [stL,List.getElem?_append_left (by simp;omega),List.getElem?_map,List.getElem?_take_of_lt hn]
   rw [h3 i h2 (by omega),h3 (i+1) (by omega) (by omega)];simp [hk]
  ·have h3:∀n,n≤k→n≤l.length→(stL l n)[k]? =if k<l.length then some [AV.int .i64 0, .int .i64 0, .int .i64 0] else none:=fun n hn hn2=>by
    have h4:((l.take n).map fun c=>encSt (stampOf c)).length=n:=by simp;omega
    rw [stL,List.getElem?_append_right (by omega),h4,List.getElem?_replicate]
    by_cases h5:k<l.length
    ·rw [if_pos h5,if_pos (by omega)]
    ·rw [if_neg h5,if_neg (by omega)]
   rw [h3 i h2 (by omega),h3 (i+1) (by omega) (by omega)];simp [hk]
theorem stL_at2 {l:List Cap} {i:Nat} {c:Cap} (hc:l[i]? =some c):(stL l (i+1))[i]? =some (encSt (stampOf c)):=by
 have hil:=(List.getElem?_eq_some_iff.1 hc).1
 rw [stL,List.getElem?_append_left (by simp;omega),List.getElem?_map,List.getElem?_take_of_lt (by omega),hc];rfl
set_option maxHeartbeats 4000000 in
theorem split_ok (l:List Cap) (hl:CpsOk l):Good Tryz.prog TT false 104 [.lst 13 (l.map encC), .fn 65 [], .fn 66 []] (· = .tup [.lst 3 ((l.map stampOf).map encSt),ints (List.replicate l.length 0)]):=by
 have hlen:=hl.len
 have LE:(l.map encC).length=l.length:=List.length_map ..
 refine good_of mixed tabOk Tryz.func104 rfl rfl Tryz.ntmps104 Tryz.results104 rfl rfl ?_
 (conv=>whnf);(repeat' (first|(refine need_o ?_;conv=>whnf)|((refine mkmap_s ?_);conv=>whnf)|fail))
 refine loop_i2 (fun (i:Nat) (kvs:List (List Int×Int))=>i≤l.length∧SplI l i kvs) (fun i kvs=>mkSt [(0, .lst 13 (l.map encC)),(1, .fn 65 []),(2, .fn 66 []),(8, .own (Tg.s 17) 50 3 (stL l i)),(9, .own (Tg.s 20) 3 1 (List.replicate l.length [.int .i64 0])),(10, .mp 21 (Kv.si kvs)),(22, .lst 13 (l.map encC)),(23, .int .i64 l.length),(24, .int .i64 i)] [] false) (fun i _=>l.length-i) 0 [] ⟨by omega,⟨by simp,by simp⟩⟩ (le_mk ⟨rfl,rfl,rfl,own_eq (by rw [LE];simp [stL]),own_eq (by rw [LE];simp),rfl,rfl,int_eq (by rw [LE]),rfl,trivial⟩ trivial rfl) ?_
 rintro i kvs ⟨hi,hS⟩
 have L1:(stL l i).length=l.length:=by simp [stL];omega
 have L2:(List.replicate l.length [AV.int .i64 0]).length=l.length:=by simp
 rcases Nat.lt_or_ge i l.length with hil|hil
 ·obtain ⟨c,hc⟩:∃c,l[i]? =some c:=⟨_,List.getElem?_eq_getElem hil⟩
  have hcm:=List.mem_of_getElem? hc
  have hsm:=same_ok c (hl.ch c hcm)
  rcases SplI.get hl hcm hS with ⟨hg,hn⟩|⟨j,hg,hj,hpk⟩
  ·have hg1:(sget [(stampOf c).time,(stampOf c).src,(stampOf c).seq] kvs).isSome=false:=by show (sget (keyS c) kvs).isSome=false;rw [hg];rfl
   (conv=>whnf);(repeat' (first|(refine arith_i ⟨by omega,by omega⟩ ?_;conv=>whnf)|(with_reducible refine branch_not ?_)|((refine idx_cs hc ?_);conv=>whnf)|((refine idx_cs0 (stL_at hil) ?_);conv=>whnf)|((refine idx_cs0 (x:=encSt (stampOf c)) (by rw [stL_set hc];exact stL_at2 hc) ?_);conv=>whnf)|((refine map_st hS.len3 ?_);conv=>whnf)|((refine call_e (can1_ok c) ?_);conv=>whnf)|((refine branch_f hg1 ?_);conv=>whnf)|((with_reducible refine branch_d (fun hq=>?_) (fun hq=>?_))<;>(try (exfalso;omega))<;>(conv=>whnf))))
   all_goals exact ⟨i+1,kvs++[(keyS c,(i:Int))],⟨by omega,hS.new hc hn⟩,le_mk ⟨rfl,rfl,rfl,own_eq (stL_set hc),rfl,congrArg (fun k=>AV.mp 21 (Kv.si k)) (sput_new hn),rfl,rfl,rfl,trivial⟩ trivial rfl,by omega⟩
  ·have hg1:(sget [(stampOf c).time,(stampOf c).src,(stampOf c).seq] kvs).isSome=true:=by show (sget (keyS c) kvs).isSome=true;rw [hg];rfl
   have hgd:(sget [(stampOf c).time,(stampOf c).src,(stampOf c).seq] kvs).getD 0=(j:Int):=by show (sget (keyS c) kvs).getD 0=j;rw [hg];rfl
   (conv=>whnf);(repeat' (first|(refine arith_i ⟨by omega,by omega⟩ ?_;conv=>whnf)|((with_reducible refine branch_tt ?_);conv=>whnf)|(with_reducible refine branch_not ?_)|((refine idx_cs hc ?_);conv=>whnf)|((refine idx_cs0 (stL_at hil) ?_);conv=>whnf)|((refine idx_cs0 (x:=encSt (stampOf c)) (by rw [stL_set hc];exact stL_at2 hc) ?_);conv=>whnf)|((refine map_st hS.len3 ?_);conv=>whnf)|((refine call_e (can1_ok c) ?_);conv=>whnf)|((refine branch_t hg1 ?_);conv=>whnf)|((refine idx_ms (by rw [hgd];omega) (by rw [hgd,Int.toNat_natCast];exact hj) ?_);conv=>whnf)|((refine call_e hsm ?_);conv=>whnf)|(refine draw_i 8 plT02c_2 (by decide+kernel) ?_;(conv=>whnf);fail_if_success (guard_target=~ False))|((with_reducible refine And.intro ?_ ?_)<;>(conv=>whnf))|(with_reducible exact trivial)|((with_reducible refine branch_d (fun hq=>?_) (fun hq=>?_))<;>(try (exfalso;omega))<;>(conv=>whnf))))
   all_goals exact ⟨i+1,kvs,⟨by omega,hS.same hc hpk⟩,le_mk ⟨rfl,rfl,rfl,own_eq (stL_set hc),rfl,rfl,rfl,rfl,rfl,trivial⟩ trivial rfl,by omega⟩
 ·obtain rfl:i=l.length:=by omega
  (conv=>whnf);(repeat' (first|((with_reducible refine branch_d (fun hq=>?_) (fun hq=>?_))<;>(try (exfalso;omega))<;>(conv=>whnf))))
  exact ret_t (rs:=[.lst 3 ((l.map stampOf).map encSt),ints (List.replicate l.length 0)]) ⟨.inl (rc_o' (by simp [stL])), .inl (rc_o' (by simp [encI])),trivial⟩ rfl
theorem copiesCan_ok (l:List Cap) (hl:CpsOk l):Good Tryz.prog TT false 64 [.lst 13 (l.map encC), .fn 65 [], .fn 66 []] (fun r=>∃C:List Nat,CanI (l.map stampOf) C∧r= .tup [.lst 1 (C.map encNt), .int .i64 0]):=by
 have hS:StOk (l.map stampOf):=⟨by rw [List.length_map];exact hl.len,fun s hs=>by obtain ⟨c,hc,rfl⟩:=List.mem_map.1 hs;exact hl.ok c hc,fun s hs u hu h1 h2=>by
  obtain ⟨c,hc,rfl⟩:=List.mem_map.1 hs
  obtain ⟨d,hd,rfl⟩:=List.mem_map.1 hu
  rw [hl.inj c hc d hd h1 h2]⟩
 refine good_of mixed tabOk Tryz.func64 rfl rfl Tryz.ntmps64 Tryz.results64 rfl rfl ?_
 (conv=>whnf);(repeat' (first|((refine call_e (split_ok l hl) ?_);conv=>whnf)|(((refine call_i (stampCanonical_ok (l.map stampOf) hS (List.replicate l.length 0) (by rw [List.length_map])) fun r hr=>?_;obtain ⟨C,hC,rfl⟩:=hr));conv=>whnf)|fail))
 exact ret_t (rs:=[.lst 1 (C.map encNt), .int .i64 0]) ⟨.inl (rc_p rfl), .inl (rc_p rfl),trivial⟩ ⟨C,hC,rfl⟩
end Go.Proofs.YtihjphblcohdeaaGreatDoor
namespace Go.Proofs.YtihjphblcohdeaaGreatDoor
set_option maxRecDepth 10000
open Go.RowKit
open F32
structure CanC (l cs:List Cap):Prop where
 mem:∀c,c∈cs↔c∈l
 asc:cs.Pairwise fun a b=>cmpS (stampOf a) (stampOf b)<0
 len:cs.length≤l.length
theorem CanI.caps {l:List Cap} {C:List Nat} (hl:CpsOk l) (h:CanI (l.map stampOf) C):CanC l (C.map (capAt l)):=by
 have hg:∀i,i<l.length→(l.map stampOf).getD i st0=stampOf (capAt l i)∧capAt l i∈l:=fun i hi=>by
  have h1:l[i]? =some (capAt l i):=by rw [capAt,List.getD_eq_getElem?_getD,List.getElem?_eq_getElem hi];rfl
  refine ⟨?_,List.mem_of_getElem? h1⟩
  rw [List.getD_eq_getElem?_getD,List.getElem?_map,h1];rfl
 have hlt:∀i∈C,i<l.length:=fun i hi=>by have:=h.grp.lt i hi;simpa using this
 refine ⟨fun c=>⟨fun hc=>?_,fun hc=>?_⟩,?_,?_⟩
 ·obtain ⟨i,hi,rfl⟩:=List.mem_map.1 hc
  exact (hg i (hlt i hi)).2
 ·obtain ⟨f,hf,h1⟩:=h.grp.all (stampOf c) (List.mem_map.2 ⟨c,hc,rfl⟩)
  rw [(hg f (hlt f hf)).1] at h1
  refine List.mem_map.2 ⟨f,hf,hl.inj _ (hg f (hlt f hf)).2 _ hc ?_ ?_⟩
  ·exact congrArg Stp.src h1
  ·exact congrArg Stp.seq h1
 ·refine List.pairwise_map.2 (h.asc.imp_of_mem fun {a b} ha hb h1=>?_)
  rw [(hg a (hlt a ha)).1,(hg b (hlt b hb)).1] at h1
  exact h1
 ·have:=h.grp.len
  simpa using this
theorem mod_mid {α:Type} {A:List α} {z:α} {R:List α} {f:α→α}:(A++z::R).modify A.length f=A++f z::R:=by
 induction A with
 |nil=>rfl
 |cons a A ih=>rw [List.cons_append,List.length_cons,List.modify_succ_cons,ih];rfl
def cpL (cs:List Cap) (k:Nat):List (List AV):=(cs.take k).map encC++List.replicate (cs.length-k) (encC cap0)
theorem mid_at {α:Type} {A:List α} {z:α} {R:List α}:(A++z::R)[A.length]? =some z:=by simp
theorem cp_next {cs:List Cap} {k:Nat} {c:Cap} (hc:cs[k]? =some c):∃A R,A.length=k∧cpL cs k=A++encC cap0::R∧cpL cs (k+1)=A++encC c::R:=by
 have hk:=(List.getElem?_eq_some_iff.1 hc).1
 refine ⟨(cs.take k).map encC,List.replicate (cs.length-(k+1)) (encC cap0),by simp;omega,?_,?_⟩
 ·rw [cpL,show cs.length-k=(cs.length-(k+1))+1 by omega,List.replicate_succ]
 ·rw [cpL,List.take_add_one,hc];simp
set_option maxHeartbeats 4000000 in
theorem intakeCan_ok (l:List Cap) (hl:CpsOk l):Good Tryz.prog TT false 33 [.lst 13 (l.map encC)] (fun r=>∃cs,CanC l cs∧r= .tup [.lst 13 (cs.map encC), .int .i64 0]):=by
 have hlen:=hl.len
 refine good_of mixed tabOk Tryz.func33 rfl rfl Tryz.ntmps33 Tryz.results33 rfl rfl ?_
 (conv=>whnf);(repeat' (first|(((refine call_i (copiesCan_ok l hl) fun r hr=>?_;obtain ⟨C,hC,rfl⟩:=hr));conv=>whnf)|((with_reducible refine branch_n (fun hq=>?_) (fun hq=>?_))<;>(try (exfalso;omega))<;>(conv=>whnf))))
 have hcs:=hC.caps hl
 have LC:(C.map encNt).length=C.length:=List.length_map ..
 have hcl:C.length≤l.length:=by have:=hC.grp.len;simpa using this
 (conv=>whnf);(repeat' (first|(refine need_o ?_;conv=>whnf)|((refine nils_i (encC cap0) ⟨rfl,rfl,rfl,rfl,rfl,rfl,pc_nil 1,rfl,rfl,rfl,rfl,rfl,rfl,trivial⟩ ?_);conv=>whnf)|fail))
 generalize hcse:C.map (capAt l)=cs at hcs
 have hcsl:cs.length=C.length:=by rw [←hcse,List.length_map]
 refine loop_i (fun k:Nat=>k≤cs.length) (fun k=>mkSt [(0, .lst 13 (l.map encC)),(6, .own (Tg.s 19) 56 13 (cpL cs k)),(20, .lst 1 (C.map encNt)),(21, .int .i64 cs.length),(22, .int .i64 k)] [] false) (fun k=>cs.length-k) 0 (by omega) (le_mk ⟨rfl,own_eq (by rw [LC];simp [cpL,hcsl]),rfl,int_eq (by rw [LC,hcsl]),rfl,trivial⟩ trivial rfl) ?_
 intro k hk
 have L1:(cpL cs k).length=cs.length:=by simp [cpL];omega
 rcases Nat.lt_or_ge k cs.length with hkl|hkl
 ·obtain ⟨i,hi⟩:∃i,C[k]? =some i:=⟨_,List.getElem?_eq_getElem (by omega)⟩
  have hil:i<l.length:=by have:=hC.grp.lt i (List.mem_of_getElem? hi);simpa using this
  have hci:l[i]? =some (capAt l i):=by rw [capAt,List.getD_eq_getElem?_getD,List.getElem?_eq_getElem hil];rfl
  have hck:cs[k]? =some (capAt l i):=by rw [←hcse,List.getElem?_map,hi];rfl
  have hch:=hl.ch _ (List.mem_of_getElem? hci)
  generalize capAt l i=c at *
  have hz:(cpL cs k)[k]? =some (encC cap0):=by
   have h:((cs.take k).map encC).length=k:=by simp;omega
   rw [cpL,List.getElem?_append_right (by omega),h,Nat.sub_self,List.getElem?_replicate,if_pos (by omega)]
  (conv=>whnf);(repeat' (first|(refine arith_i ⟨by omega,by omega⟩ ?_;conv=>whnf)|((refine idx_cs hi ?_);conv=>whnf)|((refine idx_cs hci ?_);conv=>whnf)|((refine idx_cs0 hz ?_);conv=>whnf)|((refine call_e (clone_ok c.ch (by omega)) ?_);conv=>whnf)|((refine idx_cs0 (x:=encC c) (by obtain ⟨A,R,hA,e1,e2⟩:=cp_next hck;rw [e1,Int.toNat_natCast,←hA];simp only [mod_mid];exact mid_at) ?_);conv=>whnf)|((with_reducible refine lnk_a ?_);conv=>whnf)|((with_reducible refine branch_d (fun hq=>?_) (fun hq=>?_))<;>(try (exfalso;omega))<;>(conv=>whnf))))
  all_goals refine ⟨k+1,by omega,le_mk ⟨rfl,own_eq ?_,rfl,rfl,rfl,trivial⟩ trivial rfl,by omega⟩
  all_goals
   obtain ⟨A,R,hA,e1,e2⟩:=cp_next hck
   rw [e1,e2,Int.toNat_natCast,←hA]
   simp only [mod_mid]
   rfl
 ·obtain rfl:k=cs.length:=by omega
  (conv=>whnf);(repeat' (first|((with_reducible refine branch_d (fun hq=>?_) (fun hq=>?_))<;>(try (exfalso;omega))<;>(conv=>whnf))))
  exact ret_t (rs:=[.lst 13 (cs.map encC), .int .i64 0]) ⟨.inl (rc_o' (by simp [cpL])), .inl (rc_p rfl),trivial⟩ ⟨cs,hcs,rfl⟩
end Go.Proofs.YtihjphblcohdeaaGreatDoor
namespace Go.Proofs.YtihjphblcohdeaaGreatDoor
set_option maxRecDepth 10000
open Go.RowKit
def plT20b_0:Plan:=(.take 0 (.take 1 (.take 2 (.take 3 (.take 5 (.alt 4 (.take 6 (.take 7 .done)) .stop))))))
def plT20b_2:Plan:=(.take 0 (.take 1 (.take 2 (.takeQ 3 (.alt 4 (.takeQ 5 (.alt 6 (.take 7 .done) .stop)) (.alt 5 (.alt 4 (.alt 6 (.take 7 .done) .stop) .stop) .stop))))))
open F32
theorem identity_ok (c:Cap):Good Tryz.prog TT false 35 [.agg (encC c)] (· = .agg [.int .i64 c.src, .int .i64 c.seq]):=by
 refine good_of mixed tabOk Tryz.func35 rfl rfl Tryz.ntmps35 Tryz.results35 rfl rfl ?_
 (conv=>whnf)
 exact ret_a (cs':=[.int .i64 c.src, .int .i64 c.seq]) ⟨rc_p rfl,rc_p rfl,trivial⟩ rfl
def LabR:Option LabD→List UInt8→Prop
 |some l,s=>LabOk l∧∃ds,DamU (encW (labG l)) ds∧(s=ds∨s=ds.reverse)
 |none,s=>s=[63]
def lab0:LabD:=⟨0,0,0,0⟩
def rejD (c d:Cap):Prop:=d.kind=3∧d.tsrc=c.src∧d.tseq=c.seq
instance (c d:Cap):Decidable (rejD c d):=by unfold rejD;infer_instance
def rejB (cs:List Cap) (c:Cap):Bool:=cs.any fun d=>decide (rejD c d)
def labF (cs:List Cap) (c:Cap) (o:Option LabD):LabD:=if rejB cs c then lab0 else o.getD lab0
def lstF (cs:List Cap) (c:Cap) (o:Option LabD):Int:=if rejB cs c then 6 else if o.isSome then 0 else 4
structure CsOk (cs:List Cap):Prop where
 len:cs.length≤300
 kind:∀c∈cs,c.kind=1∨c.kind=3
 inj:∀(i j:Nat) (c d:Cap),cs[i]? =some c→cs[j]? =some d→c.src=d.src→c.seq=d.seq→i=j
def DecI (cs:List Cap) (c:Cap) (i:Nat) (d:Int):Prop:=(d= -1∧∀(j:Nat) (e:Cap),j<i→cs[j]? =some e→¬rejD c e)∨∃(j:Nat) (e:Cap),d=j∧cs[j]? =some e∧rejD c e
theorem DecI.next {cs c i d e} (h:DecI cs c i d) (he:cs[i]? =some e) (hn:¬rejD c e):DecI cs c (i+1) d:=by
 rcases h with ⟨h1,h2⟩|h1
 ·refine .inl ⟨h1,fun j e' hj he'=>?_⟩
  rcases Nat.lt_or_ge j i with h3|h3
  ·exact h2 j e' h3 he'
  ·obtain rfl:j=i:=by omega
   rw [he] at he';cases he';exact hn
 ·exact .inr h1
theorem id_hit {cs:List Cap} (hcs:CsOk cs) {n0 i:Nat} {c e:Cap} (hc:cs[n0]? =some c) (he:cs[i]? =some e) (hq:(e.src==c.src&&e.seq==c.seq)=true) (hin:¬n0<i):(i:Int)=if n0<i+1 then (n0:Int) else -1:=by
 simp at hq
 have:=hcs.inj i n0 e c he hc hq.1 hq.2
 rw [if_pos (by omega)];omega
theorem id_mis {cs:List Cap} {n0 i:Nat} {c e:Cap} (hc:cs[n0]? =some c) (he:cs[i]? =some e) (hq:(e.src==c.src&&e.seq==c.seq)=false) (hin:¬n0<i):(-1:Int)=if n0<i+1 then (n0:Int) else -1:=by
 rw [if_neg fun h=>?_]
 obtain rfl:n0=i:=by omega
 rw [hc] at he;cases he;simp at hq
theorem id_not {cs:List Cap} {n0 i:Nat} {c e:Cap} (hc:cs[n0]? =some c) (he:cs[i]? =some e) (hek:e.kind=3) (hk:c.kind=1):(if n0<i then (n0:Int) else -1)=if n0<i+1 then (n0:Int) else -1:=by
 have:n0≠i:=fun h=>by subst h;rw [hc] at he;cases he;omega
 by_cases h:n0<i
 ·rw [if_pos h,if_pos (by omega)]
 ·rw [if_neg h,if_neg (by omega)]
theorem rej_hit {c e:Cap} (hek:e.kind=3) (hq:(e.tsrc==c.src&&e.tseq==c.seq)=true):rejD c e:=by
 simp at hq;exact ⟨hek,hq.1,hq.2⟩
theorem rej_mis {c e:Cap} (hq:(e.tsrc==c.src&&e.tseq==c.seq)=false):¬rejD c e:=fun h=>by
 rw [h.2.1,h.2.2] at hq;simp at hq
set_option maxHeartbeats 8000000 in
theorem label_ok (cs:List Cap) (hcs:CsOk cs) (n0:Nat) (c:Cap) (hc:cs[n0]? =some c) (hk:c.kind=1) (o:Option LabD) (ho:LabR o c.strip):Good Tryz.prog TT false 34 [.lst 13 (cs.map encC), .agg [.int .i64 c.src, .int .i64 c.seq]] (· = .tup [.agg (encLb (labF cs c o)), .int .i64 (lstF cs c o)]):=by
 have hlen:=hcs.len
 have LE:(cs.map encC).length=cs.length:=List.length_map ..
 have hn0:=(List.getElem?_eq_some_iff.1 hc).1
 refine good_of mixed tabOk Tryz.func34 rfl rfl Tryz.ntmps34 Tryz.results34 rfl rfl ?_
 (conv=>whnf)
 refine loop_i2 (fun (i:Nat) (d:Int)=>i≤cs.length∧DecI cs c i d) (fun i d=>mkSt [(0, .lst 13 (cs.map encC)),(3, .ptr 3 0),(4, .ptr 4 0),(6, .int .i64 (if n0<i then (n0:Int) else -1)),(7, .int .i64 d),(12, .lst 13 (cs.map encC)),(13, .int .i64 cs.length),(14, .int .i64 i)] [(3,[.int .i64 c.src, .int .i64 c.seq]),(4,[.int .i64 0, .int .i64 0, .int .i64 0, .int .i64 0])] false) (fun i _=>cs.length-i) 0 (-1) ⟨by omega, .inl ⟨rfl,fun j d h _=>absurd h (by omega)⟩⟩ (le_mk ⟨rfl,rfl,rfl,int_eq (by rw [if_neg (by omega)]),rfl,rfl,int_eq (by rw [LE]),rfl,trivial⟩ ⟨rfl,rfl,trivial⟩ rfl) ?_
 rintro i d ⟨hi,hD⟩
 rcases Nat.lt_or_ge i cs.length with hil|hil
 ·obtain ⟨e,he⟩:∃e,cs[i]? =some e:=⟨_,List.getElem?_eq_getElem hil⟩
  rcases hcs.kind e (List.mem_of_getElem? he) with hek|hek
  ·by_cases hin:n0<i
   ·rw [if_pos hin]
    (conv=>whnf);(repeat' (first|(refine arith_i ⟨by omega,by omega⟩ ?_;conv=>whnf)|((with_reducible refine branch_ff ?_);conv=>whnf)|((refine idx_cs he ?_);conv=>whnf)|(refine draw_i 8 plT20b_0 (by decide+kernel) ?_;(conv=>whnf);fail_if_success (guard_target=~ False))|((with_reducible refine And.intro ?_ ?_)<;>(conv=>whnf))|(with_reducible exact trivial)|((with_reducible refine branch_d (fun hq=>?_) (fun hq=>?_))<;>(try (exfalso;omega))<;>(conv=>whnf))|((with_reducible refine branch_e (fun hq=>?_) (fun hq=>?_))<;>(try (exfalso;omega))<;>(conv=>whnf))))
    all_goals exact ⟨i+1,d,⟨by omega,hD.next he (fun h=>absurd h.1 (by omega))⟩,le_mk ⟨rfl,rfl,rfl,int_eq (by rw [if_pos (by omega)]),rfl,rfl,rfl,rfl,trivial⟩ ⟨rfl,rfl,trivial⟩ rfl,by omega⟩
   ·rw [if_neg hin]
    (conv=>whnf);(repeat' (first|(refine arith_i ⟨by omega,by omega⟩ ?_;conv=>whnf)|((with_reducible refine branch_tt ?_);conv=>whnf)|((refine idx_cs he ?_);conv=>whnf)|((refine call_e (identity_ok e) ?_);conv=>whnf)|((refine eq_i guard_ident (fun w=>eq_ident _ _ _ _ w) ?_);conv=>whnf)|(refine draw_i 8 plT20b_2 (by decide+kernel) ?_;(conv=>whnf);fail_if_success (guard_target=~ False))|((with_reducible refine And.intro ?_ ?_)<;>(conv=>whnf))|(with_reducible exact trivial)|((with_reducible refine branch_d (fun hq=>?_) (fun hq=>?_))<;>(try (exfalso;omega))<;>(conv=>whnf))|((with_reducible refine branch_e (fun hq=>?_) (fun hq=>?_))<;>(try (exfalso;omega))<;>(conv=>whnf))|((with_reducible refine branch_i (fun hq=>?_) (fun hq=>?_))<;>(try (exfalso;omega))<;>(conv=>whnf))))
    all_goals first
     |exact ⟨i+1,d,⟨by omega,hD.next he (fun h=>absurd h.1 (by omega))⟩,le_mk ⟨rfl,rfl,rfl,int_eq (id_hit hcs hc he (by assumption) hin),rfl,rfl,rfl,rfl,trivial⟩ ⟨rfl,rfl,trivial⟩ rfl,by omega⟩
     |exact ⟨i+1,d,⟨by omega,hD.next he (fun h=>absurd h.1 (by omega))⟩,le_mk ⟨rfl,rfl,rfl,int_eq (id_mis hc he (by assumption) hin),rfl,rfl,rfl,rfl,trivial⟩ ⟨rfl,rfl,trivial⟩ rfl,by omega⟩
  ·(conv=>whnf);(repeat' (first|(refine arith_i ⟨by omega,by omega⟩ ?_;conv=>whnf)|((refine idx_cs he ?_);conv=>whnf)|((refine eq_i guard_ident (fun w=>eq_ident _ _ _ _ w) ?_);conv=>whnf)|((with_reducible refine branch_d (fun hq=>?_) (fun hq=>?_))<;>(try (exfalso;omega))<;>(conv=>whnf))|((with_reducible refine branch_e (fun hq=>?_) (fun hq=>?_))<;>(try (exfalso;omega))<;>(conv=>whnf))|((with_reducible refine branch_i (fun hq=>?_) (fun hq=>?_))<;>(try (exfalso;omega))<;>(conv=>whnf))))
   ·exact ⟨i+1,i,⟨by omega, .inr ⟨i,e,rfl,he,rej_hit hek (by assumption)⟩⟩,le_mk ⟨rfl,rfl,rfl,int_eq (id_not hc he hek hk),rfl,rfl,rfl,rfl,trivial⟩ ⟨rfl,rfl,trivial⟩ rfl,by omega⟩
   ·exact ⟨i+1,d,⟨by omega,hD.next he (rej_mis (by assumption))⟩,le_mk ⟨rfl,rfl,rfl,int_eq (id_not hc he hek hk),rfl,rfl,rfl,rfl,trivial⟩ ⟨rfl,rfl,trivial⟩ rfl,by omega⟩
 ·obtain rfl:i=cs.length:=by omega
  rw [if_pos hn0]
  rcases hD with ⟨rfl,hno⟩|⟨j,e,rfl,hj,hr⟩
  ·have hB:rejB cs c=false:=by
    rw [rejB,List.any_eq_false]
    intro e he
    obtain ⟨j,hj⟩:=List.mem_iff_getElem?.1 he
    rw [decide_eq_true_eq]
    exact hno j e (List.getElem?_eq_some_iff.1 hj).1 hj
   have hLF:labF cs c o=o.getD lab0:=by rw [labF,hB];rfl
   have hSF:lstF cs c o=if o.isSome then 0 else 4:=by rw [lstF,hB];rfl
   rw [hLF,hSF]
   cases o with
   |none=>
    have hst:c.strip=[63]:=ho
    have hR:Good Tryz.prog TT false 67 [.str (bt c.strip)] (· = .tup [.agg [.int .i64 0, .int .i64 0, .int .i64 0, .int .i64 0], .int .i64 0, .int .i64 7]):=by rw [hst];exact read_un
    (conv=>whnf);(repeat' (first|((with_reducible refine branch_ff ?_);conv=>whnf)|((refine idx_cs hc ?_);conv=>whnf)|((refine call_e hR ?_);conv=>whnf)|((with_reducible refine branch_d (fun hq=>?_) (fun hq=>?_))<;>(try (exfalso;omega))<;>(conv=>whnf))|((with_reducible refine branch_n (fun hq=>?_) (fun hq=>?_))<;>(try (exfalso;omega))<;>(conv=>whnf))))
    exact ret_t (rs:=[.agg (encLb lab0), .int .i64 4]) ⟨.inr ⟨_,_,rfl,rfl,rc_p rfl,rc_p rfl,rc_p rfl,rc_p rfl,trivial⟩, .inl (rc_p rfl),trivial⟩ rfl
   |some l=>
    obtain ⟨hlo,ds,hDm,hds⟩:=ho
    have hR:=read_ok l hlo ds c.strip hDm hds
    (conv=>whnf);(repeat' (first|((with_reducible refine branch_ff ?_);conv=>whnf)|((refine idx_cs hc ?_);conv=>whnf)|((refine call_e hR ?_);conv=>whnf)|((with_reducible refine branch_d (fun hq=>?_) (fun hq=>?_))<;>(try (exfalso;omega))<;>(conv=>whnf))|((with_reducible refine branch_n (fun hq=>?_) (fun hq=>?_))<;>(try (exfalso;omega))<;>(conv=>whnf))))
    exact ret_t (rs:=[.agg (encLb l), .int .i64 0]) ⟨.inr ⟨_,_,rfl,rfl,rc_p rfl,rc_p rfl,rc_p rfl,rc_p rfl,trivial⟩, .inl (rc_p rfl),trivial⟩ rfl
  ·have hB:rejB cs c=true:=by
    rw [rejB,List.any_eq_true]
    exact ⟨e,List.mem_of_getElem? hj,decide_eq_true hr⟩
   have hLF:labF cs c o=lab0:=by rw [labF,hB];rfl
   have hSF:lstF cs c o=6:=by rw [lstF,hB];rfl
   have hek:=hr.1
   rw [hLF,hSF]
   (conv=>whnf);(repeat' (first|((with_reducible refine branch_tt ?_);conv=>whnf)|((refine idx_cs hj ?_);conv=>whnf)|((with_reducible refine branch_d (fun hq=>?_) (fun hq=>?_))<;>(try (exfalso;omega))<;>(conv=>whnf))|((with_reducible refine branch_e (fun hq=>?_) (fun hq=>?_))<;>(try (exfalso;omega))<;>(conv=>whnf))))
   exact ret_t (rs:=[.agg (encLb lab0), .int .i64 6]) ⟨.inr ⟨_,_,rfl,rfl,rc_p rfl,rc_p rfl,rc_p rfl,rc_p rfl,trivial⟩, .inl (rc_p rfl),trivial⟩ rfl
end Go.Proofs.YtihjphblcohdeaaGreatDoor
namespace Go.Proofs.YtihjphblcohdeaaGreatDoor
set_option maxRecDepth 10000
open Go.RowKit
def plT20c_0:Plan:=(.take 0 (.alt 1 (.take 2 (.take 3 (.take 4 (.take 6 (.alt 5 (.alt 7 (.take 8 (.take 9 (.take 10 (.take 11 (.take 13 (.alt 12 (.take 14 (.take 15 (.take 16 (.take 18 (.take 20 (.alt 17 (.alt 19 (.take 21 (.alt 22 (.alt 23 (.take 24 (.take 25 .done)) .stop) .stop)) .stop) (.alt 19 (.take 21 (.alt 17 (.alt 22 (.alt 23 (.take 24 (.take 25 .done)) .stop) .stop) (.alt 22 (.alt 17 (.alt 23 (.take 24 (.take 25 .done)) .stop) .stop) .stop))) .stop))))))) .stop)))))) .stop) (.alt 7 (.alt 5 (.take 8 (.take 9 (.take 10 (.take 11 (.take 13 (.alt 12 (.take 14 (.take 15 (.take 16 (.take 18 (.take 20 (.alt 17 (.alt 19 (.take 21 (.alt 22 (.alt 23 (.take 24 (.take 25 .done)) .stop) .stop)) .stop) (.alt 19 (.take 21 (.alt 17 (.alt 22 (.alt 23 (.take 24 (.take 25 .done)) .stop) .stop) (.alt 22 (.alt 17 (.alt 23 (.take 24 (.take 25 .done)) .stop) .stop) .stop))) .stop))))))) .stop)))))) .stop) .stop)))))) .stop))
def plT20c_2:Plan:=(.take 0 (.take 1 (.take 2 (.take 3 (.take 4 (.take 5 (.take 6 (.take 7 (.take 8 (.take 9 (.take 10 (.take 11 (.take 12 (.take 13 .done))))))))))))))
open F32
set_option maxHeartbeats 4000000 in
theorem checkPapers_ok (x:Sit) (hx:SitOk x):Good Tryz.prog TT false 63 [sitV x] (· = .int .i64 0):=by
 have hs:=hx.some
 have hv:=hx.vars
 have hvl:x.pap.length=x.bk.length:=hx.vars.1
 have LP:(x.pap.map (encPap x.num)).length=x.pap.length:=List.length_map ..
 have LB:(x.bk.map encBk).length=x.bk.length:=List.length_map ..
 refine good_of mixed tabOk Tryz.func63 rfl rfl Tryz.ntmps63 Tryz.results63 rfl rfl ?_
 (conv=>whnf);(repeat' (first|((with_reducible refine branch_n (fun hq=>?_) (fun hq=>?_))<;>(try (exfalso;omega))<;>(conv=>whnf))))
 refine loop_i (fun i:Nat=>i≤x.pap.length) (fun i=>mkSt [(1, .ptr 1 0),(13, .lst 3 (x.pap.map (encPap x.num))),(14, .int .i64 x.pap.length),(15, .int .i64 i)] [(1,sitC x)] false) (fun i=>x.pap.length-i) 0 (by omega) (le_mk ⟨rfl,rfl,int_eq (by rw [LP]),rfl,trivial⟩ ⟨rfl,trivial⟩ rfl) ?_
 intro i hi
 rcases Nat.lt_or_ge i x.pap.length with hil|hil
 ·obtain ⟨p,hp⟩:∃p,x.pap[i]? =some p:=⟨_,List.getElem?_eq_getElem hil⟩
  obtain ⟨b,hb⟩:∃b,x.bk[i]? =some b:=⟨_,List.getElem?_eq_getElem (by omega)⟩
  have hV:=hv.2 i p b hp hb
  have hvar:=hV.var
  have h6:=hV.six
  have hPO:PapOk x.num p.var p.parts:=by rw [hvar];exact hV.pap
  have h1:=vPaper_ok x.num p.var p.parts (by omega)
  rw [hPO.v] at h1
  have h2:=bValid_ok x.num p.var p.parts b hPO hV.book
  (conv=>whnf);(repeat' (first|(refine arith_i ⟨by omega,by omega⟩ ?_;conv=>whnf)|((with_reducible first|refine branch_tt ?_|refine branch_ff ?_);conv=>whnf)|(with_reducible refine branch_not ?_)|((refine idx_cs hp ?_);conv=>whnf)|((refine idx_cs hb ?_);conv=>whnf)|((refine call_e h1 ?_);conv=>whnf)|((refine call_e h2 ?_);conv=>whnf)|(refine draw_i 26 plT20c_0 (by decide+kernel) ?_;(conv=>whnf);fail_if_success (guard_target=~ False))|((with_reducible refine And.intro ?_ ?_)<;>(conv=>whnf))|(with_reducible exact trivial)|((with_reducible refine branch_d (fun hq=>?_) (fun hq=>?_))<;>(try (exfalso;omega))<;>(conv=>whnf))|((with_reducible refine branch_n (fun hq=>?_) (fun hq=>?_))<;>(try (exfalso;omega))<;>(conv=>whnf))))
  all_goals exact ⟨i+1,by omega,le_q,by omega⟩
 ·obtain rfl:i=x.pap.length:=by omega
  (conv=>whnf);(repeat' (first|((with_reducible refine branch_d (fun hq=>?_) (fun hq=>?_))<;>(try (exfalso;omega))<;>(conv=>whnf))))
  exact ret_p rfl rfl
set_option maxHeartbeats 4000000 in
theorem check_ok (x:Sit) (hx:SitOk x):Good Tryz.prog TT false 32 [sitV x] (· = .int .i64 0):=by
 have hs:=hx.some
 have hv:=hx.vars
 have hvl:x.pap.length=x.bk.length:=hx.vars.1
 have hn:=hx.num
 have hl:=sit_len hx
 have LP:(x.pap.map (encPap x.num)).length=x.pap.length:=List.length_map ..
 have LE:(x.exp.map encE).length=x.exp.length:=List.length_map ..
 refine good_of mixed tabOk Tryz.func32 rfl rfl Tryz.ntmps32 Tryz.results32 rfl rfl ?_
 (conv=>whnf);(repeat' (first|((with_reducible refine branch_ff ?_);conv=>whnf)|((refine call_e (checkPapers_ok x hx) ?_);conv=>whnf)|((with_reducible refine branch_d (fun hq=>?_) (fun hq=>?_))<;>(try (exfalso;omega))<;>(conv=>whnf))|((with_reducible refine branch_n (fun hq=>?_) (fun hq=>?_))<;>(try (exfalso;omega))<;>(conv=>whnf))))
 refine loop_i (fun i:Nat=>i≤x.exp.length) (fun i=>mkSt [(1, .ptr 1 0),(37, .lst 3 (x.exp.map encE)),(38, .int .i64 x.exp.length),(39, .int .i64 i)] [(1,sitC x)] false) (fun i=>x.exp.length-i) 0 (by omega) (le_mk ⟨rfl,rfl,int_eq (by rw [LE]),rfl,trivial⟩ ⟨rfl,trivial⟩ rfl) ?_
 intro i hi
 rcases Nat.lt_or_ge i x.exp.length with hil|hil
 ·obtain ⟨e,he⟩:∃e,x.exp[i]? =some e:=⟨_,List.getElem?_eq_getElem hil⟩
  have h1:=hx.exps e (List.mem_of_getElem? he)
  (conv=>whnf);(repeat' (first|(refine arith_i ⟨by omega,by omega⟩ ?_;conv=>whnf)|((with_reducible refine branch_ff ?_);conv=>whnf)|((refine idx_cs he ?_);conv=>whnf)|((with_reducible refine branch_d (fun hq=>?_) (fun hq=>?_))<;>(try (exfalso;omega))<;>(conv=>whnf))))
  all_goals exact ⟨i+1,by omega,le_q,by omega⟩
 ·obtain rfl:i=x.exp.length:=by omega
  (conv=>whnf);(repeat' (first|((with_reducible refine branch_d (fun hq=>?_) (fun hq=>?_))<;>(try (exfalso;omega))<;>(conv=>whnf))))
  refine loop_i (fun i:Nat=>1≤i) (fun i=>mkSt [(1, .ptr 1 0),(6, .int .i64 i)] [(1,sitC x)] false) (fun i=>x.exp.length-i) 1 (by omega) le_q ?_
  intro i hi
  rcases Nat.lt_or_ge i x.exp.length with hil|hil
  ·obtain ⟨e,he⟩:∃e,x.exp[i]? =some e:=⟨_,List.getElem?_eq_getElem hil⟩
   obtain ⟨f,hf⟩:∃e,x.exp[i-1]? =some e:=⟨_,List.getElem?_eq_getElem (by omega)⟩
   have h3:f.cand<e.cand:=by
    have h4:=(List.pairwise_iff_getElem.1 hx.asc) (i-1) i (by omega) hil (by omega)
    rw [(List.getElem?_eq_some_iff.1 he).2,(List.getElem?_eq_some_iff.1 hf).2] at h4
    exact h4
   (conv=>whnf);(repeat' (first|(refine arith_i ⟨by omega,by omega⟩ ?_;conv=>whnf)|((refine idx_cs he ?_);conv=>whnf)|((refine idx_ms (x:=f) (by omega) (by rw [show ((i:Int)-1).toNat=i-1 by omega];exact hf) ?_);conv=>whnf)|(refine draw_i 14 plT20c_2 (by decide+kernel) ?_;(conv=>whnf);fail_if_success (guard_target=~ False))|((with_reducible refine branch_d (fun hq=>?_) (fun hq=>?_))<;>(try (exfalso;omega))<;>(conv=>whnf))))
   all_goals exact ⟨i+1,by omega,le_q,by omega⟩
  ·(conv=>whnf);(repeat' (first|((with_reducible refine branch_d (fun hq=>?_) (fun hq=>?_))<;>(try (exfalso;omega))<;>(conv=>whnf))))
   exact ret_p rfl rfl
end Go.Proofs.YtihjphblcohdeaaGreatDoor
namespace Go.Proofs.YtihjphblcohdeaaGreatDoor
set_option maxRecDepth 10000
open Go.RowKit
def plT20d_0:Plan:=(.take 0 (.take 1 (.take 2 (.take 3 (.take 4 (.take 5 (.alt 6 (.take 7 .done) .stop)))))))
def plT20d_3:Plan:=(.take 0 (.take 1 (.take 2 (.take 3 (.take 4 (.take 5 (.take 6 (.take 7 (.take 8 (.take 9 (.take 10 (.alt 11 (.take 12 (.take 13 (.take 14 (.take 15 .done)))) .stop))))))))))))
open F32
structure ScS where
 src:Int
 seq:Int
 state:Int
 lab:LabD
def encSS (x:ScS):List AV:=[.int .i64 x.src, .int .i64 x.seq, .int .i64 x.state, .int .i64 x.lab.paper, .int .i64 x.lab.cand, .int .i64 x.lab.page, .int .i64 x.lab.var]
structure Pag where
 cand:Int
 page:Int
 content:Int
 ch:List Int
 src:Int
 seq:Int
def encPa (p:Pag):List AV:=[.int .i64 p.cand, .int .i64 p.page, .int .i64 p.content,ints p.ch, .int .i64 p.src, .int .i64 p.seq]
def BsR {α:Type} (s:List α) (cf:α→Int) (r:AV):Prop:=(∃(i:Nat) (x:α),s[i]? =some x∧cf x=0∧r= .tup [.int .i64 i, .bool true])∨((∀x∈s,cf x≠0)∧∃i:Nat,r= .tup [.int .i64 i, .bool false])
def BsO {α:Type} (s:List α) (cf:α→Int):Prop:=s.Pairwise fun a b=>0≤cf a→0<cf b
theorem bso_at {α:Type} {s:List α} {cf:α→Int} (h:BsO s cf) {i j:Nat} {a b:α} (ha:s[i]? =some a) (hb:s[j]? =some b) (hij:i<j) (h0:0≤cf a):0<cf b:=by
 have h1:=(List.pairwise_iff_getElem.1 h) i j (List.getElem?_eq_some_iff.1 ha).1 (List.getElem?_eq_some_iff.1 hb).1 hij
 rw [(List.getElem?_eq_some_iff.1 ha).2,(List.getElem?_eq_some_iff.1 hb).2] at h1
 exact h1 h0
theorem half_eq (i j:Nat):((i:Int)+j).fdiv (2 ^ min (Int.toNat 1) (IntKind.bits .u64))=(((i+j) / 2:Nat):Int):=by
 show ((i:Int)+j).fdiv 2=_
 rw [Int.fdiv_eq_ediv_of_nonneg _ (by omega)];omega
set_option maxHeartbeats 4000000 in
theorem bsE_ok (s:List ExpD) (g:Nat) (n:Int) (cf:ExpD→Int) (hs:BsO s cf) (hl:s.length≤1000) (hg:∀x∈s,Good Tryz.prog TT false g [.agg (encE x), .int .i64 n] (· = .int .i64 (cf x))):Good Tryz.prog TT false 68 [.lst 3 (s.map encE), .int .i64 n, .fn g []] (BsR s cf):=by
 have LS:(s.map encE).length=s.length:=List.length_map ..
 refine good_of mixed tabOk Tryz.func68 rfl rfl Tryz.ntmps68 Tryz.results68 rfl rfl ?_
 (conv=>whnf)
 refine loop_i2 (fun i j:Nat=>i≤j∧j≤s.length∧(∀(k:Nat) (x:ExpD),k<i→s[k]? =some x→cf x<0)∧∀(k:Nat) (x:ExpD),j≤k→s[k]? =some x→0≤cf x) (fun i j=>mkSt [(0, .lst 3 (s.map encE)),(1, .int .i64 n),(2, .fn g []),(8, .int .i64 s.length),(9, .int .i64 i),(10, .int .i64 j)] [] false) (fun i j=>j-i) 0 s.length ⟨Nat.zero_le _,Nat.le_refl _,fun k x h=>absurd h (by omega),fun k x h hx=>absurd (List.getElem?_eq_some_iff.1 hx).1 (by omega)⟩ (le_mk ⟨rfl,rfl,rfl,int_eq (by rw [LS]),rfl,int_eq (by rw [LS]),trivial⟩ trivial rfl) ?_
 rintro i j ⟨hij,hj,hlo,hhi⟩
 rcases Nat.lt_or_ge i j with hil|hil
 ·have hsh:=half_eq i j
  obtain ⟨x,hx⟩:∃x,s[(i+j) / 2]? =some x:=⟨_,List.getElem?_eq_getElem (by omega)⟩
  have hgx:=hg x (List.mem_of_getElem? hx)
  (conv=>whnf);(repeat' (first|(refine arith_i ⟨by omega,by omega⟩ ?_;conv=>whnf)|(refine arith_u ⟨by omega,by omega⟩ ?_;conv=>whnf)|(refine need_o ?_;conv=>whnf)|(((rw [hsh];refine idx_cs hx ?_));conv=>whnf)|((refine call_e hgx ?_);conv=>whnf)|((with_reducible refine branch_d (fun hq=>?_) (fun hq=>?_))<;>(try (exfalso;omega))<;>(conv=>whnf))))
  ·refine ⟨(i+j) / 2+1,j,⟨by omega,hj,fun k y hk hy=>?_,hhi⟩,le_mk ⟨rfl,rfl,rfl,rfl,int_eq (by omega),rfl,trivial⟩ trivial rfl,by omega⟩
   rcases Nat.lt_or_ge k ((i+j) / 2) with hk2|hk2
   ·exact Classical.byContradiction fun h3=>by have:=bso_at hs hy hx hk2 (by omega);omega
   ·obtain rfl:k=(i+j) / 2:=by omega
    rw [hx] at hy;injection hy with hy;rw [←hy];exact hq
  ·refine ⟨i,(i+j) / 2,⟨by omega,by omega,hlo,fun k y hk hy=>?_⟩,le_mk ⟨rfl,rfl,rfl,rfl,rfl,rfl,trivial⟩ trivial rfl,by omega⟩
   rcases Nat.lt_or_ge ((i+j) / 2) k with hk2|hk2
   ·have:=bso_at hs hx hy hk2 (by omega);omega
   ·obtain rfl:k=(i+j) / 2:=by omega
    rw [hx] at hy;injection hy with hy;rw [←hy];omega
 ·obtain rfl:i=j:=by omega
  rcases Nat.lt_or_ge i s.length with hl|hl
  ·obtain ⟨x,hx⟩:∃x,s[i]? =some x:=⟨_,List.getElem?_eq_getElem hl⟩
   have hgx:=hg x (List.mem_of_getElem? hx)
   (conv=>whnf);(repeat' (first|((with_reducible refine branch_tt ?_);conv=>whnf)|((refine idx_cs hx ?_);conv=>whnf)|((refine call_e hgx ?_);conv=>whnf)|((with_reducible refine branch_d (fun hq=>?_) (fun hq=>?_))<;>(try (exfalso;omega))<;>(conv=>whnf))))
   by_cases hn:cf x=0
   ·have e:(cf x==0)=true:=by rw [beq_iff_eq];exact hn
    exact ret_t (rs:=[.int .i64 i, .bool (cf x==0)]) ⟨(rc_p rfl).g,(rc_p rfl).g,trivial⟩ (by rw [e];exact .inl ⟨i,x,hx,hn,rfl⟩)
   ·have e:(cf x==0)=false:=by rw [beq_eq_false_iff_ne];exact hn
    have hR:∀y∈s,cf y≠0:=fun y hy=>by
     obtain ⟨k,hk⟩:=List.mem_iff_getElem?.1 hy
     rcases Nat.lt_or_ge k i with h|h
     ·have:=hlo k y h hk;omega
     ·rcases Nat.lt_or_ge i k with h2|h2
      ·have h0:=hhi i x (Nat.le_refl _) hx
       have:=bso_at hs hx hk h2 h0;omega
      ·obtain rfl:k=i:=by omega
       rw [hx] at hk;cases hk;exact hn
    exact ret_t (rs:=[.int .i64 i, .bool (cf x==0)]) ⟨(rc_p rfl).g,(rc_p rfl).g,trivial⟩ (by rw [e];exact .inr ⟨hR,i,rfl⟩)
  ·(conv=>whnf);(repeat' (first|((with_reducible refine branch_ff ?_);conv=>whnf)|((with_reducible refine branch_d (fun hq=>?_) (fun hq=>?_))<;>(try (exfalso;omega))<;>(conv=>whnf))))
   refine ret_t (rs:=[.int .i64 i, .bool false]) ⟨(rc_p rfl).g,(rc_p rfl).g,trivial⟩ (.inr ⟨fun y hy=>?_,i,rfl⟩)
   obtain ⟨k,hk⟩:=List.mem_iff_getElem?.1 hy
   have:=hlo k y (by have:=(List.getElem?_eq_some_iff.1 hk).1;omega) hk;omega
set_option maxHeartbeats 4000000 in
theorem bsS_ok (s:List ScS) (g:Nat) (a b:Int) (cf:ScS→Int) (hs:BsO s cf) (hl:s.length≤1000) (hg:∀x∈s,Good Tryz.prog TT false g [.agg (encSS x), .agg [.int .i64 a, .int .i64 b]] (· = .int .i64 (cf x))):Good Tryz.prog TT false 79 [.lst 7 (s.map encSS), .agg [.int .i64 a, .int .i64 b], .fn g []] (BsR s cf):=by
 have LS:(s.map encSS).length=s.length:=List.length_map ..
 refine good_of mixed tabOk Tryz.func79 rfl rfl Tryz.ntmps79 Tryz.results79 rfl rfl ?_
 (conv=>whnf)
 refine loop_i2 (fun i j:Nat=>i≤j∧j≤s.length∧(∀(k:Nat) (x:ScS),k<i→s[k]? =some x→cf x<0)∧∀(k:Nat) (x:ScS),j≤k→s[k]? =some x→0≤cf x) (fun i j=>mkSt [(0, .lst 7 (s.map encSS)),(4, .ptr 4 0),(2, .fn g []),(8, .int .i64 s.length),(9, .int .i64 i),(10, .int .i64 j)] [(4,[.int .i64 a, .int .i64 b])] false) (fun i j=>j-i) 0 s.length ⟨Nat.zero_le _,Nat.le_refl _,fun k x h=>absurd h (by omega),fun k x h hx=>absurd (List.getElem?_eq_some_iff.1 hx).1 (by omega)⟩ (le_mk ⟨rfl,rfl,rfl,int_eq (by rw [LS]),rfl,int_eq (by rw [LS]),trivial⟩ ⟨rfl,trivial⟩ rfl) ?_
 rintro i j ⟨hij,hj,hlo,hhi⟩
 rcases Nat.lt_or_ge i j with hil|hil
 ·have hsh:=half_eq i j
  obtain ⟨x,hx⟩:∃x,s[(i+j) / 2]? =some x:=⟨_,List.getElem?_eq_getElem (by omega)⟩
  have hgx:=hg x (List.mem_of_getElem? hx)
  (conv=>whnf);(repeat' (first|(refine arith_i ⟨by omega,by omega⟩ ?_;conv=>whnf)|(refine arith_u ⟨by omega,by omega⟩ ?_;conv=>whnf)|(refine need_o ?_;conv=>whnf)|(((rw [hsh];refine idx_cs hx ?_));conv=>whnf)|((refine call_e hgx ?_);conv=>whnf)|(refine draw_i 8 plT20d_0 (by decide+kernel) ?_;(conv=>whnf);fail_if_success (guard_target=~ False))|((with_reducible refine And.intro ?_ ?_)<;>(conv=>whnf))|(with_reducible exact trivial)|((with_reducible refine branch_d (fun hq=>?_) (fun hq=>?_))<;>(try (exfalso;omega))<;>(conv=>whnf))))
  ·refine ⟨(i+j) / 2+1,j,⟨by omega,hj,fun k y hk hy=>?_,hhi⟩,le_mk ⟨rfl,rfl,rfl,rfl,int_eq (by omega),rfl,trivial⟩ ⟨rfl,trivial⟩ rfl,by omega⟩
   rcases Nat.lt_or_ge k ((i+j) / 2) with hk2|hk2
   ·exact Classical.byContradiction fun h3=>by have:=bso_at hs hy hx hk2 (by omega);omega
   ·obtain rfl:k=(i+j) / 2:=by omega
    rw [hx] at hy;injection hy with hy;rw [←hy];exact hq
  ·refine ⟨i,(i+j) / 2,⟨by omega,by omega,hlo,fun k y hk hy=>?_⟩,le_mk ⟨rfl,rfl,rfl,rfl,rfl,rfl,trivial⟩ ⟨rfl,trivial⟩ rfl,by omega⟩
   rcases Nat.lt_or_ge ((i+j) / 2) k with hk2|hk2
   ·have:=bso_at hs hx hy hk2 (by omega);omega
   ·obtain rfl:k=(i+j) / 2:=by omega
    rw [hx] at hy;injection hy with hy;rw [←hy];omega
 ·obtain rfl:i=j:=by omega
  rcases Nat.lt_or_ge i s.length with hl|hl
  ·obtain ⟨x,hx⟩:∃x,s[i]? =some x:=⟨_,List.getElem?_eq_getElem hl⟩
   have hgx:=hg x (List.mem_of_getElem? hx)
   (conv=>whnf);(repeat' (first|((with_reducible refine branch_tt ?_);conv=>whnf)|((refine idx_cs hx ?_);conv=>whnf)|((refine call_e hgx ?_);conv=>whnf)|(refine draw_i 16 plT20d_3 (by decide+kernel) ?_;(conv=>whnf);fail_if_success (guard_target=~ False))|((with_reducible refine And.intro ?_ ?_)<;>(conv=>whnf))|(with_reducible exact trivial)|((with_reducible refine branch_d (fun hq=>?_) (fun hq=>?_))<;>(try (exfalso;omega))<;>(conv=>whnf))))
   by_cases hn:cf x=0
   ·have e:(cf x==0)=true:=by rw [beq_iff_eq];exact hn
    exact ret_t (rs:=[.int .i64 i, .bool (cf x==0)]) ⟨(rc_p rfl).g,(rc_p rfl).g,trivial⟩ (by rw [e];exact .inl ⟨i,x,hx,hn,rfl⟩)
   ·have e:(cf x==0)=false:=by rw [beq_eq_false_iff_ne];exact hn
    have hR:∀y∈s,cf y≠0:=fun y hy=>by
     obtain ⟨k,hk⟩:=List.mem_iff_getElem?.1 hy
     rcases Nat.lt_or_ge k i with h|h
     ·have:=hlo k y h hk;omega
     ·rcases Nat.lt_or_ge i k with h2|h2
      ·have h0:=hhi i x (Nat.le_refl _) hx
       have:=bso_at hs hx hk h2 h0;omega
      ·obtain rfl:k=i:=by omega
       rw [hx] at hk;cases hk;exact hn
    exact ret_t (rs:=[.int .i64 i, .bool (cf x==0)]) ⟨(rc_p rfl).g,(rc_p rfl).g,trivial⟩ (by rw [e];exact .inr ⟨hR,i,rfl⟩)
  ·(conv=>whnf);(repeat' (first|((with_reducible refine branch_ff ?_);conv=>whnf)|(refine draw_i 16 plT20d_3 (by decide+kernel) ?_;(conv=>whnf);fail_if_success (guard_target=~ False))|((with_reducible refine And.intro ?_ ?_)<;>(conv=>whnf))|(with_reducible exact trivial)|((with_reducible refine branch_d (fun hq=>?_) (fun hq=>?_))<;>(try (exfalso;omega))<;>(conv=>whnf))))
   refine ret_t (rs:=[.int .i64 i, .bool false]) ⟨(rc_p rfl).g,(rc_p rfl).g,trivial⟩ (.inr ⟨fun y hy=>?_,i,rfl⟩)
   obtain ⟨k,hk⟩:=List.mem_iff_getElem?.1 hy
   have:=hlo k y (by have:=(List.getElem?_eq_some_iff.1 hk).1;omega) hk;omega
set_option maxHeartbeats 4000000 in
theorem bsP_ok (s:List Pag) (g:Nat) (a b:Int) (cf:Pag→Int) (hs:BsO s cf) (hl:s.length≤1000) (hg:∀x∈s,Good Tryz.prog TT false g [.agg (encPa x), .agg [.int .i64 a, .int .i64 b]] (· = .int .i64 (cf x))):Good Tryz.prog TT false 86 [.lst 6 (s.map encPa), .agg [.int .i64 a, .int .i64 b], .fn g []] (BsR s cf):=by
 have LS:(s.map encPa).length=s.length:=List.length_map ..
 refine good_of mixed tabOk Tryz.func86 rfl rfl Tryz.ntmps86 Tryz.results86 rfl rfl ?_
 (conv=>whnf)
 refine loop_i2 (fun i j:Nat=>i≤j∧j≤s.length∧(∀(k:Nat) (x:Pag),k<i→s[k]? =some x→cf x<0)∧∀(k:Nat) (x:Pag),j≤k→s[k]? =some x→0≤cf x) (fun i j=>mkSt [(0, .lst 6 (s.map encPa)),(4, .ptr 4 0),(2, .fn g []),(8, .int .i64 s.length),(9, .int .i64 i),(10, .int .i64 j)] [(4,[.int .i64 a, .int .i64 b])] false) (fun i j=>j-i) 0 s.length ⟨Nat.zero_le _,Nat.le_refl _,fun k x h=>absurd h (by omega),fun k x h hx=>absurd (List.getElem?_eq_some_iff.1 hx).1 (by omega)⟩ (le_mk ⟨rfl,rfl,rfl,int_eq (by rw [LS]),rfl,int_eq (by rw [LS]),trivial⟩ ⟨rfl,trivial⟩ rfl) ?_
 rintro i j ⟨hij,hj,hlo,hhi⟩
 rcases Nat.lt_or_ge i j with hil|hil
 ·have hsh:=half_eq i j
  obtain ⟨x,hx⟩:∃x,s[(i+j) / 2]? =some x:=⟨_,List.getElem?_eq_getElem (by omega)⟩
  have hgx:=hg x (List.mem_of_getElem? hx)
  (conv=>whnf);(repeat' (first|(refine arith_i ⟨by omega,by omega⟩ ?_;conv=>whnf)|(refine arith_u ⟨by omega,by omega⟩ ?_;conv=>whnf)|(refine need_o ?_;conv=>whnf)|(((rw [hsh];refine idx_cs hx ?_));conv=>whnf)|((refine call_e hgx ?_);conv=>whnf)|(refine draw_i 8 plT20d_0 (by decide+kernel) ?_;(conv=>whnf);fail_if_success (guard_target=~ False))|((with_reducible refine And.intro ?_ ?_)<;>(conv=>whnf))|(with_reducible exact trivial)|((with_reducible refine branch_d (fun hq=>?_) (fun hq=>?_))<;>(try (exfalso;omega))<;>(conv=>whnf))))
  ·refine ⟨(i+j) / 2+1,j,⟨by omega,hj,fun k y hk hy=>?_,hhi⟩,le_mk ⟨rfl,rfl,rfl,rfl,int_eq (by omega),rfl,trivial⟩ ⟨rfl,trivial⟩ rfl,by omega⟩
   rcases Nat.lt_or_ge k ((i+j) / 2) with hk2|hk2
   ·exact Classical.byContradiction fun h3=>by have:=bso_at hs hy hx hk2 (by omega);omega
   ·obtain rfl:k=(i+j) / 2:=by omega
    rw [hx] at hy;injection hy with hy;rw [←hy];exact hq
  ·refine ⟨i,(i+j) / 2,⟨by omega,by omega,hlo,fun k y hk hy=>?_⟩,le_mk ⟨rfl,rfl,rfl,rfl,rfl,rfl,trivial⟩ ⟨rfl,trivial⟩ rfl,by omega⟩
   rcases Nat.lt_or_ge ((i+j) / 2) k with hk2|hk2
   ·have:=bso_at hs hx hy hk2 (by omega);omega
   ·obtain rfl:k=(i+j) / 2:=by omega
    rw [hx] at hy;injection hy with hy;rw [←hy];omega
 ·obtain rfl:i=j:=by omega
  rcases Nat.lt_or_ge i s.length with hl|hl
  ·obtain ⟨x,hx⟩:∃x,s[i]? =some x:=⟨_,List.getElem?_eq_getElem hl⟩
   have hgx:=hg x (List.mem_of_getElem? hx)
   (conv=>whnf);(repeat' (first|((with_reducible refine branch_tt ?_);conv=>whnf)|((refine idx_cs hx ?_);conv=>whnf)|((refine call_e hgx ?_);conv=>whnf)|(refine draw_i 16 plT20d_3 (by decide+kernel) ?_;(conv=>whnf);fail_if_success (guard_target=~ False))|((with_reducible refine And.intro ?_ ?_)<;>(conv=>whnf))|(with_reducible exact trivial)|((with_reducible refine branch_d (fun hq=>?_) (fun hq=>?_))<;>(try (exfalso;omega))<;>(conv=>whnf))))
   by_cases hn:cf x=0
   ·have e:(cf x==0)=true:=by rw [beq_iff_eq];exact hn
    exact ret_t (rs:=[.int .i64 i, .bool (cf x==0)]) ⟨(rc_p rfl).g,(rc_p rfl).g,trivial⟩ (by rw [e];exact .inl ⟨i,x,hx,hn,rfl⟩)
   ·have e:(cf x==0)=false:=by rw [beq_eq_false_iff_ne];exact hn
    have hR:∀y∈s,cf y≠0:=fun y hy=>by
     obtain ⟨k,hk⟩:=List.mem_iff_getElem?.1 hy
     rcases Nat.lt_or_ge k i with h|h
     ·have:=hlo k y h hk;omega
     ·rcases Nat.lt_or_ge i k with h2|h2
      ·have h0:=hhi i x (Nat.le_refl _) hx
       have:=bso_at hs hx hk h2 h0;omega
      ·obtain rfl:k=i:=by omega
       rw [hx] at hk;cases hk;exact hn
    exact ret_t (rs:=[.int .i64 i, .bool (cf x==0)]) ⟨(rc_p rfl).g,(rc_p rfl).g,trivial⟩ (by rw [e];exact .inr ⟨hR,i,rfl⟩)
  ·(conv=>whnf);(repeat' (first|((with_reducible refine branch_ff ?_);conv=>whnf)|(refine draw_i 16 plT20d_3 (by decide+kernel) ?_;(conv=>whnf);fail_if_success (guard_target=~ False))|((with_reducible refine And.intro ?_ ?_)<;>(conv=>whnf))|(with_reducible exact trivial)|((with_reducible refine branch_d (fun hq=>?_) (fun hq=>?_))<;>(try (exfalso;omega))<;>(conv=>whnf))))
   refine ret_t (rs:=[.int .i64 i, .bool false]) ⟨(rc_p rfl).g,(rc_p rfl).g,trivial⟩ (.inr ⟨fun y hy=>?_,i,rfl⟩)
   obtain ⟨k,hk⟩:=List.mem_iff_getElem?.1 hy
   have:=hlo k y (by have:=(List.getElem?_eq_some_iff.1 hk).1;omega) hk;omega
end Go.Proofs.YtihjphblcohdeaaGreatDoor
namespace Go.Proofs.YtihjphblcohdeaaGreatDoor
set_option maxRecDepth 10000
open Go.RowKit
def plT20e_0:Plan:=(.take 0 (.take 1 (.take 2 (.take 3 (.take 4 (.take 5 (.take 6 (.take 7 (.take 8 (.take 9 (.take 10 (.take 11 (.take 12 (.take 13 (.take 14 (.take 15 (.take 16 (.take 17 (.take 18 (.take 19 .done))))))))))))))))))))
def plT20e_3:Plan:=(.take 0 (.take 1 (.take 2 (.take 3 (.take 4 (.take 5 (.take 6 (.take 7 (.take 8 (.take 9 (.take 10 (.alt 11 (.take 12 (.take 13 .done)) .stop))))))))))))
open F32
theorem fits1_ok (e:ExpD) (n:Int):Good Tryz.prog TT false 69 [.agg (encE e), .int .i64 n] (· = .int .i64 (cmpI e.cand n)):=by
 refine good_of mixed tabOk Tryz.func69 rfl rfl Tryz.ntmps69 Tryz.results69 rfl rfl ?_
 (conv=>whnf);(repeat' (first|((refine call_e (compare_ok e.cand n) ?_);conv=>whnf)|fail))
 all_goals exact ret_p rfl rfl
theorem expOf1_ok (e:ExpD) (n:Int):Good Tryz.prog TT false 98 [.agg (encE e), .int .i64 n] (· = .int .i64 (cmpI e.cand n)):=by
 refine good_of mixed tabOk Tryz.func98 rfl rfl Tryz.ntmps98 Tryz.results98 rfl rfl ?_
 (conv=>whnf);(repeat' (first|((refine call_e (compare_ok e.cand n) ?_);conv=>whnf)|fail))
 all_goals exact ret_p rfl rfl
theorem fits2_ok (v:Int) (h:0≤v∧v≤9):Good Tryz.prog TT false 71 [.int .i64 v] (· = .bool false):=by
 refine good_of mixed tabOk Tryz.func71 rfl rfl Tryz.ntmps71 Tryz.results71 rfl rfl ?_
 (conv=>whnf);(repeat' (first|((with_reducible refine branch_ff ?_);conv=>whnf)|((with_reducible refine branch_d (fun hq=>?_) (fun hq=>?_))<;>(try (exfalso;omega))<;>(conv=>whnf))))
 all_goals exact ret_p rfl (bool_eq (by simp;omega))
theorem cmp_nonneg {a b:Int}:0≤cmpI a b↔b≤a:=by have:=@cmp_lt a b;omega
theorem cmp_pos {a b:Int}:0<cmpI a b↔b<a:=by unfold cmpI;split<;>(try split)<;>omega
theorem exp_bso {x:Sit} (hx:SitOk x) (n:Int):BsO x.exp fun e=>cmpI e.cand n:=hx.asc.imp fun {a b} h h0=>by
 rw [cmp_nonneg] at h0;rw [cmp_pos];omega
theorem exp_at {x:Sit} (hx:SitOk x) {i j:Nat} {e f:ExpD} (he:x.exp[i]? =some e) (hf:x.exp[j]? =some f) (h:e.cand=f.cand):i=j∧e=f:=by
 have h1:=List.pairwise_iff_getElem.1 hx.asc
 obtain ⟨a1,a2⟩:=List.getElem?_eq_some_iff.1 he
 obtain ⟨b1,b2⟩:=List.getElem?_eq_some_iff.1 hf
 have hij:i=j:=by
  rcases Nat.lt_trichotomy i j with h3|h3|h3
  ·have:=h1 i j a1 b1 h3;rw [a2,b2] at this;omega
  ·exact h3
  ·have:=h1 j i b1 a1 h3;rw [a2,b2] at this;omega
 subst hij
 rw [he] at hf;cases hf
 exact ⟨rfl,rfl⟩
theorem exp_place {x:Sit} (hx:SitOk x) {i:Nat} {e:ExpD} (he:x.exp[i]? =some e) {r:AV} (h:BsR x.exp (fun e'=>cmpI e'.cand e.cand) r):r= .tup [.int .i64 i, .bool true]:=by
 rcases h with ⟨j,f,hf,h0,rfl⟩|⟨h0,_⟩
 ·have:=(exp_at hx hf he (cmp_eq.1 h0)).1
  rw [this]
 ·exact absurd (cmp_eq.2 rfl) (h0 e (List.mem_of_getElem? he))
set_option maxHeartbeats 4000000 in
theorem fits_ok (x:Sit) (hx:SitOk x) (i:Nat) (e:ExpD) (he:x.exp[i]? =some e) (k:Nat) (pg:List Int) (hk:(bkOf x e)[k]? =some pg) (ch:List Int) (hch:ch.length=(fldsF (papOf x e) pg).length) (hc9:∀v∈ch,0≤v∧v≤9):Good Tryz.prog TT false 36 [sitV x, .agg (encLb (labAt x e k)),ints ch] (· = .bool true):=by
 have hem:=List.mem_of_getElem? he
 have hb:=sit_bk hx hem
 obtain ⟨hp,hV⟩:=sit_pap hx hem
 have h1:=hx.exps e hem
 have hkl:=(List.getElem?_eq_some_iff.1 hk).1
 have LB:((bkOf x e).map encPg).length=(bkOf x e).length:=List.length_map ..
 have hPk:PapOk x.num e.var (papOf x e):=by have:=hV.pap;rwa [show ((e.var.toNat:Nat):Int)=e.var by omega] at this
 have h66:(papOf x e).length≤6:=hV.six
 have hfl:=fldsF_len hPk.parts (l:=pg) fun b hb=>hV.book.mem hk hb
 have hpl:offP (bkOf x e) k+pg.length≤(papOf x e).length:=hV.book.len_le hk
 have LC:(ch.map encI).length=ch.length:=List.length_map ..
 have LF:((fldsF (papOf x e) pg).map encF).length=(fldsF (papOf x e) pg).length:=List.length_map ..
 have hbs:=bsE_ok x.exp 69 e.cand (fun e'=>cmpI e'.cand e.cand) (exp_bso hx e.cand) (by have:=sit_len hx;omega) fun f _=>fits1_ok f e.cand
 have hbs':=hbs.mono fun r hr=>exp_place hx he hr
 have hcn:=containsNone_ok ch 71 (by omega) fun v hv=>fits2_ok v (hc9 v hv)
 have hl1:(labAt x e k).paper=x.num:=rfl
 have hl2:(labAt x e k).var=e.var:=rfl
 have hl3:(labAt x e k).page=(k:Int):=rfl
 refine good_of mixed tabOk Tryz.func36 rfl rfl Tryz.ntmps36 Tryz.results36 rfl rfl ?_
 (conv=>whnf);(repeat' (first|((with_reducible first|refine branch_tt ?_|refine branch_ff ?_);conv=>whnf)|(with_reducible refine branch_not ?_)|((refine call_e hbs' ?_);conv=>whnf)|((refine idx_cs he ?_);conv=>whnf)|((refine idx_ms (by omega) hb ?_);conv=>whnf)|((refine idx_ms (by omega) hp ?_);conv=>whnf)|((refine call_e (bFields_ok _ _ (papOf x e) (bkOf x e) k pg hPk hV.book hk) ?_);conv=>whnf)|((refine call_e hcn ?_);conv=>whnf)|(refine draw_i 20 plT20e_0 (by decide+kernel) ?_;(conv=>whnf);fail_if_success (guard_target=~ False))|(refine draw_i 14 plT20e_3 (by decide+kernel) ?_;(conv=>whnf);fail_if_success (guard_target=~ False))|((with_reducible refine And.intro ?_ ?_)<;>(conv=>whnf))|(with_reducible exact trivial)|((with_reducible refine branch_d (fun hq=>?_) (fun hq=>?_))<;>(try (exfalso;omega))<;>(conv=>whnf))|((with_reducible refine branch_n (fun hq=>?_) (fun hq=>?_))<;>(try (exfalso;omega))<;>(conv=>whnf))))
 all_goals exact ret_p rfl rfl
theorem Fits_ok (x:Sit) (hx:SitOk x) (i:Nat) (e:ExpD) (he:x.exp[i]? =some e) (k:Nat) (pg:List Int) (hk:(bkOf x e)[k]? =some pg) (ch:List Int) (hch:ch.length=(fldsF (papOf x e) pg).length) (hc9:∀v∈ch,0≤v∧v≤9):Good Tryz.prog TT false 82 [sitV x, .agg (encLb (labAt x e k)),ints ch] (· = .bool true):=by
 refine good_of mixed tabOk Tryz.func82 rfl rfl Tryz.ntmps82 Tryz.results82 rfl rfl ?_
 (conv=>whnf);(repeat' (first|((with_reducible refine branch_tt ?_);conv=>whnf)|((refine call_e (check_ok x hx) ?_);conv=>whnf)|((refine call_e (fits_ok x hx i e he k pg hk ch hch hc9) ?_);conv=>whnf)|((with_reducible refine branch_e (fun hq=>?_) (fun hq=>?_))<;>(try (exfalso;omega))<;>(conv=>whnf))))
 all_goals exact ret_p rfl rfl
end Go.Proofs.YtihjphblcohdeaaGreatDoor
namespace Go.Proofs.YtihjphblcohdeaaGreatDoor
set_option maxRecDepth 10000
open Go.RowKit
def plT20f_0:Plan:=(.take 0 (.take 1 (.take 2 (.take 3 (.take 4 (.take 5 (.take 6 (.take 7 (.take 8 (.take 9 (.take 10 (.take 11 (.take 12 (.take 13 (.take 14 (.take 15 (.alt 16 (.take 17 (.take 18 .done)) .stop)))))))))))))))))
open F32
def sameC (a b:Cap):Bool:=decide (a.content=b.content)&&decide (a.ch=b.ch)
def stG (cs:List Cap) (g0:Nat) (g:List Nat) (n:Nat):Int:=if g.all fun i=>sameC (capAt cs i) (capAt cs g0) then (if n=g0 then 1 else 2) else 3
set_option maxHeartbeats 4000000 in
theorem stateOf_ok (cs:List Cap) (hl:cs.length≤300) (hch:∀c∈cs,c.ch.length≤1000) (g0:Nat) (g1:List Nat) (hg:∀i∈g0::g1,i<cs.length) (hgl:(g0::g1).length≤1000) (n:Nat):Good Tryz.prog TT false 37 [.lst 13 (cs.map encC), .lst 1 ((g0::g1).map encNt), .int .i64 n] (· = .int .i64 (stG cs g0 (g0::g1) n)):=by
 have LE:(cs.map encC).length=cs.length:=List.length_map ..
 have LG:((g0::g1).map encNt).length=(g0::g1).length:=List.length_map ..
 have hat:∀i,i<cs.length→cs[i]? =some (capAt cs i):=fun i hi=>by rw [capAt,List.getD_eq_getElem?_getD,List.getElem?_eq_getElem hi];rfl
 have h0:=hat g0 (hg g0 (List.mem_cons_self ..))
 have h00:(g0::g1)[0]? =some g0:=rfl
 generalize hG:g0::g1=G at *
 refine good_of mixed tabOk Tryz.func37 rfl rfl Tryz.ntmps37 Tryz.results37 rfl rfl ?_
 (conv=>whnf);(repeat' (first|((refine idx_ms (x:=g0) (by omega) h00 ?_);conv=>whnf)|((refine idx_cs h0 ?_);conv=>whnf)|fail))
 refine loop_i (fun i:Nat=>i≤G.length∧∀(j k:Nat),j<i→G[j]? =some k→sameC (capAt cs k) (capAt cs g0)=true) (fun i=>mkSt [(0, .lst 13 (cs.map encC)),(1, .lst 1 (G.map encNt)),(2, .int .i64 n),(7, .ptr 7 0),(16, .lst 1 (G.map encNt)),(17, .int .i64 G.length),(18, .int .i64 i)] [(7,encC (capAt cs g0))] false) (fun i=>G.length-i) 0 ⟨by omega,fun j k h=>absurd h (by omega)⟩ (le_mk ⟨rfl,rfl,rfl,rfl,rfl,int_eq (by rw [LG]),rfl,trivial⟩ ⟨rfl,trivial⟩ rfl) ?_
 rintro i ⟨hi,hall⟩
 have hc0:=hch _ (List.mem_of_getElem? h0)
 rcases Nat.lt_or_ge i G.length with hil|hil
 ·obtain ⟨k,hk⟩:∃k,G[i]? =some k:=⟨_,List.getElem?_eq_getElem hil⟩
  have hk1:=hat k (hg k (List.mem_of_getElem? hk))
  have hck:=hch _ (List.mem_of_getElem? hk1)
  have hE:=equalI_ok (capAt cs k).ch (capAt cs g0).ch (by omega) (by omega)
  have hbad:sameC (capAt cs k) (capAt cs g0)=false→aret (.int .i64 3) fun x=>x=AV.int IntKind.i64 (stG cs g0 G n):=fun h=>by
   refine ret_p rfl (int_eq ?_)
   rw [stG,if_neg]
   rw [List.all_eq_true]
   exact fun h2=>by have:=h2 k (List.mem_of_getElem? hk);rw [h] at this;cases this
  (conv=>whnf);(repeat' (first|(refine arith_i ⟨by omega,by omega⟩ ?_;conv=>whnf)|((with_reducible first|refine branch_tt ?_|refine branch_ff ?_);conv=>whnf)|(with_reducible refine branch_not ?_)|((refine idx_cs hk ?_);conv=>whnf)|((refine idx_cs hk1 ?_);conv=>whnf)|((refine call_e hE ?_);conv=>whnf)|(refine draw_i 19 plT20f_0 (by decide+kernel) ?_;(conv=>whnf);fail_if_success (guard_target=~ False))|((with_reducible refine And.intro ?_ ?_)<;>(conv=>whnf))|(with_reducible exact trivial)|((with_reducible refine branch_d (fun hq=>?_) (fun hq=>?_))<;>(try (exfalso;omega))<;>(conv=>whnf))|((with_reducible refine branch_n (fun hq=>?_) (fun hq=>?_))<;>(try (exfalso;omega))<;>(conv=>whnf))))
  all_goals first
   |exact hbad (by simp [sameC];intros;omega)
   |exact hbad (by simp_all [sameC])
   |skip
  refine ⟨i+1,⟨by omega,fun j m hj hm=>?_⟩,le_q,by omega⟩
  rcases Nat.lt_or_ge j i with h|h
  ·exact hall j m h hm
  ·obtain rfl:j=i:=by omega
   rw [hk] at hm;cases hm
   simp_all [sameC]
 ·obtain rfl:i=G.length:=by omega
  have hA:(G.all fun i=>sameC (capAt cs i) (capAt cs g0))=true:=by
   rw [List.all_eq_true]
   intro k hk
   obtain ⟨j,hj⟩:=List.mem_iff_getElem?.1 hk
   exact hall j k (List.getElem?_eq_some_iff.1 hj).1 hj
  (conv=>whnf);(repeat' (first|((refine idx_ms (x:=g0) (by omega) h00 ?_);conv=>whnf)|((with_reducible refine branch_d (fun hq=>?_) (fun hq=>?_))<;>(try (exfalso;omega))<;>(conv=>whnf))|((with_reducible refine branch_e (fun hq=>?_) (fun hq=>?_))<;>(try (exfalso;omega))<;>(conv=>whnf))))
  ·exact ret_p rfl (int_eq (by rw [stG,if_pos hA,if_pos (by omega)]))
  ·exact ret_p rfl (int_eq (by rw [stG,if_pos hA,if_neg (by omega)]))
end Go.Proofs.YtihjphblcohdeaaGreatDoor
namespace Go.Proofs.YtihjphblcohdeaaGreatDoor
set_option maxRecDepth 10000
open Go.RowKit
def plT20g_0:Plan:=(.take 0 (.take 1 (.take 2 (.take 3 (.take 4 (.take 5 (.take 7 (.take 8 (.take 9 (.take 10 (.take 11 (.take 12 (.alt 6 (.alt 13 (.alt 14 (.alt 15 (.take 16 .done) .stop) .stop) .stop) .stop)))))))))))))
def plT20g_2:Plan:=(.take 0 (.take 1 (.take 2 (.take 3 (.take 5 (.take 6 (.take 7 (.take 8 (.alt 4 (.alt 9 (.alt 10 (.alt 11 (.take 12 .done) .stop) .stop) .stop) .stop)))))))))
open F32
open Go.Shelf Go.Sort
def cmpSS (a b:ScS):Int:=orF [cmpI a.src b.src,cmpI a.seq b.seq]
def cmpPa (a b:Pag):Int:=orF [cmpI a.cand b.cand,cmpI a.page b.page]
theorem sort1_cmp {tt:Nat} (a b:ScS):Good Tryz.prog tt false 40 [.agg (encSS a), .agg (encSS b)] (· = .int .i64 (cmpSS a b)):=by
 refine good_of mixed tabOk Tryz.func40 rfl rfl Tryz.ntmps40 Tryz.results40 rfl rfl ?_
 (conv=>whnf);(repeat' (first|((refine call_e (compare_ok a.src b.src) ?_);conv=>whnf)|((refine call_e (compare_ok a.seq b.seq) ?_);conv=>whnf)|((refine call_e (or_ok [cmpI a.src b.src,cmpI a.seq b.seq] (by simp)) ?_);conv=>whnf)|(refine draw_i 17 plT20g_0 (by decide+kernel) ?_;(conv=>whnf);fail_if_success (guard_target=~ False))|((with_reducible refine And.intro ?_ ?_)<;>(conv=>whnf))|(with_reducible exact trivial)))
 all_goals exact ret_p rfl rfl
theorem sort2_cmp {tt:Nat} (a b:Pag):Good Tryz.prog tt false 44 [.agg (encPa a), .agg (encPa b)] (· = .int .i64 (cmpPa a b)):=by
 refine good_of mixed tabOk Tryz.func44 rfl rfl Tryz.ntmps44 Tryz.results44 rfl rfl ?_
 (conv=>whnf);(repeat' (first|((refine call_e (compare_ok a.cand b.cand) ?_);conv=>whnf)|((refine call_e (compare_ok a.page b.page) ?_);conv=>whnf)|((refine call_e (or_ok [cmpI a.cand b.cand,cmpI a.page b.page] (by simp)) ?_);conv=>whnf)|(refine draw_i 13 plT20g_2 (by decide+kernel) ?_;(conv=>whnf);fail_if_success (guard_target=~ False))|((with_reducible refine And.intro ?_ ?_)<;>(conv=>whnf))|(with_reducible exact trivial)))
 all_goals exact ret_p rfl rfl
def iAt (c:List AV) (k:Nat):Int:=match c[k]? with
 |some (.int _ n)=>n
 |_=>0
theorem sortSS_ok (l:List ScS) (hl:l.length≤1000):GoodM Tryz.prog TT false 39 [.own 0 65 7 (l.map encSS), .fn 40 []] [] (fun r ov bx'=>r= .tup []∧bx'=[]∧∃l':List ScS,l'.Perm l∧l'.Pairwise (fun x y=>¬cmpSS y x<0)∧ov=[(1000, .own 0 65 7 (l'.map encSS))]):=by
 have h:=sortK_ok (P:=Tryz.prog) (tt:=TT) (b:=false) (f:=39) laysSS rfl (enters_of Tryz.func39 rfl rfl) 65 7 40 (by decide) Tryz.isAgg65 Tryz.sizeOf65 (fun args w=>run_enter (enters_of Tryz.func40 rfl rfl) args w) (fun x y=>orF [cmpI (iAt x 0) (iAt y 0),cmpI (iAt x 1) (iAt y 1)]) (l.map encSS) (by simp;omega) (cap:=[]) (capL:=[]) (bx:=[])
  (fun c hc=>by obtain ⟨k,_,rfl⟩:=List.mem_map.1 hc;exact ⟨rfl,rfl⟩)
  (.inl ⟨rfl,rfl,rfl⟩)
  (lex_swo [fun c=>iAt c 0,fun c=>iAt c 1] (fun i:_root_.Fin _=>(l.map encSS).getD i.val []) fun i j=>rfl)
  (fun x hx y hy=>by
    obtain ⟨i,hi,rfl⟩:=List.mem_map.1 hx
    obtain ⟨j,hj,rfl⟩:=List.mem_map.1 hy
    exact sort1_cmp i j)
 refine h.mono fun r ov bx' hr=>?_
 obtain ⟨h1,h2,es',h3,h4,h5⟩:=hr
 obtain ⟨l',h6,rfl⟩:=perm_unmap encSS h3
 exact ⟨h1,h2,l',h6,(List.pairwise_map.1 h4).imp fun {a b} h=>h,h5⟩
theorem sortSP_ok (l:List Pag) (hl:l.length≤1000):GoodM Tryz.prog TT false 43 [.own 0 118 6 (l.map encPa), .fn 44 []] [] (fun r ov bx'=>r= .tup []∧bx'=[]∧∃l':List Pag,l'.Perm l∧l'.Pairwise (fun x y=>¬cmpPa y x<0)∧ov=[(1000, .own 0 118 6 (l'.map encPa))]):=by
 have h:=sortK_ok (P:=Tryz.prog) (tt:=TT) (b:=false) (f:=43) laysSP rfl (enters_of Tryz.func43 rfl rfl) 118 6 44 (by decide) Tryz.isAgg118 Tryz.sizeOf118 (fun args w=>run_enter (enters_of Tryz.func44 rfl rfl) args w) (fun x y=>orF [cmpI (iAt x 0) (iAt y 0),cmpI (iAt x 1) (iAt y 1)]) (l.map encPa) (by simp;omega) (cap:=[]) (capL:=[]) (bx:=[])
  (fun c hc=>by obtain ⟨k,_,rfl⟩:=List.mem_map.1 hc;exact ⟨rfl,rfl⟩)
  (.inl ⟨rfl,rfl,rfl⟩)
  (lex_swo [fun c=>iAt c 0,fun c=>iAt c 1] (fun i:_root_.Fin _=>(l.map encPa).getD i.val []) fun i j=>rfl)
  (fun x hx y hy=>by
    obtain ⟨i,hi,rfl⟩:=List.mem_map.1 hx
    obtain ⟨j,hj,rfl⟩:=List.mem_map.1 hy
    exact sort2_cmp i j)
 refine h.mono fun r ov bx' hr=>?_
 obtain ⟨h1,h2,es',h3,h4,h5⟩:=hr
 obtain ⟨l',h6,rfl⟩:=perm_unmap encPa h3
 exact ⟨h1,h2,l',h6,(List.pairwise_map.1 h4).imp fun {a b} h=>h,h5⟩
end Go.Proofs.YtihjphblcohdeaaGreatDoor
namespace Go.Proofs.YtihjphblcohdeaaGreatDoor
set_option maxRecDepth 10000
open Go.RowKit
open F32
structure InOk (x:Sit) (l:List Cap) (lb:Cap→Option LabD):Prop where
 cps:CpsOk l
 kind:∀c∈l,c.kind=1∨c.kind=3
 read:∀c∈l,c.kind=1→LabR (lb c) c.strip
 fit:∀c∈l,c.kind=1→∀lab,lb c= .some lab→∃(i:Nat) (e:ExpD) (k:Nat) (pg:List Int),x.exp[i]? = .some e∧(bkOf x e)[k]? = .some pg∧lab=labAt x e k∧c.ch.length=(fldsF (papOf x e) pg).length∧∀v∈c.ch,0≤v∧v≤9
theorem CanC.cs {l cs} (hl:CpsOk l) (hk:∀c∈l,c.kind=1∨c.kind=3) (h:CanC l cs):CsOk cs where
 len:=by have:=h.len;have:=hl.len;omega
 kind:=fun c hc=>hk c ((h.mem c).1 hc)
 inj:=fun i j c d hc hd h1 h2=>by
  have e:=hl.inj c ((h.mem c).1 (List.mem_of_getElem? hc)) d ((h.mem d).1 (List.mem_of_getElem? hd)) h1 h2
  subst e
  have hp:=List.pairwise_iff_getElem.1 h.asc
  obtain ⟨a1,a2⟩:=List.getElem?_eq_some_iff.1 hc
  obtain ⟨b1,b2⟩:=List.getElem?_eq_some_iff.1 hd
  rcases Nat.lt_trichotomy i j with h3|h3|h3
  ·have h4:=hp i j a1 b1 h3;rw [a2,b2] at h4;exact absurd h4 (lex_irr (ks:=[Stp.time,Stp.src,Stp.seq]))
  ·exact h3
  ·have h4:=hp j i b1 a1 h3;rw [a2,b2] at h4;exact absurd h4 (lex_irr (ks:=[Stp.time,Stp.src,Stp.seq]))
def labJ (cs:List Cap) (lb:Cap→Option LabD) (j:Nat):LabD:=labF cs (capAt cs j) (lb (capAt cs j))
def lstJ (cs:List Cap) (lb:Cap→Option LabD) (j:Nat):Int:=lstF cs (capAt cs j) (lb (capAt cs j))
def scanB (cs:List Cap) (j:Nat):Bool:=(capAt cs j).kind==1
def memB (cs:List Cap) (lb:Cap→Option LabD) (key:Int×Int) (j:Nat):Bool:=scanB cs j&&lstJ cs lb j==0&&(labJ cs lb j).cand==key.1&&(labJ cs lb j).page==key.2
def grpF (cs:List Cap) (lb:Cap→Option LabD) (i:Nat) (key:Int×Int):List Nat:=(List.range i).filter (memB cs lb key)
def keyJ (cs:List Cap) (lb:Cap→Option LabD) (j:Nat):Int×Int:=((labJ cs lb j).cand,(labJ cs lb j).page)
def finJ (cs:List Cap) (lb:Cap→Option LabD) (j:Nat):Int:=if lstJ cs lb j=0 then stG cs ((grpF cs lb cs.length (keyJ cs lb j)).headD 0) (grpF cs lb cs.length (keyJ cs lb j)) j else lstJ cs lb j
def scsJ (cs:List Cap) (lb:Cap→Option LabD) (j:Nat):ScS:=⟨(capAt cs j).src,(capAt cs j).seq,finJ cs lb j,labJ cs lb j⟩
def pagJ (cs:List Cap) (lb:Cap→Option LabD) (j:Nat):Pag:=⟨(labJ cs lb j).cand,(labJ cs lb j).page,(capAt cs j).content,(capAt cs j).ch,(capAt cs j).src,(capAt cs j).seq⟩
def SLF (cs:List Cap) (lb:Cap→Option LabD) (m:Nat):List ScS:=((List.range m).filter (scanB cs)).map (scsJ cs lb)
def PLF (cs:List Cap) (lb:Cap→Option LabD) (m:Nat):List Pag:=((List.range m).filter fun j=>scanB cs j&&finJ cs lb j==1).map (pagJ cs lb)
def st1J (cs:List Cap) (lb:Cap→Option LabD) (i j:Nat):ScS:=if j<i∧scanB cs j=true then ⟨(capAt cs j).src,(capAt cs j).seq,lstJ cs lb j,labJ cs lb j⟩ else ⟨0,0,0,lab0⟩
def st1L (cs:List Cap) (lb:Cap→Option LabD) (i:Nat):List (List AV):=(List.range cs.length).map fun j=>encSS (st1J cs lb i j)
def keyV2 (k:Int×Int):List Int:=[k.1,k.2]
structure GrI (cs:List Cap) (lb:Cap→Option LabD) (i:Nat) (ks:List (Int×Int)):Prop where
 nod:ks.Nodup
 has:∀k∈ks,∃j,j<i∧memB cs lb k j=true
 all:∀j,j<i→∀k,memB cs lb k j=true→k∈ks
def rowsG (cs:List Cap) (lb:Cap→Option LabD) (i:Nat) (ks:List (Int×Int)):List (Option (List (List AV))):=ks.map fun k=> .some ((grpF cs lb i k).map encNt)
theorem st1_zero (cs:List Cap) (lb:Cap→Option LabD):st1L cs lb 0=List.replicate cs.length [.int .i64 0, .int .i64 0, .int .i64 0, .int .i64 0, .int .i64 0, .int .i64 0, .int .i64 0]:=by
 rw [st1L]
 apply List.eq_replicate_iff.2
 refine ⟨by simp,fun b hb=>?_⟩
 obtain ⟨j,_,rfl⟩:=List.mem_map.1 hb
 simp [st1J,encSS,lab0]
theorem lst_zero {cs c} {o:Option LabD} (h:lstF cs c o=0):rejB cs c=false∧∃lab,o=some lab:=by
 rw [lstF] at h
 cases hr:rejB cs c with
 |true=>rw [hr] at h;simp at h
 |false=>
  rw [hr] at h
  cases o with
  |none=>simp at h
  |some lab=>exact ⟨rfl,lab,rfl⟩
theorem key_inj {key:Int×Int} {a b:Int} (h:keyV2 key=[a,b]):key=(a,b):=by
 cases key with
 |mk p q=>simp [keyV2] at h;rw [h.1,h.2]
theorem eq_place (a b e f:Int) (w:World):(Op.equalIn 10000 114 (.agg [Value.int .i64 a, .int .i64 b].toArray) (.agg [Value.int .i64 e, .int .i64 f].toArray)).run Tryz.prog w= .ok (a==e&&b==f) w:=by
 have u3:=Tryz.underlying3
 have a3:=Tryz.isAgg3
 have z3:=Tryz.sizeOf3
 have hS:Tryz.prog.underlying 114=some (.struct (Tryz.prog.fieldsOf 114)):=by kernel_rfl
 have hp:Tryz.prog.stoodInHeld 114=false:=by kernel_rfl
 rw [show (10000:Nat)=9999+1 from rfl,run_equalIn_agg w 9999 114 _ _ hS hp]
 simp only [Program.fieldsOf,Tryz.underlying114]
 go_simp
 by_cases h1:a=e<;>by_cases h2:b=f<;>simp [h1,h2]
theorem key_place:KeyOk Tryz.prog 114 2 where
 under:=⟨_,Tryz.underlying114⟩
 check:=fun b xs w hx=>by
  obtain ⟨a,b1,rfl⟩:∃a b,xs=[a,b]:=by
   match xs,hx with
   |[a,b],_=>exact ⟨a,b,rfl⟩
  have u3:=Tryz.underlying3
  have a3:=Tryz.isAgg3
  have z3:=Tryz.sizeOf3
  have hS:Tryz.prog.underlying 114=some (.struct (Tryz.prog.fieldsOf 114)):=by kernel_rfl
  show (Instr.checkKey b (9999+1) 114 (.agg #[.int .i64 a, .int .i64 b1])).run Tryz.prog w= .ok () w
  have k3:∀(n:Int) (w:World),(Instr.checkKey b 9999 3 (.int .i64 n)).run Tryz.prog w= .ok () w:=fun n w=>by
   show (Instr.checkKey b (9998+1) 3 (.int .i64 n)).run Tryz.prog w= .ok () w
   unfold Instr.checkKey
   simp only [Sem.run_bind,run_underlying u3,Result.andThen_ok,Sem.run_pure]
  unfold Instr.checkKey
  simp only [Sem.run_bind,run_underlying hS,Result.andThen_ok,Program.fieldsOf,Tryz.underlying114]
  go_simp
 eq:=fun xs ys w hx hy=>by
  obtain ⟨a,b,rfl⟩:∃a b,xs=[a,b]:=by
   match xs,hx with
   |[a,b],_=>exact ⟨a,b,rfl⟩
  obtain ⟨d,e,rfl⟩:∃a b,ys=[a,b]:=by
   match ys,hy with
   |[a,b],_=>exact ⟨a,b,rfl⟩
  have h:=eq_place a b d e w
  have e1:(a==d&&b==e)=([a,b]==[d,e]):=by simp
  rw [←e1]
  exact h
theorem zero_ints (w:World):(zeroValue 22).run Tryz.prog w= .ok (.slice none 0 0) w:=by
 have h:(Tryz.prog.info? 22).bind (·.zero)=some (.slice none 0 0):=by kernel_rfl
 obtain ⟨i,hi,hz⟩:=Option.bind_eq_some_iff.1 h
 simp [zeroValue,typeInfo,hi,hz]
theorem map_pl {ks:List (List Int)} {A:Prop} (h4:∀k∈ks,k.length=2) (h:A):mapTyS Tryz.prog 108 2 ks (.slice none 0 0) A:=mapS_i Tryz.underlying108 key_place zero_ints h4 h
theorem keys2 (ks:List (Int×Int)):∀k∈ks.map keyV2,k.length=2:=fun k hk=>by
 obtain ⟨p,_,rfl⟩:=List.mem_map.1 hk;rfl
theorem st_next {cs:List Cap} {lb:Cap→Option LabD} {i:Nat} (hi:i<cs.length):∃A R,A.length=i∧st1L cs lb i=A++encSS ⟨0,0,0,lab0⟩::R∧st1L cs lb (i+1)=A++encSS (st1J cs lb (i+1) i)::R:=by
 have hr:List.range cs.length=(List.range cs.length).take i++i::(List.range cs.length).drop (i+1):=by
  have h1:(List.range cs.length)[i]? =some i:=List.getElem?_range hi
  rw [←drop_at h1,List.take_append_drop]
 have hA:∀j∈(List.range cs.length).take i,j<i:=fun j hj=>by
  rw [List.take_range] at hj
  have:=List.mem_range.1 hj
  omega
 have hR:∀j∈(List.range cs.length).drop (i+1),i<j:=fun j hj=>by
  obtain ⟨k,hk⟩:=List.mem_iff_getElem?.1 hj
  rw [List.getElem?_drop] at hk
  have hkl:=(List.getElem?_eq_some_iff.1 hk).1
  rw [List.length_range] at hkl
  rw [List.getElem?_range hkl] at hk
  injection hk with hk
  omega
 refine ⟨((List.range cs.length).take i).map fun j=>encSS (st1J cs lb i j),((List.range cs.length).drop (i+1)).map fun j=>encSS (st1J cs lb i j),by simp;omega,?_,?_⟩
 ·rw [st1L]
  conv=>lhs;rw [hr]
  rw [List.map_append,List.map_cons]
  congr 2
  rw [st1J,if_neg (by omega)]
 ·rw [st1L]
  conv=>lhs;rw [hr]
  rw [List.map_append,List.map_cons]
  congr 1
  ·refine List.map_congr_left fun j hj=>?_
   have:=hA j hj
   rw [st1J,st1J]
   by_cases hb:scanB cs j=true
   ·rw [if_pos ⟨by omega,hb⟩,if_pos ⟨by omega,hb⟩]
   ·rw [if_neg (fun h=>hb h.2),if_neg (fun h=>hb h.2)]
  ·congr 1
   refine List.map_congr_left fun j hj=>?_
   have:=hR j hj
   rw [st1J,st1J,if_neg (by omega),if_neg (by omega)]
theorem grpF_succ {cs lb i key}:grpF cs lb (i+1) key=grpF cs lb i key++(if memB cs lb key i then [i] else []):=by
 rw [grpF,List.range_succ,List.filter_append,←grpF]
 cases h:memB cs lb key i<;>simp [h]
theorem rows_skip {cs lb i ks} (hn:∀key,memB cs lb key i=false):rowsG cs lb (i+1) ks=rowsG cs lb i ks:=
 List.map_congr_left fun k _=>by rw [grpF_succ,hn k];simp
theorem GrI.skip {cs lb i ks} (h:GrI cs lb i ks) (hn:∀key,memB cs lb key i=false):GrI cs lb (i+1) ks where
 nod:=h.nod
 has:=fun k hk=>by obtain ⟨j,hj,h1⟩:=h.has k hk;exact ⟨j,by omega,h1⟩
 all:=fun j hj k hk=>by
  rcases Nat.lt_or_ge j i with h1|h1
  ·exact h.all j h1 k hk
  ·obtain rfl:j=i:=by omega
   rw [hn k] at hk;cases hk
theorem mem_key {cs lb i key} (h:memB cs lb key i=true):key=keyJ cs lb i:=by
 simp only [memB,Bool.and_eq_true,beq_iff_eq] at h
 cases key with
 |mk a b=>simp only [keyJ];rw [h.1.2,h.2]
theorem GrI.old {cs lb i ks} (h:GrI cs lb i ks) (hk:keyJ cs lb i∈ks):GrI cs lb (i+1) ks where
 nod:=h.nod
 has:=fun k hk=>by obtain ⟨j,hj,h1⟩:=h.has k hk;exact ⟨j,by omega,h1⟩
 all:=fun j hj k hm=>by
  rcases Nat.lt_or_ge j i with h1|h1
  ·exact h.all j h1 k hm
  ·obtain rfl:j=i:=by omega
   rw [mem_key hm];exact hk
theorem GrI.new {cs lb i ks} (h:GrI cs lb i ks) (hk:keyJ cs lb i∉ks) (hm:memB cs lb (keyJ cs lb i) i=true):GrI cs lb (i+1) (ks++[keyJ cs lb i]) where
 nod:=List.nodup_append.2 ⟨h.nod,by simp,fun a ha b hb e=>by rw [List.mem_singleton.1 hb] at e;exact hk (e▸ha)⟩
 has:=fun k hk=>by
  rcases List.mem_append.1 hk with h1|h1
  ·obtain ⟨j,hj,h2⟩:=h.has k h1;exact ⟨j,by omega,h2⟩
  ·rw [List.mem_singleton.1 h1];exact ⟨i,by omega,hm⟩
 all:=fun j hj k hmk=>by
  rcases Nat.lt_or_ge j i with h1|h1
  ·exact List.mem_append_left _ (h.all j h1 k hmk)
  ·obtain rfl:j=i:=by omega
   exact List.mem_append_right _ (List.mem_singleton.2 (mem_key hmk))
def InG (l:List Cap) (lb:Cap→Option LabD) (key:Int×Int) (c:Cap):Prop:=c∈l∧c.kind=1∧rejB l c=false∧∃lab,lb c= .some lab∧lab.cand=key.1∧lab.page=key.2
def same2 (c d:Cap):Prop:=c.content=d.content∧c.ch=d.ch
structure BelOk (x:Sit) (S:List ScS) (Pg:List Pag):Prop where
 sl:S.length≤300
 pl:Pg.length≤300
 st:∀s∈S,1≤s.state∧s.state≤6
 asc:S.Pairwise fun a b=>cmpSS a b<0
 used:(S.filter fun s=>decide (s.state=1)).length=Pg.length
 pasc:Pg.Pairwise fun a b=>cmpPa a b<0
 page:∀p∈Pg,∃(i:Nat) (e:ExpD) (k:Nat) (pg:List Int),x.exp[i]? = .some e∧(bkOf x e)[k]? = .some pg∧p.cand=e.cand∧p.page=k∧p.ch.length=(fldsF (papOf x e) pg).length∧(∀v∈p.ch,0≤v∧v≤9)∧(⟨p.src,p.seq,1,labAt x e k⟩:ScS)∈S
structure Outc (x:Sit) (l:List Cap) (lb:Cap→Option LabD) (S:List ScS) (Pg:List Pag):Prop where
 bel:BelOk x S Pg
 pag:∀p∈Pg,∃c,InG l lb (p.cand,p.page) c∧p.content=c.content∧p.ch=c.ch
 got:∀key c,InG l lb key c→(∀d,InG l lb key d→same2 d c)→∃p∈Pg,p.cand=key.1∧p.page=key.2
 conf:∀s∈S,s.state=3→∃c d,InG l lb (s.lab.cand,s.lab.page) c∧InG l lb (s.lab.cand,s.lab.page) d∧¬same2 c d
 conf2:∀key c d,InG l lb key c→InG l lb key d→¬same2 c d→(∃s∈S,s.state=3∧s.lab.cand=key.1∧s.lab.page=key.2)∧∀p∈Pg,¬(p.cand=key.1∧p.page=key.2)
 st:∀s∈S,∃c∈l,c.kind=1∧s.src=c.src∧s.seq=c.seq∧s.lab=labF l c (lb c)
 st2:∀c∈l,c.kind=1→∃s∈S,s.src=c.src∧s.seq=c.seq∧s.lab=labF l c (lb c)
 other:∀s∈S,s.state=1∨s.state=2∨s.state=3∨∃c∈l,c.kind=1∧(rejB l c=true∨lb c= .none)
theorem rejB_mem {l cs:List Cap} (h:∀c,c∈cs↔c∈l) (c:Cap):rejB cs c=rejB l c:=by
 rw [Bool.eq_iff_iff,rejB,rejB,List.any_eq_true,List.any_eq_true]
 exact ⟨fun ⟨d,h1,h2⟩=>⟨d,(h d).1 h1,h2⟩,fun ⟨d,h1,h2⟩=>⟨d,(h d).2 h1,h2⟩⟩
theorem cap_at {cs:List Cap} {j:Nat} (h:j<cs.length):cs[j]? =some (capAt cs j):=by
 rw [capAt,List.getD_eq_getElem?_getD,List.getElem?_eq_getElem h];rfl
theorem cap_in {cs:List Cap} {c:Cap} (h:c∈cs):∃j,j<cs.length∧capAt cs j=c:=by
 obtain ⟨j,hj⟩:=List.mem_iff_getElem?.1 h
 refine ⟨j,(List.getElem?_eq_some_iff.1 hj).1,?_⟩
 rw [capAt,List.getD_eq_getElem?_getD,hj];rfl
section
variable {x:Sit} {l cs:List Cap} {lb:Cap→Option LabD}
theorem lst_some {c:Cap} {lab:LabD} (hr:rejB cs c=false) (h:lb c= .some lab):lstF cs c (lb c)=0∧labF cs c (lb c)=lab:=by
 rw [lstF,labF,hr,h];exact ⟨rfl,rfl⟩
theorem lst_cases {c:Cap}:lstF cs c (lb c)=0∨(lstF cs c (lb c)=4∧lb c= .none)∨(lstF cs c (lb c)=6∧rejB cs c=true):=by
 rw [lstF]
 cases hr:rejB cs c with
 |true=>exact .inr (.inr ⟨rfl,rfl⟩)
 |false=>
  cases h:lb c with
  |none=>exact .inr (.inl ⟨rfl,rfl⟩)
  |some lab=>exact .inl rfl
theorem memB_iff (hm:∀c,c∈cs↔c∈l) {key:Int×Int} {j:Nat} (hj:j<cs.length):memB cs lb key j=true↔InG l lb key (capAt cs j):=by
 have hin:=(hm _).1 (List.mem_of_getElem? (cap_at hj))
 have hrj:=rejB_mem hm (capAt cs j)
 simp only [memB,Bool.and_eq_true,beq_iff_eq,scanB,lstJ,labJ]
 constructor
 ·rintro ⟨⟨⟨h1,h2⟩,h3⟩,h4⟩
  obtain ⟨h5,lab,h6⟩:=lst_zero h2
  rw [(lst_some h5 h6).2] at h3 h4
  exact ⟨hin,h1,hrj▸h5,lab,h6,h3,h4⟩
 ·rintro ⟨-,h1,h2,lab,h3,h4,h5⟩
  obtain ⟨k1,k2⟩:=lst_some (hrj.trans h2) h3
  rw [k1,k2]
  exact ⟨⟨⟨h1,rfl⟩,h4⟩,h5⟩
theorem grp_mem {key:Int×Int} {j:Nat}:j∈grpF cs lb cs.length key↔j<cs.length∧memB cs lb key j=true:=by
 rw [grpF,List.mem_filter,List.mem_range]
theorem mem_self {j:Nat} (hs:scanB cs j=true) (h0:lstJ cs lb j=0):memB cs lb (keyJ cs lb j) j=true:=by
 simp only [memB,hs,h0,keyJ,beq_self_eq_true,Bool.and_self]
theorem stG_at {g0 n:Nat} {g:List Nat}:(stG cs g0 g n=1∧n=g0∧∀i∈g,sameC (capAt cs i) (capAt cs g0)=true)∨(stG cs g0 g n=2∧n≠g0∧∀i∈g,sameC (capAt cs i) (capAt cs g0)=true)∨(stG cs g0 g n=3∧∃i∈g,sameC (capAt cs i) (capAt cs g0)=false):=by
 rw [stG]
 by_cases h:(g.all fun i=>sameC (capAt cs i) (capAt cs g0))=true
 ·rw [if_pos h]
  have h1:=List.all_eq_true.1 h
  by_cases hn:n=g0
  ·exact .inl ⟨if_pos hn,hn,h1⟩
  ·exact .inr (.inl ⟨if_neg hn,hn,h1⟩)
 ·refine .inr (.inr ⟨if_neg h,?_⟩)
  rw [Bool.not_eq_true,List.all_eq_false] at h
  obtain ⟨i,hi,h2⟩:=h
  exact ⟨i,hi,by simpa using h2⟩
theorem same_iff {c d:Cap}:sameC c d=true↔same2 c d:=by simp [sameC,same2]
theorem grp_head {key:Int×Int} {j:Nat} (h:j∈grpF cs lb cs.length key):(grpF cs lb cs.length key).headD 0∈grpF cs lb cs.length key:=by
 cases hg:grpF cs lb cs.length key with
 |nil=>rw [hg] at h;cases h
 |cons a t=>exact List.mem_cons_self ..
theorem fin_cases {j:Nat} (hj:j<cs.length) (hs:scanB cs j=true):(lstJ cs lb j=0∧finJ cs lb j=stG cs ((grpF cs lb cs.length (keyJ cs lb j)).headD 0) (grpF cs lb cs.length (keyJ cs lb j)) j∧j∈grpF cs lb cs.length (keyJ cs lb j))∨(finJ cs lb j=4∧lb (capAt cs j)= .none)∨(finJ cs lb j=6∧rejB cs (capAt cs j)=true):=by
 by_cases h0:lstJ cs lb j=0
 ·exact .inl ⟨h0,if_pos h0,grp_mem.2 ⟨hj,mem_self hs h0⟩⟩
 ·have h1:finJ cs lb j=lstJ cs lb j:=if_neg h0
  rw [h1]
  rcases lst_cases (cs:=cs) (lb:=lb) (c:=capAt cs j) with h|h|h
  ·exact absurd h h0
  ·exact .inr (.inl h)
  ·exact .inr (.inr h)
theorem fin_one {j:Nat} (hj:j<cs.length) (hs:scanB cs j=true) (h:finJ cs lb j=1):lstJ cs lb j=0∧j=(grpF cs lb cs.length (keyJ cs lb j)).headD 0∧(∀i∈grpF cs lb cs.length (keyJ cs lb j),sameC (capAt cs i) (capAt cs j)=true)∧j∈grpF cs lb cs.length (keyJ cs lb j):=by
 rcases fin_cases (lb:=lb) hj hs with ⟨h0,h1,h2⟩|⟨h1, -⟩|⟨h1, -⟩
 ·rw [h] at h1
  rcases stG_at (cs:=cs) (g0:=(grpF cs lb cs.length (keyJ cs lb j)).headD 0) (g:=grpF cs lb cs.length (keyJ cs lb j)) (n:=j) with ⟨-,h4,h5⟩|⟨h3, -⟩|⟨h3, -⟩
  ·refine ⟨h0,h4,fun i hi=>?_,h2⟩
   have:=h5 i hi
   rwa [←h4] at this
  ·omega
  ·omega
 ·omega
 ·omega
theorem slf_mem {s:ScS}:s∈SLF cs lb cs.length↔ ∃j,j<cs.length∧scanB cs j=true∧s=scsJ cs lb j:=by
 rw [SLF,List.mem_map]
 constructor
 ·rintro ⟨j,hj,rfl⟩
  rw [List.mem_filter,List.mem_range] at hj
  exact ⟨j,hj.1,hj.2,rfl⟩
 ·rintro ⟨j,h1,h2,rfl⟩
  exact ⟨j,List.mem_filter.2 ⟨List.mem_range.2 h1,h2⟩,rfl⟩
theorem plf_mem {p:Pag}:p∈PLF cs lb cs.length↔ ∃j,j<cs.length∧scanB cs j=true∧finJ cs lb j=1∧p=pagJ cs lb j:=by
 rw [PLF,List.mem_map]
 constructor
 ·rintro ⟨j,hj,rfl⟩
  rw [List.mem_filter,List.mem_range,Bool.and_eq_true,beq_iff_eq] at hj
  exact ⟨j,hj.1,hj.2.1,hj.2.2,rfl⟩
 ·rintro ⟨j,h1,h2,h3,rfl⟩
  exact ⟨j,List.mem_filter.2 ⟨List.mem_range.2 h1,by rw [h2,h3];rfl⟩,rfl⟩
theorem strict_perm {α:Type} {cf:α→α→Int} {L L':List α} (hp:L'.Perm L) (hn:L.Pairwise fun a b=>cf a b≠0∧cf b a≠0) (hs:L'.Pairwise fun a b=>¬cf b a<0) (ht:∀a b,¬cf b a<0→cf a b≠0→cf a b<0):L'.Pairwise fun a b=>cf a b<0:=by
 have h1:L'.Pairwise fun a b=>cf a b≠0∧cf b a≠0:=(hp.pairwise_iff fun h=>⟨h.2,h.1⟩).2 hn
 exact (hs.and h1).imp fun {a b} h=>ht a b h.1 h.2.1
theorem cmpSS_zero {a b:ScS}:cmpSS a b=0↔a.src=b.src∧a.seq=b.seq:=by
 have h:=lex_zero (k:=ScS.src) (ks:=[ScS.seq]) (x:=a) (y:=b)
 have h2:=lex_zero (k:=ScS.seq) (ks:=[]) (x:=a) (y:=b)
 have h3:lexF ([]:List (ScS→Int)) a b=0:=rfl
 show lexF [ScS.src,ScS.seq] a b=0↔_
 rw [h,h2];simp [h3]
theorem cmpPa_zero {a b:Pag}:cmpPa a b=0↔a.cand=b.cand∧a.page=b.page:=by
 have h:=lex_zero (k:=Pag.cand) (ks:=[Pag.page]) (x:=a) (y:=b)
 have h2:=lex_zero (k:=Pag.page) (ks:=[]) (x:=a) (y:=b)
 have h3:lexF ([]:List (Pag→Int)) a b=0:=rfl
 show lexF [Pag.cand,Pag.page] a b=0↔_
 rw [h,h2];simp [h3]
theorem cmpSS_tot {a b:ScS} (h1:¬cmpSS b a<0) (h2:cmpSS a b≠0):cmpSS a b<0:=
 Classical.byContradiction fun h=>h2 (lex_total (ks:=[ScS.src,ScS.seq]) h h1)
theorem cmpPa_tot {a b:Pag} (h1:¬cmpPa b a<0) (h2:cmpPa a b≠0):cmpPa a b<0:=
 Classical.byContradiction fun h=>h2 (lex_total (ks:=[Pag.cand,Pag.page]) h h1)
theorem out_of (hx:SitOk x) (hl:InOk x l lb) (hC:CanC l cs) {S:List ScS} {Pg:List Pag} (hS:S.Perm (SLF cs lb cs.length)) (hSs:S.Pairwise fun a b=>¬cmpSS b a<0) (hP:Pg.Perm (PLF cs lb cs.length)) (hPs:Pg.Pairwise fun a b=>¬cmpPa b a<0):Outc x l lb S Pg:=by
 have hcs:=hC.cs hl.cps hl.kind
 have hm:=hC.mem
 have hcl:=hcs.len
 have hfl:∀f:Nat→Bool,((List.range cs.length).filter f).length≤cs.length:=fun f=>by
  have:=List.length_filter_le f (List.range cs.length)
  rwa [List.length_range] at this
 have sm:∀s,s∈S↔ ∃j,j<cs.length∧scanB cs j=true∧s=scsJ cs lb j:=fun s=>(hS.mem_iff).trans slf_mem
 have pm:∀p,p∈Pg↔ ∃j,j<cs.length∧scanB cs j=true∧finJ cs lb j=1∧p=pagJ cs lb j:=fun p=>(hP.mem_iff).trans plf_mem
 have hg:∀(key:Int×Int) (j:Nat),j∈grpF cs lb cs.length key→InG l lb key (capAt cs j):=fun key j h=>by
  obtain ⟨h1,h2⟩:=grp_mem.1 h
  exact (memB_iff hm h1).1 h2
 have hg2:∀(key:Int×Int) (c:Cap),InG l lb key c→∃j,j∈grpF cs lb cs.length key∧capAt cs j=c:=fun key c h=>by
  obtain ⟨j,hj,rfl⟩:=cap_in ((hm c).2 h.1)
  exact ⟨j,grp_mem.2 ⟨hj,(memB_iff hm hj).2 h⟩,rfl⟩
 have hscan:∀(key:Int×Int) (j:Nat),j∈grpF cs lb cs.length key→j<cs.length∧scanB cs j=true∧lstJ cs lb j=0∧keyJ cs lb j=key:=fun key j h=>by
  obtain ⟨h1,h2⟩:=grp_mem.1 h
  have h3:=(mem_key h2).symm
  simp only [memB,Bool.and_eq_true,beq_iff_eq] at h2
  exact ⟨h1,h2.1.1.1,h2.1.1.2,h3⟩
 have hlabs:∀(j:Nat),j<cs.length→scanB cs j=true→labJ cs lb j=labF l (capAt cs j) (lb (capAt cs j)):=fun j hj hs=>by
  rw [labJ,labF,labF,rejB_mem hm]
 have hpag:∀p∈Pg,∃c,InG l lb (p.cand,p.page) c∧p.content=c.content∧p.ch=c.ch:=fun p hp=>by
  obtain ⟨j,hj,hs,hf,rfl⟩:=(pm p).1 hp
  obtain ⟨h0,h1,h2,h3⟩:=fin_one hj hs hf
  exact ⟨capAt cs j,hg _ j h3,rfl,rfl⟩
 have hkind:∀j,j<cs.length→scanB cs j=true→capAt cs j∈l∧(capAt cs j).kind=1:=fun j hj hs=>⟨(hm _).1 (List.mem_of_getElem? (cap_at hj)),by simpa [scanB] using hs⟩
 have hSp:S.Pairwise fun a b=>cmpSS a b<0:=by
  refine strict_perm hS (List.pairwise_map.2 ?_) hSs fun a b h1 h2=>cmpSS_tot h1 h2
  refine ((List.pairwise_lt_range (n:=cs.length)).filter _).imp_of_mem fun {a b} ha hb hab=>?_
  have ha1:=List.mem_range.1 (List.mem_filter.1 ha).1
  have hb1:=List.mem_range.1 (List.mem_filter.1 hb).1
  have hne:¬((capAt cs a).src=(capAt cs b).src∧(capAt cs a).seq=(capAt cs b).seq):=fun h=>by
   have:=hcs.inj a b _ _ (cap_at ha1) (cap_at hb1) h.1 h.2;omega
  exact ⟨fun h=>hne (cmpSS_zero.1 h),fun h=>hne (by have:=cmpSS_zero.1 h;exact ⟨this.1.symm,this.2.symm⟩)⟩
 have hPp:Pg.Pairwise fun a b=>cmpPa a b<0:=by
  refine strict_perm hP (List.pairwise_map.2 ?_) hPs fun a b h1 h2=>cmpPa_tot h1 h2
  refine ((List.pairwise_lt_range (n:=cs.length)).filter _).imp_of_mem fun {a b} ha hb hab=>?_
  have ha1:=List.mem_range.1 (List.mem_filter.1 ha).1
  have hb1:=List.mem_range.1 (List.mem_filter.1 hb).1
  have ha2:=(List.mem_filter.1 ha).2
  have hb2:=(List.mem_filter.1 hb).2
  rw [Bool.and_eq_true,beq_iff_eq] at ha2 hb2
  have hne:¬(keyJ cs lb a=keyJ cs lb b):=fun h=>by
   obtain ⟨-,h1, -⟩:=fin_one ha1 ha2.1 ha2.2
   obtain ⟨-,h2, -⟩:=fin_one hb1 hb2.1 hb2.2
   rw [h] at h1;omega
  exact ⟨fun h=>hne (by have:=cmpPa_zero.1 h;exact Prod.ext this.1 this.2),fun h=>hne (by have:=cmpPa_zero.1 h;exact Prod.ext this.1.symm this.2.symm)⟩
 have hst:∀j,j<cs.length→scanB cs j=true→(finJ cs lb j=1∨finJ cs lb j=2∨finJ cs lb j=3)∨((finJ cs lb j=4∨finJ cs lb j=6)∧(rejB l (capAt cs j)=true∨lb (capAt cs j)= .none)):=fun j hj hs=>by
  rcases fin_cases (lb:=lb) hj hs with ⟨h0,h1,h2⟩|⟨h1,h2⟩|⟨h1,h2⟩
  ·rw [h1]
   rcases stG_at (cs:=cs) (g0:=(grpF cs lb cs.length (keyJ cs lb j)).headD 0) (g:=grpF cs lb cs.length (keyJ cs lb j)) (n:=j) with h|h|h
   ·exact .inl (.inl h.1)
   ·exact .inl (.inr (.inl h.1))
   ·exact .inl (.inr (.inr h.1))
  ·exact .inr ⟨.inl h1, .inr h2⟩
  ·exact .inr ⟨.inr h1, .inl (by rw [←rejB_mem hm];exact h2)⟩
 refine ⟨⟨?_,?_,?_,hSp,?_,hPp,?_⟩,hpag,?_,?_,?_,?_,?_,?_⟩
 ·rw [hS.length_eq,SLF,List.length_map];have:=hfl (scanB cs);omega
 ·rw [hP.length_eq,PLF,List.length_map];have:=hfl (fun j=>scanB cs j&&finJ cs lb j==1);omega
 ·intro s hs
  obtain ⟨j,hj,hsc,rfl⟩:=(sm s).1 hs
  show 1≤finJ cs lb j∧finJ cs lb j≤6
  rcases hst j hj hsc with (h|h|h)|⟨h|h, -⟩<;>omega
 ·rw [(hS.filter _).length_eq,hP.length_eq,SLF,PLF,List.filter_map,List.length_map,List.length_map,List.filter_filter]
  congr 1
  refine List.filter_congr fun j hj=>?_
  show (decide (finJ cs lb j=1)&&scanB cs j)=(scanB cs j&&finJ cs lb j==1)
  rw [Bool.and_comm];rfl
 ·intro p hp
  obtain ⟨c,hc,h1,h2⟩:=hpag p hp
  obtain ⟨j,hj,hs,hf,rfl⟩:=(pm p).1 hp
  obtain ⟨h0, -, -, -⟩:=fin_one hj hs hf
  obtain ⟨h5,lab,h6⟩:=lst_zero h0
  obtain ⟨h7,h8⟩:=hkind j hj hs
  obtain ⟨i,e,k,pg,he,hk,hlab,hchl,hc9⟩:=hl.fit _ h7 h8 lab h6
  have hLJ:labJ cs lb j=lab:=(lst_some h5 h6).2
  refine ⟨i,e,k,pg,he,hk,?_,?_,hchl,hc9,?_⟩
  ·show (labJ cs lb j).cand=_;rw [hLJ,hlab];rfl
  ·show (labJ cs lb j).page=_;rw [hLJ,hlab];rfl
  ·refine (sm _).2 ⟨j,hj,hs,?_⟩
   show _=(⟨_,_,finJ cs lb j,labJ cs lb j⟩:ScS)
   rw [hf,hLJ,hlab];rfl
 ·intro key c hc hall
  obtain ⟨j,hj,rfl⟩:=hg2 key c hc
  have hh:=grp_head hj
  generalize hg0:(grpF cs lb cs.length key).headD 0=g0 at hh
  obtain ⟨k1,k2,k3,k4⟩:=hscan key g0 hh
  have hfin:finJ cs lb g0=1:=by
   rw [finJ,if_pos k3,k4,hg0,stG,if_pos,if_pos rfl]
   rw [List.all_eq_true]
   intro i hi
   have e1:=hall _ (hg key i hi)
   have e2:=hall _ (hg key g0 hh)
   exact same_iff.2 ⟨e1.1.trans e2.1.symm,e1.2.trans e2.2.symm⟩
  refine ⟨pagJ cs lb g0,(pm _).2 ⟨g0,k1,k2,hfin,rfl⟩,?_,?_⟩
  ·exact congrArg Prod.fst k4
  ·exact congrArg Prod.snd k4
 ·intro s hs h3
  obtain ⟨j,hj,hsc,rfl⟩:=(sm s).1 hs
  replace h3:finJ cs lb j=3:=h3
  rcases fin_cases (lb:=lb) hj hsc with ⟨h0,h1,h2⟩|⟨h1, -⟩|⟨h1, -⟩
  ·rw [h3] at h1
   rcases stG_at (cs:=cs) (g0:=(grpF cs lb cs.length (keyJ cs lb j)).headD 0) (g:=grpF cs lb cs.length (keyJ cs lb j)) (n:=j) with h|h|⟨-,i,hi,h5⟩
   ·omega
   ·omega
   ·exact ⟨_,_,hg _ i hi,hg _ _ (grp_head h2),fun h=>absurd ((same_iff.2 h).symm.trans h5) (by decide)⟩
  ·omega
  ·omega
 ·intro key c d hc hd hne
  obtain ⟨j,hj,rfl⟩:=hg2 key c hc
  obtain ⟨i,hi,rfl⟩:=hg2 key d hd
  have hno:¬ ∀g∈grpF cs lb cs.length key,sameC (capAt cs g) (capAt cs ((grpF cs lb cs.length key).headD 0))=true:=fun h=>by
   have e1:=same_iff.1 (h j hj)
   have e2:=same_iff.1 (h i hi)
   exact hne ⟨e1.1.trans e2.1.symm,e1.2.trans e2.2.symm⟩
  obtain ⟨k1,k2,k3,k4⟩:=hscan key j hj
  refine ⟨⟨scsJ cs lb j,(sm _).2 ⟨j,k1,k2,rfl⟩,?_,congrArg Prod.fst k4,congrArg Prod.snd k4⟩,?_⟩
  ·show finJ cs lb j=3
   rw [finJ,if_pos k3,k4,stG,if_neg fun h=>hno (List.all_eq_true.1 h)]
  ·rintro p hp ⟨e1,e2⟩
   obtain ⟨m,hm1,hm2,hm3,rfl⟩:=(pm p).1 hp
   obtain ⟨-,f2,f3, -⟩:=fin_one hm1 hm2 hm3
   have hk:keyJ cs lb m=key:=Prod.ext e1 e2
   rw [hk] at f2 f3
   rw [←f2] at hno
   exact hno f3
 ·intro s hs
  obtain ⟨j,hj,hsc,rfl⟩:=(sm s).1 hs
  obtain ⟨h7,h8⟩:=hkind j hj hsc
  exact ⟨_,h7,h8,rfl,rfl,hlabs j hj hsc⟩
 ·intro c hc hk
  obtain ⟨j,hj,rfl⟩:=cap_in ((hm c).2 hc)
  have hsc:scanB cs j=true:=by simpa [scanB] using hk
  exact ⟨scsJ cs lb j,(sm _).2 ⟨j,hj,hsc,rfl⟩,rfl,rfl,hlabs j hj hsc⟩
 ·intro s hs
  obtain ⟨j,hj,hsc,rfl⟩:=(sm s).1 hs
  obtain ⟨h7,h8⟩:=hkind j hj hsc
  rcases hst j hj hsc with (h|h|h)|⟨-,h⟩
  ·exact .inl h
  ·exact .inr (.inl h)
  ·exact .inr (.inr (.inl h))
  ·exact .inr (.inr (.inr ⟨_,h7,h8,h⟩))
end
end Go.Proofs.YtihjphblcohdeaaGreatDoor
