/- Several texts in one: Pl18, T18a, T18b, T18c, T18d, T18e, T18f, T18g, Pl18b, Pl18c. (Printed small by a program: remarks, spaces and repeated headings are taken out.) -/
import Derived.Test.YtihjphblcohdeaaGreatDoorC4
set_option linter.unusedVariables false
set_option linter.unusedSimpArgs false
set_option linter.unnecessarySimpa false
set_option linter.unusedSectionVars false
namespace Go.Proofs.YtihjphblcohdeaaGreatDoor
namespace F32
def gpow (a:G):Nat→G
 |0=>1
 |n+1=>mul a (gpow a n)
theorem add4 (x y s t:G):add (add x y) (add s t)=add (add x s) (add y t):=by
 rw [add_assoc,add_assoc,add_lc y s t]
def sumP:List (G×G)→Nat→G
 |[],_=>0
 |p::l,j=>add (mul p.1 (gpow p.2 j)) (sumP l j)
theorem sum_shift (a:G):∀(l:List (G×G)) (j:Nat),sumP (l.map fun p=>(mul p.1 (add p.2 a),p.2)) j=add (sumP l (j+1)) (mul a (sumP l j))
 |[],j=>by simp only [List.map_nil,sumP,mul_zero,add_zero]
 |p::l,j=>by
  have e:mul (mul p.1 (add p.2 a)) (gpow p.2 j)=add (mul p.1 (mul p.2 (gpow p.2 j))) (mul a (mul p.1 (gpow p.2 j))):=by
   rw [mul_assoc,add_mul,mul_add,mul_lc p.1 a]
  simp only [List.map_cons,sumP]
  rw [sum_shift a l j,e,mul_add a,add4];rfl
theorem sum_zero:∀ {l:List (G×G)} (j:Nat),(∀p∈l,p.1=0)→sumP l j=0
 |[],_,_=>rfl
 |p::l,j,h=>by
  rw [sumP,h p (by simp),zero_mul,zero_add,sum_zero j fun q hq=>h q (by simp [hq])]
theorem indep:∀(n:Nat) (l:List (G×G)),l.length=n→(∀p∈l,p.2≠0)→(l.map (·.2)).Nodup→(∀j,j<n→sumP l (j+1)=0)→∀p∈l,p.1=0
 |_,[],_,_,_,_,p,hp=>by simp at hp
 |0,q::l,h,_,_,_,p,hp=>by simp at h
 |n+1,q::l,hn,h0,hd,hs,p,hp=>by
  have hl:l.length=n:=by simpa using hn
  simp only [List.map_cons,List.nodup_cons] at hd
  have ih:=indep n (l.map fun p=>(mul p.1 (add p.2 q.2),p.2)) (by simpa using hl) (fun p hp=>by
   obtain ⟨r,hr,rfl⟩:=List.mem_map.1 hp
   exact h0 r (by simp [hr])) (by rw [List.map_map];exact hd.2) (fun j hj=>by
   rw [sum_shift]
   have h1:=hs (j+1) (by omega)
   have h2:=hs j (by omega)
   rw [sumP] at h1 h2
   have e1:=add_eq0 h1
   have e2:=add_eq0 h2
   rw [←e1,←e2,show gpow q.2 (j+1+1)=mul q.2 (gpow q.2 (j+1)) from rfl,mul_lc,add_self])
  have hz:∀r∈l,r.1=0:=fun r hr=>by
   have:=ih _ (List.mem_map.2 ⟨r,hr,rfl⟩)
   rcases mul_eq0 this with h|h
   ·exact h
   ·exact absurd (List.mem_map.2 ⟨r,hr,add_eq0 h⟩) hd.1
  rcases List.mem_cons.1 hp with rfl|hp
  ·have h1:=hs 0 (by omega)
   rw [sumP,sum_zero _ hz,add_zero] at h1
   rcases mul_eq0 h1 with h|h
   ·exact h
   ·rw [show gpow p.2 (0+1)=mul p.2 1 from rfl,mul_one] at h
    exact absurd h (h0 p (by simp))
  ·exact hz p hp
def dotN:Nat→(Nat→G)→(Nat→G)→G
 |0,_,_=>0
 |n+1,f,x=>add (dotN n f x) (mul (f n) (x n))
theorem dot_congr:∀ {n:Nat} {f f' x x':Nat→G},(∀c,c<n→f c=f' c)→(∀c,c<n→x c=x' c)→dotN n f x=dotN n f' x'
 |0,_,_,_,_,_,_=>rfl
 |n+1,f,f',x,x',h,h'=>by
  rw [dotN,dotN,dot_congr (fun c hc=>h c (by omega)) fun c hc=>h' c (by omega),h n (by omega),h' n (by omega)]
theorem dot_scale (s:G) (f x:Nat→G):∀n,dotN n (fun c=>mul s (f c)) x=mul s (dotN n f x)
 |0=>by rw [dotN,dotN,mul_zero]
 |n+1=>by rw [dotN,dotN,dot_scale s f x n,mul_add,mul_assoc]
theorem dot_add (s:G) (f k x:Nat→G):∀n,dotN n (fun c=>add (f c) (mul s (k c))) x=add (dotN n f x) (mul s (dotN n k x))
 |0=>by rw [dotN,dotN,dotN,mul_zero,add_zero]
 |n+1=>by
  rw [dotN,dotN,dotN,dot_add s f k x n,add_mul,mul_add,mul_assoc,add4]
theorem dot_one {f x:Nat→G} {i:Nat}:∀ {n:Nat},i<n→(∀c,c<n→c≠i→mul (f c) (x c)=0)→dotN n f x=mul (f i) (x i)
 |0,h,_=>by omega
 |n+1,h,hz=>by
  rw [dotN]
  rcases Nat.lt_or_ge i n with h'|h'
  ·rw [dot_one h' fun c hc=>hz c (by omega),hz n (by omega) (by omega),add_zero]
  ·obtain rfl:i=n:=by omega
   have:dotN i f x=0:=by
    have key:∀m,m≤i→dotN m f x=0:=fun m=>by
     induction m with
     |zero=>intro _;rfl
     |succ m ih=>intro hm;rw [dotN,ih (by omega),hz m (by omega) (by omega),add_zero]
    exact key i (Nat.le_refl _)
   rw [this,zero_add]
theorem dot_two {f x:Nat→G} {i j:Nat}:∀ {n:Nat},i<j→j<n→(∀c,c<n→c≠i→c≠j→mul (f c) (x c)=0)→dotN n f x=add (mul (f i) (x i)) (mul (f j) (x j))
 |0,_,h,_=>by omega
 |n+1,hij,h,hz=>by
  rw [dotN]
  rcases Nat.lt_or_ge j n with h'|h'
  ·rw [dot_two hij h' fun c hc=>hz c (by omega),hz n (by omega) (by omega) (by omega),add_zero]
  ·obtain rfl:j=n:=by omega
   rw [dot_one hij fun c hc h1=>hz c (by omega) h1 (by omega)]
def ZeroA (R N:Nat) (A:Nat→Nat→G) (x:Nat→G):Prop:=∀r,r<R→dotN N (A r) x=0
def swapA (A:Nat→Nat→G) (k p:Nat):Nat→Nat→G:=fun r=>if r=k then A p else if r=p then A k else A r
def scaleA (A:Nat→Nat→G) (k:Nat) (s:G):Nat→Nat→G:=fun r c=>if r=k then mul (A k c) s else A r c
def clrA (A:Nat→Nat→G) (k:Nat):Nat→Nat→G:=fun r c=>if r=k then A k c else add (A r c) (mul (A r k) (A k c))
theorem zero_swap {R N:Nat} {A:Nat→Nat→G} {k p:Nat} {x:Nat→G} (hk:k<R) (hp:p<R):ZeroA R N (swapA A k p) x↔ZeroA R N A x:=by
 constructor<;>intro h r hr
 ·by_cases h1:r=k
  ·have:=h p hp
   rw [swapA] at this
   by_cases h2:p=k
   ·rw [if_pos h2] at this;rw [h1,←h2];exact this
   ·rw [if_neg h2,if_pos rfl] at this;rw [h1];exact this
  ·by_cases h2:r=p
   ·have:=h k hk;rw [swapA,if_pos rfl] at this;rw [h2];exact this
   ·have:=h r hr;rw [swapA,if_neg h1,if_neg h2] at this;exact this
 ·rw [swapA]
  split
  ·exact h p hp
  ·split
   ·exact h k hk
   ·exact h r hr
theorem dot_scaleR (s:G) (f x:Nat→G) (n:Nat):dotN n (fun c=>mul (f c) s) x=mul s (dotN n f x):=by
 rw [←dot_scale]
 exact dot_congr (fun c _=>mul_comm _ _) fun _ _=>rfl
theorem zero_scale {R N:Nat} {A:Nat→Nat→G} {k:Nat} {s:G} {x:Nat→G} (hs:s≠0):ZeroA R N (scaleA A k s) x↔ZeroA R N A x:=by
 have e:∀r,r≠k→(scaleA A k s) r=A r:=fun r hr=>by funext c;rw [scaleA,if_neg hr]
 have ek:(scaleA A k s) k=fun c=>mul (A k c) s:=by funext c;rw [scaleA,if_pos rfl]
 constructor<;>intro h r hr
 ·by_cases h1:r=k
  ·subst h1
   have:=h r hr
   rw [ek,dot_scaleR] at this
   exact (mul_eq0 this).resolve_left hs
  ·have:=h r hr;rw [e r h1] at this;exact this
 ·by_cases h1:r=k
  ·subst h1
   rw [ek,dot_scaleR,h r hr,mul_zero]
  ·rw [e r h1];exact h r hr
theorem zero_clr {R N:Nat} {A:Nat→Nat→G} {k:Nat} {x:Nat→G} (hk:k<R):ZeroA R N (clrA A k) x↔ZeroA R N A x:=by
 have e:∀r,r≠k→(clrA A k) r=fun c=>add (A r c) (mul (A r k) (A k c)):=fun r hr=>by funext c;rw [clrA,if_neg hr]
 have ek:(clrA A k) k=A k:=by funext c;rw [clrA,if_pos rfl]
 constructor<;>intro h
 ·have h0:=h k hk
  rw [ek] at h0
  intro r hr
  by_cases h1:r=k
  ·rw [h1];exact h0
  ·have:=h r hr
   rw [e r h1,dot_add,h0,mul_zero,add_zero] at this
   exact this
 ·intro r hr
  by_cases h1:r=k
  ·rw [h1,ek];exact h k hk
  ·rw [e r h1,dot_add,h r hr,h k hk,mul_zero,add_zero]
def UnitA (R:Nat) (A:Nat→Nat→G) (k:Nat):Prop:=∀r c,r<R→c<k→A r c=if r=c then 1 else 0
def stepA (A:Nat→Nat→G) (k p:Nat):Nat→Nat→G:=clrA (scaleA (swapA A k p) k (inv (A p k))) k
theorem inv_ne {a:G} (h:a≠0):inv a≠0:=fun e=>by
 have:=mul_inv h
 rw [e,mul_zero] at this
 exact absurd this (by decide)
theorem zero_step {R N:Nat} {A:Nat→Nat→G} {k p:Nat} {x:Nat→G} (hk:k<R) (hp:p<R) (h:A p k≠0):ZeroA R N (stepA A k p) x↔ZeroA R N A x:=by
 rw [stepA,zero_clr hk,zero_scale (inv_ne h),zero_swap hk hp]
theorem unit_step {R:Nat} {A:Nat→Nat→G} {k p:Nat} (hU:UnitA R A k) (hk:k<R) (hp:p<R) (hkp:k≤p) (h:A p k≠0):UnitA R (stepA A k p) (k+1):=by
 have z:∀r c,r<R→c<k→k≤r→A r c=0:=fun r c hr hc hkr=>by rw [hU r c hr hc,if_neg (by omega)]
 have sw:∀r c,r<R→c<k→swapA A k p r c=if r=c then 1 else 0:=fun r c hr hc=>by
  rw [swapA]
  split
  ·rw [z p c hp hc hkp,if_neg (by omega)]
  ·split
   ·rw [z k c hk hc (Nat.le_refl _),if_neg (by omega)]
   ·exact hU r c hr hc
 have sc:∀r c,r<R→c<k→scaleA (swapA A k p) k (inv (A p k)) r c=if r=c then 1 else 0:=fun r c hr hc=>by
  rw [scaleA]
  split
  ·next e=>rw [sw k c hk hc,if_neg (show k≠c by omega),zero_mul,if_neg (by omega)]
  ·exact sw r c hr hc
 have skk:scaleA (swapA A k p) k (inv (A p k)) k k=1:=by
  rw [scaleA,if_pos rfl,swapA,if_pos rfl,mul_inv h]
 intro r c hr hc
 rw [stepA,clrA]
 rcases Nat.lt_or_ge c k with h1|h1
 ·split
  ·next e=>rw [sc k c hk h1,if_neg (show k≠c by omega),if_neg (by omega)]
  ·rw [sc r c hr h1,sc k c hk h1,if_neg (show k≠c by omega),mul_zero,add_zero]
 ·obtain rfl:c=k:=by omega
  by_cases e:r=c
  ·rw [if_pos e,if_pos e,skk]
  ·rw [if_neg e,if_neg e,skk,mul_one,add_self]
theorem no_pivot {R N:Nat} {A:Nat→Nat→G} {k:Nat} (hU:UnitA R A k) (hkR:k≤R) (hkN:k<N) (h:∀r,k≤r→r<R→A r k=0):ZeroA R N A (fun c=>if c<k then A c k else if c=k then 1 else 0):=by
 intro r hr
 rcases Nat.lt_or_ge r k with h1|h1
 ·rw [dot_two h1 hkN fun c hc h2 h3=>?_]
  ·simp only [if_pos h1,Nat.lt_irrefl,if_false,if_true]
   rw [hU r r hr h1,if_pos rfl,one_mul,mul_one,add_self]
  ·by_cases hck:c<k
   ·rw [hU r c hr hck,if_neg (Ne.symm h2),zero_mul]
   ·simp only [if_neg hck,if_neg h3,mul_zero]
 ·rw [dot_one hkN fun c hc h2=>?_]
  ·simp only [Nat.lt_irrefl,if_false,if_true]
   rw [h r h1 hr,zero_mul]
  ·by_cases hck:c<k
   ·rw [hU r c hr hck,if_neg (by omega),zero_mul]
   ·simp only [if_neg hck,if_neg h2,mul_zero]
def IndA (R u:Nat) (A:Nat→Nat→G):Prop:=∀x:Nat→G,x u=0→ZeroA R (u+1) A x→∀c,c<u→x c=0
theorem ind_pivot {R u:Nat} {A0 A:Nat→Nat→G} {k:Nat} (hI:IndA R u A0) (hZ:∀x,ZeroA R (u+1) A x↔ZeroA R (u+1) A0 x) (hU:UnitA R A k) (hk:k<u) (hkR:k≤R):∃r,k≤r∧r<R∧A r k≠0:=by
 refine Classical.byContradiction fun hn=>?_
 have h:∀r,k≤r→r<R→A r k=0:=fun r h1 h2=>Classical.byContradiction fun h3=>hn ⟨r,h1,h2,h3⟩
 have hz:=(hZ _).1 (no_pivot (N:=u+1) hU hkR (by omega) h)
 have:=hI _ (by simp only [show ¬u<k by omega,show ¬u=k by omega,if_false]) hz k hk
 simp only [Nat.lt_irrefl,if_false,if_true] at this
 exact absurd this (by decide)
theorem unit_solve {R u:Nat} {A:Nat→Nat→G} {x:Nat→G} (hU:UnitA R A u) (huR:u≤R) (hx:x u=1):ZeroA R (u+1) A x↔(∀c,c<u→x c=A c u)∧∀r,u≤r→r<R→A r u=0:=by
 have e1:∀r,r<u→dotN (u+1) (A r) x=add (x r) (A r u):=fun r hr=>by
  rw [dot_two hr (Nat.lt_succ_self _) fun c hc h2 h3=>by rw [hU r c (by omega) (by omega),if_neg (Ne.symm h2),zero_mul],hU r r (by omega) hr,if_pos rfl,one_mul,hx,mul_one]
 have e2:∀r,u≤r→r<R→dotN (u+1) (A r) x=A r u:=fun r hr hR=>by
  rw [dot_one (Nat.lt_succ_self _) fun c hc h2=>by rw [hU r c hR (by omega),if_neg (by omega),zero_mul],hx,mul_one]
 constructor
 ·intro h
  refine ⟨fun c hc=>?_,fun r h1 h2=>?_⟩
  ·have:=h c (by omega)
   rw [e1 c hc] at this
   exact add_eq0 this
  ·have:=h r h2
   rwa [e2 r h1 h2] at this
 ·rintro ⟨h1,h2⟩ r hr
  rcases Nat.lt_or_ge r u with h|h
  ·rw [e1 r h,h1 r h,add_self]
  ·rw [e2 r h hr,h2 r h hr]
end F32
end Go.Proofs.YtihjphblcohdeaaGreatDoor
namespace Go.Proofs.YtihjphblcohdeaaGreatDoor
set_option maxRecDepth 10000
open Go.RowKit
def plT18a_0:Plan:=(.take 0 (.take 1 (.take 2 (.take 3 (.take 4 (.take 5 (.take 6 (.take 7 (.take 8 (.take 9 (.take 10 .done)))))))))))
open F32
def gI (x:G):Int:=(x.1:Int)
def encG (x:G):List AV:=[.int .i64 (gI x)]
theorem gI_lt (x:G):0≤gI x∧gI x<32:=by unfold gI;have:=x.2;omega
theorem gI_inj {x y:G} (h:gI x=gI y):x=y:=Fin.ext (by unfold gI at h;omega)
theorem isElem_ok (n:Int):Good Tryz.prog TT false 138 [.int .i64 n] (· = .bool (decide (0≤n∧n<32))):=by
 refine good_of mixed tabOk Tryz.func138 rfl rfl Tryz.ntmps138 Tryz.results138 rfl rfl ?_
 (conv=>whnf);(repeat' (first|((with_reducible first|refine branch_tt ?_|refine branch_ff ?_);conv=>whnf)|((with_reducible refine branch_d (fun hq=>?_) (fun hq=>?_))<;>(try (exfalso;omega))<;>(conv=>whnf))))
 ·by_cases h:n<32
  ·exact ret_p rfl (bool_eq (by rw [decide_eq_true h,decide_eq_true ⟨by omega,h⟩]))
  ·exact ret_p rfl (bool_eq (by rw [decide_eq_false h,decide_eq_false (by omega)]))
 ·exact ret_p rfl (bool_eq (by rw [eq_comm,decide_eq_false_iff_not];omega))
theorem isElem_g (x:G):Good Tryz.prog TT false 138 [.int .i64 (gI x)] (· = .bool true):=(isElem_ok (gI x)).mono fun r h=>h.trans (bool_eq (decide_eq_true (gI_lt x)))
def tabF (l:List Nat) (k:Nat):Int:=(l.getD k 0:Nat)
theorem tab_at {l:List Nat} {k:Nat} (h:k<l.length):(l.map fun n:Nat=>AV.int .i64 (n:Int))[k]? =some (.int .i64 (tabF l k)):=by
 rw [List.getElem?_map,List.getElem?_eq_getElem h,tabF,List.getD_eq_getElem?_getD,List.getElem?_eq_getElem h];rfl
theorem lg_lt {k:Nat} (h:k<32):lg.getD k 0<31:=by
 have:(all1 32 fun k=>Nat.blt (lg.getD k 0) 31)=true:=by decide+kernel
 have:=all1_at this k h
 simpa using this
theorem mul_ok (a b:G):Good Tryz.prog TT false 140 [.int .i64 (gI a), .int .i64 (gI b)] (· = .int .i64 (gI (mul a b))):=by
 have ha:=gI_lt a
 have hb:=gI_lt b
 refine good_of mixed tabOk Tryz.func140 rfl rfl Tryz.ntmps140 Tryz.results140 rfl rfl ?_
 have h1:=lg_lt a.2
 have h2:=lg_lt b.2
 have t1:tabF lg (gI a).toNat=((lg.getD a.1 0:Nat):Int):=rfl
 have t2:tabF lg (gI b).toNat=((lg.getD b.1 0:Nat):Int):=rfl
 have t3:(tabF lg (gI a).toNat+tabF lg (gI b).toNat).tmod 31=(((lg.getD a.1 0+lg.getD b.1 0) % 31:Nat):Int):=by rw [t1,t2,Int.tmod_eq_emod_of_nonneg (by omega)];omega
 have t4:(lg.getD a.1 0+lg.getD b.1 0) % 31<31:=Nat.mod_lt _ (by decide)
 have z:∀x:G,gI x=0→x=0:=fun x h=>Fin.ext (by unfold gI at h;show x.1=0;omega)
 (conv=>whnf);(repeat' (first|(refine arith_i ⟨by omega,by omega⟩ ?_;conv=>whnf)|(refine need_o ?_;conv=>whnf)|((with_reducible first|refine branch_tt ?_|refine branch_ff ?_);conv=>whnf)|(with_reducible refine branch_not ?_)|((refine call_e (isElem_g _) ?_);conv=>whnf)|(((refine aget_f (fun k=> .int .i64 (tabF lg k)) (by omega) (by omega) (fun k hk=>tab_at (l:=lg) hk) ?_));conv=>whnf)|(((refine aget_f (fun k=> .int .i64 (tabF pw k)) (by omega) (by omega) (fun k hk=>tab_at (l:=pw) hk) ?_));conv=>whnf)|(refine draw_i 11 plT18a_0 (by decide+kernel) ?_;(conv=>whnf);fail_if_success (guard_target=~ False))|((with_reducible refine branch_e (fun hq=>?_) (fun hq=>?_))<;>(try (exfalso;omega))<;>(conv=>whnf))))
 ·exact ret_p rfl (int_eq (by first|(rw [z b (by assumption),mul_zero];rfl)|(rw [z a (by assumption),zero_mul];rfl)))
 ·exact ret_p rfl (int_eq (by first|(rw [z b (by assumption),mul_zero];rfl)|(rw [z a (by assumption),zero_mul];rfl)))
 ·refine ret_p rfl (int_eq ?_)
  rw [t3]
  have na:Nat.beq a.1 0=false:=by rw [←Bool.not_eq_true,Nat.beq_eq];intro e;exact absurd (show gI a=0 by unfold gI;omega) (by assumption)
  have nb:Nat.beq b.1 0=false:=by rw [←Bool.not_eq_true,Nat.beq_eq];intro e;exact absurd (show gI b=0 by unfold gI;omega) (by assumption)
  show tabF pw _=((gm a.1 b.1:Nat):Int)
  rw [gm,na,nb];rfl
def pwG (n:Nat):G:=⟨pw.getD (n % 31) 0,by
 have:(all1 31 fun k=>Nat.blt (pw.getD k 0) 32)=true:=by decide+kernel
 have:=all1_at this (n % 31) (Nat.mod_lt _ (by decide))
 simpa using this⟩
theorem power_ok (n:Nat) (hn:n≤1000000):Good Tryz.prog TT false 171 [.int .i64 n] (· = .int .i64 (gI (pwG n))):=by
 have t3:(n:Int).tmod 31=((n % 31:Nat):Int):=by rw [Int.tmod_eq_emod_of_nonneg (by omega)];omega
 have t4:n % 31<31:=Nat.mod_lt _ (by decide)
 refine good_of mixed tabOk Tryz.func171 rfl rfl Tryz.ntmps171 Tryz.results171 rfl rfl ?_
 (conv=>whnf);(repeat' (first|(refine need_o ?_;conv=>whnf)|(((refine aget_f (fun k=> .int .i64 (tabF pw k)) (by omega) (by omega) (fun k hk=>tab_at (l:=pw) hk) ?_));conv=>whnf)|((with_reducible refine branch_d (fun hq=>?_) (fun hq=>?_))<;>(try (exfalso;omega))<;>(conv=>whnf))))
 rw [t3]
 exact ret_p rfl rfl
theorem power_m (m:Int) (n:Nat) (h:m=n) (hn:n≤1000000):Good Tryz.prog TT false 171 [.int .i64 m] (· = .int .i64 (gI (pwG n))):=h▸power_ok n hn
end Go.Proofs.YtihjphblcohdeaaGreatDoor
namespace Go.Proofs.YtihjphblcohdeaaGreatDoor
set_option maxRecDepth 10000
open Go.RowKit
open F32
theorem idxNone_ok (xs:List Int) (g:Nat) (hl:xs.length≤1000000) (hp:∀x∈xs,Good Tryz.prog TT false g [.int .i64 x] (· = .bool false)):Good Tryz.prog TT false 109 [ints xs, .fn g []] (· = .int .i64 (-1)):=by
 have L:(xs.map encI).length=xs.length:=List.length_map ..
 refine good_of mixed tabOk Tryz.func109 rfl rfl Tryz.ntmps109 Tryz.results109 rfl rfl ?_
 (conv=>whnf)
 refine loop_i (fun i:Nat=>i≤xs.length) (fun i=>mkSt [(0,ints xs),(1, .fn g []),(7, .int .i64 xs.length),(8, .int .i64 i)] [] false) (fun i=>xs.length-i) 0 (Nat.zero_le _) (le_mk ⟨rfl,rfl,int_eq (by rw [L]),rfl,trivial⟩ trivial rfl) ?_
 intro i hi
 rcases Nat.lt_or_ge i xs.length with hil|hil
 ·obtain ⟨x,hx⟩:∃x,xs[i]? =some x:=⟨_,List.getElem?_eq_getElem hil⟩
  have hG:=hp x (List.mem_of_getElem? hx)
  (conv=>whnf);(repeat' (first|(refine arith_i ⟨by omega,by omega⟩ ?_;conv=>whnf)|((with_reducible refine branch_ff ?_);conv=>whnf)|((refine idx_cs hx ?_);conv=>whnf)|((refine call_e hG ?_);conv=>whnf)|((with_reducible refine branch_d (fun hq=>?_) (fun hq=>?_))<;>(try (exfalso;omega))<;>(conv=>whnf))))
  exact ⟨i+1,by omega,le_q,by omega⟩
 ·(conv=>whnf);(repeat' (first|((with_reducible refine branch_d (fun hq=>?_) (fun hq=>?_))<;>(try (exfalso;omega))<;>(conv=>whnf))))
  exact ret_p rfl rfl
theorem idxNone1_ok (xs:List Int) (g:Nat) (m:Int) (hl:xs.length≤1000000) (hp:∀x∈xs,Good Tryz.prog TT false g [.int .i64 x, .ref [.int .i64 m]] (· = .bool false)):Good Tryz.prog TT false 109 [ints xs, .fn g [.ref [.int .i64 m]]] (· = .int .i64 (-1)):=by
 have L:(xs.map encI).length=xs.length:=List.length_map ..
 refine good_of mixed tabOk Tryz.func109 rfl rfl Tryz.ntmps109 Tryz.results109 rfl rfl ?_
 (conv=>whnf)
 refine loop_i (fun i:Nat=>i≤xs.length) (fun i=>mkSt [(0,ints xs),(1, .fn g [.ref [.int .i64 m]]),(7, .int .i64 xs.length),(8, .int .i64 i)] [] false) (fun i=>xs.length-i) 0 (Nat.zero_le _) (le_mk ⟨rfl,rfl,int_eq (by rw [L]),rfl,trivial⟩ trivial rfl) ?_
 intro i hi
 rcases Nat.lt_or_ge i xs.length with hil|hil
 ·obtain ⟨x,hx⟩:∃x,xs[i]? =some x:=⟨_,List.getElem?_eq_getElem hil⟩
  have hG:=hp x (List.mem_of_getElem? hx)
  (conv=>whnf);(repeat' (first|(refine arith_i ⟨by omega,by omega⟩ ?_;conv=>whnf)|((with_reducible refine branch_ff ?_);conv=>whnf)|((refine idx_cs hx ?_);conv=>whnf)|((refine call_e hG ?_);conv=>whnf)|((with_reducible refine branch_d (fun hq=>?_) (fun hq=>?_))<;>(try (exfalso;omega))<;>(conv=>whnf))))
  exact ⟨i+1,by omega,le_q,by omega⟩
 ·(conv=>whnf);(repeat' (first|((with_reducible refine branch_d (fun hq=>?_) (fun hq=>?_))<;>(try (exfalso;omega))<;>(conv=>whnf))))
  exact ret_p rfl rfl
theorem containsNone_ok (xs:List Int) (g:Nat) (hl:xs.length≤1000000) (hp:∀x∈xs,Good Tryz.prog TT false g [.int .i64 x] (· = .bool false)):Good Tryz.prog TT false 70 [ints xs, .fn g []] (· = .bool false):=by
 refine good_of mixed tabOk Tryz.func70 rfl rfl Tryz.ntmps70 Tryz.results70 rfl rfl ?_
 (conv=>whnf);(repeat' (first|((refine call_e (idxNone_ok xs g hl hp) ?_);conv=>whnf)|fail))
 exact ret_p rfl rfl
theorem containsNone1_ok (xs:List Int) (g:Nat) (m:Int) (hl:xs.length≤1000000) (hp:∀x∈xs,Good Tryz.prog TT false g [.int .i64 x, .ref [.int .i64 m]] (· = .bool false)):Good Tryz.prog TT false 70 [ints xs, .fn g [.ref [.int .i64 m]]] (· = .bool false):=by
 refine good_of mixed tabOk Tryz.func70 rfl rfl Tryz.ntmps70 Tryz.results70 rfl rfl ?_
 (conv=>whnf);(repeat' (first|((refine call_e (idxNone1_ok xs g m hl hp) ?_);conv=>whnf)|fail))
 exact ret_p rfl rfl
theorem isWord1_ok (x m:Int) (h:m≤x∧x<32):Good Tryz.prog TT false 180 [.int .i64 x, .ref [.int .i64 m]] (· = .bool false):=by
 refine good_of mixed tabOk Tryz.func180 rfl rfl Tryz.ntmps180 Tryz.results180 rfl rfl ?_
 (conv=>whnf);(repeat' (first|((with_reducible refine branch_ff ?_);conv=>whnf)|((with_reducible refine branch_d (fun hq=>?_) (fun hq=>?_))<;>(try (exfalso;omega))<;>(conv=>whnf))))
 exact ret_p rfl (bool_eq (decide_eq_false (by omega)))
theorem isWord_ok (w:List Int) (m:Int) (hw:w.length=12) (h:∀x∈w,m≤x∧x<32):Good Tryz.prog TT false 152 [ints w, .int .i64 m] (· = .bool true):=by
 have L:(w.map encI).length=w.length:=List.length_map ..
 refine good_of mixed tabOk Tryz.func152 rfl rfl Tryz.ntmps152 Tryz.results152 rfl rfl ?_
 (conv=>whnf);(repeat' (first|((with_reducible refine branch_ff ?_);conv=>whnf)|((refine call_e (containsNone1_ok w _ m (by omega) fun x hx=>isWord1_ok x m (h x hx)) ?_);conv=>whnf)|((with_reducible refine callS_a ?_);conv=>whnf)|((with_reducible refine branch_d (fun hq=>?_) (fun hq=>?_))<;>(try (exfalso;omega))<;>(conv=>whnf))))
 exact ret_p rfl rfl
def synP (w:List G) (j:Nat):Nat→G
 |0=>0
 |i+1=>add (synP w j i) (mul (w.getD i 0) (pwG ((j+1) * (11-i))))
def synG (w:List G) (j:Nat):G:=synP w j 12
def xorI (a b:Int):Int:=IntKind.i64.wrap (BitVec.ofInt IntKind.i64.bits a ^^^ BitVec.ofInt IntKind.i64.bits b).toNat
theorem xor_g (x y:G):xorI (gI x) (gI y)=gI (add x y):=by
 have h:(all1 32 fun a=>all1 32 fun b=>decide (xorI (a:Int) (b:Int)=((a ^^^ b:Nat):Int)))=true:=by decide+kernel
 exact of_decide_eq_true (all1_at (all1_at h x.1 x.2) y.1 y.2)
def synC (w:List G) (j q:Nat):AV:= .int .i64 (bif Nat.blt q j then gI (synG w q) else 0)
def synD (w:List G) (j i q:Nat):AV:= .int .i64 (bif Nat.beq q j then gI (synP w j i) else bif Nat.blt q j then gI (synG w q) else 0)
theorem syn_next {w:List G} {j i:Nat} {x:G} (h:w[i]? =some x):gI (synP w j (i+1))=xorI (gI (synP w j i)) (gI (mul x (pwG ((j+1) * (11-i))))):=by
 rw [xor_g,synP,List.getD_eq_getElem?_getD,h];rfl
def synL (w:List G) (j i:Nat) (v:AV):List AV:=[bif Nat.beq 0 j then v else synD w j i 0,bif Nat.beq 1 j then v else synD w j i 1,bif Nat.beq 2 j then v else synD w j i 2,bif Nat.beq 3 j then v else synD w j i 3,bif Nat.beq 4 j then v else synD w j i 4,bif Nat.beq 5 j then v else synD w j i 5]
def synFam (w:List G) (j i:Nat):St:=mkSt [(0, .own 1100 3 1 (w.map encG)),(2, .ptr 2 0),(3, .ptr 3 0),(4, .int .i64 j),(7, .int .i64 j),(10, .own 1100 3 1 (w.map encG)),(11, .int .i64 w.length),(12, .int .i64 i),(1000, .own 1100 3 1 (w.map encG))] [(2,[.int .i64 0, .int .i64 0, .int .i64 0, .int .i64 0, .int .i64 0, .int .i64 0]),(3,[synD w j i 0,synD w j i 1,synD w j i 2,synD w j i 3,synD w j i 4,synD w j i 5])] false
set_option maxHeartbeats 2000000 in
theorem syndromes_ok (w:List G) (hw:w.length=12):GoodM Tryz.prog TT false 153 [.own 1100 3 1 (w.map encG)] [] (fun r ov bx=>bx=[]∧ov=[(1000, .own 1100 3 1 (w.map encG))]∧r= .agg [.int .i64 (gI (synG w 0)), .int .i64 (gI (synG w 1)), .int .i64 (gI (synG w 2)), .int .i64 (gI (synG w 3)), .int .i64 (gI (synG w 4)), .int .i64 (gI (synG w 5))]):=by
 have L:(w.map encG).length=w.length:=List.length_map ..
 refine good_of_m (fun _=>false) mixed tabOk Tryz.func153 rfl rfl Tryz.ntmps153 Tryz.results153 rfl rfl ?_
 (conv=>whnf)
 refine loop_i (fun j:Nat=>j≤6) (fun j=>mkSt [(0, .own 1100 3 1 (w.map encG)),(2, .ptr 2 0),(3, .ptr 3 0),(7, .int .i64 j),(1000, .own 1100 3 1 (w.map encG))] [(2,[.int .i64 0, .int .i64 0, .int .i64 0, .int .i64 0, .int .i64 0, .int .i64 0]),(3,[synC w j 0,synC w j 1,synC w j 2,synC w j 3,synC w j 4,synC w j 5])] false) (fun j=>6-j) 0 (by decide) (le_mk ⟨rfl,rfl,rfl,rfl,rfl,trivial⟩ ⟨rfl,rfl,trivial⟩ rfl) ?_
 intro j hj
 rcases Nat.lt_or_ge j 6 with hjl|hjl
 ·rcases (show j=0∨j=1∨j=2∨j=3∨j=4∨j=5 by omega) with rfl|rfl|rfl|rfl|rfl|rfl
  ·(conv=>whnf);(repeat' (first|((with_reducible refine branch_d (fun hq=>?_) (fun hq=>?_))<;>(try (exfalso;omega))<;>(conv=>whnf))))
   refine loop_i (fun i:Nat=>i≤12) (synFam w 0) (fun i=>12-i) 0 (Nat.zero_le _) (le_mk ⟨rfl,rfl,rfl,rfl,rfl,rfl,int_eq (by rw [L]),rfl,rfl,trivial⟩ ⟨rfl,rfl,trivial⟩ rfl) ?_
   intro i hi
   rcases Nat.lt_or_ge i 12 with hil|hil
   ·obtain ⟨x,hx⟩:∃x,w[i]? =some x:=⟨_,List.getElem?_eq_getElem (by omega)⟩
    (conv=>whnf);(repeat' (first|(refine arith_i ⟨by omega,by omega⟩ ?_;conv=>whnf)|((refine idx_cs hx ?_);conv=>whnf)|((refine call_e (power_m _ ((0+1) * (11-i)) (by omega) (by omega)) ?_);conv=>whnf)|((refine call_e (mul_ok x _) ?_);conv=>whnf)|((refine draw_i 16 (.take 0 (.take 1 (.take 3 (.take 4 (.take 5 (.take 6 (.take 7 (.take 8 (.take 9 (.take 10 (.take 11 (.alt 2 (.alt 12 (.alt 13 (.take 14 (.take 15 (.alt 16 .done .stop))) .stop) .stop) (.alt 12 (.alt 2 (.alt 13 (.take 14 (.take 15 (.alt 16 .done .stop))) .stop) (.alt 13 (.alt 2 (.take 14 (.take 15 (.alt 16 .done .stop))) .stop) .stop)) .stop))))))))))))) (by decide+kernel) ?_);conv=>whnf)|((refine aidx_i 0 rfl (by decide) ?_);conv=>whnf)|((with_reducible refine And.intro ?_ ?_)<;>(conv=>whnf))|(with_reducible exact trivial)|((with_reducible refine branch_d (fun hq=>?_) (fun hq=>?_))<;>(try (exfalso;omega))<;>(conv=>whnf))))
    all_goals exact ⟨i+1,by omega,le_mk ⟨rfl,rfl,rfl,rfl,rfl,rfl,rfl,rfl,rfl,trivial⟩ ⟨rfl,congrArg (fun v=>some (synL w 0 i v)) (int_eq (syn_next (j:=0) hx).symm),trivial⟩ rfl,by omega⟩
   ·obtain rfl:i=12:=by omega
    (conv=>whnf);(repeat' (first|(refine arith_i ⟨by omega,by omega⟩ ?_;conv=>whnf)|((with_reducible refine branch_d (fun hq=>?_) (fun hq=>?_))<;>(try (exfalso;omega))<;>(conv=>whnf))))
    exact ⟨1,by decide,le_q,by decide⟩
  ·(conv=>whnf);(repeat' (first|((with_reducible refine branch_d (fun hq=>?_) (fun hq=>?_))<;>(try (exfalso;omega))<;>(conv=>whnf))))
   refine loop_i (fun i:Nat=>i≤12) (synFam w 1) (fun i=>12-i) 0 (Nat.zero_le _) (le_mk ⟨rfl,rfl,rfl,rfl,rfl,rfl,int_eq (by rw [L]),rfl,rfl,trivial⟩ ⟨rfl,rfl,trivial⟩ rfl) ?_
   intro i hi
   rcases Nat.lt_or_ge i 12 with hil|hil
   ·obtain ⟨x,hx⟩:∃x,w[i]? =some x:=⟨_,List.getElem?_eq_getElem (by omega)⟩
    (conv=>whnf);(repeat' (first|(refine arith_i ⟨by omega,by omega⟩ ?_;conv=>whnf)|((refine idx_cs hx ?_);conv=>whnf)|((refine call_e (power_m _ ((1+1) * (11-i)) (by omega) (by omega)) ?_);conv=>whnf)|((refine call_e (mul_ok x _) ?_);conv=>whnf)|((refine draw_i 16 (.take 0 (.take 1 (.take 3 (.take 4 (.take 5 (.take 6 (.take 7 (.take 8 (.take 9 (.take 10 (.take 11 (.alt 2 (.alt 12 (.alt 13 (.take 14 (.take 15 (.alt 16 .done .stop))) .stop) .stop) (.alt 12 (.alt 2 (.alt 13 (.take 14 (.take 15 (.alt 16 .done .stop))) .stop) (.alt 13 (.alt 2 (.take 14 (.take 15 (.alt 16 .done .stop))) .stop) .stop)) .stop))))))))))))) (by decide+kernel) ?_);conv=>whnf)|((refine aidx_i 1 rfl (by decide) ?_);conv=>whnf)|((with_reducible refine And.intro ?_ ?_)<;>(conv=>whnf))|(with_reducible exact trivial)|((with_reducible refine branch_d (fun hq=>?_) (fun hq=>?_))<;>(try (exfalso;omega))<;>(conv=>whnf))))
    all_goals exact ⟨i+1,by omega,le_mk ⟨rfl,rfl,rfl,rfl,rfl,rfl,rfl,rfl,rfl,trivial⟩ ⟨rfl,congrArg (fun v=>some (synL w 1 i v)) (int_eq (syn_next (j:=1) hx).symm),trivial⟩ rfl,by omega⟩
   ·obtain rfl:i=12:=by omega
    (conv=>whnf);(repeat' (first|(refine arith_i ⟨by omega,by omega⟩ ?_;conv=>whnf)|((with_reducible refine branch_d (fun hq=>?_) (fun hq=>?_))<;>(try (exfalso;omega))<;>(conv=>whnf))))
    exact ⟨2,by decide,le_q,by decide⟩
  ·(conv=>whnf);(repeat' (first|((with_reducible refine branch_d (fun hq=>?_) (fun hq=>?_))<;>(try (exfalso;omega))<;>(conv=>whnf))))
   refine loop_i (fun i:Nat=>i≤12) (synFam w 2) (fun i=>12-i) 0 (Nat.zero_le _) (le_mk ⟨rfl,rfl,rfl,rfl,rfl,rfl,int_eq (by rw [L]),rfl,rfl,trivial⟩ ⟨rfl,rfl,trivial⟩ rfl) ?_
   intro i hi
   rcases Nat.lt_or_ge i 12 with hil|hil
   ·obtain ⟨x,hx⟩:∃x,w[i]? =some x:=⟨_,List.getElem?_eq_getElem (by omega)⟩
    (conv=>whnf);(repeat' (first|(refine arith_i ⟨by omega,by omega⟩ ?_;conv=>whnf)|((refine idx_cs hx ?_);conv=>whnf)|((refine call_e (power_m _ ((2+1) * (11-i)) (by omega) (by omega)) ?_);conv=>whnf)|((refine call_e (mul_ok x _) ?_);conv=>whnf)|((refine draw_i 16 (.take 0 (.take 1 (.take 3 (.take 4 (.take 5 (.take 6 (.take 7 (.take 8 (.take 9 (.take 10 (.take 11 (.alt 2 (.alt 12 (.alt 13 (.take 14 (.take 15 (.alt 16 .done .stop))) .stop) .stop) (.alt 12 (.alt 2 (.alt 13 (.take 14 (.take 15 (.alt 16 .done .stop))) .stop) (.alt 13 (.alt 2 (.take 14 (.take 15 (.alt 16 .done .stop))) .stop) .stop)) .stop))))))))))))) (by decide+kernel) ?_);conv=>whnf)|((refine aidx_i 2 rfl (by decide) ?_);conv=>whnf)|((with_reducible refine And.intro ?_ ?_)<;>(conv=>whnf))|(with_reducible exact trivial)|((with_reducible refine branch_d (fun hq=>?_) (fun hq=>?_))<;>(try (exfalso;omega))<;>(conv=>whnf))))
    all_goals exact ⟨i+1,by omega,le_mk ⟨rfl,rfl,rfl,rfl,rfl,rfl,rfl,rfl,rfl,trivial⟩ ⟨rfl,congrArg (fun v=>some (synL w 2 i v)) (int_eq (syn_next (j:=2) hx).symm),trivial⟩ rfl,by omega⟩
   ·obtain rfl:i=12:=by omega
    (conv=>whnf);(repeat' (first|(refine arith_i ⟨by omega,by omega⟩ ?_;conv=>whnf)|((with_reducible refine branch_d (fun hq=>?_) (fun hq=>?_))<;>(try (exfalso;omega))<;>(conv=>whnf))))
    exact ⟨3,by decide,le_q,by decide⟩
  ·(conv=>whnf);(repeat' (first|((with_reducible refine branch_d (fun hq=>?_) (fun hq=>?_))<;>(try (exfalso;omega))<;>(conv=>whnf))))
   refine loop_i (fun i:Nat=>i≤12) (synFam w 3) (fun i=>12-i) 0 (Nat.zero_le _) (le_mk ⟨rfl,rfl,rfl,rfl,rfl,rfl,int_eq (by rw [L]),rfl,rfl,trivial⟩ ⟨rfl,rfl,trivial⟩ rfl) ?_
   intro i hi
   rcases Nat.lt_or_ge i 12 with hil|hil
   ·obtain ⟨x,hx⟩:∃x,w[i]? =some x:=⟨_,List.getElem?_eq_getElem (by omega)⟩
    (conv=>whnf);(repeat' (first|(refine arith_i ⟨by omega,by omega⟩ ?_;conv=>whnf)|((refine idx_cs hx ?_);conv=>whnf)|((refine call_e (power_m _ ((3+1) * (11-i)) (by omega) (by omega)) ?_);conv=>whnf)|((refine call_e (mul_ok x _) ?_);conv=>whnf)|((refine draw_i 16 (.take 0 (.take 1 (.take 3 (.take 4 (.take 5 (.take 6 (.take 7 (.take 8 (.take 9 (.take 10 (.take 11 (.alt 2 (.alt 12 (.alt 13 (.take 14 (.take 15 (.alt 16 .done .stop))) .stop) .stop) (.alt 12 (.alt 2 (.alt 13 (.take 14 (.take 15 (.alt 16 .done .stop))) .stop) (.alt 13 (.alt 2 (.take 14 (.take 15 (.alt 16 .done .stop))) .stop) .stop)) .stop))))))))))))) (by decide+kernel) ?_);conv=>whnf)|((refine aidx_i 3 rfl (by decide) ?_);conv=>whnf)|((with_reducible refine And.intro ?_ ?_)<;>(conv=>whnf))|(with_reducible exact trivial)|((with_reducible refine branch_d (fun hq=>?_) (fun hq=>?_))<;>(try (exfalso;omega))<;>(conv=>whnf))))
    all_goals exact ⟨i+1,by omega,le_mk ⟨rfl,rfl,rfl,rfl,rfl,rfl,rfl,rfl,rfl,trivial⟩ ⟨rfl,congrArg (fun v=>some (synL w 3 i v)) (int_eq (syn_next (j:=3) hx).symm),trivial⟩ rfl,by omega⟩
   ·obtain rfl:i=12:=by omega
    (conv=>whnf);(repeat' (first|(refine arith_i ⟨by omega,by omega⟩ ?_;conv=>whnf)|((with_reducible refine branch_d (fun hq=>?_) (fun hq=>?_))<;>(try (exfalso;omega))<;>(conv=>whnf))))
    exact ⟨4,by decide,le_q,by decide⟩
  ·(conv=>whnf);(repeat' (first|((with_reducible refine branch_d (fun hq=>?_) (fun hq=>?_))<;>(try (exfalso;omega))<;>(conv=>whnf))))
   refine loop_i (fun i:Nat=>i≤12) (synFam w 4) (fun i=>12-i) 0 (Nat.zero_le _) (le_mk ⟨rfl,rfl,rfl,rfl,rfl,rfl,int_eq (by rw [L]),rfl,rfl,trivial⟩ ⟨rfl,rfl,trivial⟩ rfl) ?_
   intro i hi
   rcases Nat.lt_or_ge i 12 with hil|hil
   ·obtain ⟨x,hx⟩:∃x,w[i]? =some x:=⟨_,List.getElem?_eq_getElem (by omega)⟩
    (conv=>whnf);(repeat' (first|(refine arith_i ⟨by omega,by omega⟩ ?_;conv=>whnf)|((refine idx_cs hx ?_);conv=>whnf)|((refine call_e (power_m _ ((4+1) * (11-i)) (by omega) (by omega)) ?_);conv=>whnf)|((refine call_e (mul_ok x _) ?_);conv=>whnf)|((refine draw_i 16 (.take 0 (.take 1 (.take 3 (.take 4 (.take 5 (.take 6 (.take 7 (.take 8 (.take 9 (.take 10 (.take 11 (.alt 2 (.alt 12 (.alt 13 (.take 14 (.take 15 (.alt 16 .done .stop))) .stop) .stop) (.alt 12 (.alt 2 (.alt 13 (.take 14 (.take 15 (.alt 16 .done .stop))) .stop) (.alt 13 (.alt 2 (.take 14 (.take 15 (.alt 16 .done .stop))) .stop) .stop)) .stop))))))))))))) (by decide+kernel) ?_);conv=>whnf)|((refine aidx_i 4 rfl (by decide) ?_);conv=>whnf)|((with_reducible refine And.intro ?_ ?_)<;>(conv=>whnf))|(with_reducible exact trivial)|((with_reducible refine branch_d (fun hq=>?_) (fun hq=>?_))<;>(try (exfalso;omega))<;>(conv=>whnf))))
    all_goals exact ⟨i+1,by omega,le_mk ⟨rfl,rfl,rfl,rfl,rfl,rfl,rfl,rfl,rfl,trivial⟩ ⟨rfl,congrArg (fun v=>some (synL w 4 i v)) (int_eq (syn_next (j:=4) hx).symm),trivial⟩ rfl,by omega⟩
   ·obtain rfl:i=12:=by omega
    (conv=>whnf);(repeat' (first|(refine arith_i ⟨by omega,by omega⟩ ?_;conv=>whnf)|((with_reducible refine branch_d (fun hq=>?_) (fun hq=>?_))<;>(try (exfalso;omega))<;>(conv=>whnf))))
    exact ⟨5,by decide,le_q,by decide⟩
  ·(conv=>whnf);(repeat' (first|((with_reducible refine branch_d (fun hq=>?_) (fun hq=>?_))<;>(try (exfalso;omega))<;>(conv=>whnf))))
   refine loop_i (fun i:Nat=>i≤12) (synFam w 5) (fun i=>12-i) 0 (Nat.zero_le _) (le_mk ⟨rfl,rfl,rfl,rfl,rfl,rfl,int_eq (by rw [L]),rfl,rfl,trivial⟩ ⟨rfl,rfl,trivial⟩ rfl) ?_
   intro i hi
   rcases Nat.lt_or_ge i 12 with hil|hil
   ·obtain ⟨x,hx⟩:∃x,w[i]? =some x:=⟨_,List.getElem?_eq_getElem (by omega)⟩
    (conv=>whnf);(repeat' (first|(refine arith_i ⟨by omega,by omega⟩ ?_;conv=>whnf)|((refine idx_cs hx ?_);conv=>whnf)|((refine call_e (power_m _ ((5+1) * (11-i)) (by omega) (by omega)) ?_);conv=>whnf)|((refine call_e (mul_ok x _) ?_);conv=>whnf)|((refine draw_i 16 (.take 0 (.take 1 (.take 3 (.take 4 (.take 5 (.take 6 (.take 7 (.take 8 (.take 9 (.take 10 (.take 11 (.alt 2 (.alt 12 (.alt 13 (.take 14 (.take 15 (.alt 16 .done .stop))) .stop) .stop) (.alt 12 (.alt 2 (.alt 13 (.take 14 (.take 15 (.alt 16 .done .stop))) .stop) (.alt 13 (.alt 2 (.take 14 (.take 15 (.alt 16 .done .stop))) .stop) .stop)) .stop))))))))))))) (by decide+kernel) ?_);conv=>whnf)|((refine aidx_i 5 rfl (by decide) ?_);conv=>whnf)|((with_reducible refine And.intro ?_ ?_)<;>(conv=>whnf))|(with_reducible exact trivial)|((with_reducible refine branch_d (fun hq=>?_) (fun hq=>?_))<;>(try (exfalso;omega))<;>(conv=>whnf))))
    all_goals exact ⟨i+1,by omega,le_mk ⟨rfl,rfl,rfl,rfl,rfl,rfl,rfl,rfl,rfl,trivial⟩ ⟨rfl,congrArg (fun v=>some (synL w 5 i v)) (int_eq (syn_next (j:=5) hx).symm),trivial⟩ rfl,by omega⟩
   ·obtain rfl:i=12:=by omega
    (conv=>whnf);(repeat' (first|(refine arith_i ⟨by omega,by omega⟩ ?_;conv=>whnf)|((with_reducible refine branch_d (fun hq=>?_) (fun hq=>?_))<;>(try (exfalso;omega))<;>(conv=>whnf))))
    exact ⟨6,by decide,le_q,by decide⟩
 ·obtain rfl:j=6:=by omega
  (conv=>whnf);(repeat' (first|((with_reducible refine branch_d (fun hq=>?_) (fun hq=>?_))<;>(try (exfalso;omega))<;>(conv=>whnf))))
  exact retM_i (.agg [.int .i64 (gI (synG w 0)), .int .i64 (gI (synG w 1)), .int .i64 (gI (synG w 2)), .int .i64 (gI (synG w 3)), .int .i64 (gI (synG w 4)), .int .i64 (gI (synG w 5))]) [(1000, .own 1100 3 1 (w.map encG))] [] rfl (le_mk ⟨rfl,rfl,trivial⟩ trivial rfl) rfl ⟨rfl,rfl,rfl⟩
end Go.Proofs.YtihjphblcohdeaaGreatDoor
namespace Go.Proofs.YtihjphblcohdeaaGreatDoor
set_option maxRecDepth 10000
open Go.RowKit
def plT18c_1:Plan:=(.take 0 (.take 1 (.take 2 (.take 3 (.take 5 (.take 6 (.alt 4 (.alt 7 (.alt 8 (.take 9 (.take 10 (.altE 11 .done .stop))) .stop) .stop) (.alt 7 (.alt 4 (.alt 8 (.take 9 (.take 10 (.altE 11 .done .stop))) .stop) (.alt 8 (.alt 4 (.take 9 (.take 10 (.altE 11 .done .stop))) .stop) .stop)) .stop))))))))
open F32
theorem inverse_ok (a:G) (h0:a≠0):Good Tryz.prog TT false 205 [.int .i64 (gI a)] (· = .int .i64 (gI (inv a))):=by
 have ha:=gI_lt a
 have hz:gI a≠0:=fun h=>h0 (Fin.ext (by unfold gI at h;show a.1=0;omega))
 have h1:=lg_lt a.2
 have t1:tabF lg (gI a).toNat=((lg.getD a.1 0:Nat):Int):=rfl
 have t3:(31-tabF lg (gI a).toNat).tmod 31=(((31-lg.getD a.1 0) % 31:Nat):Int):=by rw [t1,Int.tmod_eq_emod_of_nonneg (by omega)];omega
 have t4:(31-lg.getD a.1 0) % 31<31:=Nat.mod_lt _ (by decide)
 refine good_of mixed tabOk Tryz.func205 rfl rfl Tryz.ntmps205 Tryz.results205 rfl rfl ?_
 (conv=>whnf);(repeat' (first|(refine arith_i ⟨by omega,by omega⟩ ?_;conv=>whnf)|(refine need_o ?_;conv=>whnf)|((with_reducible first|refine branch_tt ?_|refine branch_ff ?_);conv=>whnf)|(with_reducible refine branch_not ?_)|((refine call_e (isElem_g _) ?_);conv=>whnf)|(((refine aget_f (fun k=> .int .i64 (tabF lg k)) (by omega) (by omega) (fun k hk=>tab_at (l:=lg) hk) ?_));conv=>whnf)|(((refine aget_f (fun k=> .int .i64 (tabF pw k)) (by omega) (by omega) (fun k hk=>tab_at (l:=pw) hk) ?_));conv=>whnf)|((with_reducible refine branch_e (fun hq=>?_) (fun hq=>?_))<;>(try (exfalso;omega))<;>(conv=>whnf))))
 refine ret_p rfl (int_eq ?_)
 rw [t3]
 have na:Nat.beq a.1 0=false:=by rw [←Bool.not_eq_true,Nat.beq_eq];intro e;exact hz (by unfold gI;omega)
 show tabF pw _=((gi a.1:Nat):Int)
 rw [gi,na];rfl
theorem clone_ok (xs:List Int) (hl:xs.length≤1000000):Good Tryz.prog TT false 38 [ints xs] (· = .own 0 3 1 (xs.map encI)):=by
 have L:(xs.map encI).length=xs.length:=List.length_map ..
 refine good_of mixed tabOk Tryz.func38 rfl rfl Tryz.ntmps38 Tryz.results38 rfl rfl ?_
 (conv=>whnf);(repeat (first|(refine arith_i ⟨by omega,by omega⟩ ?_;conv=>whnf)|(refine need_i (by first|omega|(simp only [List.length_append,List.length_cons,List.length_nil];omega)) ?_;conv=>whnf)|((with_reducible first|refine branch_tt ?_|refine branch_ff ?_);conv=>whnf)|(with_reducible refine branch_not ?_)|((with_reducible first|refine slc_e ?_|refine callS_a ?_|refine bld_a ?_|refine own_e ?_|refine mkmap_b ?_|refine lnk_a ?_);conv=>whnf)))
 refine nil_i (fun h=>?_) ?_
 ·(conv=>whnf);(repeat (first|(refine arith_i ⟨by omega,by omega⟩ ?_;conv=>whnf)|(refine need_i (by first|omega|(simp only [List.length_append,List.length_cons,List.length_nil];omega)) ?_;conv=>whnf)|((with_reducible first|refine branch_tt ?_|refine branch_ff ?_);conv=>whnf)|(with_reducible refine branch_not ?_)|((with_reducible first|refine slc_e ?_|refine callS_a ?_|refine bld_a ?_|refine own_e ?_|refine mkmap_b ?_|refine lnk_a ?_);conv=>whnf)))
  exact ret_n (e:=3) (z:=1) (by rw [h])
 ·(conv=>whnf);(repeat (first|(refine arith_i ⟨by omega,by omega⟩ ?_;conv=>whnf)|(refine need_i (by first|omega|(simp only [List.length_append,List.length_cons,List.length_nil];omega)) ?_;conv=>whnf)|((with_reducible first|refine branch_tt ?_|refine branch_ff ?_);conv=>whnf)|(with_reducible refine branch_not ?_)|((with_reducible first|refine slc_e ?_|refine callS_a ?_|refine bld_a ?_|refine own_e ?_|refine mkmap_b ?_|refine lnk_a ?_);conv=>whnf)))
  exact ret_o rfl
theorem cloneG_ok (xs:List G) (hl:xs.length≤1000000):Good Tryz.prog TT false 38 [.lst 1 (xs.map encG)] (· = .own 0 3 1 (xs.map encG)):=by
 have e:xs.map encG=(xs.map gI).map encI:=by rw [List.map_map];rfl
 rw [e]
 exact clone_ok _ (by rw [List.length_map];exact hl)
def genN (g:List G) (a:G):Nat→List G
 |0=>g++[0]
 |i+1=>(genN g a i).set (i+1) (add ((genN g a i).getD (i+1) 0) (mul (g.getD i 0) a))
theorem genN_len (g:List G) (a:G):∀i,(genN g a i).length=g.length+1
 |0=>by rw [genN,List.length_append,List.length_singleton]
 |i+1=>by rw [genN,List.length_set,genN_len g a i]
def genS:Nat→List G
 |0=>[1]
 |j+1=>genN (genS j) (pwG (j+1)) (genS j).length
theorem genS_len:∀j,(genS j).length=j+1
 |0=>rfl
 |j+1=>by rw [genS,genN_len,genS_len j]
theorem encG_set {y:G}:∀ {xs:List G} {k:Nat},(xs.map encG).modify k (·.set 0 (.int .i64 (gI y)))=(xs.set k y).map encG
 |[],k=>by cases k<;>rfl
 |x::xs,0=>by simp [encG,List.modify_zero_cons]
 |x::xs,k+1=>by simp only [List.map_cons,List.modify_succ_cons,List.set_cons_succ,encG_set]
theorem gen_next {g:List G} {a:G} {i:Nat} {x y:G} {t:Tg} {e:Nat} (hx:g[i]? =some x) (hy:(genN g a i)[i+1]? =some y):AV.own t e 1 (((genN g a i).map encG).modify ((i:Int)+1).toNat (·.set 0 (.int .i64 (xorI (gI y) (gI (mul x a))))))= .own t e 1 ((genN g a (i+1)).map encG):=by
 rw [xor_g,encG_set,show ((i:Int)+1).toNat=i+1 by omega,genN,List.getD_eq_getElem?_getD,List.getD_eq_getElem?_getD,hx,hy];rfl
def genC:List G:=[17,26,30,27,30,24]
theorem gen_6:genS 6=1::genC:=by decide+kernel
theorem generator_ok:Good Tryz.prog TT false 139 [] (· = .agg (genC.map fun x=> .int .i64 (gI x))):=by
 refine good_of mixed tabOk Tryz.func139 rfl rfl Tryz.ntmps139 Tryz.results139 rfl rfl ?_
 (conv=>whnf)
 refine loop_i (fun j:Nat=>j≤6) (fun j=>mkSt [(0, .ptr 0 0),(1, .lst 1 ((genS j).map encG)),(2, .int .i64 ((j+1:Nat):Int))] [(0,[.int .i64 0, .int .i64 0, .int .i64 0, .int .i64 0, .int .i64 0, .int .i64 0])] false) (fun j=>6-j) 0 (by decide) ((le_erase 6).trans (le_mk ⟨rfl,rfl,rfl,trivial⟩ ⟨rfl,trivial⟩ rfl)) ?_
 intro j hj
 have L:=genS_len j
 have L1:((genS j).map encG).length=(genS j).length:=List.length_map ..
 (conv=>whnf);(repeat' (first|(refine need_o ?_;conv=>whnf)|((refine call_e (cloneG_ok _ (by omega)) ?_);conv=>whnf)|((with_reducible refine branch_d (fun hq=>?_) (fun hq=>?_))<;>(try (exfalso;omega))<;>(conv=>whnf))))
 ·refine loop_i (fun i:Nat=>i≤(genS j).length) (fun i=>mkSt [(0, .ptr 0 0),(2, .int .i64 ((j+1:Nat):Int)),(3, .own (.s 12) 3 1 ((genN (genS j) (pwG (j+1)) i).map encG)),(15, .lst 1 ((genS j).map encG)),(16, .int .i64 (genS j).length),(17, .int .i64 i)] [(0,[.int .i64 0, .int .i64 0, .int .i64 0, .int .i64 0, .int .i64 0, .int .i64 0])] false) (fun i=>(genS j).length-i) 0 (Nat.zero_le _) (le_mk ⟨rfl,rfl,by rw [genN,List.map_append];rfl,rfl,int_eq (by rw [L1]),rfl,trivial⟩ ⟨rfl,trivial⟩ rfl) ?_
  intro i hi
  have LN:=genN_len (genS j) (pwG (j+1)) i
  have LN1:((genN (genS j) (pwG (j+1)) i).map encG).length=(genN (genS j) (pwG (j+1)) i).length:=List.length_map ..
  rcases Nat.lt_or_ge i (genS j).length with hil|hil
  ·obtain ⟨x,hx⟩:∃x,(genS j)[i]? =some x:=⟨_,List.getElem?_eq_getElem (by omega)⟩
   obtain ⟨y,hy⟩:∃y,(genN (genS j) (pwG (j+1)) i)[i+1]? =some y:=⟨_,List.getElem?_eq_getElem (by omega)⟩
   (conv=>whnf);(repeat' (first|(refine arith_i ⟨by omega,by omega⟩ ?_;conv=>whnf)|((refine idx_cs hx ?_);conv=>whnf)|((refine idx_cs (k:=i+1) hy ?_);conv=>whnf)|((refine call_e (power_m _ (j+1) (by omega) (by omega)) ?_);conv=>whnf)|((refine call_e (mul_ok x _) ?_);conv=>whnf)|(refine draw_i 12 plT18c_1 (by decide+kernel) ?_;(conv=>whnf);fail_if_success (guard_target=~ False))|((with_reducible refine And.intro ?_ ?_)<;>(conv=>whnf))|(with_reducible exact trivial)|((with_reducible refine branch_d (fun hq=>?_) (fun hq=>?_))<;>(try (exfalso;omega))<;>(conv=>whnf))))
   all_goals exact ⟨i+1,by omega,le_mk ⟨rfl,rfl,gen_next hx hy,rfl,rfl,rfl,trivial⟩ ⟨rfl,trivial⟩ rfl,by omega⟩
  ·obtain rfl:i=(genS j).length:=by omega
   (conv=>whnf);(repeat' (first|(refine arith_i ⟨by omega,by omega⟩ ?_;conv=>whnf)|((with_reducible refine branch_d (fun hq=>?_) (fun hq=>?_))<;>(try (exfalso;omega))<;>(conv=>whnf))))
   exact ⟨j+1,by omega,(le_erase 12).trans (le_mk ⟨rfl,rfl,int_eq (by omega),trivial⟩ ⟨rfl,trivial⟩ rfl),by omega⟩
 obtain rfl:j=6:=by omega
 refine sub_i (by omega) ?_
 rw [gen_6]
 (conv=>whnf)
 refine need_i (by decide) ?_
 (conv=>whnf)
 exact ret_a (cs':=genC.map fun x=> .int .i64 (gI x)) ⟨rc_p rfl,rc_p rfl,rc_p rfl,rc_p rfl,rc_p rfl,rc_p rfl,trivial⟩ rfl
end Go.Proofs.YtihjphblcohdeaaGreatDoor
namespace Go.Proofs.YtihjphblcohdeaaGreatDoor
set_option maxRecDepth 10000
open Go.RowKit
def plT18d_0:Plan:=(.alt 0 (.alt 1 (.alt 2 .done .stop) .stop) (.alt 1 (.alt 0 (.alt 2 .done .stop) .stop) .stop))
def plT18d_4:Plan:=(.take 0 (.alt 1 (.alt 2 (.alt 3 (.take 4 (.take 5 .done)) .stop) .stop) (.alt 2 (.alt 1 (.alt 3 (.take 4 (.take 5 .done)) .stop) .stop) .stop)))
open F32
theorem rc_o' {t:Tg} {e z:Nat} {es es':List (List AV)} (h:es=es'):RetC (.own t e z es) (.lst z es'):=h▸rc_o
theorem mul_m (m n:Int) (a b:G) (h:m=gI a) (h':n=gI b):Good Tryz.prog TT false 140 [.int .i64 m, .int .i64 n] (· = .int .i64 (gI (mul a b))):=by
 subst h h';exact mul_ok a b
theorem enc1_ok (x:G):Good Tryz.prog TT false 137 [.int .i64 (gI x)] (· = .bool false):=by
 refine good_of mixed tabOk Tryz.func137 rfl rfl Tryz.ntmps137 Tryz.results137 rfl rfl ?_
 (conv=>whnf);(repeat' (first|((refine call_e (isElem_g _) ?_);conv=>whnf)|fail))
 exact ret_p rfl rfl
def rsE (d:List G):Nat→Nat→G
 |0,_=>0
 |i+1,q=>add (bif Nat.blt q 5 then rsE d i (q+1) else 0) (mul (add (d.getD i 0) (rsE d i 0)) (genC.getD q 0))
def rsM (d:List G) (i k q:Nat):AV:= .int .i64 (gI (bif Nat.blt q k then rsE d (i+1) q else bif Nat.blt q 5 then rsE d i (q+1) else 0))
def facE (d:List G) (i:Nat):G:=add (d.getD i 0) (rsE d i 0)
def rsL (d:List G) (i k:Nat) (v:AV):List AV:=[bif Nat.beq 0 k then v else rsM d i k 0,bif Nat.beq 1 k then v else rsM d i k 1,bif Nat.beq 2 k then v else rsM d i k 2,bif Nat.beq 3 k then v else rsM d i k 3,bif Nat.beq 4 k then v else rsM d i k 4,bif Nat.beq 5 k then v else rsM d i k 5]
theorem rs_next (d:List G) (i q:Nat) (y:G) (hy:y=bif Nat.blt q 5 then rsE d i (q+1) else 0):gI (rsE d (i+1) q)=xorI (gI y) (gI (mul (facE d i) (genC.getD q 0))):=by
 rw [xor_g,hy];rfl
def encFam (d:List G) (i:Nat):St:=mkSt [(0, .lst 1 (d.map encG)),(4, .ptr 4 0),(5, .ptr 5 0),(23, .lst 1 (d.map encG)),(24, .int .i64 d.length),(25, .int .i64 i)] [(4,genC.map fun x=> .int .i64 (gI x)),(5,[.int .i64 (gI (rsE d i 0)), .int .i64 (gI (rsE d i 1)), .int .i64 (gI (rsE d i 2)), .int .i64 (gI (rsE d i 3)), .int .i64 (gI (rsE d i 4)), .int .i64 (gI (rsE d i 5))])] false
def encFam2 (d:List G) (i k:Nat):St:=mkSt [(0, .lst 1 (d.map encG)),(4, .ptr 4 0),(5, .ptr 5 0),(8, .int .i64 (gI (facE d i))),(23, .lst 1 (d.map encG)),(24, .int .i64 d.length),(25, .int .i64 i),(37, .int .i64 k)] [(4,genC.map fun x=> .int .i64 (gI x)),(5,[rsM d i k 0,rsM d i k 1,rsM d i k 2,rsM d i k 3,rsM d i k 4,rsM d i k 5])] false
def encW (d:List G):List G:=d++[rsE d 6 0,rsE d 6 1,rsE d 6 2,rsE d 6 3,rsE d 6 4,rsE d 6 5]
set_option maxHeartbeats 2000000 in
theorem encode_ok (d:List G) (hd:d.length=6):Good Tryz.prog TT false 92 [.lst 1 (d.map encG)] (· = .tup [.lst 1 ((encW d).map encG), .int .i64 0]):=by
 have L:(d.map encG).length=d.length:=List.length_map ..
 have ed:d.map encG=(d.map gI).map encI:=by rw [List.map_map];rfl
 have hc:Good Tryz.prog TT false 70 [.lst 1 (d.map encG), .fn 137 []] (· = .bool false):=by
  rw [ed]
  exact containsNone_ok _ _ (by rw [List.length_map];omega) fun x hx=>by
   obtain ⟨y,_,rfl⟩:=List.mem_map.1 hx
   exact enc1_ok y
 refine good_of mixed tabOk Tryz.func92 rfl rfl Tryz.ntmps92 Tryz.results92 rfl rfl ?_
 (conv=>whnf);(repeat' (first|((with_reducible refine branch_ff ?_);conv=>whnf)|((refine call_e hc ?_);conv=>whnf)|((refine call_e generator_ok ?_);conv=>whnf)|((with_reducible refine branch_d (fun hq=>?_) (fun hq=>?_))<;>(try (exfalso;omega))<;>(conv=>whnf))))
 refine loop_i (fun i:Nat=>i≤6) (encFam d) (fun i=>6-i) 0 (by decide) (le_mk ⟨rfl,rfl,rfl,rfl,int_eq (by rw [L]),rfl,trivial⟩ ⟨rfl,rfl,trivial⟩ rfl) ?_
 intro i hi
 rcases Nat.lt_or_ge i 6 with hil|hil
 ·obtain ⟨x,hx⟩:∃x,d[i]? =some x:=⟨_,List.getElem?_eq_getElem (by omega)⟩
  have ex:d.getD i 0=x:=by rw [List.getD_eq_getElem?_getD,hx];rfl
  (conv=>whnf);(repeat' (first|(refine need_o ?_;conv=>whnf)|((refine idx_cs hx ?_);conv=>whnf)|((refine aidx_i 0 rfl (by decide) ?_);conv=>whnf)|((refine aidx_i 5 rfl (by decide) ?_);conv=>whnf)|(refine draw_i 2 plT18d_0 (by decide+kernel) ?_;(conv=>whnf);fail_if_success (guard_target=~ False))|((with_reducible refine And.intro ?_ ?_)<;>(conv=>whnf))|(with_reducible exact trivial)|((with_reducible refine branch_d (fun hq=>?_) (fun hq=>?_))<;>(try (exfalso;omega))<;>(conv=>whnf))))
  all_goals
   refine loop_i (fun k:Nat=>k≤6) (encFam2 d i) (fun k=>6-k) 0 (by decide) (le_mk ⟨rfl,rfl,rfl,int_eq (by rw [facE,ex];exact xor_g _ _),rfl,rfl,rfl,rfl,trivial⟩ ⟨rfl,rfl,trivial⟩ rfl) ?_
   intro k hk
   rcases (show k=0∨k=1∨k=2∨k=3∨k=4∨k=5∨k=6 by omega) with rfl|rfl|rfl|rfl|rfl|rfl|rfl
   ·(conv=>whnf);(repeat' (first|(refine arith_i ⟨by omega,by omega⟩ ?_;conv=>whnf)|((refine draw_i 10 (.take 0 (.take 1 (.take 3 (.take 4 (.take 5 (.alt 2 (.alt 6 (.alt 7 (.take 8 (.take 9 (.alt 10 .done .stop))) .stop) .stop) (.alt 6 (.alt 2 (.alt 7 (.take 8 (.take 9 (.alt 10 .done .stop))) .stop) (.alt 7 (.alt 2 (.take 8 (.take 9 (.alt 10 .done .stop))) .stop) .stop)) .stop))))))) (by decide+kernel) ?_);conv=>whnf)|((refine aidx_i 0 rfl (by decide) ?_);conv=>whnf)|((refine call_e (mul_m _ _ (facE d i) (genC.getD 0 0) rfl rfl) ?_);conv=>whnf)|((with_reducible refine And.intro ?_ ?_)<;>(conv=>whnf))|(with_reducible exact trivial)|((with_reducible refine branch_d (fun hq=>?_) (fun hq=>?_))<;>(try (exfalso;omega))<;>(conv=>whnf))))
    all_goals exact ⟨1,by decide,le_mk ⟨rfl,rfl,rfl,rfl,rfl,rfl,rfl,rfl,trivial⟩ ⟨rfl,congrArg (fun v=>some (rsL d i 0 v)) (int_eq (rs_next d i 0 _ rfl).symm),trivial⟩ rfl,by decide⟩
   ·(conv=>whnf);(repeat' (first|(refine arith_i ⟨by omega,by omega⟩ ?_;conv=>whnf)|((refine draw_i 10 (.take 0 (.take 1 (.take 3 (.take 4 (.take 5 (.alt 2 (.alt 6 (.alt 7 (.take 8 (.take 9 (.alt 10 .done .stop))) .stop) .stop) (.alt 6 (.alt 2 (.alt 7 (.take 8 (.take 9 (.alt 10 .done .stop))) .stop) (.alt 7 (.alt 2 (.take 8 (.take 9 (.alt 10 .done .stop))) .stop) .stop)) .stop))))))) (by decide+kernel) ?_);conv=>whnf)|((refine aidx_i 1 rfl (by decide) ?_);conv=>whnf)|((refine call_e (mul_m _ _ (facE d i) (genC.getD 1 0) rfl rfl) ?_);conv=>whnf)|((with_reducible refine And.intro ?_ ?_)<;>(conv=>whnf))|(with_reducible exact trivial)|((with_reducible refine branch_d (fun hq=>?_) (fun hq=>?_))<;>(try (exfalso;omega))<;>(conv=>whnf))))
    all_goals exact ⟨2,by decide,le_mk ⟨rfl,rfl,rfl,rfl,rfl,rfl,rfl,rfl,trivial⟩ ⟨rfl,congrArg (fun v=>some (rsL d i 1 v)) (int_eq (rs_next d i 1 _ rfl).symm),trivial⟩ rfl,by decide⟩
   ·(conv=>whnf);(repeat' (first|(refine arith_i ⟨by omega,by omega⟩ ?_;conv=>whnf)|((refine draw_i 10 (.take 0 (.take 1 (.take 3 (.take 4 (.take 5 (.alt 2 (.alt 6 (.alt 7 (.take 8 (.take 9 (.alt 10 .done .stop))) .stop) .stop) (.alt 6 (.alt 2 (.alt 7 (.take 8 (.take 9 (.alt 10 .done .stop))) .stop) (.alt 7 (.alt 2 (.take 8 (.take 9 (.alt 10 .done .stop))) .stop) .stop)) .stop))))))) (by decide+kernel) ?_);conv=>whnf)|((refine aidx_i 2 rfl (by decide) ?_);conv=>whnf)|((refine call_e (mul_m _ _ (facE d i) (genC.getD 2 0) rfl rfl) ?_);conv=>whnf)|((with_reducible refine And.intro ?_ ?_)<;>(conv=>whnf))|(with_reducible exact trivial)|((with_reducible refine branch_d (fun hq=>?_) (fun hq=>?_))<;>(try (exfalso;omega))<;>(conv=>whnf))))
    all_goals exact ⟨3,by decide,le_mk ⟨rfl,rfl,rfl,rfl,rfl,rfl,rfl,rfl,trivial⟩ ⟨rfl,congrArg (fun v=>some (rsL d i 2 v)) (int_eq (rs_next d i 2 _ rfl).symm),trivial⟩ rfl,by decide⟩
   ·(conv=>whnf);(repeat' (first|(refine arith_i ⟨by omega,by omega⟩ ?_;conv=>whnf)|((refine draw_i 10 (.take 0 (.take 1 (.take 3 (.take 4 (.take 5 (.alt 2 (.alt 6 (.alt 7 (.take 8 (.take 9 (.alt 10 .done .stop))) .stop) .stop) (.alt 6 (.alt 2 (.alt 7 (.take 8 (.take 9 (.alt 10 .done .stop))) .stop) (.alt 7 (.alt 2 (.take 8 (.take 9 (.alt 10 .done .stop))) .stop) .stop)) .stop))))))) (by decide+kernel) ?_);conv=>whnf)|((refine aidx_i 3 rfl (by decide) ?_);conv=>whnf)|((refine call_e (mul_m _ _ (facE d i) (genC.getD 3 0) rfl rfl) ?_);conv=>whnf)|((with_reducible refine And.intro ?_ ?_)<;>(conv=>whnf))|(with_reducible exact trivial)|((with_reducible refine branch_d (fun hq=>?_) (fun hq=>?_))<;>(try (exfalso;omega))<;>(conv=>whnf))))
    all_goals exact ⟨4,by decide,le_mk ⟨rfl,rfl,rfl,rfl,rfl,rfl,rfl,rfl,trivial⟩ ⟨rfl,congrArg (fun v=>some (rsL d i 3 v)) (int_eq (rs_next d i 3 _ rfl).symm),trivial⟩ rfl,by decide⟩
   ·(conv=>whnf);(repeat' (first|(refine arith_i ⟨by omega,by omega⟩ ?_;conv=>whnf)|((refine draw_i 10 (.take 0 (.take 1 (.take 3 (.take 4 (.take 5 (.alt 2 (.alt 6 (.alt 7 (.take 8 (.take 9 (.alt 10 .done .stop))) .stop) .stop) (.alt 6 (.alt 2 (.alt 7 (.take 8 (.take 9 (.alt 10 .done .stop))) .stop) (.alt 7 (.alt 2 (.take 8 (.take 9 (.alt 10 .done .stop))) .stop) .stop)) .stop))))))) (by decide+kernel) ?_);conv=>whnf)|((refine aidx_i 4 rfl (by decide) ?_);conv=>whnf)|((refine call_e (mul_m _ _ (facE d i) (genC.getD 4 0) rfl rfl) ?_);conv=>whnf)|((with_reducible refine And.intro ?_ ?_)<;>(conv=>whnf))|(with_reducible exact trivial)|((with_reducible refine branch_d (fun hq=>?_) (fun hq=>?_))<;>(try (exfalso;omega))<;>(conv=>whnf))))
    all_goals exact ⟨5,by decide,le_mk ⟨rfl,rfl,rfl,rfl,rfl,rfl,rfl,rfl,trivial⟩ ⟨rfl,congrArg (fun v=>some (rsL d i 4 v)) (int_eq (rs_next d i 4 _ rfl).symm),trivial⟩ rfl,by decide⟩
   ·(conv=>whnf);(repeat' (first|(refine arith_i ⟨by omega,by omega⟩ ?_;conv=>whnf)|((refine draw_i 10 (.take 0 (.take 1 (.take 3 (.take 4 (.take 5 (.alt 2 (.alt 6 (.alt 7 (.take 8 (.take 9 (.alt 10 .done .stop))) .stop) .stop) (.alt 6 (.alt 2 (.alt 7 (.take 8 (.take 9 (.alt 10 .done .stop))) .stop) (.alt 7 (.alt 2 (.take 8 (.take 9 (.alt 10 .done .stop))) .stop) .stop)) .stop))))))) (by decide+kernel) ?_);conv=>whnf)|((refine aidx_i 5 rfl (by decide) ?_);conv=>whnf)|((refine call_e (mul_m _ _ (facE d i) (genC.getD 5 0) rfl rfl) ?_);conv=>whnf)|((with_reducible refine And.intro ?_ ?_)<;>(conv=>whnf))|(with_reducible exact trivial)|((with_reducible refine branch_d (fun hq=>?_) (fun hq=>?_))<;>(try (exfalso;omega))<;>(conv=>whnf))))
    all_goals exact ⟨6,by decide,le_mk ⟨rfl,rfl,rfl,rfl,rfl,rfl,rfl,rfl,trivial⟩ ⟨rfl,congrArg (fun v=>some (rsL d i 5 v)) (int_eq (rs_next d i 5 _ rfl).symm),trivial⟩ rfl,by decide⟩
   ·(conv=>whnf);(repeat' (first|(refine arith_i ⟨by omega,by omega⟩ ?_;conv=>whnf)|((with_reducible refine branch_d (fun hq=>?_) (fun hq=>?_))<;>(try (exfalso;omega))<;>(conv=>whnf))))
    exact ⟨i+1,by omega,le_mk ⟨rfl,rfl,rfl,rfl,rfl,rfl,trivial⟩ ⟨rfl,rfl,trivial⟩ rfl,by omega⟩
 ·obtain rfl:i=6:=by omega
  (conv=>whnf);(repeat' (first|(refine need_o ?_;conv=>whnf)|((refine call_e (cloneG_ok _ (by omega)) ?_);conv=>whnf)|((refine need_i (by rw [L];show d.length+6≤_;omega) ?_);conv=>whnf)|(refine draw_i 6 plT18d_4 (by decide+kernel) ?_;(conv=>whnf);fail_if_success (guard_target=~ False))|((with_reducible refine And.intro ?_ ?_)<;>(conv=>whnf))|(with_reducible exact trivial)|((with_reducible refine branch_d (fun hq=>?_) (fun hq=>?_))<;>(try (exfalso;omega))<;>(conv=>whnf))))
  all_goals exact ret_t (rs:=[.lst 1 ((encW d).map encG), .int .i64 0]) ⟨.inl (rc_o' (by rw [encW,List.map_append];rfl)), .inl (rc_p rfl),trivial⟩ rfl
end Go.Proofs.YtihjphblcohdeaaGreatDoor
namespace Go.Proofs.YtihjphblcohdeaaGreatDoor
set_option maxRecDepth 10000
open Go.RowKit
def plT18e_0:Plan:=(.take 0 (.take 1 (.take 2 (.take 3 (.take 4 (.take 5 (.take 6 (.take 8 (.take 9 (.take 10 (.alt 7 (.alt 11 (.take 12 (.altE 13 (.take 14 (.altE 15 .done .stop)) .stop)) .stop) (.alt 11 (.alt 7 (.take 12 (.altE 13 (.take 14 (.altE 15 .done .stop)) .stop)) .stop) .stop))))))))))))
open F32
theorem idx_f {g:Nat→List AV} {n:Nat} {m:Nat} {k:Int} {P:List AV→Prop} (hk:k=m) (hm:m<n) (h:P (g m)):idx ((List.range n).map g) k P:=
 idx_i (cs:=g m) (by omega) (by rw [hk,Int.toNat_natCast,List.getElem?_map,List.getElem?_range hm];rfl) h
theorem ridx_f {g:Nat→Option (List (List AV))} {n:Nat} {m:Nat} {k:Int} {P:Option (List (List AV))→Prop} (hk:k=m) (hm:m<n) (h:P (g m)):ridx ((List.range n).map g) k P:=
 ridx_i (o:=g m) (by omega) (by rw [hk,Int.toNat_natCast,List.getElem?_map,List.getElem?_range hm];rfl) h
theorem mod_f {α:Type} {g:Nat→α} {n m:Nat} {h:α→α}:((List.range n).map g).modify m h=(List.range n).map fun k=>if k=m then h (g k) else g k:=by
 refine List.ext_getElem? fun i=>?_
 rw [List.getElem?_modify,List.getElem?_map,List.getElem?_map]
 by_cases hi:i<n
 ·rw [List.getElem?_range hi]
  by_cases e:m=i
  ·subst e;simp
  ·simp [e,Ne.symm e]
 ·rw [List.getElem?_eq_none (by simpa using hi)];simp
def rowG (n:Nat) (f:Nat→G):List (List AV):=(List.range n).map fun c=>encG (f c)
def matG (R n:Nat) (A:Nat→Nat→G):List (Option (List (List AV))):=(List.range R).map fun r=>some (rowG n (A r))
theorem rowG_len {n:Nat} {f:Nat→G}:(rowG n f).length=n:=by simp [rowG]
theorem matG_len {R n:Nat} {A:Nat→Nat→G}:(matG R n A).length=R:=by simp [matG]
def setA (A:Nat→Nat→G) (i m:Nat) (v:G):Nat→Nat→G:=fun r c=>if r=i∧c=m then v else A r c
theorem mat_set {R n i m:Nat} {A:Nat→Nat→G} {v:G} {j k:Int} (hj:j=i) (hk:k=m):(matG R n A).modify j.toNat (storeRow k.toNat 0 (.int .i64 (gI v)))=matG R n (setA A i m v):=by
 rw [hj,hk,Int.toNat_natCast,Int.toNat_natCast,matG,mod_f,matG]
 refine List.map_congr_left fun x _=>?_
 by_cases e:x=i
 ·subst e
  rw [if_pos rfl,storeRow,rowG,mod_f,rowG]
  refine congrArg some (List.map_congr_left fun y _=>?_)
  by_cases e:y=m<;>simp [setA,e,encG]
 ·rw [if_neg e]
  refine congrArg (fun l=>some l) (List.map_congr_left fun y _=>?_)
  simp [setA,e]
theorem ridx_eq {l l':List (Option (List (List AV)))} {k:Int} {P:Option (List (List AV))→Prop} (h:l=l') (hh:ridx l' k P):ridx l k P:=h▸hh
theorem mat_same {R n:Nat} {A:Nat→Nat→G} {k:Nat} {j:Int} (hj:j=k):(matG R n A).set j.toNat (some (rowG n (A k)))=matG R n A:=by
 subst hj
 rw [Int.toNat_natCast]
 refine List.ext_getElem? fun i=>?_
 rw [List.getElem?_set]
 split
 ·next e=>
  subst e
  by_cases hi:k<R
  ·rw [if_pos (by simpa [matG] using hi),matG,List.getElem?_map,List.getElem?_range hi];rfl
  ·rw [if_neg (by simpa [matG] using hi),List.getElem?_eq_none (by simpa [matG] using hi)]
 ·rfl
theorem mat_swap {R n:Nat} {A:Nat→Nat→G} {k p:Nat} {j q:Int} (hj:j=k) (hq:q=p) (h:k≠p):((((matG R n A).set j.toNat none).set q.toNat none).set j.toNat (some (rowG n (A p)))).set q.toNat (some (rowG n (A k)))=matG R n (swapA A k p):=by
 subst hj hq
 rw [Int.toNat_natCast,Int.toNat_natCast]
 refine List.ext_getElem? fun i=>?_
 by_cases hi:i<R
 ·simp only [List.getElem?_set,List.length_set,matG_len]
  rw [matG,matG,List.getElem?_map,List.getElem?_map,List.getElem?_range hi]
  by_cases e1:p=i
  ·subst e1
   rw [if_pos rfl,if_pos hi]
   simp only [Option.map_some]
   rw [show swapA A k p p=A k by rw [swapA,if_neg (Ne.symm h),if_pos rfl]]
  ·rw [if_neg e1]
   by_cases e2:k=i
   ·subst e2
    rw [if_pos rfl,if_pos hi]
    simp only [Option.map_some]
    rw [show swapA A k p k=A p by rw [swapA,if_pos rfl]]
   ·rw [if_neg e2,if_neg e1,if_neg e2]
    simp only [Option.map_some]
    rw [show swapA A k p i=A i by rw [swapA,if_neg (Ne.symm e2),if_neg (Ne.symm e1)]]
 ·rw [List.getElem?_eq_none (by simp only [List.length_set,matG_len];omega),List.getElem?_eq_none (by rw [matG_len];omega)]
theorem ridx_sw {l:List (Option (List (List AV)))} {x:Option (List (List AV))} {j q:Int} {P:Option (List (List AV))→Prop} (hq0:0≤q) (hq:q.toNat<l.length) (hj:j.toNat≠q.toNat) (h:P none):ridx (((l.set j.toNat none).set q.toNat none).set j.toNat x) q P:=
 ridx_i (o:=none) hq0 (by rw [List.getElem?_set,if_neg hj,List.getElem?_set,if_pos rfl,if_pos (by simpa using hq)]) h
theorem sw_a {t i j:Nat}:swT t i j (.r t i)= .r t j:=by
 simp [swT,show Nat.beq t t=true from Nat.beq_refl t,show Nat.beq i i=true from Nat.beq_refl i]
theorem row_p {i j:Nat} {A:Prop} {K:St→Prop} {s:St} (b:Nat) (v:AV) (hne:i≠j) (hb:s.slot b=v) (h:K (s.put b v)):rowS i j A (K s):=by
 have e:s.put b v=s:=by
  cases s with
  |mk sl bx tp=>
   refine congrArg (fun f=>St.mk f bx tp) (funext fun q=>?_)
   show (bif Nat.beq q b then v else sl q)=sl q
   cases hq:Nat.beq q b with
   |true=>rw [Nat.eq_of_beq_eq_true hq];exact hb.symm
   |false=>rfl
 rw [e] at h
 exact row_o hne h
theorem own_sw {t t' i j e z:Nat} {es:List (List AV)} {tg:Tg} {q:Nat} (h:swT t i j tg= .r t' q):(bif Tg.eqb (swT t i j tg) (.s t) then AV.undef else AV.own (swT t i j tg) e z es)= .own (.r t' q) e z es:=by rw [h];rfl
theorem row_e {i j:Nat} {A B:Prop} (h:i=j) (ha:A):rowS i j A B:=by subst h;exact row_s ha
theorem mat_same1 {R n:Nat} {A:Nat→Nat→G} {k p:Nat} {j:Int} (hj:j=k) (hkp:k=p):(matG R n A).set j.toNat (some (rowG n (A p)))=matG R n A:=by subst hkp;exact mat_same hj
theorem mat_same2 {R n:Nat} {A:Nat→Nat→G} {k p:Nat} {j q:Int} (hj:j=k) (hq:q=p) (hkp:k=p):((matG R n A).set j.toNat (some (rowG n (A p)))).set q.toNat (some (rowG n (A k)))=matG R n (swapA A k p):=by
 subst hkp
 rw [show q=j by omega]
 rw [mat_same hj,mat_same hj,show swapA A k k=A by
  funext r
  rw [swapA]
  split
  ·next e=>rw [e]
  ·rfl]
theorem matG_congr {R n:Nat} {A B:Nat→Nat→G} (h:∀r c,r<R→c<n→A r c=B r c):matG R n A=matG R n B:=by
 rw [matG,matG]
 refine List.map_congr_left fun r hr=>congrArg some ?_
 rw [rowG,rowG]
 exact List.map_congr_left fun c hc=>by rw [h r c (List.mem_range.1 hr) (List.mem_range.1 hc)]
def scP (B:Nat→Nat→G) (k:Nat) (s:G) (c:Nat):Nat→Nat→G:=fun r q=>if r=k∧q<c then mul (B k q) s else B r q
def clP (B:Nat→Nat→G) (k r c:Nat):Nat→Nat→G:=fun i q=>if i≠k∧(i<r∨(i=r∧q<c)) then add (B i q) (mul (B i k) (B k q)) else B i q
theorem mat_eq {t e e2 z:Nat} {a b:List (Option (List (List AV)))} (h:a=b):AV.mat t e e2 z a= .mat t e e2 z b:=by rw [h]
theorem sc_next {u k c:Nat} {B:Nat→Nat→G} {sc:G} (hc:c<u+1):(matG 6 (u+1) (scP B k sc c)).modify (k:Int).toNat (storeRow (c:Int).toNat 0 (.int .i64 (gI (mul (B k c) sc))))=matG 6 (u+1) (scP B k sc (c+1)):=by
 rw [mat_set rfl rfl]
 refine matG_congr fun r q _ _=>?_
 rw [setA,scP,scP]
 by_cases h1:r=k∧q=c
 ·rw [if_pos h1,if_pos ⟨h1.1,by omega⟩,h1.2]
 ·rw [if_neg h1]
  by_cases h2:r=k∧q<c
  ·rw [if_pos h2,if_pos ⟨h2.1,by omega⟩]
  ·rw [if_neg h2,if_neg fun h=>h2 ⟨h.1,by have:=fun e=>h1 ⟨h.1,e⟩;omega⟩]
theorem sc_end {u k:Nat} {B:Nat→Nat→G} {sc:G}:matG 6 (u+1) (scP B k sc (u+1))=matG 6 (u+1) (clP (scaleA B k sc) k 0 0):=by
 refine matG_congr fun r q _ hq=>?_
 rw [clP,if_neg (by omega),scP,scaleA]
 by_cases h:r=k
 ·rw [if_pos ⟨h,hq⟩,if_pos h]
 ·rw [if_neg fun e=>h e.1,if_neg h]
theorem cl_next {u k r c:Nat} {C:Nat→Nat→G} (hr:r≠k):(matG 6 (u+1) (clP C k r c)).modify (r:Int).toNat (storeRow (c:Int).toNat 0 (.int .i64 (xorI (gI (C r c)) (gI (mul (C r k) (C k c))))))=matG 6 (u+1) (clP C k r (c+1)):=by
 rw [xor_g,mat_set rfl rfl]
 refine matG_congr fun i q _ _=>?_
 rw [setA,clP,clP]
 by_cases h1:i=r∧q=c
 ·rw [if_pos h1,if_pos ⟨by omega,by omega⟩,h1.1,h1.2]
 ·rw [if_neg h1]
  by_cases h2:i≠k∧(i<r∨(i=r∧q<c))
  ·rw [if_pos h2,if_pos ⟨h2.1,by omega⟩]
  ·rw [if_neg h2,if_neg fun h=>h2 ⟨h.1,by omega⟩]
theorem cl_row {u k r:Nat} {C:Nat→Nat→G}:matG 6 (u+1) (clP C k r (u+1))=matG 6 (u+1) (clP C k (r+1) 0):=by
 refine matG_congr fun i q _ hq=>?_
 rw [clP,clP]
 by_cases h2:i≠k∧(i<r∨(i=r∧q<u+1))
 ·rw [if_pos h2,if_pos ⟨h2.1,by omega⟩]
 ·rw [if_neg h2,if_neg fun h=>h2 ⟨h.1,by omega⟩]
theorem cl_skip {u k r:Nat} {C:Nat→Nat→G} (h:r=k∨C r k=0):matG 6 (u+1) (clP C k r 0)=matG 6 (u+1) (clP C k (r+1) 0):=by
 refine matG_congr fun i q _ hq=>?_
 rw [clP,clP]
 by_cases h2:i≠k∧(i<r∨(i=r∧q<0))
 ·rw [if_pos h2,if_pos ⟨h2.1,by omega⟩]
 ·rw [if_neg h2]
  by_cases h3:i≠k∧(i<r+1∨(i=r+1∧q<0))
  ·have e:i=r:=by omega
   rw [if_pos h3,e,h.resolve_left (by omega),zero_mul,add_zero]
  ·rw [if_neg h3]
theorem cl_end {u k:Nat} {C:Nat→Nat→G}:matG 6 (u+1) (clP C k 6 0)=matG 6 (u+1) (clrA C k):=by
 refine matG_congr fun i q hi _=>?_
 rw [clP,clrA]
 by_cases h:i=k
 ·rw [if_neg fun e=>e.1 h,if_pos h,h]
 ·rw [if_pos ⟨h, .inl hi⟩,if_neg h]
theorem loop_key {tt:Nat} {body:(Ex→St→Prop)→St→Prop} {Q:Ex→St→Prop} {G:Prop} (st:St) (main:(∀s,Le tt s st→aloop tt body Q s)→G) (pf:aloop tt body Q st):G:=main fun _ h=>loop_share pf h
set_option maxHeartbeats 8000000 in
theorem eliminate_ok (u:Nat) (hu:u≤6) (A0:Nat→Nat→G) (hI:IndA 6 u A0):GoodM Tryz.prog TT false 181 [.mat 1100 22 3 1 (matG 6 (u+1) A0), .int .i64 u] [] (fun r ov bx=>bx=[]∧∃A,UnitA 6 A u∧(∀x,ZeroA 6 (u+1) A x↔ZeroA 6 (u+1) A0 x)∧ov=[(1000, .mat 1100 22 3 1 (matG 6 (u+1) A))]∧((r= .bool true∧∀r,u≤r→r<6→A r u=0)∨(r= .bool false∧¬ ∀r,u≤r→r<6→A r u=0))):=by
 refine good_of_m (fun _=>false) mixed tabOk Tryz.func181 rfl rfl Tryz.ntmps181 Tryz.results181 rfl rfl ?_
 (conv=>whnf)
 refine loop_i2 (fun (k:Nat) (A:Nat→Nat→G)=>k≤u∧UnitA 6 A k∧∀x,ZeroA 6 (u+1) A x↔ZeroA 6 (u+1) A0 x) (fun k A=>mkSt [(0, .mat 1100 22 3 1 (matG 6 (u+1) A)),(1, .int .i64 u),(13, .int .i64 u),(14, .int .i64 k),(1000, .mat 1100 22 3 1 (matG 6 (u+1) A))] [] false) (fun k _=>u-k) 0 A0 ⟨Nat.zero_le _,fun r c _ h=>absurd h (Nat.not_lt_zero _),fun _=>Iff.rfl⟩ le_q ?_
 rintro k A ⟨hk,hU,hZ⟩
 have L (A:Nat→Nat→G):(matG 6 (u+1) A).length=6:=matG_len
 have LR (f:Nat→G):(rowG (u+1) f).length=u+1:=rowG_len
 rcases Nat.lt_or_ge k u with hku|hku
 ·obtain ⟨r0,h1,h2,h3⟩:=ind_pivot hI hZ hU hku (by omega)
  (conv=>whnf);(repeat' (first|((with_reducible refine branch_d (fun hq=>?_) (fun hq=>?_))<;>(try (exfalso;omega))<;>(conv=>whnf))))
  refine loop_i (fun p:Nat=>k≤p∧p≤r0∧∀r,k≤r→r<p→A r k=0) (fun p=>mkSt [(0, .mat 1100 22 3 1 (matG 6 (u+1) A)),(1, .int .i64 u),(5, .int .i64 k),(6, .int .i64 p),(13, .int .i64 u),(14, .int .i64 k),(1000, .mat 1100 22 3 1 (matG 6 (u+1) A))] [] false) (fun p=>6-p) k ⟨Nat.le_refl _,h1,fun r h h'=>absurd h (by omega)⟩ le_q ?_
  rintro p ⟨hp1,hp2,hp3⟩
  have LA:=L A
  have hX:A p k=0→∃x',(k≤x'∧x'≤r0∧∀r,k≤r→r<x'→A r k=0)∧x'=p+1:=fun h=>⟨p+1,⟨by omega,by
   rcases Nat.lt_or_ge p r0 with h'|h'
   ·omega
   ·obtain rfl:p=r0:=by omega
    exact absurd h h3,fun r h1 h2=>by
   rcases Nat.lt_or_ge r p with h'|h'
   ·exact hp3 r h1 h'
   ·obtain rfl:r=p:=by omega
    exact h⟩,rfl⟩
  by_cases hz:A p k=0
  ·have hzi:gI (A p k)=0:=by rw [hz];rfl
   obtain ⟨-,hX,rfl⟩:=hX hz
   (conv=>whnf);(repeat' (first|(refine arith_i ⟨by omega,by omega⟩ ?_;conv=>whnf)|((with_reducible refine branch_tt ?_);conv=>whnf)|((refine ridx_f (m:=p) rfl (by omega) ?_);conv=>whnf)|((refine idx_f (m:=k) rfl (by omega) ?_);conv=>whnf)|((with_reducible refine branch_d (fun hq=>?_) (fun hq=>?_))<;>(try (exfalso;omega))<;>(conv=>whnf))|((with_reducible refine branch_e (fun hq=>?_) (fun hq=>?_))<;>(try (exfalso;omega))<;>(conv=>whnf))))
   all_goals first|exact ⟨p+1,hX,le_q,by omega⟩|exact absurd (by omega) ‹¬gI (A p k)=0›
  have hzi:gI (A p k)≠0:=fun h=>hz (gI_inj (y:=0) (by rw [h];rfl))
  have hP:swapA A k p k k≠0:=by rwa [swapA,if_pos rfl]
  apply loop_key (tt:=TT) (mkSt [(0, .mat 1100 22 3 1 (matG 6 (u+1) (scP (swapA A k p) k (inv (swapA A k p k k)) 0))),(1, .int .i64 u),(5, .int .i64 k),(7, .int .i64 (gI (inv (swapA A k p k k)))),(13, .int .i64 u),(14, .int .i64 k),(64, .int .i64 (u+1:Nat)),(65, .int .i64 0),(1000, .mat 1100 22 3 1 (matG 6 (u+1) (scP (swapA A k p) k (inv (swapA A k p k k)) 0)))] [] false)
  ·intro key
   rcases (show k<p∨k=p by omega) with hkp|hkp
   all_goals ((conv=>whnf);(repeat' (first|((with_reducible refine branch_tt ?_);conv=>whnf)|((refine ridx_f (m:=p) rfl (by omega) ?_);conv=>whnf)|((refine ridx_f (m:=k) rfl (by omega) ?_);conv=>whnf)|((refine idx_f (m:=k) rfl (by omega) ?_);conv=>whnf)|((refine row_p 49 (.own (.r 1100 (p:Int).toNat) 3 1 (rowG (u+1) (A k))) (by omega) (own_sw sw_a) ?_);conv=>whnf)|((refine row_e (by omega) ?_);conv=>whnf)|((refine ridx_sw (by omega) (by rw [L];omega) (by omega) ?_);conv=>whnf)|((refine ridx_eq (mat_swap rfl rfl (by omega)) (ridx_f (m:=k) rfl (by omega) ?_));conv=>whnf)|((refine ridx_eq (mat_same1 rfl hkp) (ridx_f (m:=p) rfl (by omega) ?_));conv=>whnf)|((refine ridx_eq (mat_same2 rfl rfl hkp) (ridx_f (m:=k) rfl (by omega) ?_));conv=>whnf)|((refine call_e (inverse_ok (swapA A k p k k) hP) ?_);conv=>whnf)|(refine draw_i 16 plT18e_0 (by decide+kernel) ?_;(conv=>whnf);fail_if_success (guard_target=~ False))|((with_reducible refine And.intro ?_ ?_)<;>(conv=>whnf))|(with_reducible exact trivial)|((with_reducible refine branch_d (fun hq=>?_) (fun hq=>?_))<;>(try (exfalso;omega))<;>(conv=>whnf))|((with_reducible refine branch_e (fun hq=>?_) (fun hq=>?_))<;>(try (exfalso;omega))<;>(conv=>whnf)))))
   all_goals exact key _ (le_mk ⟨by first|exact mat_eq ((mat_swap rfl rfl (by omega)).trans (matG_congr fun r c _ _=>by rw [scP,if_neg (by omega)]))|exact mat_eq ((mat_same2 rfl rfl hkp).trans (matG_congr fun r c _ _=>by rw [scP,if_neg (by omega)])),rfl,rfl,rfl,rfl,rfl,int_eq (by rw [LR]),rfl,by first|exact mat_eq ((mat_swap rfl rfl (by omega)).trans (matG_congr fun r c _ _=>by rw [scP,if_neg (by omega)]))|exact mat_eq ((mat_same2 rfl rfl hkp).trans (matG_congr fun r c _ _=>by rw [scP,if_neg (by omega)])),trivial⟩ trivial rfl)
  ·generalize hB:swapA A k p=B at hP
   generalize hs:inv (B k k)=sc
   refine loop_i (fun c:Nat=>c≤u+1) (fun c=>mkSt [(0, .mat 1100 22 3 1 (matG 6 (u+1) (scP B k sc c))),(1, .int .i64 u),(5, .int .i64 k),(7, .int .i64 (gI sc)),(13, .int .i64 u),(14, .int .i64 k),(64, .int .i64 (u+1:Nat)),(65, .int .i64 c),(1000, .mat 1100 22 3 1 (matG 6 (u+1) (scP B k sc c)))] [] false) (fun c=>u+1-c) 0 (Nat.zero_le _) (le_mk ⟨rfl,rfl,rfl,rfl,rfl,rfl,rfl,rfl,rfl,trivial⟩ trivial rfl) ?_
   intro c hc
   have LS:=L (scP B k sc c)
   rcases Nat.lt_or_ge c (u+1) with hcu|hcu
   ·have e1:scP B k sc c k c=B k c:=by rw [scP,if_neg (by omega)]
    (conv=>whnf);(repeat' (first|(refine arith_i ⟨by omega,by omega⟩ ?_;conv=>whnf)|((refine draw_i 15 (.take 0 (.take 1 (.take 2 (.take 4 (.take 5 (.take 6 (.take 7 (.take 9 (.take 12 (.alt 3 (.alt 8 (.take 10 (.alt 11 (.alt 13 (.take 14 (.alt 15 .done .stop)) .stop) .stop)) .stop) (.alt 8 (.take 10 (.alt 3 (.alt 11 (.alt 13 (.take 14 (.alt 15 .done .stop)) .stop) .stop) (.alt 11 (.alt 3 (.alt 13 (.take 14 (.alt 15 .done .stop)) .stop) (.alt 13 (.alt 3 (.take 14 (.alt 15 .done .stop)) .stop) .stop)) .stop))) .stop))))))))))) (by decide+kernel) ?_);conv=>whnf)|((refine ridx_f (m:=k) rfl (by omega) ?_);conv=>whnf)|((refine idx_f (m:=c) rfl (by omega) ?_);conv=>whnf)|((refine call_e (mul_m _ _ (B k c) sc (by rw [e1]) rfl) ?_);conv=>whnf)|((with_reducible refine And.intro ?_ ?_)<;>(conv=>whnf))|(with_reducible exact trivial)|((with_reducible refine branch_d (fun hq=>?_) (fun hq=>?_))<;>(try (exfalso;omega))<;>(conv=>whnf))))
    all_goals exact ⟨c+1,by omega,le_mk ⟨mat_eq (sc_next hcu),rfl,rfl,rfl,rfl,rfl,rfl,rfl,mat_eq (sc_next hcu),trivial⟩ trivial rfl,by omega⟩
   ·obtain rfl:c=u+1:=by omega
    (conv=>whnf);(repeat' (first|((with_reducible refine branch_d (fun hq=>?_) (fun hq=>?_))<;>(try (exfalso;omega))<;>(conv=>whnf))))
    generalize hC:scaleA B k sc=C
    have LC:∀r c,(matG 6 (u+1) (clP C k r c)).length=6:=fun r c=>matG_len
    refine loop_i (fun r:Nat=>r≤6) (fun r=>mkSt [(0, .mat 1100 22 3 1 (matG 6 (u+1) (clP C k r 0))),(1, .int .i64 u),(5, .int .i64 k),(13, .int .i64 u),(14, .int .i64 k),(85, .int .i64 6),(86, .int .i64 r),(1000, .mat 1100 22 3 1 (matG 6 (u+1) (clP C k r 0)))] [] false) (fun r=>6-r) 0 (by decide) (le_mk ⟨mat_eq (by rw [sc_end,hC]),rfl,rfl,rfl,rfl,int_eq (by rw [LS];rfl),rfl,mat_eq (by rw [sc_end,hC]),trivial⟩ trivial rfl) ?_
    intro r hr
    rcases Nat.lt_or_ge r 6 with hr6|hr6
    ·have e2:clP C k r 0 r k=C r k:=by rw [clP,if_neg (by omega)]
     by_cases hs:r=k∨C r k=0
     ·have hsi:r=k∨gI (clP C k r 0 r k)=0:=hs.imp id fun h=>by rw [e2,h];rfl
      (conv=>whnf);(repeat' (first|(refine arith_i ⟨by omega,by omega⟩ ?_;conv=>whnf)|((with_reducible first|refine branch_tt ?_|refine branch_ff ?_);conv=>whnf)|((refine ridx_f (m:=r) rfl (by omega) ?_);conv=>whnf)|((refine idx_f (m:=k) rfl (by omega) ?_);conv=>whnf)|((with_reducible refine branch_d (fun hq=>?_) (fun hq=>?_))<;>(try (exfalso;omega))<;>(conv=>whnf))|((with_reducible refine branch_e (fun hq=>?_) (fun hq=>?_))<;>(try (exfalso;omega))<;>(conv=>whnf))))
      all_goals first|exact ⟨r+1,by omega,le_mk ⟨mat_eq (cl_skip hs),rfl,rfl,rfl,rfl,rfl,rfl,mat_eq (cl_skip hs),trivial⟩ trivial rfl,by omega⟩
     ·have hrk:r≠k:=fun h=>hs (.inl h)
      have hsi:gI (clP C k r 0 r k)≠0:=fun h=>hs (.inr (by rw [←e2];exact gI_inj (y:=0) (by rw [h];rfl)))
      (conv=>whnf);(repeat' (first|((with_reducible refine branch_ff ?_);conv=>whnf)|((refine ridx_f (m:=r) rfl (by omega) ?_);conv=>whnf)|((refine idx_f (m:=k) rfl (by omega) ?_);conv=>whnf)|((with_reducible refine branch_d (fun hq=>?_) (fun hq=>?_))<;>(try (exfalso;omega))<;>(conv=>whnf))|((with_reducible refine branch_e (fun hq=>?_) (fun hq=>?_))<;>(try (exfalso;omega))<;>(conv=>whnf))))
      all_goals refine loop_i (fun c:Nat=>c≤u+1) (fun c=>mkSt [(0, .mat 1100 22 3 1 (matG 6 (u+1) (clP C k r c))),(1, .int .i64 u),(5, .int .i64 k),(9, .int .i64 r),(10, .int .i64 (gI (C r k))),(13, .int .i64 u),(14, .int .i64 k),(85, .int .i64 6),(86, .int .i64 r),(107, .int .i64 (u+1:Nat)),(108, .int .i64 c),(1000, .mat 1100 22 3 1 (matG 6 (u+1) (clP C k r c)))] [] false) (fun c=>u+1-c) 0 (Nat.zero_le _) (le_mk ⟨rfl,rfl,rfl,rfl,int_eq (by rw [e2]),rfl,rfl,rfl,rfl,int_eq (by rw [LR]),rfl,rfl,trivial⟩ trivial rfl) ?_
      all_goals
       intro c hc
       rcases Nat.lt_or_ge c (u+1) with hcu|hcu
       ·have e3:clP C k r c r c=C r c:=by rw [clP,if_neg (by omega)]
        have e4:clP C k r c k c=C k c:=by rw [clP,if_neg (by omega)]
        (conv=>whnf);(repeat' (first|(refine arith_i ⟨by omega,by omega⟩ ?_;conv=>whnf)|((refine draw_i 18 (.take 0 (.take 1 (.take 2 (.take 4 (.take 7 (.take 8 (.take 9 (.take 10 (.take 12 (.alt 3 (.take 5 (.alt 6 (.alt 11 (.take 13 (.alt 14 (.alt 15 (.take 16 (.take 17 (.alt 18 .done .stop))) .stop) .stop)) .stop) (.alt 11 (.take 13 (.alt 6 (.alt 14 (.alt 15 (.take 16 (.take 17 (.alt 18 .done .stop))) .stop) .stop) (.alt 14 (.alt 6 (.alt 15 (.take 16 (.take 17 (.alt 18 .done .stop))) .stop) (.alt 15 (.alt 6 (.take 16 (.take 17 (.alt 18 .done .stop))) .stop) .stop)) .stop))) .stop))) (.alt 11 (.take 13 (.alt 3 (.take 5 (.alt 6 (.alt 14 (.alt 15 (.take 16 (.take 17 (.alt 18 .done .stop))) .stop) .stop) (.alt 14 (.alt 6 (.alt 15 (.take 16 (.take 17 (.alt 18 .done .stop))) .stop) (.alt 15 (.alt 6 (.take 16 (.take 17 (.alt 18 .done .stop))) .stop) .stop)) .stop))) (.alt 14 (.alt 3 (.take 5 (.alt 6 (.alt 15 (.take 16 (.take 17 (.alt 18 .done .stop))) .stop) (.alt 15 (.alt 6 (.take 16 (.take 17 (.alt 18 .done .stop))) .stop) .stop))) (.alt 15 (.alt 3 (.take 5 (.alt 6 (.take 16 (.take 17 (.alt 18 .done .stop))) .stop)) .stop) .stop)) .stop))) .stop))))))))))) (by decide+kernel) ?_);conv=>whnf)|((refine ridx_f (m:=r) rfl (by omega) ?_);conv=>whnf)|((refine ridx_f (m:=k) rfl (by omega) ?_);conv=>whnf)|((refine idx_f (m:=c) rfl (by omega) ?_);conv=>whnf)|((refine call_e (mul_m _ _ (C r k) (C k c) rfl (by rw [e4])) ?_);conv=>whnf)|((with_reducible refine And.intro ?_ ?_)<;>(conv=>whnf))|(with_reducible exact trivial)|((with_reducible refine branch_d (fun hq=>?_) (fun hq=>?_))<;>(try (exfalso;omega))<;>(conv=>whnf))))
        all_goals exact ⟨c+1,by omega,le_mk ⟨mat_eq (by rw [e3];exact cl_next hrk),rfl,rfl,rfl,rfl,rfl,rfl,rfl,rfl,rfl,rfl,mat_eq (by rw [e3];exact cl_next hrk),trivial⟩ trivial rfl,by omega⟩
       ·obtain rfl:c=u+1:=by omega
        (conv=>whnf);(repeat' (first|(refine arith_i ⟨by omega,by omega⟩ ?_;conv=>whnf)|((with_reducible refine branch_d (fun hq=>?_) (fun hq=>?_))<;>(try (exfalso;omega))<;>(conv=>whnf))))
        exact ⟨r+1,by omega,le_mk ⟨mat_eq cl_row,rfl,rfl,rfl,rfl,rfl,rfl,mat_eq cl_row,trivial⟩ trivial rfl,by omega⟩
    ·obtain rfl:r=6:=by omega
     (conv=>whnf);(repeat' (first|(refine arith_i ⟨by omega,by omega⟩ ?_;conv=>whnf)|((with_reducible refine branch_d (fun hq=>?_) (fun hq=>?_))<;>(try (exfalso;omega))<;>(conv=>whnf))))
     exact ⟨k+1,stepA A k p,⟨by omega,unit_step hU (by omega) (by omega) (by omega) hz,fun x=>(zero_step (by omega) (by omega) hz).trans (hZ x)⟩,le_mk ⟨mat_eq (by rw [cl_end];subst hC;subst hs;subst hB;rw [stepA,show swapA A k p k k=A p k by rw [swapA,if_pos rfl]]),rfl,rfl,rfl,mat_eq (by rw [cl_end];subst hC;subst hs;subst hB;rw [stepA,show swapA A k p k k=A p k by rw [swapA,if_pos rfl]]),trivial⟩ trivial rfl,by omega⟩
 ·obtain rfl:k=u:=by omega
  have LA:=L A
  (conv=>whnf);(repeat' (first|((with_reducible refine branch_d (fun hq=>?_) (fun hq=>?_))<;>(try (exfalso;omega))<;>(conv=>whnf))))
  refine loop_i (fun r:Nat=>k≤r∧r≤6∧∀i,k≤i→i<r→A i k=0) (fun r=>mkSt [(0, .mat 1100 22 3 1 (matG 6 (k+1) A)),(1, .int .i64 k),(12, .int .i64 r),(1000, .mat 1100 22 3 1 (matG 6 (k+1) A))] [] false) (fun r=>6-r) k ⟨Nat.le_refl _,by omega,fun i h1 h2=>absurd h1 (by omega)⟩ le_q ?_
  rintro r ⟨hr1,hr2,hr3⟩
  rcases Nat.lt_or_ge r 6 with hr6|hr6
  ·by_cases hz:A r k=0
   ·have hzi:gI (A r k)=0:=by rw [hz];rfl
    (conv=>whnf);(repeat' (first|(refine arith_i ⟨by omega,by omega⟩ ?_;conv=>whnf)|((refine ridx_f (m:=r) rfl (by omega) ?_);conv=>whnf)|((refine idx_f (m:=k) rfl (by omega) ?_);conv=>whnf)|((with_reducible refine branch_d (fun hq=>?_) (fun hq=>?_))<;>(try (exfalso;omega))<;>(conv=>whnf))|((with_reducible refine branch_n (fun hq=>?_) (fun hq=>?_))<;>(try (exfalso;omega))<;>(conv=>whnf))))
    all_goals first
     |exact absurd hzi ‹_›
     |exact ⟨r+1,⟨by omega,by omega,fun i h1 h2=>by
      rcases Nat.lt_or_ge i r with h|h
      ·exact hr3 i h1 h
      ·rw [show i=r by omega,hz]⟩,le_q,by omega⟩
   ·have hzi:gI (A r k)≠0:=fun h=>hz (gI_inj (y:=0) (by rw [h];rfl))
    (conv=>whnf);(repeat' (first|((refine ridx_f (m:=r) rfl (by omega) ?_);conv=>whnf)|((refine idx_f (m:=k) rfl (by omega) ?_);conv=>whnf)|((with_reducible refine branch_d (fun hq=>?_) (fun hq=>?_))<;>(try (exfalso;omega))<;>(conv=>whnf))|((with_reducible refine branch_n (fun hq=>?_) (fun hq=>?_))<;>(try (exfalso;omega))<;>(conv=>whnf))))
    all_goals exact retM_i (.bool false) [(1000, .mat 1100 22 3 1 (matG 6 (k+1) A))] [] rfl (le_mk ⟨rfl,rfl,trivial⟩ trivial rfl) rfl ⟨rfl,A,hU,hZ,rfl, .inr ⟨rfl,fun h=>hz (h r hr1 hr6)⟩⟩
  ·obtain rfl:r=6:=by omega
   (conv=>whnf);(repeat' (first|((with_reducible refine branch_d (fun hq=>?_) (fun hq=>?_))<;>(try (exfalso;omega))<;>(conv=>whnf))))
   all_goals exact retM_i (.bool true) [(1000, .mat 1100 22 3 1 (matG 6 (k+1) A))] [] rfl (le_mk ⟨rfl,rfl,trivial⟩ trivial rfl) rfl ⟨rfl,A,hU,hZ,rfl, .inl ⟨rfl,hr3⟩⟩
end Go.Proofs.YtihjphblcohdeaaGreatDoor
namespace Go.Proofs.YtihjphblcohdeaaGreatDoor
set_option maxRecDepth 10000
open Go.RowKit
def plT18f_0:Plan:=(.take 0 (.take 1 (.take 2 (.take 3 (.take 4 (.take 6 (.take 7 (.take 8 (.take 9 (.take 10 (.take 11 (.take 12 (.alt 5 (.altM 13 (.alt 14 (.alt 15 (.take 16 (.alt 17 .done .stop)) .stop) .stop) .stop) (.altM 13 (.alt 5 (.alt 14 (.alt 15 (.take 16 (.alt 17 .done .stop)) .stop) .stop) (.alt 14 (.alt 5 (.alt 15 (.take 16 (.alt 17 .done .stop)) .stop) .stop) .stop)) .stop))))))))))))))
def plT18f_4:Plan:=(.take 0 (.take 1 (.take 2 (.take 3 (.take 4 (.take 6 (.take 7 (.alt 5 (.alt 8 (.alt 9 (.alt 10 (.take 11 (.altE 12 .done .stop)) .stop) .stop) .stop) (.alt 8 (.alt 5 (.alt 9 (.alt 10 (.take 11 (.altE 12 .done .stop)) .stop) .stop) (.alt 9 (.alt 5 (.alt 10 (.take 11 (.altE 12 .done .stop)) .stop) .stop) .stop)) .stop)))))))))
open F32
def encNt (n:Nat):List AV:=[.int .i64 (n:Int)]
def sumsL (s:Nat→G):List AV:=[.int .i64 (gI (s 0)), .int .i64 (gI (s 1)), .int .i64 (gI (s 2)), .int .i64 (gI (s 3)), .int .i64 (gI (s 4)), .int .i64 (gI (s 5))]
def sumsV (s:Nat→G):AV:= .agg (sumsL s)
def sysA (s:Nat→G) (pl:List Nat):Nat→Nat→G:=fun r c=>match pl[c]? with
 |some i=>pwG ((r+1) * (11-i))
 |none=>s r
def lnJ (u j q i:Nat):Nat:=if i<j then u+1 else if i=j then q else 0
def matL (ln:Nat→Nat) (A:Nat→Nat→G):List (Option (List (List AV))):=(List.range 6).map fun i=>some (rowG (ln i) (A i))
theorem lnJ_at {u j q:Nat}:lnJ u j q j=q:=by rw [lnJ,if_neg (by omega),if_pos rfl]
theorem lnJ_next {u j i:Nat} (hi:i≠j):lnJ u (j+1) 0 i=lnJ u j u i:=by
 rw [lnJ,lnJ]
 by_cases h:i<j
 ·rw [if_pos (by omega),if_pos h]
 ·rw [if_neg (by omega),if_neg h,if_neg hi];split<;>rfl
theorem lnJ_next' {u j:Nat}:lnJ u (j+1) 0 j=lnJ u j u j+1:=by rw [lnJ_at,lnJ,if_pos (by omega)]
theorem matL_app {ln ln':Nat→Nat} {A:Nat→Nat→G} {j:Nat} {k:Int} {v:G} (hk:k=j) (hl:ln' j=ln j+1) (he:∀i,i≠j→ln' i=ln i) (hv:v=A j (ln j)):(((matL ln A).set k.toNat none).set k.toNat (some (rowG (ln j) (A j)++[[AV.int .i64 (gI v)]])))=matL ln' A:=by
 subst hk hv
 rw [Int.toNat_natCast,List.set_set]
 refine List.ext_getElem? fun i=>?_
 rw [List.getElem?_set,matL,matL,List.getElem?_map,List.getElem?_map,List.length_map,List.length_range]
 by_cases hi:i<6
 ·rw [List.getElem?_range hi]
  by_cases e:j=i
  ·subst e
   rw [if_pos rfl,if_pos hi]
   simp only [Option.map_some]
   rw [hl,rowG,rowG,List.range_succ,List.map_append];rfl
  ·rw [if_neg e]
   simp only [Option.map_some]
   rw [he i (Ne.symm e)]
 ·have e1:(List.range 6)[i]? =none:=List.getElem?_eq_none (by rw [List.length_range];omega)
  rw [e1]
  by_cases e:j=i
  ·rw [if_pos e,if_neg (by omega)];rfl
  ·rw [if_neg e];rfl
theorem ridx_none {l:List (Option (List (List AV)))} {k:Int} {P:Option (List (List AV))→Prop} (h0:0≤k) (h1:k.toNat<l.length) (h:P none):ridx (l.set k.toNat none) k P:=
 ridx_i (o:=none) h0 (by rw [List.getElem?_set,if_pos rfl,if_pos h1]) h
theorem repl_row {u:Nat} {f:Nat→G}:List.replicate u [AV.int .i64 0]=rowG u fun c=>if c<0 then f c else 0:=by
 rw [rowG]
 refine List.ext_getElem? fun i=>?_
 rw [List.getElem?_replicate,List.getElem?_map]
 split
 ·next h=>rw [List.getElem?_range h];rfl
 ·next h=>rw [List.getElem?_eq_none (by rw [List.length_range];omega)];rfl
theorem row_next {u k:Nat} {A:Nat→Nat→G}:(rowG u fun c=>if c<k then A c u else 0).modify (k:Int).toNat (·.set 0 (.int .i64 (gI (A k u))))=rowG u fun c=>if c<k+1 then A c u else 0:=by
 rw [Int.toNat_natCast,rowG,mod_f,rowG]
 refine List.map_congr_left fun c _=>?_
 by_cases e:c=k
 ·subst e
  rw [if_pos rfl,if_pos (Nat.lt_succ_self _)];rfl
 ·rw [if_neg e]
  by_cases h:c<k
  ·rw [if_pos h,if_pos (by omega)]
  ·rw [if_neg h,if_neg (by omega)]
theorem row_end {u:Nat} {A:Nat→Nat→G}:(rowG u fun c=>if c<u then A c u else 0)=(List.range u).map fun c=>encG (A c u):=by
 rw [rowG]
 exact List.map_congr_left fun c hc=>by rw [if_pos (List.mem_range.1 hc)]
set_option maxHeartbeats 2000000 in
theorem corrections_ok (s:Nat→G) (pl:List Nat) (n:Int) (hn:n=12) (hp:pl.length≤6) (hb:∀i∈pl,i<12) (hI:IndA 6 pl.length (sysA s pl)):GoodM Tryz.prog TT false 155 [sumsV s, .int .i64 n, .own 1102 3 1 (pl.map encNt)] [] (fun r ov bx=>bx=[]∧ov=[(1002, .own 1102 3 1 (pl.map encNt))]∧((∃x:Nat→G,x pl.length=1∧ZeroA 6 (pl.length+1) (sysA s pl) x∧r= .tup [.lst 1 ((List.range pl.length).map fun c=>encG (x c)), .bool true])∨((¬ ∃x:Nat→G,x pl.length=1∧ZeroA 6 (pl.length+1) (sysA s pl) x)∧r= .tup [.nil, .bool false]))):=by
 have L:(pl.map encNt).length=pl.length:=List.length_map ..
 subst hn
 refine good_of_m (fun _=>false) mixed tabOk Tryz.func155 rfl rfl Tryz.ntmps155 Tryz.results155 rfl rfl ?_
 (conv=>whnf);(repeat' (first|(refine need_o ?_;conv=>whnf)|((refine nils_i [.nil] ⟨pc_nil0,trivial⟩ ?_);conv=>whnf)|fail))
 refine loop_i (fun j:Nat=>j≤6) (fun j=>mkSt [(1, .int .i64 12),(2, .own 1102 3 1 (pl.map encNt)),(3, .ptr 3 0),(8, .mat 14 22 3 1 (matL (lnJ pl.length j 0) (sysA s pl))),(16, .int .i64 6),(17, .int .i64 j),(1002, .own 1102 3 1 (pl.map encNt))] [(3,sumsL s)] false) (fun j=>6-j) 0 (by decide) ((le_toMat 8 14 22 3 1 6 rfl).trans (le_mk ⟨rfl,rfl,rfl,rfl,rfl,rfl,rfl,trivial⟩ ⟨rfl,trivial⟩ rfl)) ?_
 intro j hj
 have LM (ln:Nat→Nat):(matL ln (sysA s pl)).length=6:=by simp [matL]
 rcases Nat.lt_or_ge j 6 with hj6|hj6
 ·(conv=>whnf);(repeat' (first|((with_reducible refine branch_d (fun hq=>?_) (fun hq=>?_))<;>(try (exfalso;omega))<;>(conv=>whnf))))
  refine loop_i (fun q:Nat=>q≤pl.length) (fun q=>mkSt [(1, .int .i64 12),(2, .own 1102 3 1 (pl.map encNt)),(3, .ptr 3 0),(8, .mat 14 22 3 1 (matL (lnJ pl.length j q) (sysA s pl))),(9, .int .i64 j),(16, .int .i64 6),(17, .int .i64 j),(20, .own 1102 3 1 (pl.map encNt)),(21, .int .i64 pl.length),(22, .int .i64 q),(1002, .own 1102 3 1 (pl.map encNt))] [(3,sumsL s)] false) (fun q=>pl.length-q) 0 (Nat.zero_le _) (le_mk ⟨rfl,rfl,rfl,rfl,rfl,rfl,rfl,rfl,int_eq (by rw [L]),rfl,rfl,trivial⟩ ⟨rfl,trivial⟩ rfl) ?_
  intro q hq
  rcases Nat.lt_or_ge q pl.length with hql|hql
  ·obtain ⟨x,hx⟩:∃x,pl[q]? =some x:=⟨_,List.getElem?_eq_getElem hql⟩
   have hxb:=hb x (List.mem_of_getElem? hx)
   have hle:(j+1) * (11-x)≤6 * 11:=Nat.mul_le_mul (by omega) (by omega)
   have hpo:((j:Int)+1) * (12-1-x)=((j+1) * (11-x):Nat):=by rw [Int.natCast_mul];congr 1;omega
   (conv=>whnf);(repeat' (first|(refine arith_i ⟨by omega,by omega⟩ ?_;conv=>whnf)|((refine idx_cs hx ?_);conv=>whnf)|((refine ridx_f (m:=j) rfl (by omega) ?_);conv=>whnf)|((refine call_e (power_m _ ((j+1) * (11-x)) hpo (by omega)) ?_);conv=>whnf)|((refine need_i (by rw [rowG_len,lnJ_at];show q+1≤_;omega) ?_);conv=>whnf)|((refine ridx_none (by omega) (by rw [LM];omega) ?_);conv=>whnf)|(refine draw_i 0 plT18f_0 (by decide+kernel) ?_;(conv=>whnf);fail_if_success (guard_target=~ False))|((with_reducible refine And.intro ?_ ?_)<;>(conv=>whnf))|(with_reducible exact trivial)|((with_reducible refine branch_d (fun hq=>?_) (fun hq=>?_))<;>(try (exfalso;omega))<;>(conv=>whnf))))
   all_goals exact ⟨q+1,by omega,le_mk ⟨rfl,rfl,rfl,mat_eq (matL_app rfl (by rw [lnJ_at,lnJ_at]) (fun i hi=>by rw [lnJ,lnJ,if_neg hi,if_neg hi]) (by rw [lnJ_at,sysA,hx])),rfl,rfl,rfl,rfl,rfl,rfl,rfl,trivial⟩ ⟨rfl,trivial⟩ rfl,by omega⟩
  ·obtain rfl:q=pl.length:=by omega
   rcases (show j=0∨j=1∨j=2∨j=3∨j=4∨j=5 by omega) with rfl|rfl|rfl|rfl|rfl|rfl
   ·(conv=>whnf);(repeat' (first|(refine arith_i ⟨by omega,by omega⟩ ?_;conv=>whnf)|((refine ridx_f (m:=0) rfl (by omega) ?_);conv=>whnf)|((refine aidx_i 0 rfl (by decide) ?_);conv=>whnf)|((refine need_i (by rw [rowG_len,lnJ_at];show pl.length+1≤_;omega) ?_);conv=>whnf)|((refine ridx_none (by omega) (by rw [LM];omega) ?_);conv=>whnf)|(refine draw_i 13 plT18f_4 (by decide+kernel) ?_;(conv=>whnf);fail_if_success (guard_target=~ False))|((with_reducible refine And.intro ?_ ?_)<;>(conv=>whnf))|(with_reducible exact trivial)|((with_reducible refine branch_d (fun hq=>?_) (fun hq=>?_))<;>(try (exfalso;omega))<;>(conv=>whnf))))
    all_goals exact ⟨1,by decide,le_mk ⟨rfl,rfl,rfl,mat_eq (matL_app (j:=0) rfl lnJ_next' (fun i hi=>lnJ_next hi) (by rw [lnJ_at,sysA,List.getElem?_eq_none (Nat.le_refl _)])),rfl,rfl,rfl,trivial⟩ ⟨rfl,trivial⟩ rfl,by decide⟩
   ·(conv=>whnf);(repeat' (first|(refine arith_i ⟨by omega,by omega⟩ ?_;conv=>whnf)|((refine ridx_f (m:=1) rfl (by omega) ?_);conv=>whnf)|((refine aidx_i 1 rfl (by decide) ?_);conv=>whnf)|((refine need_i (by rw [rowG_len,lnJ_at];show pl.length+1≤_;omega) ?_);conv=>whnf)|((refine ridx_none (by omega) (by rw [LM];omega) ?_);conv=>whnf)|(refine draw_i 13 plT18f_4 (by decide+kernel) ?_;(conv=>whnf);fail_if_success (guard_target=~ False))|((with_reducible refine And.intro ?_ ?_)<;>(conv=>whnf))|(with_reducible exact trivial)|((with_reducible refine branch_d (fun hq=>?_) (fun hq=>?_))<;>(try (exfalso;omega))<;>(conv=>whnf))))
    all_goals exact ⟨2,by decide,le_mk ⟨rfl,rfl,rfl,mat_eq (matL_app (j:=1) rfl lnJ_next' (fun i hi=>lnJ_next hi) (by rw [lnJ_at,sysA,List.getElem?_eq_none (Nat.le_refl _)])),rfl,rfl,rfl,trivial⟩ ⟨rfl,trivial⟩ rfl,by decide⟩
   ·(conv=>whnf);(repeat' (first|(refine arith_i ⟨by omega,by omega⟩ ?_;conv=>whnf)|((refine ridx_f (m:=2) rfl (by omega) ?_);conv=>whnf)|((refine aidx_i 2 rfl (by decide) ?_);conv=>whnf)|((refine need_i (by rw [rowG_len,lnJ_at];show pl.length+1≤_;omega) ?_);conv=>whnf)|((refine ridx_none (by omega) (by rw [LM];omega) ?_);conv=>whnf)|(refine draw_i 13 plT18f_4 (by decide+kernel) ?_;(conv=>whnf);fail_if_success (guard_target=~ False))|((with_reducible refine And.intro ?_ ?_)<;>(conv=>whnf))|(with_reducible exact trivial)|((with_reducible refine branch_d (fun hq=>?_) (fun hq=>?_))<;>(try (exfalso;omega))<;>(conv=>whnf))))
    all_goals exact ⟨3,by decide,le_mk ⟨rfl,rfl,rfl,mat_eq (matL_app (j:=2) rfl lnJ_next' (fun i hi=>lnJ_next hi) (by rw [lnJ_at,sysA,List.getElem?_eq_none (Nat.le_refl _)])),rfl,rfl,rfl,trivial⟩ ⟨rfl,trivial⟩ rfl,by decide⟩
   ·(conv=>whnf);(repeat' (first|(refine arith_i ⟨by omega,by omega⟩ ?_;conv=>whnf)|((refine ridx_f (m:=3) rfl (by omega) ?_);conv=>whnf)|((refine aidx_i 3 rfl (by decide) ?_);conv=>whnf)|((refine need_i (by rw [rowG_len,lnJ_at];show pl.length+1≤_;omega) ?_);conv=>whnf)|((refine ridx_none (by omega) (by rw [LM];omega) ?_);conv=>whnf)|(refine draw_i 13 plT18f_4 (by decide+kernel) ?_;(conv=>whnf);fail_if_success (guard_target=~ False))|((with_reducible refine And.intro ?_ ?_)<;>(conv=>whnf))|(with_reducible exact trivial)|((with_reducible refine branch_d (fun hq=>?_) (fun hq=>?_))<;>(try (exfalso;omega))<;>(conv=>whnf))))
    all_goals exact ⟨4,by decide,le_mk ⟨rfl,rfl,rfl,mat_eq (matL_app (j:=3) rfl lnJ_next' (fun i hi=>lnJ_next hi) (by rw [lnJ_at,sysA,List.getElem?_eq_none (Nat.le_refl _)])),rfl,rfl,rfl,trivial⟩ ⟨rfl,trivial⟩ rfl,by decide⟩
   ·(conv=>whnf);(repeat' (first|(refine arith_i ⟨by omega,by omega⟩ ?_;conv=>whnf)|((refine ridx_f (m:=4) rfl (by omega) ?_);conv=>whnf)|((refine aidx_i 4 rfl (by decide) ?_);conv=>whnf)|((refine need_i (by rw [rowG_len,lnJ_at];show pl.length+1≤_;omega) ?_);conv=>whnf)|((refine ridx_none (by omega) (by rw [LM];omega) ?_);conv=>whnf)|(refine draw_i 13 plT18f_4 (by decide+kernel) ?_;(conv=>whnf);fail_if_success (guard_target=~ False))|((with_reducible refine And.intro ?_ ?_)<;>(conv=>whnf))|(with_reducible exact trivial)|((with_reducible refine branch_d (fun hq=>?_) (fun hq=>?_))<;>(try (exfalso;omega))<;>(conv=>whnf))))
    all_goals exact ⟨5,by decide,le_mk ⟨rfl,rfl,rfl,mat_eq (matL_app (j:=4) rfl lnJ_next' (fun i hi=>lnJ_next hi) (by rw [lnJ_at,sysA,List.getElem?_eq_none (Nat.le_refl _)])),rfl,rfl,rfl,trivial⟩ ⟨rfl,trivial⟩ rfl,by decide⟩
   ·(conv=>whnf);(repeat' (first|(refine arith_i ⟨by omega,by omega⟩ ?_;conv=>whnf)|((refine ridx_f (m:=5) rfl (by omega) ?_);conv=>whnf)|((refine aidx_i 5 rfl (by decide) ?_);conv=>whnf)|((refine need_i (by rw [rowG_len,lnJ_at];show pl.length+1≤_;omega) ?_);conv=>whnf)|((refine ridx_none (by omega) (by rw [LM];omega) ?_);conv=>whnf)|(refine draw_i 13 plT18f_4 (by decide+kernel) ?_;(conv=>whnf);fail_if_success (guard_target=~ False))|((with_reducible refine And.intro ?_ ?_)<;>(conv=>whnf))|(with_reducible exact trivial)|((with_reducible refine branch_d (fun hq=>?_) (fun hq=>?_))<;>(try (exfalso;omega))<;>(conv=>whnf))))
    all_goals exact ⟨6,by decide,le_mk ⟨rfl,rfl,rfl,mat_eq (matL_app (j:=5) rfl lnJ_next' (fun i hi=>lnJ_next hi) (by rw [lnJ_at,sysA,List.getElem?_eq_none (Nat.le_refl _)])),rfl,rfl,rfl,trivial⟩ ⟨rfl,trivial⟩ rfl,by decide⟩
 ·obtain rfl:j=6:=by omega
  have e6:matL (lnJ pl.length 6 0) (sysA s pl)=matG 6 (pl.length+1) (sysA s pl):=by
   rw [matL,matG]
   exact List.map_congr_left fun i hi=>by rw [lnJ,if_pos (List.mem_range.1 hi)]
  rw [e6]
  conv=>whnf
  refine branch_d (fun hq=>?_) (fun hq=>?_)
  ·omega
  conv=>whnf
  refine mcall_i [] [(1100,14)] _ Le.refl (eliminate_ok pl.length hp (sysA s pl) hI) rfl (congrArg (fun n:Nat=>[AV.mat 14 22 3 1 (matG 6 (pl.length+1) (sysA s pl)), .int .i64 (n:Int)]) L) rfl trivial ?_
  rintro r ov bx' ⟨rfl,A,hU,hZ,rfl,hr⟩
  refine ⟨by rcases hr with ⟨rfl, -⟩|⟨rfl, -⟩<;>rfl,?_⟩
  have LR (f:Nat→G):(rowG (pl.length+1) f).length=pl.length+1:=rowG_len
  have LG (A:Nat→Nat→G):(matG 6 (pl.length+1) A).length=6:=matG_len
  rcases hr with ⟨rfl,hr⟩|⟨rfl,hr⟩
  ·(conv=>whnf);(repeat' (first|(refine need_o ?_;conv=>whnf)|((with_reducible refine branch_tt ?_);conv=>whnf)|(with_reducible refine branch_not ?_)))
   refine loop_i (fun k:Nat=>k≤pl.length) (fun k=>mkSt [(2, .own 1102 3 1 (pl.map encNt)),(8, .mat 14 22 3 1 (matG 6 (pl.length+1) A)),(12, .own (.s 64) 3 1 (rowG pl.length fun c=>if c<k then A c pl.length else 0)),(66, .int .i64 pl.length),(67, .int .i64 k),(1002, .own 1102 3 1 (pl.map encNt))] [(3,sumsL s)] false) (fun k=>pl.length-k) 0 (Nat.zero_le _) (le_mk ⟨rfl,rfl,own_eq (by rw [L,Int.toNat_natCast];exact repl_row),int_eq (by rw [List.length_replicate,L];omega),rfl,rfl,trivial⟩ ⟨rfl,trivial⟩ rfl) ?_
   intro k hk
   have LV:(rowG pl.length fun c=>if c<k then A c pl.length else 0).length=pl.length:=rowG_len
   rcases Nat.lt_or_ge k pl.length with hkl|hkl
   ·(conv=>whnf);(repeat' (first|(refine arith_i ⟨by omega,by omega⟩ ?_;conv=>whnf)|((refine ridx_f (m:=k) rfl (by omega) ?_);conv=>whnf)|((refine idx_f (m:=pl.length) (by rw [L]) (by omega) ?_);conv=>whnf)|((refine idx_f (m:=k) rfl (by omega) ?_);conv=>whnf)|((with_reducible refine branch_d (fun hq=>?_) (fun hq=>?_))<;>(try (exfalso;omega))<;>(conv=>whnf))))
    all_goals exact ⟨k+1,by omega,le_mk ⟨rfl,rfl,own_eq row_next,rfl,rfl,rfl,trivial⟩ ⟨rfl,trivial⟩ rfl,by omega⟩
   ·obtain rfl:k=pl.length:=by omega
    (conv=>whnf);(repeat' (first|((with_reducible refine branch_d (fun hq=>?_) (fun hq=>?_))<;>(try (exfalso;omega))<;>(conv=>whnf))))
    all_goals exact retM_i (.tup [.lst 1 ((List.range pl.length).map fun c=>encG (A c pl.length)), .bool true]) [(1002, .own 1102 3 1 (pl.map encNt))] [] rfl ((le_erase 64).trans (le_mk ⟨congrArg (fun l=>AV.tup [.lst 1 l, .bool true]) row_end,rfl,trivial⟩ trivial rfl)) rfl ⟨rfl,rfl, .inl ⟨fun c=>if c<pl.length then A c pl.length else 1,if_neg (Nat.lt_irrefl _),(hZ _).1 ((unit_solve hU hp (if_neg (Nat.lt_irrefl _))).2 ⟨fun c hc=>if_pos hc,hr⟩),congrArg (fun l=>AV.tup [.lst 1 l, .bool true]) (List.map_congr_left fun c hc=>congrArg encG (if_pos (List.mem_range.1 hc)).symm)⟩⟩
  ·(conv=>whnf);(repeat' (first|((with_reducible refine branch_ff ?_);conv=>whnf)|(with_reducible refine branch_not ?_)))
   all_goals exact retM_i (.tup [.nil, .bool false]) [(1002, .own 1102 3 1 (pl.map encNt))] [] rfl (le_mk ⟨rfl,rfl,trivial⟩ trivial rfl) rfl ⟨rfl,rfl, .inr ⟨fun ⟨x,hx,hx2⟩=>hr ((unit_solve hU hp hx).1 ((hZ x).2 hx2)).2,rfl⟩⟩
end Go.Proofs.YtihjphblcohdeaaGreatDoor
namespace Go.Proofs.YtihjphblcohdeaaGreatDoor
set_option maxRecDepth 10000
open Go.RowKit
open F32
def SolP (s:Nat→G) (pl:List Nat) (x:Nat→G):Prop:=x pl.length=1∧ZeroA 6 (pl.length+1) (sysA s pl) x
def valsV (pl:List Nat) (x:Nat→G):AV:= .lst 1 ((List.range pl.length).map fun c=>encG (x c))
def sCap:List AV:=[.ptr 1000 0, .ptr 1001 0, .ptr 1002 0, .ptr 1003 0, .ptr 1004 0, .ptr 1005 0]
def sBx (s:Nat→G) (ws:List (List AV)) (wh:List Nat) (pl:List Nat) (v:AV):List (Nat×List AV):=[(1000,sumsL s),(1001,[.lst 1 ws]),(1002,[.own 1102 3 1 (pl.map encNt)]),(1003,[v]),(1004,[.lst 1 (wh.map encNt)]),(1005,[.fn 154 sCap])]
def GoodPl (s:Nat→G) (pl:List Nat):Prop:=pl.length≤6∧(∀i∈pl,i<12)∧IndA 6 pl.length (sysA s pl)
theorem sub_next {T l l':List Nat} {y:Nat} (hd:l=y::l') (h:T.Sublist l) (hn:∀T',T=y::T'→¬T'.Sublist l'):T.Sublist l':=by
 rw [hd] at h
 rcases List.sublist_cons_iff.1 h with h|⟨r,hr,h⟩
 ·exact h
 ·exact absurd h (hn r hr)
theorem take_back (pl:List Nat) (y:Nat):(((pl++[y]).map encNt).take ((((pl++[y]).map encNt).length:Int)-1).toNat).drop (0:Int).toNat=pl.map encNt:=by
 have e:((((pl++[y]).map encNt).length:Int)-1).toNat=(pl.map encNt).length:=by
  rw [List.length_map,List.length_append,List.length_singleton,List.length_map];omega
 rw [e,List.map_append,List.take_left' rfl];rfl
set_option maxHeartbeats 4000000 in
theorem search_ok (s:Nat→G) (ws:List (List AV)) (hw:ws.length=12) (wh:List Nat) (hwh:wh.length≤12):∀(wrong next:Nat) (pl:List Nat) (vs:List (List AV)),next≤wh.length→pl.length+wrong≤6→(∀T,T.Sublist (wh.drop next)→T.length=wrong→GoodPl s (pl++T))→
 GoodM Tryz.prog TT false 154 (.int .i64 next:: .int .i64 wrong::sCap) (sBx s ws wh pl (.lst 1 vs)) (fun r ov bx=>ov=[]∧((∃T x,T.Sublist (wh.drop next)∧T.length=wrong∧SolP s (pl++T) x∧r= .bool true∧bx=sBx s ws wh (pl++T) (valsV (pl++T) x))∨((∀T x,T.Sublist (wh.drop next)→T.length=wrong→¬SolP s (pl++T) x)∧r= .bool false∧∃vs',bx=sBx s ws wh pl (.lst 1 vs')))):=by
 intro wrong
 induction wrong with
 |zero=>
  intro next pl vs hn hl hG
  have hg:=hG [] (List.nil_sublist _) rfl
  rw [List.append_nil] at hg
  have hC:=corrections_ok s pl ws.length (by rw [hw];rfl) hg.1 hg.2.1 hg.2.2
  refine good_of_m (fun _=>false) mixed tabOk Tryz.func154 rfl rfl Tryz.ntmps154 Tryz.results154 rfl rfl ?_
  (conv=>whnf);(repeat' (first|(((refine mcall_i [] [(1102,1102)] _ Le.refl hC rfl rfl rfl trivial ?_;rintro r ov bx' ⟨rfl,rfl,hr⟩;rcases hr with ⟨x,h1,h2,rfl⟩|⟨hx,rfl⟩<;>refine ⟨rfl,?_⟩<;>(conv=>whnf)));conv=>whnf)|((with_reducible refine branch_e (fun hq=>?_) (fun hq=>?_))<;>(try (exfalso;omega))<;>(conv=>whnf))))
  ·exact retM_i (.bool true) [] (sBx s ws wh pl (valsV pl x)) rfl le_q rfl ⟨rfl, .inl ⟨[],x,List.nil_sublist _,rfl,by rw [List.append_nil];exact ⟨h1,h2⟩,rfl,by rw [List.append_nil]⟩⟩
  ·exact retM_i (.bool false) [] (sBx s ws wh pl (.lst 1 [])) rfl ((le_nilBox 1003 0 1 rfl rfl).trans le_q) rfl ⟨rfl, .inr ⟨fun T x _ hT hs=>hx (by
    rw [List.length_eq_zero_iff.1 hT,List.append_nil] at hs
    exact ⟨x,hs.1,hs.2⟩),rfl,_,rfl⟩⟩
 |succ wrong IH=>
  intro next pl vs hn hl hG
  have L:(wh.map encNt).length=wh.length:=List.length_map ..
  have LP (l:List Nat):(l.map encNt).length=l.length:=List.length_map ..
  refine good_of_m (fun _=>false) mixed tabOk Tryz.func154 rfl rfl Tryz.ntmps154 Tryz.results154 rfl rfl ?_
  (conv=>whnf);(repeat' (first|((with_reducible refine branch_e (fun hq=>?_) (fun hq=>?_))<;>(try (exfalso;omega))<;>(conv=>whnf))))
  refine loop_i2 (fun (k:Nat) (vs:List (List AV))=>next≤k∧k≤wh.length∧∀T x,T.Sublist (wh.drop next)→T.length=wrong+1→SolP s (pl++T) x→T.Sublist (wh.drop k)) (fun k vs=>mkSt [(1, .int .i64 (wrong+1:Nat)),(2, .ptr 1000 0),(3, .ptr 1001 0),(4, .ptr 1002 0),(5, .ptr 1003 0),(6, .ptr 1004 0),(7, .ptr 1005 0),(12, .int .i64 k)] (sBx s ws wh pl (.lst 1 vs)) false) (fun k _=>wh.length-k) next vs ⟨Nat.le_refl _,hn,fun T x h _ _=>h⟩ le_q ?_
  rintro k vs ⟨hk1,hk2,hk3⟩
  rcases Nat.lt_or_ge k wh.length with hkl|hkl
  ·obtain ⟨y,hy⟩:∃y,wh[k]? =some y:=⟨_,List.getElem?_eq_getElem hkl⟩
   have hd:=drop_at hy
   have hsub:∀T:List Nat,T.Sublist (wh.drop (k+1))→(y::T).Sublist (wh.drop next):=fun T hT=>by
    have h1:(y::T).Sublist (wh.drop k):=by rw [hd];exact hT.cons_cons y
    exact h1.trans (by rw [show wh.drop k=(wh.drop next).drop (k-next) by rw [List.drop_drop];congr 1;omega];exact List.drop_sublist _ _)
   have hI:=IH (k+1) (pl++[y]) vs (by omega) (by simp;omega) fun T hT hl=>by
    have:=hG (y::T) (hsub T hT) (by simp [hl])
    rwa [List.append_assoc]
   have LY:((pl++[y]).map encNt).length=pl.length+1:=by rw [List.length_map,List.length_append];rfl
   (conv=>whnf);(repeat' (first|(refine arith_i ⟨by omega,by omega⟩ ?_;conv=>whnf)|(refine need_o ?_;conv=>whnf)|((with_reducible first|refine branch_tt ?_|refine branch_ff ?_);conv=>whnf)|((refine slc_o ?_);conv=>whnf)|((refine sub_i (by omega) ?_);conv=>whnf)|((refine draw_i 7 (.take 2 (.alt 0 (.alt 1 (.take 3 (.alt 4 (.alt 5 (.alt 6 (.alt 7 .done .stop) .stop) .stop) .stop)) .stop) (.alt 1 (.take 3 (.alt 0 (.alt 4 (.alt 5 (.alt 6 (.alt 7 .done .stop) .stop) .stop) .stop) (.alt 4 (.alt 0 (.alt 5 (.alt 6 (.alt 7 .done .stop) .stop) .stop) (.alt 5 (.alt 0 (.alt 6 (.alt 7 .done .stop) .stop) .stop) .stop)) .stop))) .stop))) (by decide+kernel) ?_);conv=>whnf)|((refine idx_cs hy ?_);conv=>whnf)|(((refine mcall_i [(1000,1000),(1001,1001),(1002,1002),(1003,1003),(1004,1004),(1005,1005)] [(1102,1102)] _ Le.refl hI rfl (congrArg (fun n:Int=>AV.int .i64 ((k+1:Nat):Int):: .int .i64 n::sCap) (show ((wrong+1:Nat):Int)-1=(wrong:Nat) by omega)) rfl ⟨⟨_,rfl,rfl,rfl⟩,⟨_,rfl,rfl,rfl⟩,⟨_,rfl,by rw [List.map_append];rfl,rfl⟩,⟨_,rfl,rfl,rfl⟩,⟨_,rfl,rfl,rfl⟩,⟨_,rfl,rfl,rfl⟩,trivial⟩ ?_;rintro r ov bx' ⟨rfl,hr⟩;rcases hr with ⟨T,x,h1,h2,h3,rfl,rfl⟩|⟨hno,rfl,vs',rfl⟩<;>refine ⟨rfl,?_⟩<;>(conv=>whnf)));conv=>whnf)|((with_reducible refine And.intro ?_ ?_)<;>(conv=>whnf))|(with_reducible exact trivial)|((with_reducible refine branch_d (fun hq=>?_) (fun hq=>?_))<;>(try (exfalso;omega))<;>(conv=>whnf))))
   all_goals first
    |exact retM_i (.bool true) [] (sBx s ws wh (pl++[y]++T) (valsV (pl++[y]++T) x)) rfl le_q rfl ⟨rfl, .inl ⟨y::T,x,hsub T h1,by rw [List.length_cons,h2],by rw [List.append_assoc] at h3;exact h3,rfl,by rw [List.append_assoc];rfl⟩⟩
    |exact ⟨k+1,vs',⟨by omega,by omega,fun T x h1 h2 h3=>sub_next hd (hk3 T x h1 h2 h3) fun T' e h=>hno T' x h (by rw [e,List.length_cons] at h2;omega) (by rw [List.append_assoc];rw [e] at h3;exact h3)⟩,le_mk ⟨rfl,rfl,rfl,rfl,rfl,rfl,rfl,rfl,trivial⟩ ⟨rfl,rfl,congrArg (fun l=>some [AV.own (.s 1102) 3 1 l]) (take_back pl y),rfl,rfl,rfl,trivial⟩ rfl,by omega⟩
  ·obtain rfl:k=wh.length:=by omega
   (conv=>whnf);(repeat' (first|((with_reducible refine branch_d (fun hq=>?_) (fun hq=>?_))<;>(try (exfalso;omega))<;>(conv=>whnf))))
   all_goals exact retM_i (.bool false) [] (sBx s ws wh pl (.lst 1 vs)) rfl le_q rfl ⟨rfl, .inr ⟨fun T x h1 h2 h3=>(by
    have:=hk3 T x h1 h2 h3
    rw [List.drop_eq_nil_of_le (Nat.le_refl _)] at this
    rw [List.sublist_nil.1 this] at h2
    exact absurd h2 (by simp)),rfl,_,rfl⟩⟩
end Go.Proofs.YtihjphblcohdeaaGreatDoor
namespace Go.Proofs.YtihjphblcohdeaaGreatDoor
open F32
theorem pw_mul (a b:Nat):mul (pwG a) (pwG b)=pwG (a+b):=by
 have h:(all1 31 fun a=>all1 31 fun b=>decide (mul (pwG a) (pwG b)=pwG (a+b)))=true:=by decide+kernel
 have ha:a % 31<31:=Nat.mod_lt _ (by decide)
 have hb:b % 31<31:=Nat.mod_lt _ (by decide)
 have e (n:Nat):pwG (n % 31)=pwG n:=Fin.ext (by show pw.getD (n % 31 % 31) 0=pw.getD (n % 31) 0;rw [Nat.mod_mod])
 have:=of_decide_eq_true (all1_at (all1_at h _ ha) _ hb)
 rw [e,e,←e (a % 31+b % 31),←Nat.add_mod,e] at this
 exact this
theorem pw_pow (a:Nat):∀n,gpow (pwG a) n=pwG (n * a)
 |0=>by rw [gpow,Nat.zero_mul];rfl
 |n+1=>by rw [gpow,pw_pow a n,pw_mul,Nat.succ_mul,Nat.add_comm]
theorem pw_ne (a:Nat):pwG a≠0:=by
 have h:(all1 31 fun a=>decide (pwG a≠0))=true:=by decide+kernel
 have e:pwG (a % 31)=pwG a:=Fin.ext (by show pw.getD (a % 31 % 31) 0=pw.getD (a % 31) 0;rw [Nat.mod_mod])
 rw [←e]
 exact of_decide_eq_true (all1_at h _ (Nat.mod_lt _ (by decide)))
theorem pw_inj {a b:Nat} (ha:a<31) (hb:b<31) (h:pwG a=pwG b):a=b:=by
 have hh:(all1 31 fun a=>all1 31 fun b=>decide (pwG a=pwG b→a=b))=true:=by decide+kernel
 exact of_decide_eq_true (all1_at (all1_at hh a ha) b hb) h
def synF (d:Nat→G) (j:Nat):Nat→G
 |0=>0
 |i+1=>add (synF d j i) (mul (d i) (pwG ((j+1) * (11-i))))
theorem syn_f (w:List G) (j:Nat):∀i,synP w j i=synF (fun i=>w.getD i 0) j i
 |0=>rfl
 |i+1=>by rw [synP,synF,syn_f w j i]
theorem synF_add (d e:Nat→G) (j:Nat):∀i,synF (fun i=>add (d i) (e i)) j i=add (synF d j i) (synF e j i)
 |0=>by rw [synF,synF,synF,add_zero]
 |i+1=>by rw [synF,synF,synF,synF_add d e j i,add_mul,add4]
theorem sumP_app:∀(l l':List (G×G)) (j:Nat),sumP (l++l') j=add (sumP l j) (sumP l' j)
 |[],_,_=>by rw [List.nil_append,sumP,zero_add]
 |p::l,l',j=>by rw [List.cons_append,sumP,sumP,sumP_app l l' j,add_assoc]
def supp (d:Nat→G) (n:Nat):List Nat:=(List.range n).filter fun i=>d i != 0
theorem syn_supp (d:Nat→G) (j:Nat):∀n,synF d j n=sumP ((supp d n).map fun i=>(d i,pwG (11-i))) (j+1)
 |0=>rfl
 |n+1=>by
  rw [synF,syn_supp d j n,supp,supp,List.range_succ,List.filter_append,List.map_append,sumP_app]
  congr 1
  by_cases h:d n=0
  ·rw [h,zero_mul,List.filter_cons_of_neg (by simp [h])];rfl
  ·rw [List.filter_cons_of_pos (by simp [h]),List.filter_nil,List.map_cons,List.map_nil,sumP,sumP,add_zero,pw_pow]
theorem dist7 {d:Nat→G} (h:∀j,j<6→synF d j 12=0) (hw:(supp d 12).length≤6):∀i,i<12→d i=0:=by
 intro i hi
 refine Classical.byContradiction fun hd=>?_
 have hm:i∈supp d 12:=List.mem_filter.2 ⟨List.mem_range.2 hi,by simpa using hd⟩
 refine hd (indep _ ((supp d 12).map fun i=>(d i,pwG (11-i))) rfl (fun p hp=>?_) ?_ (fun j hj=>?_) (d i,pwG (11-i)) (List.mem_map.2 ⟨i,hm,rfl⟩))
 ·obtain ⟨q, -,rfl⟩:=List.mem_map.1 hp
  exact pw_ne _
 ·rw [List.map_map]
  refine List.pairwise_map.2 (List.Pairwise.imp_of_mem (fun {a b} ha hb hne e=>hne ?_) ((List.nodup_range (n:=12)).filter fun i=>d i != 0))
  have h1:=List.mem_range.1 (List.mem_filter.1 ha).1
  have h2:=List.mem_range.1 (List.mem_filter.1 hb).1
  have:=pw_inj (a:=11-a) (b:=11-b) (by omega) (by omega) e
  omega
 ·rw [←syn_supp]
  exact h j (by rw [List.length_map] at hj;omega)
theorem synF_zero (j:Nat):∀n,synF (fun _=>0) j n=0
 |0=>rfl
 |n+1=>by rw [synF,synF_zero j n,zero_mul,add_zero]
theorem synF_congr {d e:Nat→G} (j:Nat):∀n,(∀i,i<n→d i=e i)→synF d j n=synF e j n
 |0,_=>rfl
 |n+1,h=>by rw [synF,synF,synF_congr j n fun i hi=>h i (by omega),h n (by omega)]
theorem synF_point (p:Nat) (v:G) (j:Nat):∀n,synF (fun i=>if i=p then v else 0) j n=if p<n then mul v (pwG ((j+1) * (11-p))) else 0
 |0=>by rw [if_neg (by omega)];rfl
 |n+1=>by
  rw [synF,synF_point p v j n]
  by_cases h:p<n
  ·rw [if_pos h,if_neg (show ¬n=p by omega),if_pos (show p<n+1 by omega),zero_mul,add_zero]
  ·rw [if_neg h]
   by_cases e:n=p
   ·rw [if_pos e,if_pos (show p<n+1 by omega),zero_add,e]
   ·rw [if_neg e,if_neg (show ¬p<n+1 by omega),zero_mul,add_zero]
def corrN (pl:List Nat) (x:Nat→G):Nat→Nat→G
 |0,_=>0
 |c+1,i=>add (corrN pl x c i) (if i=pl.getD c 0 then x c else 0)
theorem syn_corr (s:Nat→G) (pl:List Nat) (x:Nat→G) (hb:∀i∈pl,i<12) (r:Nat):∀u,u≤pl.length→synF (corrN pl x u) r 12=dotN u (sysA s pl r) x
 |0,_=>synF_zero r 12
 |u+1,h=>by
  have e:pl[u]? =some pl[u]:=List.getElem?_eq_getElem (by omega)
  have e2:pl.getD u 0=pl[u]:=by rw [List.getD_eq_getElem?_getD,e];rfl
  have e3:sysA s pl r u=pwG ((r+1) * (11-pl[u])):=by rw [sysA,e]
  have e4:synF (corrN pl x (u+1)) r 12=add (synF (corrN pl x u) r 12) (synF (fun i=>if i=pl.getD u 0 then x u else 0) r 12):=synF_add _ _ r 12
  rw [e4,syn_corr s pl x hb r u (by omega),synF_point,e2,if_pos (hb _ (List.getElem_mem _)),dotN,e3,mul_comm]
theorem corr_out {pl:List Nat} {x:Nat→G} {i:Nat}:∀ {u:Nat},(∀c,c<u→i≠pl.getD c 0)→corrN pl x u i=0
 |0,_=>rfl
 |u+1,h=>by rw [corrN,corr_out fun c hc=>h c (by omega),if_neg (h u (by omega)),add_zero]
theorem corr_at {pl:List Nat} {x:Nat→G} {k:Nat} (hk:∀c d,c<pl.length→d<pl.length→pl.getD c 0=pl.getD d 0→c=d):∀ {u:Nat},k<u→u≤pl.length→corrN pl x u (pl.getD k 0)=x k
 |0,h,_=>by omega
 |u+1,h,h2=>by
  rw [corrN]
  rcases Nat.lt_or_ge k u with h'|h'
  ·rw [corr_at hk h' (by omega),if_neg fun e=>by have:=hk k u (by omega) (by omega) e;omega,add_zero]
  ·obtain rfl:k=u:=by omega
   rw [corr_out fun c hc e=>(by have:=hk c k (by omega) (by omega) e.symm;omega),if_pos rfl,zero_add]
theorem sol_word {f s:Nat→G} {pl:List Nat} {x:Nat→G} (hs:∀r,r<6→s r=synF f r 12) (hb:∀i∈pl,i<12) (h:SolP s pl x):∀r,r<6→synF (fun i=>add (f i) (corrN pl x pl.length i)) r 12=0:=by
 intro r hr
 have h2:=h.2 r hr
 have e:sysA s pl r pl.length=s r:=by rw [sysA,List.getElem?_eq_none (Nat.le_refl _)]
 rw [dotN,e,h.1,mul_one] at h2
 rw [synF_add,syn_corr s pl x hb r _ (Nat.le_refl _),←hs r hr,add_comm]
 exact h2
theorem word_sol {f s w:Nat→G} {pl:List Nat} (hs:∀r,r<6→s r=synF f r 12) (hb:∀i∈pl,i<12) (hk:∀c d,c<pl.length→d<pl.length→pl.getD c 0=pl.getD d 0→c=d) (hw:∀r,r<6→synF w r 12=0) (ho:∀i,i<12→i∉pl→f i=w i):SolP s pl fun c=>if c<pl.length then add (f (pl.getD c 0)) (w (pl.getD c 0)) else 1:=by
 refine ⟨if_neg (Nat.lt_irrefl _),fun r hr=>?_⟩
 have e:sysA s pl r pl.length=s r:=by rw [sysA,List.getElem?_eq_none (Nat.le_refl _)]
 rw [dotN,e,if_neg (Nat.lt_irrefl _),mul_one,←syn_corr s pl _ hb r _ (Nat.le_refl _),hs r hr]
 have e2:synF (corrN pl (fun c=>if c<pl.length then add (f (pl.getD c 0)) (w (pl.getD c 0)) else 1) pl.length) r 12=synF (fun i=>add (f i) (w i)) r 12:=synF_congr r 12 fun i hi=>by
  by_cases hm:i∈pl
  ·obtain ⟨c,hc,rfl⟩:=List.getElem_of_mem hm
   have e3:pl.getD c 0=pl[c]:=by rw [List.getD_eq_getElem?_getD,List.getElem?_eq_getElem hc];rfl
   rw [←e3,corr_at hk hc (Nat.le_refl _),if_pos hc]
  ·rw [corr_out fun c hc e=>hm (by rw [e,List.getD_eq_getElem?_getD,List.getElem?_eq_getElem hc];exact List.getElem_mem _),ho i hi hm,add_self]
 rw [e2,synF_add,hw r hr,add_zero,add_self]
theorem nodup_le {α:Type} [DecidableEq α]:∀ {a b:List α},a.Nodup→(∀x∈a,x∈b)→a.length≤b.length
 |[],b,_,_=>by simp
 |x::a,b,hn,hs=>by
  have hn':=List.nodup_cons.1 hn
  have hx:=hs x (by simp)
  have ih:=nodup_le (a:=a) (b:=b.erase x) hn'.2 fun y hy=>(List.mem_erase_of_ne (show y≠x from fun e=>hn'.1 (by rw [←e];exact hy))).2 (hs y (by simp [hy]))
  rw [List.length_erase_of_mem hx] at ih
  have:=List.length_pos_of_mem hx
  simp only [List.length_cons]
  omega
theorem nd_inj {pl:List Nat} (hn:pl.Nodup):∀c d,c<pl.length→d<pl.length→pl.getD c 0=pl.getD d 0→c=d:=fun c d hc hd e=>by
 rw [List.getD_eq_getElem?_getD,List.getD_eq_getElem?_getD,List.getElem?_eq_getElem hc,List.getElem?_eq_getElem hd,Option.getD_some,Option.getD_some] at e
 have hp:=List.pairwise_iff_getElem.1 hn
 rcases Nat.lt_trichotomy c d with h|h|h
 ·exact absurd e (hp c d hc hd h)
 ·exact h
 ·exact absurd e.symm (hp d c hd hc h)
theorem supp_le {d:Nat→G} {l:List Nat} (h:∀i,i<12→i∉l→d i=0):(supp d 12).length≤l.length:=by
 refine nodup_le ((List.nodup_range (n:=12)).filter _) fun i hi=>?_
 obtain ⟨h1,h2⟩:=List.mem_filter.1 hi
 refine Classical.byContradiction fun hn=>?_
 rw [h i (List.mem_range.1 h1) hn] at h2
 simp at h2
theorem goodPl {s:Nat→G} {pl:List Nat} (hl:pl.length≤6) (hb:∀i∈pl,i<12) (hn:pl.Nodup):GoodPl s pl:=by
 refine ⟨hl,hb,fun x hx hz c hc=>?_⟩
 have h0:∀i,i<12→corrN pl x pl.length i=0:=dist7 (fun r hr=>by
  have:=hz r hr
  rw [dotN,hx,mul_zero,add_zero] at this
  rw [syn_corr s pl x hb r _ (Nat.le_refl _),this]) (Nat.le_trans (supp_le (l:=pl) fun i hi hm=>corr_out fun c hc e=>hm (by rw [e,List.getD_eq_getElem?_getD,List.getElem?_eq_getElem hc];exact List.getElem_mem _)) hl)
 rw [←corr_at (x:=x) (nd_inj hn) hc (Nat.le_refl _)]
 exact h0 _ (hb _ (by rw [List.getD_eq_getElem?_getD,List.getElem?_eq_getElem hc];exact List.getElem_mem _))
theorem sol_near {f s w:Nat→G} {E T R:List Nat} {x:Nat→G} (hs:∀r,r<6→s r=synF f r 12) (hw:∀r,r<6→synF w r 12=0) (hb:∀i∈E++T,i<12) (ho:∀i,i<12→i∉E→i∉R→f i=w i) (hl:E.length+T.length+R.length≤6) (h:SolP s (E++T) x):∀i,i<12→add (f i) (corrN (E++T) x (E++T).length i)=w i:=by
 have key:∀i,i<12→add (add (f i) (corrN (E++T) x (E++T).length i)) (w i)=0:=dist7 (d:=fun i=>add (add (f i) (corrN (E++T) x (E++T).length i)) (w i)) (fun r hr=>by
  have e:=synF_add (fun i=>add (f i) (corrN (E++T) x (E++T).length i)) w r 12
  rw [e,sol_word hs hb h r hr,hw r hr,add_zero]) (Nat.le_trans (supp_le (l:=E++T++R) fun i hi hm=>by
  simp only [List.mem_append,not_or] at hm
  rw [corr_out fun c hc e=>(by
   have:i∈E++T:=by rw [e,List.getD_eq_getElem?_getD,List.getElem?_eq_getElem hc];exact List.getElem_mem _
   rcases List.mem_append.1 this with h|h
   ·exact hm.1.1 h
   ·exact hm.1.2 h),add_zero,ho i hi hm.1.1 hm.2,add_self]) (by simp only [List.length_append];omega))
 exact fun i hi=>add_eq0 (key i hi)
theorem sol_few {f s w:Nat→G} {E T R:List Nat} {x:Nat→G} (hs:∀r,r<6→s r=synF f r 12) (hw:∀r,r<6→synF w r 12=0) (hb:∀i∈E++T,i<12) (ho:∀i,i<12→i∉E→i∉R→f i=w i) (hR:∀i∈R,i<12∧i∉E∧f i≠w i) (hn:R.Nodup) (hl:E.length+T.length+R.length≤6) (h:SolP s (E++T) x):R.length≤T.length:=by
 refine nodup_le hn fun i hi=>?_
 obtain ⟨h1,h2,h3⟩:=hR i hi
 refine Classical.byContradiction fun hT=>h3 ?_
 have:=sol_near hs hw hb ho hl h i h1
 rwa [corr_out fun c hc e=>(by
  have:i∈E++T:=by rw [e,List.getD_eq_getElem?_getD,List.getElem?_eq_getElem hc];exact List.getElem_mem _
  rcases List.mem_append.1 this with h|h
  ·exact h2 h
  ·exact hT h),add_zero] at this
end Go.Proofs.YtihjphblcohdeaaGreatDoor
