/- Several texts in one: MC. (Printed small by a program: remarks, spaces and repeated headings are taken out.) -/
import Derived.Test.YtihjphblcohdeaaGreatDoorR2
import Derived.Laws.BytesString
import Derived.Scope
set_option linter.unusedVariables false
set_option linter.unusedSimpArgs false
set_option linter.unnecessarySimpa false
set_option linter.unusedSectionVars false
namespace Go.Proofs.YtihjphblcohdeaaGreatDoor
open Go.RowKit
section
variable {P:Program} {T:Nat→Ty} {tt:Nat} {w0:En} {w w':World} {G:Gh} {s:St} {a:Act} {B:Nat} {Q:Exit→Act→World→Prop}
def valF {α:Type} (g:α→Value):Option (Nat×α)→Option (Nat×Value)
 |some (i,b)=>some (i,g b)
 |none=>none
theorem find_now {α:Type} {g:α→Value} {n:Int}:∀ {es:List MapEntry} {kvs:List (Int×α)} {i:Nat},es.map (fun e=>(e.key,e.val))=kvs.map (fun p=>(Value.int .i64 p.1,g p.2))→Instr.findNow (.int .i64) (.int .i64 n) es i=some (valF g (mfind n kvs i))
 |[],[],i,_=>rfl
 |[],_::_,i,h=>by simp at h
 |_::_,[],i,h=>by simp at h
 |e::es,(k,v)::kvs,i,h=>by
  simp only [List.map_cons,List.cons.injEq,Prod.mk.injEq] at h
  obtain ⟨⟨h1,h2⟩,h3⟩:=h
  have ih:=find_now (n:=n) (i:=i+1) h3
  simp only [Instr.findNow,h1,h2,Instr.sameNow,if_true,mfind]
  cases hc:n==k with
  |true=>rfl
  |false=>exact ih
theorem run_find {α:Type} {g:α→Value} {kt:Nat} {n:Int} {es:List MapEntry} {kvs:List (Int×α)} (hk:P.underlying kt=some (.int .i64)) (h:es.map (fun e=>(e.key,e.val))=kvs.map (fun p=>(Value.int .i64 p.1,g p.2))) (w:World):
 (Instr.findKey kt (.int .i64 n) es).run P w= .ok (valF g (mfind n kvs 0)) w:=by
 simp only [Instr.findKey,Sem.run_bind,run_underlying hk,Result.andThen_ok,find_now h,Sem.run_pure]
theorem run_key {kt:Nat} {n:Int} {b:Bool} (hk:P.underlying kt=some (.int .i64)) (w:World):(Instr.checkKey b 10000 kt (.int .i64 n)).run P w= .ok () w:=by
 show (Instr.checkKey b (9999+1) kt (.int .i64 n)).run P w=_
 unfold Instr.checkKey
 simp only [Sem.run_bind,run_underlying hk,Result.andThen_ok,Sem.run_pure]
theorem run_obj {b c:Nat} {es:Array MapEntry} (h:w.heap[b]? =some (.map es c)):(getObj b).run P w= .ok (.map es c) w:=by
 simp only [getObj,Sem.run,h]
theorem run_set {b c:Nat} {es:Array MapEntry} {o:Obj} (h:w.heap[b]? =some (.map es c)):(setObj b o).run P w= .ok () { w with heap:=w.heap.setIfInBounds b o }:=by
 simp only [setObj,Sem.run,h]
theorem mfind_get {α:Type} {n:Int}:∀ {kvs:List (Int×α)} {i:Nat},(mfind n kvs i).map (·.2)=mget n kvs
 |[],_=>rfl
 |(k,v)::kvs,i=>by
  simp only [mfind,mget]
  cases n==k with
  |true=>rfl
  |false=>exact mfind_get
theorem mfind_at {α:Type} {n:Int}:∀ {kvs:List (Int×α)} {i j:Nat} {v:α},mfind n kvs i=some (j,v)→i≤j∧kvs[j-i]? =some (n,v)
 |[],_,_,_,h=>by simp [mfind] at h
 |(k,v)::kvs,i,j,b,h=>by
  simp only [mfind] at h
  cases hc:n==k with
  |true=>
   rw [hc] at h
   simp only [cond_true,Option.some.injEq,Prod.mk.injEq] at h
   obtain ⟨rfl,rfl⟩:=h
   have:n=k:=by simpa using hc
   subst this
   simp
  |false=>
   rw [hc] at h
   obtain ⟨h1,h2⟩:=mfind_at (i:=i+1) h
   refine ⟨by omega,?_⟩
   rw [show j-i=(j-(i+1))+1 by omega,List.getElem?_cons_succ]
   exact h2
theorem run_lookup {α:Type} {g:α→Value} {t kt et b c:Nat} {n:Int} {z:α} {es:Array MapEntry} {kvs:List (Int×α)} {ok:Bool} (ht:P.underlying t=some (.map kt et)) (hk:P.underlying kt=some (.int .i64)) (hz:∀w,(zeroValue et).run P w= .ok (g z) w)
 (hb:w.heap[b]? =some (.map es c)) (h:es.toList.map (fun e=>(e.key,e.val))=kvs.map (fun p=>(Value.int .i64 p.1,g p.2))):
 (Instr.lookup t (.map (some b)) (.int .i64 n) ok).run P w= .ok (bif ok then .tuple #[g ((mget n kvs).getD z), .bool (mget n kvs).isSome] else g ((mget n kvs).getD z)) w:=by
 have hf:=run_find (P:=P) (g:=g) (n:=n) hk h w
 have hg:=mfind_get (n:=n) (kvs:=kvs) (i:=0)
 simp only [Instr.lookup,Sem.run_bind,run_underlying ht,Result.andThen_ok,run_obj hb,Sem.run_pure,run_key hk,hf]
 cases hm:mfind n kvs 0 with
 |none=>
  rw [hm] at hg
  simp only [Option.map_none] at hg
  simp only [valF,Sem.run_bind,hz,Result.andThen_ok,Sem.run_pure,←hg,Option.getD_none,Option.isSome_none]
  cases ok<;>rfl
 |some p=>
  obtain ⟨j,v⟩:=p
  rw [hm] at hg
  simp only [Option.map_some] at hg
  simp only [valF,Sem.run_bind,Result.andThen_ok,Sem.run_pure,←hg,Option.getD_some,Option.isSome_some]
  cases ok<;>rfl
theorem run_update {α:Type} {g:α→Value} {t kt et b c:Nat} {n:Int} {v:α} {es:Array MapEntry} {kvs:List (Int×α)} (ht:P.underlying t=some (.map kt et)) (hk:P.underlying kt=some (.int .i64))
 (hb:w.heap[b]? =some (.map es c)) (h:es.toList.map (fun e=>(e.key,e.val))=kvs.map (fun p=>(Value.int .i64 p.1,g p.2))):
 ∃es' c',(Instr.mapUpdate t (.map (some b)) (.int .i64 n) (g v)).run P w= .ok () { w with heap:=w.heap.setIfInBounds b (.map es' c') }∧es'.toList.map (fun e=>(e.key,e.val))=(mput n v kvs).map (fun p=>(Value.int .i64 p.1,g p.2)):=by
 have hf:=run_find (P:=P) (g:=g) (n:=n) hk h w
 simp only [Instr.mapUpdate,Sem.run_bind,run_underlying ht,Result.andThen_ok,run_obj hb,run_key hk,hf]
 cases hm:mfind n kvs 0 with
 |none=>
  refine ⟨es.push { key:= .int .i64 n,val:=g v,born:=c },c+1,?_,?_⟩
  ·simp only [valF]
   exact run_set hb
  ·simp only [mput,hm,Array.toList_push,List.map_append,h,List.map_cons,List.map_nil]
 |some p=>
  obtain ⟨j,v'⟩:=p
  obtain ⟨-,hj⟩:=mfind_at hm
  rw [Nat.sub_zero] at hj
  have hkey:(es[j]?).map (·.key)=some (.int .i64 n):=by
   have h1:=congrArg (·[j]?) h
   simp only [List.getElem?_map,hj,Option.map_some,Array.getElem?_toList] at h1
   cases hx:es[j]? with
   |none=>rw [hx] at h1;simp at h1
   |some e=>
    rw [hx] at h1
    simp only [Option.map_some,Option.some.injEq,Prod.mk.injEq] at h1
    simp [h1.1]
  have hst:∀w:World,(Instr.keyThatStays (.int .i64 n) (.int .i64 n)).run P w= .ok (.int .i64 n) w:=fun w=>by
   simp [Instr.keyThatStays,Instr.sameBits]
  refine ⟨es.modify j fun e=>{ e with key:= .int .i64 n,val:=g v },c,?_,?_⟩
  ·simp only [valF,hkey,Option.getD_some,Sem.run_bind,hst,Result.andThen_ok]
   exact run_set hb
  ·simp only [mput,hm]
   apply List.ext_getElem?
   intro q
   have h1:=congrArg (·[q]?) h
   simp only [List.getElem?_map,Array.getElem?_toList,Array.getElem?_modify,List.getElem?_set] at h1 ⊢
   by_cases hq:j=q
   ·subst hq
    have hlt:j<kvs.length:=(List.getElem?_eq_some_iff.1 hj).1
    cases hx:es[j]? with
    |none=>rw [hx,hj] at h1;simp at h1
    |some e=>simp [hlt]
   ·simpa [hq] using h1
theorem find_asking {kt n:Nat} {k:List Int} (hk:KeyOk P kt n) (hl:k.length=n):∀ {es:List MapEntry} {L:List (List Int×Value)} {i:Nat},es.map (fun e=>(e.key,e.val))=L.map (fun p=>(keyV p.1,p.2))→(∀p∈L,p.1.length=n)→∀w,(Instr.findAsking kt (keyV k) es i).run P w= .ok (sfind k L i) w
 |[],[],i,_,_,w=>rfl
 |[],_::_,_,h,_,_=>by simp at h
 |_::_,[],_,h,_,_=>by simp at h
 |e::es,(k',v)::L,i,h,hL,w=>by
  simp only [List.map_cons,List.cons.injEq,Prod.mk.injEq] at h
  obtain ⟨⟨h1,h2⟩,h3⟩:=h
  have ih:=find_asking hk hl (i:=i+1) h3 (fun p hp=>hL p (by simp [hp])) w
  have hq:=hk.eq k k' w hl (hL (k',v) (by simp))
  simp only [Instr.findAsking,Sem.run_bind,h1,hq,Result.andThen_ok,sfind]
  cases hc:k==k' with
  |true=>simp [h2]
  |false=>simpa using ih
theorem run_findS {kt n:Nat} {k:List Int} (hk:KeyOk P kt n) (hl:k.length=n) {es:List MapEntry} {L:List (List Int×Value)} (h:es.map (fun e=>(e.key,e.val))=L.map (fun p=>(keyV p.1,p.2))) (hL:∀p∈L,p.1.length=n) (w:World):
 (Instr.findKey kt (keyV k) es).run P w= .ok (sfind k L 0) w:=by
 obtain ⟨fs,hu⟩:=hk.under
 simp only [Instr.findKey,Sem.run_bind,run_underlying hu,Result.andThen_ok]
 cases es with
 |nil=>
  cases L with
  |nil=>rfl
  |cons _ _=>simp at h
 |cons e es=>
  have h0:Instr.findNow (.struct fs) (keyV k) (e::es) 0=none:=rfl
  rw [h0]
  exact find_asking hk hl h hL w
theorem sfind_map {α:Type} {g:α→Value} {k:List Int}:∀ {l:List (List Int×α)} {i:Nat},sfind k (l.map fun p=>(p.1,g p.2)) i=valF g (sfind k l i)
 |[],_=>rfl
 |(k',v)::l,i=>by
  simp only [List.map_cons,sfind]
  cases k==k' with
  |true=>rfl
  |false=>exact sfind_map
theorem sfind_get {α:Type} {k:List Int}:∀ {l:List (List Int×α)} {i:Nat},(sfind k l i).map (·.2)=sget k l
 |[],_=>rfl
 |(k',v)::l,i=>by
  simp only [sfind,sget]
  cases k==k' with
  |true=>rfl
  |false=>exact sfind_get
theorem sfind_at {α:Type} {k:List Int}:∀ {l:List (List Int×α)} {i j:Nat} {v:α},sfind k l i=some (j,v)→i≤j∧l[j-i]? =some (k,v)
 |[],_,_,_,h=>by simp [sfind] at h
 |(k',v)::l,i,j,b,h=>by
  simp only [sfind] at h
  cases hc:k==k' with
  |true=>
   rw [hc] at h
   simp only [cond_true,Option.some.injEq,Prod.mk.injEq] at h
   obtain ⟨rfl,rfl⟩:=h
   have:k=k':=by simpa using hc
   subst this
   simp
  |false=>
   rw [hc] at h
   obtain ⟨h1,h2⟩:=sfind_at (i:=i+1) h
   refine ⟨by omega,?_⟩
   rw [show j-i=(j-(i+1))+1 by omega,List.getElem?_cons_succ]
   exact h2
theorem sput_map {α:Type} {g:α→Value} {k:List Int} {v:α} {l:List (List Int×α)}:sput k (g v) (l.map fun p=>(p.1,g p.2))=(sput k v l).map fun p=>(p.1,g p.2):=by
 unfold sput
 rw [sfind_map]
 cases h:sfind k l 0 with
 |none=>simp [valF]
 |some p=>simp [valF,List.map_set]
theorem run_lookupS {t kt et n b c:Nat} {k:List Int} {z:Value} {es:Array MapEntry} {L:List (List Int×Value)} {ok:Bool} (ht:P.underlying t=some (.map kt et)) (hk:KeyOk P kt n) (hl:k.length=n) (hz:∀w,(zeroValue et).run P w= .ok z w)
 (hb:w.heap[b]? =some (.map es c)) (h:es.toList.map (fun e=>(e.key,e.val))=L.map (fun p=>(keyV p.1,p.2))) (hL:∀p∈L,p.1.length=n):
 (Instr.lookup t (.map (some b)) (keyV k) ok).run P w= .ok (bif ok then .tuple #[((sget k L).getD z), .bool (sget k L).isSome] else ((sget k L).getD z)) w:=by
 have hf:=run_findS hk hl h hL w
 have hg:=sfind_get (k:=k) (l:=L) (i:=0)
 simp only [Instr.lookup,Sem.run_bind,run_underlying ht,Result.andThen_ok,run_obj hb,Sem.run_pure,hk.check _ k w hl,hf]
 cases hm:sfind k L 0 with
 |none=>
  rw [hm] at hg
  simp only [Option.map_none] at hg
  simp only [Sem.run_bind,hz,Result.andThen_ok,Sem.run_pure,←hg,Option.getD_none,Option.isSome_none]
  cases ok<;>rfl
 |some p=>
  obtain ⟨j,v⟩:=p
  rw [hm] at hg
  simp only [Option.map_some] at hg
  simp only [Sem.run_bind,Result.andThen_ok,Sem.run_pure,←hg,Option.getD_some,Option.isSome_some]
  cases ok<;>rfl
theorem same_key {k:List Int}:Instr.sameBits 10000 (keyV k) (keyV k)=true:=by
 have hi:∀(n:Nat) (a:Int),Instr.sameBits n (.int .i64 a) (.int .i64 a)=true:=fun n a=>by cases n<;>simp [Instr.sameBits]
 show Instr.sameBits (9999+1) (.agg _) (.agg _)=true
 simp only [Instr.sameBits,keyV,beq_self_eq_true,Bool.true_and,List.all_eq_true]
 rintro ⟨x,y⟩ hxy
 have hxy':(x,y)∈(k.map (Value.int .i64)).zip (k.map (Value.int .i64)):=by simpa using hxy
 obtain ⟨j,hj,he⟩:=List.mem_iff_getElem.1 hxy'
 rw [List.getElem_zip] at he
 simp only [Prod.mk.injEq] at he
 obtain ⟨rfl,rfl⟩:=he
 simp only [List.getElem_map]
 exact hi _ _
theorem Aged.push {es:Array MapEntry} {c:Nat} {k v:Value} (h:Aged es c):Aged (es.push { key:=k,val:=v,born:=c }) (c+1):=by
 refine ⟨by rw [Array.size_push,h.1],fun i e he=>?_⟩
 rw [Array.getElem?_push] at he
 split at he
 ·next hi=>injection he with he;rw [←he,hi,h.1]
 ·exact h.2 i e he
theorem Aged.modify {es:Array MapEntry} {c j:Nat} {f:MapEntry→MapEntry} (h:Aged es c) (hf:∀e,(f e).born=e.born):Aged (es.modify j f) c:=by
 refine ⟨by rw [Array.size_modify];exact h.1,fun i e he=>?_⟩
 rw [Array.getElem?_modify] at he
 split at he
 ·obtain ⟨e0,h0,rfl⟩:=Option.map_eq_some_iff.1 he
  rw [hf];exact h.2 i e0 h0
 ·exact h.2 i e he
theorem key_at {es:Array MapEntry} {L:List (List Int×Value)} {j:Nat} {k:List Int} {v':Value} (h:es.toList.map (fun e=>(e.key,e.val))=L.map (fun p=>(keyV p.1,p.2))) (hj:L[j]? =some (k,v')):(es[j]?).map (·.key)=some (keyV k):=by
 have h1:=congrArg (·[j]?) h
 simp only [List.getElem?_map,hj,Option.map_some,Array.getElem?_toList] at h1
 cases hx:es[j]? with
 |none=>rw [hx] at h1;simp at h1
 |some e=>
  rw [hx] at h1
  simp only [Option.map_some,Option.some.injEq,Prod.mk.injEq] at h1
  simp [h1.1]
theorem run_entry_new {t kt et n b c:Nat} {k:List Int} {z:Value} {es:Array MapEntry} {L:List (List Int×Value)} (ht:P.underlying t=some (.map kt et)) (hk:KeyOk P kt n) (hl:k.length=n) (hz:∀w,(zeroValue et).run P w= .ok z w)
 (hb:w.heap[b]? =some (.map es c)) (h:es.toList.map (fun e=>(e.key,e.val))=L.map (fun p=>(keyV p.1,p.2))) (hL:∀p∈L,p.1.length=n) (hm:sfind k L 0=none):
 ∃es' c',(Instr.mapEntry t (.map (some b)) (keyV k)).run P w= .ok (.tuple #[z, .int .i64 c]) { w with heap:=w.heap.setIfInBounds b (.map es' c') }∧es'.toList.map (fun e=>(e.key,e.val))=(L++[(k,z)]).map (fun p=>(keyV p.1,p.2))∧(Aged es c→Aged es' c'):=by
 have hf:=run_findS hk hl h hL w
 rw [hm] at hf
 refine ⟨es.push { key:=keyV k,val:=z,born:=c },c+1,?_,?_,fun ha=>ha.push⟩
 ·simp only [Instr.mapEntry,Sem.run_bind,run_underlying ht,Result.andThen_ok,run_obj hb,hk.check _ k w hl,hf,hz,run_set hb,Sem.run_pure,goInt]
 ·simp only [Array.toList_push,List.map_append,h,List.map_cons,List.map_nil]
theorem run_entry_old {t kt et n b c:Nat} {k:List Int} {es:Array MapEntry} {L:List (List Int×Value)} {j:Nat} {v:Value} (ht:P.underlying t=some (.map kt et)) (hk:KeyOk P kt n) (hl:k.length=n)
 (hb:w.heap[b]? =some (.map es c)) (h:es.toList.map (fun e=>(e.key,e.val))=L.map (fun p=>(keyV p.1,p.2))) (hL:∀p∈L,p.1.length=n) (hm:sfind k L 0=some (j,v)) (ha:Aged es c):
 ∃es',(Instr.mapEntry t (.map (some b)) (keyV k)).run P w= .ok (.tuple #[v, .int .i64 j]) { w with heap:=w.heap.setIfInBounds b (.map es' c) }∧es'.toList.map (fun e=>(e.key,e.val))=L.map (fun p=>(keyV p.1,p.2))∧Aged es' c:=by
 have hf:=run_findS hk hl h hL w
 rw [hm] at hf
 obtain ⟨-,hj⟩:=sfind_at hm
 rw [Nat.sub_zero] at hj
 have hkey:=key_at h hj
 have hst:∀w:World,(Instr.keyThatStays (keyV k) (keyV k)).run P w= .ok (keyV k) w:=fun w=>by
  simp only [Instr.keyThatStays,same_key,if_true,Sem.run_pure]
 have hborn:((es[j]?).map fun e=>(e.born:Int)).getD 0=(j:Int):=by
  obtain ⟨e,he, -⟩:=Option.map_eq_some_iff.1 hkey
  rw [he];exact congrArg Nat.cast (ha.2 j e he)
 refine ⟨es.modify j fun e=>{ e with key:=keyV k },?_,?_,ha.modify fun e=>rfl⟩
 ·simp only [Instr.mapEntry,Sem.run_bind,run_underlying ht,Result.andThen_ok,run_obj hb,hk.check _ k w hl,hf,hkey,Option.getD_some,hst,run_set hb,Sem.run_pure,goInt,hborn]
 ·rw [←h]
  apply List.ext_getElem?
  intro q
  simp only [List.getElem?_map,Array.getElem?_toList,Array.getElem?_modify]
  by_cases hq:j=q
  ·subst hq
   rw [if_pos rfl]
   obtain ⟨e,he,hek⟩:=Option.map_eq_some_iff.1 hkey
   rw [he];simp [hek]
  ·rw [if_neg hq]
theorem run_entry_put {t b c i:Nat} {k:List Int} {u v0:Value} {es:Array MapEntry} {L:List (List Int×Value)}
 (hb:w.heap[b]? =some (.map es c)) (h:es.toList.map (fun e=>(e.key,e.val))=L.map (fun p=>(keyV p.1,p.2))) (hi:L[i]? =some (k,v0)) (ha:Aged es c):
 ∃es',(Instr.entryStore t (.map (some b)) (.int .i64 i) u).run P w= .ok () { w with heap:=w.heap.setIfInBounds b (.map es' c) }∧es'.toList.map (fun e=>(e.key,e.val))=(L.set i (k,u)).map (fun p=>(keyV p.1,p.2))∧Aged es' c:=by
 have hkey:=key_at h hi
 obtain ⟨e0,he0,hek⟩:=Option.map_eq_some_iff.1 hkey
 have his:i<es.size:=(Array.getElem?_eq_some_iff.1 he0).1
 have hfi:es.findIdx? (fun e=>(e.born:Int)==(i:Int))=some i:=by
  rw [Array.findIdx?_eq_some_iff_getElem]
  refine ⟨his,?_,fun j hj=>?_⟩
  ·have:=ha.2 i es[i] (Array.getElem?_eq_getElem his)
   rw [this];simp
  ·have:=ha.2 j (es[j]'(by omega)) (Array.getElem?_eq_getElem (by omega))
   rw [this];simp;omega
 refine ⟨es.modify i fun e=>{ e with val:=u },?_,?_,ha.modify fun e=>rfl⟩
 ·simp only [Instr.entryStore,Sem.run_bind,Result.andThen_ok,run_obj hb,asInt,asIntOf,Sem.run_pure,hfi,run_set hb]
 ·apply List.ext_getElem?
  intro q
  have h1:=congrArg (·[q]?) h
  simp only [List.getElem?_map,Array.getElem?_toList,Array.getElem?_modify,List.getElem?_set] at h1 ⊢
  by_cases hq:i=q
  ·subst hq
   have hlt:i<L.length:=(List.getElem?_eq_some_iff.1 hi).1
   rw [he0];simp [hlt,hek]
  ·simpa [hq] using h1
theorem run_updateS {t kt et n b c:Nat} {k:List Int} {u:Value} {es:Array MapEntry} {L:List (List Int×Value)} (ht:P.underlying t=some (.map kt et)) (hk:KeyOk P kt n) (hl:k.length=n)
 (hb:w.heap[b]? =some (.map es c)) (h:es.toList.map (fun e=>(e.key,e.val))=L.map (fun p=>(keyV p.1,p.2))) (hL:∀p∈L,p.1.length=n):
 ∃es' c',(Instr.mapUpdate t (.map (some b)) (keyV k) u).run P w= .ok () { w with heap:=w.heap.setIfInBounds b (.map es' c') }∧es'.toList.map (fun e=>(e.key,e.val))=(sput k u L).map (fun p=>(keyV p.1,p.2))∧(Aged es c→Aged es' c'):=by
 have hf:=run_findS hk hl h hL w
 simp only [Instr.mapUpdate,Sem.run_bind,run_underlying ht,Result.andThen_ok,run_obj hb,hk.check _ k w hl,hf]
 cases hm:sfind k L 0 with
 |none=>
  refine ⟨es.push { key:=keyV k,val:=u,born:=c },c+1,run_set hb,?_,fun ha=>ha.push⟩
  simp only [sput,hm,Array.toList_push,List.map_append,h,List.map_cons,List.map_nil]
 |some p=>
  obtain ⟨j,v'⟩:=p
  obtain ⟨-,hj⟩:=sfind_at hm
  rw [Nat.sub_zero] at hj
  have hkey:=key_at h hj
  have hst:∀w:World,(Instr.keyThatStays (keyV k) (keyV k)).run P w= .ok (keyV k) w:=fun w=>by
   simp only [Instr.keyThatStays,same_key,if_true,Sem.run_pure]
  refine ⟨es.modify j fun e=>{ e with key:=keyV k,val:=u },c,?_,?_,fun ha=>ha.modify fun e=>rfl⟩
  ·simp only [hkey,Option.getD_some,Sem.run_bind,hst,Result.andThen_ok]
   exact run_set hb
  ·simp only [sput,hm]
   apply List.ext_getElem?
   intro q
   have h1:=congrArg (·[q]?) h
   simp only [List.getElem?_map,Array.getElem?_toList,Array.getElem?_modify,List.getElem?_set] at h1 ⊢
   by_cases hq:j=q
   ·subst hq
    have hlt:j<L.length:=(List.getElem?_eq_some_iff.1 hj).1
    cases hx:es[j]? with
    |none=>rw [hx,hj] at h1;simp at h1
    |some e=>simp [hlt]
   ·simpa [hq] using h1
theorem ints_sound:∀ {cs:List AV} {K:List Int→Prop},intsK cs K→∃k,K k∧∀us,All2 (RC B G w) cs us→us=k.map (Value.int .i64)
 |[],K,h=>⟨[],h,fun us hA=>hA.nil_inv⟩
 |c::cs,K,h=>by
  unfold intsK at h
  split at h
  ·next=>rename_i e;cases e
  ·next n cs' e=>
   injection e with e1 e2
   subst e1 e2
   obtain ⟨k,h1,h2⟩:=ints_sound (cs:=cs) h
   refine ⟨_,h1,fun us hA=>?_⟩
   obtain ⟨u,us',rfl,k1,k2⟩:=hA.cons_inv
   obtain rfl:=(RC.ra k1).int_inv
   rw [h2 us' k2];rfl
  ·exact h.elim
theorem vals_sound:∀ {cs:List AV} {K:List Value→Prop},valsK cs K→∃vs,K vs∧∀us,All2 (RC B G w) cs us→us=vs
 |[],K,h=>⟨[],h,fun us hA=>hA.nil_inv⟩
 |c::cs,K,h=>by
  cases c
  case int k n=>
   obtain ⟨vs,h1,h2⟩:=vals_sound (cs:=cs) h
   refine ⟨_,h1,fun us hA=>?_⟩
   obtain ⟨u,us',rfl,k1,k2⟩:=hA.cons_inv
   obtain rfl:=(RC.ra k1).int_inv
   rw [h2 us' k2]
  case bool b=>
   obtain ⟨vs,h1,h2⟩:=vals_sound (cs:=cs) h
   refine ⟨_,h1,fun us hA=>?_⟩
   obtain ⟨u,us',rfl,k1,k2⟩:=hA.cons_inv
   obtain rfl:=(RC.ra k1).bool_inv
   rw [h2 us' k2]
  case str b=>
   obtain ⟨vs,h1,h2⟩:=vals_sound (cs:=cs) h
   refine ⟨_,h1,fun us hA=>?_⟩
   obtain ⟨u,us',rfl,k1,k2⟩:=hA.cons_inv
   obtain rfl:=(RC.ra k1).str_inv
   rw [h2 us' k2]
  all_goals exact h.elim
theorem sound_binOp (hT:TabOk P T) (S:Sim tt w0 G s a w) (o:Oper) (hd:∀x,o.dst=some x→x<a.tmps.size) {K:St→Prop} {op:BinOp} {t yt:Nat} {x y:Operand} (ho:o.op= .binOp op t x y yt) (h:aop P T tt o K s):o.wp P a w (Nxt tt w0 a.tmps.size (some G) K) Q:=by
 simp only [aop,ho] at h
 have hx:=S.eval x
 have hy:=S.eval y
 split at h
 ·next cs ds hcs hds=>
  rw [hcs] at hx
  rw [hds] at hy
  obtain ⟨us1,e1,A1⟩:=hx
  obtain ⟨us2,e2,A2⟩:=hy
  split at h
  ·obtain ⟨vs,h1,k1⟩:=vals_sound (B:=w0.B) (G:=G) (w:=w) h
   obtain ⟨us,h2,k2⟩:=vals_sound (B:=w0.B) (G:=G) (w:=w) h1
   obtain ⟨hg,b,hr,h3⟩:=eqS_iff.1 h2
   rw [k1 us1 A1] at e1
   rw [k2 us2 A2] at e2
   refine val_wp (u:= .bool b) (w':=w) ?_ (put_sound S hd (v:= .bool b) (RepV.bool b) (Kp.refl G) h3)
   simp only [execOp,ho,e1,e2,Sem.run_bind,run_eqGuard_agg w _ _ _ _ _ _ hg,Result.andThen_ok,run_eql_struct,hr,Sem.run_pure]
  ·obtain ⟨vs,h1,k1⟩:=vals_sound (B:=w0.B) (G:=G) (w:=w) h
   obtain ⟨us,h2,k2⟩:=vals_sound (B:=w0.B) (G:=G) (w:=w) h1
   obtain ⟨hg,b,hr,h3⟩:=eqS_iff.1 h2
   rw [k1 us1 A1] at e1
   rw [k2 us2 A2] at e2
   refine val_wp (u:= .bool (!b)) (w':=w) ?_ (put_sound S hd (v:= .bool (!b)) (RepV.bool _) (Kp.refl G) h3)
   simp only [execOp,ho,e1,e2,Sem.run_bind,run_eqGuard_agg w _ _ _ _ _ _ hg,Result.andThen_ok,run_neq_struct,hr,Sem.run_pure]
  ·exact h.elim
 ·exact aval_wp hT S o hd (Kp.refl G) (by rw [ho];exact h)
theorem sound_makeMap (S:Sim tt w0 G s a w) (o:Oper) (hd:∀x,o.dst=some x→x<a.tmps.size) {K:St→Prop} {t:Nat} {r:Option Operand} (ho:o.op= .makeMap t r) (h:aop P T tt o K s):o.wp P a w (Nxt tt w0 a.tmps.size (some G) K) Q:=by
 simp only [aop,ho] at h
 split at h
 ·next d hdd=>
  have hb:∀b,b<w.heap.size→(w.alloc (.map #[] 0)).heap[b]? =w.heap[b]? :=fun b hb=>Below.heap_alloc _ _ _ hb
  have S1:=S.setOwn (w':=w.alloc (.map #[] 0)) d (.slice (some ⟨w.heap.size,0,none⟩) 0 0) (by simp) (fun b h _=>hb b h) (fun b h=>by
   simp only [Value.ownBlock,Option.some.injEq] at h
   exact .inr ⟨by omega,by simp;omega⟩) (S.chg.alloc _)
  refine val_wp (u:= .map (some w.heap.size)) (w':=w.alloc (.map #[] 0)) ?_ ?_
  ·simp only [execOp,ho,Option.map_none,Instr.makeMap,newObj,Sem.run_bind,Sem.run,Result.andThen_ok,Sem.run_pure]
   rfl
  ·rw [hdd]
   rcases mkMapS_iff.1 h with h|h
   ·exact ⟨_,_,S1.put (v:= .mp d (.b [])) (hd d hdd) ⟨w.heap.size, #[],0,upd_same,rfl,heap_alloc_new w _,rfl⟩,size_put,h,(Kp.refl G).of rfl rfl⟩
   ·rcases mkMapS_iff.1 h with h|h
    ·exact ⟨_,_,S1.put (v:= .mp d (.i [])) (hd d hdd) ⟨w.heap.size, #[],0,upd_same,rfl,heap_alloc_new w _,rfl⟩,size_put,h,(Kp.refl G).of rfl rfl⟩
    ·rcases mkMapS_iff.1 h with h|⟨e,z,h⟩
     ·exact ⟨_,_,S1.put (v:= .mp d (.si [])) (hd d hdd) ⟨w.heap.size, #[],0,upd_same,rfl,heap_alloc_new w _,rfl⟩,size_put,h,(Kp.refl G).of rfl rfl⟩
     ·exact ⟨_,_,S1.put (v:= .mm d e z [] []) (hd d hdd) ⟨w.heap.size, #[],0,[],upd_same,rfl,heap_alloc_new w _,rfl,rfl,rfl,fun i es h=>by simp at h,rfl,fun i e h=>by simp at h⟩,size_put,h,(Kp.refl G).of rfl rfl⟩
 ·exact h.elim
theorem zip_at {ks:List (List Int)} {hs:List Value} {i:Nat} {k:List Int} {v:Value} (h1:ks[i]? =some k) (h2:hs[i]? =some v):(ks.zip hs)[i]? =some (k,v):=by
 rw [List.getElem?_zip_eq_some];exact ⟨h1,h2⟩
theorem zip_fst {ks:List (List Int)} {hs:List Value} {i:Nat} {k:List Int} {v:Value} (h:(ks.zip hs)[i]? =some (k,v)):ks[i]? =some k:=(List.getElem?_zip_eq_some.1 h).1
theorem sfind_first {α:Type} {k:List Int}:∀ {L:List (List Int×α)} {i j:Nat} {v:α},L[i]? =some (k,v)→(∀q,q<i→∀v',L[q]? ≠some (k,v'))→sfind k L j=some (j+i,v)
 |[],_,_,_,h,_=>by simp at h
 |(k',v')::L,0,j,v,h,_=>by
  simp only [List.getElem?_cons_zero,Option.some.injEq,Prod.mk.injEq] at h
  obtain ⟨rfl,rfl⟩:=h
  simp [sfind]
 |(k',v')::L,i+1,j,v,h,hf=>by
  have hne:(k==k')=false:=by
   rw [beq_eq_false_iff_ne]
   rintro rfl
   exact hf 0 (by omega) v' rfl
  rw [List.getElem?_cons_succ] at h
  rw [sfind,hne,cond_false,sfind_first h fun q hq v''=>by have:=hf (q+1) (by omega) v'';rwa [List.getElem?_cons_succ] at this]
  congr 2;omega
theorem sound_lookup (S:Sim tt w0 G s a w) (o:Oper) (hd:∀x,o.dst=some x→x<a.tmps.size) {K:St→Prop} {t:Nat} {x k:Operand} {ok:Bool} (ho:o.op= .lookup t x k ok) (h:aop P T tt o K s):o.wp P a w (Nxt tt w0 a.tmps.size (some G) K) Q:=by
 simp only [aop,ho] at h
 have hx:=S.eval x
 have hk:=S.eval k
 split at h
 ·next tg kvs n hxe hke=>
  rw [hxe] at hx
  rw [hke] at hk
  rw [mapTy_iff] at h
  obtain ⟨⟨kt,et,h1,h2,h3⟩,h4⟩:=h
  obtain ⟨b,es,c,m1,m2,m3,m4⟩:=(show MpRep G w tg (.b kvs) (a.eval x) from hx)
  have hr:=run_lookup (P:=P) (g:=Value.bool) (z:=false) (n:=n) (ok:=ok) h1 h2 h3 m3 m4
  refine val_wp (u:=bif ok then .tuple #[.bool ((mget n kvs).getD false), .bool (mget n kvs).isSome] else .bool ((mget n kvs).getD false)) (w':=w) ?_ ?_
  ·simp only [execOp,ho,m2,hk.int_inv,Sem.run_bind,hr,Result.andThen_ok,Sem.run_pure]
  ·refine put_sound S hd (v:=bif ok then .tup [.bool ((mget n kvs).getD false), .bool (mget n kvs).isSome] else .bool ((mget n kvs).getD false)) ?_ (Kp.refl G) h4
   cases ok with
   |true=>exact ⟨[.bool _, .bool _],rfl,RepV.bool _,RepV.bool _,trivial⟩
   |false=>exact RepV.bool _
 ·next tg kvs n hxe hke=>
  rw [hxe] at hx
  rw [hke] at hk
  rw [mapTy_iff] at h
  obtain ⟨⟨kt,et,h1,h2,h3⟩,h4⟩:=h
  obtain ⟨b,es,c,m1,m2,m3,m4⟩:=(show MpRep G w tg (.i kvs) (a.eval x) from hx)
  have hr:=run_lookup (P:=P) (g:=Value.int .i64) (z:=0) (n:=n) (ok:=ok) h1 h2 h3 m3 m4
  refine val_wp (u:=bif ok then .tuple #[.int .i64 ((mget n kvs).getD 0), .bool (mget n kvs).isSome] else .int .i64 ((mget n kvs).getD 0)) (w':=w) ?_ ?_
  ·simp only [execOp,ho,m2,hk.int_inv,Sem.run_bind,hr,Result.andThen_ok,Sem.run_pure]
  ·refine put_sound S hd (v:=bif ok then .tup [.int .i64 ((mget n kvs).getD 0), .bool (mget n kvs).isSome] else .int .i64 ((mget n kvs).getD 0)) ?_ (Kp.refl G) h4
   cases ok with
   |true=>exact ⟨[.int .i64 _, .bool _],rfl,RepV.int _ _,RepV.bool _,trivial⟩
   |false=>exact RepV.int _ _
 ·next tg kvs cs hxe hke=>
  rw [hxe] at hx
  rw [hke] at hk
  obtain ⟨key,h,hus⟩:=ints_sound (B:=w0.B) (G:=G) (w:=w) h
  obtain ⟨us,hku,hA⟩:=hk
  rw [hus us hA] at hku
  obtain ⟨⟨kt,et,h1,h2,h3⟩,hks,h4⟩:=h.out
  obtain ⟨b,es,c,m1,m2,m3,m4⟩:=(show MpRep G w tg (.si kvs) (a.eval x) from hx)
  have m5:es.toList.map (fun e=>(e.key,e.val))=(kvs.map fun p=>(p.1,Value.int .i64 p.2)).map (fun p=>(keyV p.1,p.2)):=by rw [m4,List.map_map];rfl
  have hr:=run_lookupS (P:=P) (ok:=ok) h1 h2 rfl h3 m3 m5 (fun p hp=>by
   obtain ⟨q,hq,rfl⟩:=List.mem_map.1 hp
   exact hks q.1 (List.mem_map.2 ⟨q,hq,rfl⟩))
  have hsg:sget key (kvs.map fun p=>(p.1,Value.int .i64 p.2))=(sget key kvs).map (Value.int .i64):=by
   rw [←sfind_get (i:=0),sfind_map,←sfind_get (l:=kvs) (i:=0)]
   cases sfind key kvs 0<;>rfl
  rw [hsg] at hr
  have hg0:((sget key kvs).map (Value.int .i64)).getD (.int .i64 0)= .int .i64 ((sget key kvs).getD 0):=by cases sget key kvs<;>rfl
  have hg1:((sget key kvs).map (Value.int .i64)).isSome=(sget key kvs).isSome:=by cases sget key kvs<;>rfl
  rw [hg0,hg1] at hr
  refine val_wp (u:=bif ok then .tuple #[.int .i64 ((sget key kvs).getD 0), .bool (sget key kvs).isSome] else .int .i64 ((sget key kvs).getD 0)) (w':=w) ?_ ?_
  ·simp only [execOp,ho,m2,hku,show Value.agg (key.map (Value.int .i64)).toArray=keyV key from rfl,Sem.run_bind,hr,Result.andThen_ok,Sem.run_pure]
  ·refine put_sound S hd (v:=bif ok then .tup [.int .i64 ((sget key kvs).getD 0), .bool (sget key kvs).isSome] else .int .i64 ((sget key kvs).getD 0)) ?_ (Kp.refl G) h4
   cases ok with
   |true=>exact ⟨[.int .i64 _, .bool _],rfl,RepV.int _ _,RepV.bool _,trivial⟩
   |false=>exact RepV.int _ _
 ·next tg e z ks rows cs hxe hke=>
  split at h
  ·rw [hxe] at hx
   rw [hke] at hk
   obtain ⟨key,h,hus⟩:=ints_sound (B:=w0.B) (G:=G) (w:=w) h
   obtain ⟨us,hku,hA⟩:=hk
   rw [hus us hA] at hku
   obtain ⟨⟨kt,et,h1,h2,h3⟩,hks,h4⟩:=h.out
   obtain ⟨b,es,c,hs,m1,m2,m3,m4,m5,m6,m7,m8⟩:=(show MmRep w0.B G w tg e z ks rows (a.eval x) from hx)
   have hr:=run_lookupS (P:=P) (ok:=false) h1 h2 rfl h3 m3 m4 (fun p hp=>hks p.1 (List.of_mem_zip hp).1)
   simp only [cond_false] at hr
   rcases h4.out with ⟨hno,h5⟩|⟨i,r,hki,hfi,hri,h5⟩
   ·have hsg:sget key (ks.zip hs)=none:=by
     rw [←sfind_get (i:=0)]
     cases hf:sfind key (ks.zip hs) 0 with
     |none=>rfl
     |some p=>
      have:=sfind_at (j:=p.1) (v:=p.2) hf
      exact absurd (List.of_mem_zip (List.mem_of_getElem? this.2)).1 hno
    rw [hsg] at hr
    refine val_wp (u:= .slice none 0 0) (w':=w) ?_ (put_sound S hd (v:= .nil) rfl (Kp.refl G) h5)
    simp only [execOp,ho,m2,hku,show Value.agg (key.map (Value.int .i64)).toArray=keyV key from rfl,Sem.run_bind,hr,Result.andThen_ok,Sem.run_pure]
    rfl
   ·obtain ⟨u,q1,q2,q3⟩:=m7 i r hri
    have hsf:=sfind_first (L:=ks.zip hs) (i:=i) (v:=u) (k:=key) (j:=0) (zip_at hki q1) (fun j hj v hv=>hfi j hj (zip_fst hv))
    have hsg:sget key (ks.zip hs)=some u:=by rw [←sfind_get (i:=0),hsf];rfl
    rw [hsg] at hr
    refine val_wp (u:=u) (w':=w) ?_ (put_sound S hd (v:= .own (.r tg i) e z r) (show RC w0.B G w (.own (.r tg i) e z r) u from ⟨q2,q3⟩) (Kp.refl G) h5)
    simp only [execOp,ho,m2,hku,show Value.agg (key.map (Value.int .i64)).toArray=keyV key from rfl,Sem.run_bind,hr,Result.andThen_ok,Sem.run_pure]
    rfl
  ·exact h.elim
 ·exact h.elim
theorem upd_map (S:Sim tt w0 G s a w) (o:Oper) {K:St→Prop} {t:Nat} {x k y:Operand} (ho:o.op= .mapUpdate t x k y) {α:Type} {g:α→Value} {mk:List (Int×α)→Kv} (hmk:∀l,(mk l).vals=l.map fun p=>(Value.int .i64 p.1,g p.2)) {tg:Nat} {kvs:List (Int×α)} {n:Int} {v:α} {z:Value}
 (hxe:s.eval x= .mp tg (mk kvs)) (hkn:a.eval k= .int .i64 n) (hyv:a.eval y=g v) (hdd:o.dst=none) (h:mapTy P t z (K (s.map (mapF tg (mk (mput n v kvs)))))):o.wp P a w (Nxt tt w0 a.tmps.size (some G) K) Q:=by
 have hx:=S.eval x
 rw [hxe] at hx
 rw [mapTy_iff] at h
 obtain ⟨⟨kt,et,h1,h2,h3⟩,h4⟩:=h
 obtain ⟨b,es,c,m1,m2,m3,m4⟩:=(show MpRep G w tg (mk kvs) (a.eval x) from hx)
 rw [hmk] at m4
 obtain ⟨es',c',r1,r2⟩:=run_update (P:=P) (g:=g) (n:=n) (v:=v) h1 h2 m3 m4
 have hlt:b<w.heap.size:=(Array.getElem?_eq_some_iff.1 m3).1
 have hne:∀b',b'≠b→({ w with heap:=w.heap.setIfInBounds b (.map es' c') }:World).heap[b']? =w.heap[b']? :=fun b' hb'=>by
  simp only [Array.getElem?_setIfInBounds]
  rw [if_neg (fun e=>hb' e.symm)]
 have hbn:Nw w0 b:=(S.ownLt tg _ b m1 rfl).1
 have hchg:ChgQ (Qt tt) (CX w0 G) w0 { w with heap:=w.heap.setIfInBounds b (.map es' c') }:=
  ⟨S.chg.os,S.chg.tape,S.chg.output,by simpa using S.chg.size,fun b' hb' hX=>(hne b' (fun e=>hbn.elim (fun h=>by omega) fun h=>hX (.inr (e▸h)))).trans (S.chg.block b' hb' hX),S.chg.drawn⟩
 have S1:=S.storeMap (es:=es') (c:=c') (kvs:=mk (mput n v kvs)) m1 hne (by simp [hlt]) (by simp) (by rw [hmk];exact r2) hchg
 refine skip_wp hdd (w':={ w with heap:=w.heap.setIfInBounds b (.map es' c') }) ?_ ⟨_,_,S1,rfl,h4,(Kp.refl G).of rfl rfl⟩
 simp only [execOp,ho,m2,hkn,hyv,Sem.run_bind,r1,Result.andThen_ok,Sem.run_pure]
theorem Sim.storeMM (S:Sim tt w0 G s a w) {t b c e0 z0:Nat} {es:Array MapEntry} {ks':List (List Int)} {rows':List (Option (List (List AV)))} {hs':List Value} (hT:G.own (.s t)=some (.slice (some ⟨b,0,none⟩) 0 0)) (hne:∀b',b'≠b→w'.heap[b']? =w.heap[b']?) (hb:w'.heap[b]? =some (.map es c)) (hsz:w'.heap.size=w.heap.size)
 (hkv:es.toList.map (fun e=>(e.key,e.val))=(ks'.zip hs').map (fun p=>(keyV p.1,p.2))) (hl1:hs'.length=ks'.length) (hl2:rows'.length=ks'.length)
 (hrows:∀i r,rows'[i]? =some (some r)→∃h,hs'[i]? =some h∧G.own (.r t i)=some h∧OwnRep w0.B (GX G) w e0 z0 r h) (hag:Aged es c) (hchg:ChgQ (Qt tt) (CX w0 G) w0 w'):Sim tt w0 G (s.map (mapMF t e0 z0 ks' rows')) a w':=by
 have hg:GM G b:= .inr (.inl ⟨.s t,_,hT,rfl⟩)
 have H:Shift (· ≠Tg.s t) (fun _=>True) G G w w':=⟨fun b' _ hn=>hne b' fun e=>hn (e▸hg),fun b _ h=>h,fun b h=>h,fun tg v h hk=>⟨h,fun b' hv=>hne b' fun e=>hk (S.ownInj tg (.s t) v _ b h hT (e▸hv) rfl)⟩,fun t b h _=>h,fun p h=>h,fun b' h=>hne b' fun e=>S.fz2 (.s t) _ b hT rfl (e▸h),fun b h=>h,rfl,fun _ _=>rfl,rfl⟩
 have nb:∀ {tg:Tg},tg.base≠t→tg≠ .s t:=fun h e=>h (by rw [e];rfl)
 have hc:∀v u',RC w0.B G w v u'→RC w0.B G w' (mapMF t e0 z0 ks' rows' v) u':=fun v u' h=>by
  cases v
  case own t' e z es=>
   by_cases ht:t'.base=t
   ·simp only [mapMF,ht,beq_self,cond_true];trivial
   ·simp only [mapMF,beq_ne ht,cond_false];exact H.rc (v:= .own t' e z es) (nb ht) h
  case mat t' e e2 z2 rows=>
   by_cases ht:t'=t
   ·subst ht;simp only [mapMF,beq_self,cond_true];trivial
   ·simp only [mapMF,beq_ne ht,cond_false];exact H.rc (v:= .mat t' e e2 z2 rows) ⟨fun e=>ht (by injection e),fun i=>nofun⟩ h
  case mpt=>simp only [RC] at h;cases h
  case ept=>simp only [RC] at h;cases h
  case mp=>simp only [RC] at h;cases h
  case mm=>simp only [RC] at h;cases h
  case win=>simp only [RC] at h;cases h
  all_goals exact H.rc (by first|trivial|exact fun v _=>by cases v<;>trivial) h
 have hp:∀v u',RP w0.B G w v u'→RP w0.B G w' (mapMF t e0 z0 ks' rows' v) u':=fun v u' h=>by
  cases v
  case own t' e z es=>exact (hc (.own t' e z es) u' h).rp
  case mat t' e e2 z2 rows=>exact (hc (.mat t' e e2 z2 rows) _ h).rp
  case ept t' i off cs=>
   by_cases ht:t'.base=t
   ·simp only [mapMF,ht,beq_self,cond_true];trivial
   ·simp only [mapMF,beq_ne ht,cond_false];exact H.rp (v:= .ept t' i off cs) (nb ht) h
  case win t' lo z es=>
   by_cases ht:t'.base=t
   ·simp only [mapMF,ht,beq_self,cond_true];trivial
   ·simp only [mapMF,beq_ne ht,cond_false];exact H.rp (v:= .win t' lo z es) (nb ht) h
  case mp t' kvs=>
   by_cases ht:t'=t
   ·subst ht;simp only [mapMF,beq_self,cond_true];trivial
   ·simp only [mapMF,beq_ne ht,cond_false];exact H.rp (v:= .mp t' kvs) (fun e=>ht (by injection e)) h
  case mpt t' i2 e2 z2 o=>
   by_cases ht:t'=t
   ·subst ht;simp only [mapMF,beq_self,cond_true];trivial
   ·simp only [mapMF,beq_ne ht,cond_false];exact H.rp (v:= .mpt t' i2 e2 z2 o) ⟨fun e=>ht (by injection e),nofun⟩ h
  case mm t' e z ks rows=>
   by_cases ht:t'=t
   ·subst ht
    simp only [mapMF,beq_self,cond_true]
    by_cases he:e=e0
    ·by_cases hz:z=z0
     ·subst he hz
      simp only [beq_self,Bool.and_self,cond_true]
      obtain ⟨b',es',c',hs,h1,rfl,h3, -⟩:=h
      rw [hT] at h1
      simp only [Option.some.injEq,Value.slice.injEq,Addr.mk.injEq,and_true] at h1
      subst h1
      refine ⟨b,es,c,hs',hT,rfl,hb,hkv,hl1,hl2,fun i r hr=>?_,hag⟩
      obtain ⟨h,q1,q2,q3⟩:=hrows i r hr
      exact ⟨h,q1,q2,H.ownRep ((H.own (.r t' i) h q2 nofun).2) q3⟩
     ·simp only [beq_ne hz,Bool.and_false,cond_false];trivial
    ·simp only [beq_ne he,Bool.false_and,cond_false];trivial
   ·simp only [mapMF,beq_ne ht,cond_false];exact H.rp (v:= .mm t' e z ks rows) ⟨fun e=>ht (by injection e),fun i=>nofun⟩ h
  all_goals exact H.rp (by first|trivial|exact fun v _=>by cases v<;>trivial) h
 refine S.shift (f:=mapMF t e0 z0 ks' rows') H hp hc (fun t' b' h _=>⟨b',h,rfl,hne b' fun e=>S.boxOwn t' (.s t) _ b (e▸h) hT rfl⟩) hchg (by omega) (fun t b h=>by rw [hsz];exact S.boxLt t b h) (fun t v b h h'=>by rw [hsz];exact S.ownLt t v b h h') S.boxInj S.ownInj S.boxOwn S.tapeBox S.tapeOwn
  (S.tapeShift H rfl (fun p hp=>hne p fun e=>S.tapeOwn (.s t) _ b (e▸hp) hT rfl) rfl) S.noTape S.fz2 S.fz3 S.tapeNew
theorem map_slot {f:AV→AV} {x:Operand} {v v':AV} (h:s.eval x=v) (hv:v≠ .undef) (hc:∀c,x≠ .const c) (hf:∀g,x≠ .func g) (hg:∀g,x≠ .global g) (e:v.mapT f=v'):(s.map f).eval x=v':=by
 cases x
 case tmp t=>
  have h':(bif Nat.blt t 1000 then s.slot t else AV.undef)=v:=h
  show (bif Nat.blt t 1000 then (s.slot t).mapT f else AV.undef)=v'
  cases hb:Nat.blt t 1000 with
  |true=>
   rw [hb] at h'
   simp only [cond_true] at h' ⊢
   rw [h',e]
  |false=>
   rw [hb] at h'
   simp only [cond_false] at h'
   exact absurd h'.symm hv
 case const c=>exact absurd rfl (hc c)
 case func g=>exact absurd rfl (hf g)
 case global g=>exact absurd rfl (hg g)
theorem zip_set {u:Value} {k:List Int}:∀ {ks:List (List Int)} {hs:List Value} {i:Nat},ks[i]? =some k→(ks.zip hs).set i (k,u)=ks.zip (hs.set i u)
 |[],_,_,h=>by simp at h
 |k'::ks,[],i,h=>by simp
 |k'::ks,v::hs,0,h=>by
  simp only [List.getElem?_cons_zero,Option.some.injEq] at h
  subst h;rfl
 |k'::ks,v::hs,i+1,h=>by
  simp only [List.zip_cons_cons,List.set_cons_succ,zip_set (hs:=hs) (by simpa using h)]
theorem sput_new {α:Type} {k:List Int} {v:α} {L:List (List Int×α)} (h:∀p∈L,p.1≠k):sput k v L=L++[(k,v)]:=by
 unfold sput
 cases hf:sfind k L 0 with
 |none=>rfl
 |some p=>
  have:=sfind_at (j:=p.1) (v:=p.2) hf
  exact absurd rfl (h _ (List.mem_of_getElem? this.2))
theorem sput_old {α:Type} {k:List Int} {v v0:α} {L:List (List Int×α)} {i:Nat} (h:L[i]? =some (k,v0)) (hf:∀q,q<i→∀v',L[q]? ≠some (k,v')):sput k v L=L.set i (k,v):=by
 unfold sput
 rw [sfind_first h hf]
 simp
theorem sound_update (S:Sim tt w0 G s a w) (o:Oper) {K:St→Prop} {t:Nat} {x k y:Operand} (ho:o.op= .mapUpdate t x k y) (h:aop P T tt o K s):o.wp P a w (Nxt tt w0 a.tmps.size (some G) K) Q:=by
 simp only [aop,ho] at h
 have hk:=S.eval k
 have hy:=S.eval y
 split at h
 ·next tg kvs n v hxe hke hye hdd=>
  rw [hke] at hk
  rw [hye] at hy
  exact upd_map S o ho (g:=Value.bool) (mk:=Kv.b) (fun l=>rfl) hxe hk.int_inv hy.bool_inv hdd h
 ·next tg kvs n v hxe hke hye hdd=>
  rw [hke] at hk
  rw [hye] at hy
  exact upd_map S o ho (g:=Value.int .i64) (mk:=Kv.i) (fun l=>rfl) hxe hk.int_inv hy.int_inv hdd h
 ·next tg kvs cs v hxe hke hye hdd=>
  have hx:=S.eval x
  rw [hxe] at hx
  rw [hke] at hk
  rw [hye] at hy
  obtain ⟨key,h,hus⟩:=ints_sound (B:=w0.B) (G:=G) (w:=w) h
  obtain ⟨us,hku,hA⟩:=hk
  rw [hus us hA] at hku
  obtain ⟨⟨kt,et,h1,h2,h3⟩,hks,h4⟩:=h.out
  obtain ⟨b,es,c,m1,m2,m3,m4⟩:=(show MpRep G w tg (.si kvs) (a.eval x) from hx)
  have m5:es.toList.map (fun e=>(e.key,e.val))=(kvs.map fun p=>(p.1,Value.int .i64 p.2)).map (fun p=>(keyV p.1,p.2)):=by rw [m4,List.map_map];rfl
  obtain ⟨es',c',r1,r2, -⟩:=run_updateS (P:=P) (u:= .int .i64 v) h1 h2 rfl m3 m5 (fun p hp=>by
   obtain ⟨q,hq,rfl⟩:=List.mem_map.1 hp
   exact hks q.1 (List.mem_map.2 ⟨q,hq,rfl⟩))
  rw [sput_map (g:=Value.int .i64),List.map_map] at r2
  have hlt:b<w.heap.size:=(Array.getElem?_eq_some_iff.1 m3).1
  have hne:∀b',b'≠b→({ w with heap:=w.heap.setIfInBounds b (.map es' c') }:World).heap[b']? =w.heap[b']? :=fun b' hb'=>by
   simp only [Array.getElem?_setIfInBounds]
   rw [if_neg (fun e=>hb' e.symm)]
  have hbn:Nw w0 b:=(S.ownLt tg _ b m1 rfl).1
  have hchg:ChgQ (Qt tt) (CX w0 G) w0 { w with heap:=w.heap.setIfInBounds b (.map es' c') }:=
   ⟨S.chg.os,S.chg.tape,S.chg.output,by simpa using S.chg.size,fun b' hb' hX=>(hne b' (fun e=>hbn.elim (fun h=>by omega) fun h=>hX (.inr (e▸h)))).trans (S.chg.block b' hb' hX),S.chg.drawn⟩
  have S1:=S.storeMap (es:=es') (c:=c') (kvs:= .si (sput key v kvs)) m1 hne (by simp [hlt]) (by simp) (by rw [r2];rfl) hchg
  refine skip_wp hdd (w':={ w with heap:=w.heap.setIfInBounds b (.map es' c') }) ?_ ⟨_,_,S1,rfl,h4,(Kp.refl G).of rfl rfl⟩
  simp only [execOp,ho,m2,hku,show Value.agg (key.map (Value.int .i64)).toArray=keyV key from rfl,hy.int_inv,Sem.run_bind,r1,Result.andThen_ok,Sem.run_pure]
 ·next tg e z ks rows cs T' e' z' es0 hxe hke hye hdd=>
  split at h
  ·next hq=>
   simp only [Bool.and_eq_true,Bool.not_eq_true',Nat.beq_eq] at hq
   obtain ⟨⟨e1,e2⟩,e3⟩:=hq
   subst e1 e2
   have hTt:T'≠tg:=fun e=>by subst e;simp at e3
   rw [hke] at hk
   rw [hye] at hy
   obtain ⟨key,h,hus⟩:=ints_sound (B:=w0.B) (G:=G) (w:=w) h
   obtain ⟨us,hku,hA⟩:=hk
   rw [hus us hA] at hku
   obtain ⟨⟨kt,et,h1,h2,h3⟩,hks,h4⟩:=h.out
   have nc:(∀c,x≠ .const c)∧(∀g,x≠ .func g)∧(∀g,x≠ .global g):=by
    refine ⟨fun c e=>?_,fun g e=>?_,fun g e=>?_⟩
    ·subst e
     simp only [St.eval,ofValue] at hxe
     split at hxe<;>cases hxe
    ·subst e;simp only [St.eval] at hxe;cases hxe
    ·subst e
     simp only [St.eval] at hxe
     split at hxe<;>cases hxe
   have core:∀(i:Nat) (ks':List (List Int)),ks'.length=(rows.set i (some es0)).length∨True→∀(hs':List Value→List Value) (rows':List (Option (List (List AV)))),(∀hs:List Value,hs.length=ks.length→rows.length=ks.length→(∀p∈ks.zip hs,p.1.length=key.length)→sput key (a.eval y) (ks.zip hs)=ks'.zip (hs' hs)∧(hs' hs).length=ks'.length∧rows'.length=ks'.length∧(hs' hs)[i]? =some (a.eval y)∧(∀j r,j≠i→rows'[j]? =some (some r)→(rows.set i none)[j]? =some (some r)∧(hs' hs)[j]? =hs[j]?)∧∀r,rows'[i]? =some (some r)→r=es0)→
    K ((s.map fun v=>rowsF tg e' z' (·.set i none) (killF (.s T') v)).map (mapMF tg e' z' ks' rows'))→o.wp P a w (Nxt tt w0 a.tmps.size (some G) K) Q:=fun i ks' _ hs' rows' hp hK=>by
    obtain ⟨G1,S1,k1,k2,k3,k4,k5⟩:=S.giveRow (t:=tg) (k:=i) hTt (show RC w0.B G w (.own (.s T') e' z' es0) (a.eval y) from hy)
    have hx1:=S1.eval x
    rw [map_slot (f:=fun v=>rowsF tg e' z' (·.set i none) (killF (.s T') v)) hxe (by simp) nc.1 nc.2.1 nc.2.2 (v':= .mm tg e' z' ks (rows.set i none)) (by
     have hb1:Nat.beq tg T'=false:=beq_ne (Ne.symm hTt)
     simp only [AV.mapT,killF,Tg.base,hb1,cond_false,rowsF,beq_self,Bool.and_self,cond_true])] at hx1
    obtain ⟨b,es,c,hs,m1,m2,m3,m4,m5,m6,m7,m8⟩:=(show MmRep w0.B G1 w tg e' z' ks (rows.set i none) (a.eval x) from hx1)
    rw [List.length_set] at m6
    have hzl:∀p∈ks.zip hs,p.1.length=key.length:=fun p hp=>hks p.1 (List.of_mem_zip hp).1
    obtain ⟨q1,q2,q3,q4,q5,q6⟩:=hp hs m5 m6 hzl
    obtain ⟨es',c',r1,r2,r3⟩:=run_updateS (P:=P) (u:=a.eval y) h1 h2 rfl m3 m4 hzl
    rw [q1] at r2
    have hlt:b<w.heap.size:=(Array.getElem?_eq_some_iff.1 m3).1
    have hne:∀b',b'≠b→({ w with heap:=w.heap.setIfInBounds b (.map es' c') }:World).heap[b']? =w.heap[b']? :=fun b' hb'=>by
     simp only [Array.getElem?_setIfInBounds]
     rw [if_neg (fun e=>hb' e.symm)]
    have hbn:Nw w0 b:=(S1.ownLt (.s tg) _ b m1 rfl).1
    have hchg:ChgQ (Qt tt) (CX w0 G1) w0 { w with heap:=w.heap.setIfInBounds b (.map es' c') }:=
     ⟨S1.chg.os,S1.chg.tape,S1.chg.output,by simpa using S1.chg.size,fun b' hb' hX=>(hne b' (fun e=>hbn.elim (fun h=>by omega) fun h=>hX (.inr (e▸h)))).trans (S1.chg.block b' hb' hX),S1.chg.drawn⟩
    have S2:=S1.storeMM (es:=es') (c:=c') (ks':=ks') (rows':=rows') (hs':=hs' hs) (e0:=e') (z0:=z') m1 hne (by simp [hlt]) (by simp) r2 q2 q3 (fun j r hr=>by
     by_cases hj:j=i
     ·subst hj
      obtain rfl:=q6 r hr
      exact ⟨_,q4,k1.1,k1.2⟩
     ·obtain ⟨g1,g2⟩:=q5 j r hj hr
      rw [g2]
      exact m7 j r g1) (r3 m8) hchg
    refine skip_wp hdd (w':={ w with heap:=w.heap.setIfInBounds b (.map es' c') }) ?_ ⟨_,_,S2,rfl,hK,fun g hg=>by injection hg with hg;subst hg;exact ⟨k3,k4⟩⟩
    simp only [execOp,ho,m2,hku,show Value.agg (key.map (Value.int .i64)).toArray=keyV key from rfl,Sem.run_bind,r1,Result.andThen_ok,Sem.run_pure]
   rcases h4.out with ⟨hno,h5⟩|⟨i,hki,hfi,h5⟩
   ·refine core ks.length (ks++[key]) (.inr trivial) (fun hs=>hs++[a.eval y]) (rows++[some es0]) (fun hs g1 g2 g3=>⟨?_,by simp [g1],by simp [g2],by rw [←g1];simp,fun j r hj hr=>?_,fun r hr=>?_⟩) h5
    ·rw [sput_new fun p hp e=>hno (by rw [←e];exact (List.of_mem_zip hp).1),List.zip_append g1.symm];rfl
    ·have hlt:j<rows.length:=by
      have:=(List.getElem?_eq_some_iff.1 hr).1
      rw [List.length_append,List.length_singleton] at this
      omega
     rw [List.getElem?_append_left hlt] at hr
     rw [List.getElem?_set_ne (Ne.symm hj),List.getElem?_append_left (by omega)]
     exact ⟨hr,rfl⟩
    ·rw [←g2] at hr
     simp only [List.getElem?_concat_length,Option.some.injEq] at hr
     exact hr.symm
   ·have hil:i<ks.length:=(List.getElem?_eq_some_iff.1 hki).1
    refine core i ks (.inr trivial) (fun hs=>hs.set i (a.eval y)) (rows.set i (some es0)) (fun hs g1 g2 g3=>⟨?_,by simp [g1],by simp [g2],by rw [List.getElem?_set_self (by omega)],fun j r hj hr=>?_,fun r hr=>?_⟩) h5
    ·obtain ⟨v0,hv0⟩:∃v0,hs[i]? =some v0:=⟨_,List.getElem?_eq_getElem (by omega)⟩
     rw [sput_old (zip_at hki hv0) fun q hq v hv=>hfi q hq (zip_fst hv),zip_set hki]
    ·rw [List.getElem?_set_ne (Ne.symm hj)] at hr ⊢
     rw [List.getElem?_set_ne (Ne.symm hj)]
     exact ⟨hr,rfl⟩
    ·rw [List.getElem?_set_self (by omega)] at hr
     simp only [Option.some.injEq] at hr
     exact hr.symm
  ·exact h.elim
 ·exact h.elim
theorem sound_entry (S:Sim tt w0 G s a w) (o:Oper) (hd:∀x,o.dst=some x→x<a.tmps.size) {K:St→Prop} {t:Nat} {x k:Operand} (ho:o.op= .mapEntry t x k) (h:aop P T tt o K s):o.wp P a w (Nxt tt w0 a.tmps.size (some G) K) Q:=by
 simp only [aop,ho] at h
 have hx:=S.eval x
 have hk:=S.eval k
 split at h
 ·next tg e z ks rows cs d hxe hke hdd=>
  rw [hxe] at hx
  rw [hke] at hk
  obtain ⟨key,h,hus⟩:=ints_sound (B:=w0.B) (G:=G) (w:=w) h
  obtain ⟨us,hku,hA⟩:=hk
  rw [hus us hA] at hku
  obtain ⟨⟨kt,et,h1,h2,h3⟩,hks,h4⟩:=h.out
  obtain ⟨b,es,c,hs,m1,m2,m3,m4,m5,m6,m7,m8⟩:=(show MmRep w0.B G w tg e z ks rows (a.eval x) from hx)
  have hzl:∀p∈ks.zip hs,p.1.length=key.length:=fun p hp=>hks p.1 (List.of_mem_zip hp).1
  have hcl:c=ks.length:=by
   have:=congrArg List.length m4
   simp only [List.length_map,Array.length_toList,List.length_zip] at this
   have:=m8.1
   omega
  have hlt:b<w.heap.size:=(Array.getElem?_eq_some_iff.1 m3).1
  have hne:∀(ob:Obj) (b':Nat),b'≠b→({ w with heap:=w.heap.setIfInBounds b ob }:World).heap[b']? =w.heap[b']? :=fun ob b' hb'=>by
   simp only [Array.getElem?_setIfInBounds]
   rw [if_neg (fun e=>hb' e.symm)]
  have hbn:Nw w0 b:=(S.ownLt (.s tg) _ b m1 rfl).1
  have hchg:∀ob:Obj,ChgQ (Qt tt) (CX w0 G) w0 { w with heap:=w.heap.setIfInBounds b ob }:=fun ob=>
   ⟨S.chg.os,S.chg.tape,S.chg.output,by simpa using S.chg.size,fun b' hb' hX=>(hne ob b' (fun e=>hbn.elim (fun h=>by omega) fun h=>hX (.inr (e▸h)))).trans (S.chg.block b' hb' hX),S.chg.drawn⟩
  rcases h4.out with ⟨hno,h5⟩|⟨i,r,hki,hfi,hri,h5⟩
  ·have hsf:sfind key (ks.zip hs) 0=none:=by
    cases hf:sfind key (ks.zip hs) 0 with
    |none=>rfl
    |some p=>
     have:=sfind_at (j:=p.1) (v:=p.2) hf
     exact absurd (List.of_mem_zip (List.mem_of_getElem? this.2)).1 hno
   obtain ⟨es',c',r1,r2,r3⟩:=run_entry_new (P:=P) h1 h2 rfl h3 m3 m4 hzl hsf
   have S2:=S.storeMM (es:=es') (c:=c') (ks':=ks++[key]) (rows':=rows++[none]) (hs':=hs++[.slice none 0 0]) (e0:=e) (z0:=z) m1 (hne (.map es' c')) (by simp [hlt]) (by simp) (by rw [r2,List.zip_append m5.symm];rfl) (by simp [m5]) (by simp [m6]) (fun j r hr=>by
    have hjl:j<rows.length:=by
     rcases Nat.lt_or_ge j rows.length with h|h
     ·exact h
     ·rw [List.getElem?_append_right h] at hr
      cases hq:j-rows.length with
      |zero=>rw [hq] at hr;simp at hr
      |succ n=>rw [hq] at hr;simp at hr
    rw [List.getElem?_append_left hjl] at hr
    rw [List.getElem?_append_left (by omega)]
    exact m7 j r hr) (r3 m8) (hchg (.map es' c'))
   refine val_wp (u:= .tuple #[.slice none 0 0, .int .i64 c]) (w':={ w with heap:=w.heap.setIfInBounds b (.map es' c') }) ?_ ?_
   ·simp only [execOp,ho,m2,hku,show Value.agg (key.map (Value.int .i64)).toArray=keyV key from rfl,Sem.run_bind,r1,Result.andThen_ok,Sem.run_pure]
   ·rw [hdd,hcl]
    exact ⟨_,_,S2.put (v:= .tup [.nil, .int .i64 ks.length]) (hd d hdd) ⟨[_,_],rfl,rfl,RepV.int _ _,trivial⟩,size_put,h5,(Kp.refl G).of rfl rfl⟩
  ·obtain ⟨u,q1,q2,q3⟩:=m7 i r hri
   have hsf:=sfind_first (L:=ks.zip hs) (i:=i) (v:=u) (k:=key) (j:=0) (zip_at hki q1) (fun j hj v hv=>hfi j hj (zip_fst hv))
   rw [Nat.zero_add] at hsf
   obtain ⟨es',r1,r2,r3⟩:=run_entry_old (P:=P) h1 h2 rfl m3 m4 hzl hsf m8
   have S2:=S.storeMM (es:=es') (c:=c) (ks':=ks) (rows':=rows) (hs':=hs) (e0:=e) (z0:=z) m1 (hne (.map es' c)) (by simp [hlt]) (by simp) r2 m5 m6 m7 r3 (hchg (.map es' c))
   refine val_wp (u:= .tuple #[u, .int .i64 i]) (w':={ w with heap:=w.heap.setIfInBounds b (.map es' c) }) ?_ ?_
   ·simp only [execOp,ho,m2,hku,show Value.agg (key.map (Value.int .i64)).toArray=keyV key from rfl,Sem.run_bind,r1,Result.andThen_ok,Sem.run_pure]
   ·rw [hdd]
    have nc:(∀c,x≠ .const c)∧(∀g,x≠ .func g)∧(∀g,x≠ .global g):=by
     refine ⟨fun c e=>?_,fun g e=>?_,fun g e=>?_⟩
     ·subst e
      simp only [St.eval,ofValue] at hxe
      split at hxe<;>cases hxe
     ·subst e;simp only [St.eval] at hxe;cases hxe
     ·subst e
      simp only [St.eval] at hxe
      split at hxe<;>cases hxe
    have hx2:=S2.eval x
    rw [map_slot (f:=mapMF tg e z ks rows) hxe (by simp) nc.1 nc.2.1 nc.2.2 (v':= .mm tg e z ks rows) (by
     simp only [AV.mapT,mapMF,beq_self,Bool.and_self,cond_true])] at hx2
    obtain ⟨b2,es2,c2,hs2,n1,n2,n3,n4,n5,n6,n7,n8⟩:=(show MmRep w0.B G _ tg e z ks rows (a.eval x) from hx2)
    obtain ⟨u2,p1,p2,p3⟩:=n7 i r hri
    rw [q2] at p2
    injection p2 with p2
    subst p2
    exact ⟨_,_,S2.put (v:= .tup [.own (.r tg i) e z r, .int .i64 i]) (hd d hdd) ⟨[_,_],rfl,show RC w0.B G _ (.own (.r tg i) e z r) u from ⟨q2,p3⟩,RepV.int _ _,trivial⟩,size_put,h5,(Kp.refl G).of rfl rfl⟩
 ·exact h.elim
theorem sound_entryStore (S:Sim tt w0 G s a w) (o:Oper) {K:St→Prop} {t:Nat} {x n y:Operand} (ho:o.op= .entryStore t x n y) (h:aop P T tt o K s):o.wp P a w (Nxt tt w0 a.tmps.size (some G) K) Q:=by
 simp only [aop,ho] at h
 have hn:=S.eval n
 have hy:=S.eval y
 split at h
 ·next tg e z ks rows n0 T' e' z' es0 hxe hnE hye hdd=>
  split at h
  ·next hq=>
   simp only [Bool.and_eq_true,Bool.not_eq_true',Nat.beq_eq] at hq
   obtain ⟨⟨e1,e2⟩,e3⟩:=hq
   subst e1 e2
   have hTt:T'≠tg:=fun e=>by subst e;simp at e3
   rw [hnE] at hn
   rw [hye] at hy
   obtain ⟨i,rfl,hil,hK⟩:=h.out
   have nc:(∀c,x≠ .const c)∧(∀g,x≠ .func g)∧(∀g,x≠ .global g):=by
    refine ⟨fun c e=>?_,fun g e=>?_,fun g e=>?_⟩
    ·subst e
     simp only [St.eval,ofValue] at hxe
     split at hxe<;>cases hxe
    ·subst e;simp only [St.eval] at hxe;cases hxe
    ·subst e
     simp only [St.eval] at hxe
     split at hxe<;>cases hxe
   obtain ⟨G1,S1,k1,k2,k3,k4,k5⟩:=S.giveRow (t:=tg) (k:=i) hTt (show RC w0.B G w (.own (.s T') e' z' es0) (a.eval y) from hy)
   have hx1:=S1.eval x
   rw [map_slot (f:=fun v=>rowsF tg e' z' (·.set i none) (killF (.s T') v)) hxe (by simp) nc.1 nc.2.1 nc.2.2 (v':= .mm tg e' z' ks (rows.set i none)) (by
    have hb1:Nat.beq tg T'=false:=beq_ne (Ne.symm hTt)
    simp only [AV.mapT,killF,Tg.base,hb1,cond_false,rowsF,beq_self,Bool.and_self,cond_true])] at hx1
   obtain ⟨b,es,c,hs,m1,m2,m3,m4,m5,m6,m7,m8⟩:=(show MmRep w0.B G1 w tg e' z' ks (rows.set i none) (a.eval x) from hx1)
   rw [List.length_set] at m6
   obtain ⟨key,hki⟩:∃key,ks[i]? =some key:=⟨_,List.getElem?_eq_getElem hil⟩
   obtain ⟨v0,hv0⟩:∃v0,hs[i]? =some v0:=⟨_,List.getElem?_eq_getElem (by omega)⟩
   obtain ⟨es',r1,r2,r3⟩:=run_entry_put (P:=P) (t:=t) (u:=a.eval y) m3 m4 (zip_at hki hv0) m8
   rw [zip_set hki] at r2
   have hlt:b<w.heap.size:=(Array.getElem?_eq_some_iff.1 m3).1
   have hne:∀b',b'≠b→({ w with heap:=w.heap.setIfInBounds b (.map es' c) }:World).heap[b']? =w.heap[b']? :=fun b' hb'=>by
    simp only [Array.getElem?_setIfInBounds]
    rw [if_neg (fun e=>hb' e.symm)]
   have hbn:Nw w0 b:=(S1.ownLt (.s tg) _ b m1 rfl).1
   have hchg:ChgQ (Qt tt) (CX w0 G1) w0 { w with heap:=w.heap.setIfInBounds b (.map es' c) }:=
    ⟨S1.chg.os,S1.chg.tape,S1.chg.output,by simpa using S1.chg.size,fun b' hb' hX=>(hne b' (fun e=>hbn.elim (fun h=>by omega) fun h=>hX (.inr (e▸h)))).trans (S1.chg.block b' hb' hX),S1.chg.drawn⟩
   have S2:=S1.storeMM (es:=es') (c:=c) (ks':=ks) (rows':=rows.set i (some es0)) (hs':=hs.set i (a.eval y)) (e0:=e') (z0:=z') m1 hne (by simp [hlt]) (by simp) r2 (by simp [m5]) (by simp [m6]) (fun j r hr=>by
    by_cases hj:j=i
    ·subst hj
     rw [List.getElem?_set_self (by omega)] at hr
     simp only [Option.some.injEq] at hr
     subst hr
     exact ⟨_,List.getElem?_set_self (by omega),k1.1,k1.2⟩
    ·rw [List.getElem?_set_ne (Ne.symm hj)] at hr
     rw [List.getElem?_set_ne (Ne.symm hj)]
     exact m7 j r (by rw [List.getElem?_set_ne (Ne.symm hj)];exact hr)) r3 hchg
   refine skip_wp hdd (w':={ w with heap:=w.heap.setIfInBounds b (.map es' c) }) ?_ ⟨_,_,S2,rfl,hK,fun g hg=>by injection hg with hg;subst hg;exact ⟨k3,k4⟩⟩
   simp only [execOp,ho,m2,hn.int_inv,Sem.run_bind,r1,Result.andThen_ok,Sem.run_pure]
  ·exact h.elim
 ·exact h.elim
theorem sound_lenMap (S:Sim tt w0 G s a w) (o:Oper) (hd:∀x,o.dst=some x→x<a.tmps.size) {K:St→Prop} {c:Call} (ho:o.op= .call c) (hc:c.callee= .builtin .len) {t t':Nat} {kvs:Kv} (he:evals s c.args.toList=[.mp t kvs]) (ht:c.argTypes.toList=[t']) (h:mapTy P t' kvs.zero (putK s o.dst (.int .i64 kvs.size) K)):o.wp P a w (Nxt tt w0 a.tmps.size (some G) K) Q:=by
 have hA:=S.evals c.args.toList
 rw [he] at hA
 obtain ⟨u,us,hu,h1,h2⟩:=hA.cons_inv
 obtain rfl:=h2.nil_inv
 obtain ⟨b,es,n,m1,rfl,m3,m4⟩:=(show MpRep G w t kvs u from h1)
 have eargs:c.args.map a.eval=(c.args.toList.map a.eval).toArray:=by cases c.args;simp
 obtain ⟨⟨kt,et,k1,k2,k3⟩,h4⟩:=mapTy_iff.1 h
 have hl:es.size=kvs.size:=by
  have:=congrArg List.length m4
  cases kvs<;>simpa [Kv.vals,Kv.size] using this
 refine val_wp (u:= .int .i64 (kvs.size:Int)) (w':=w) ?_ (put_sound S hd (v:= .int .i64 kvs.size) (RepV.int _ _) (Kp.refl G) h4)
 simp [execOp,ho,resolve,invoke,builtin,hc,eargs,hu,Builtin.len_,arr_one ht,run_underlying k1,run_obj m3,goInt,hl,Sem.run_bind]
end
section
variable {P:Program} {T:Nat→Ty} {tt:Nat} {w0:En} {w w':World} {G:Gh} {s:St} {a:Act} {B:Nat} {Q:Exit→Act→World→Prop}
def kp (o:Oper) (G:Gh):Option Gh:=match stores o.op with|true=>none|false=>some G
theorem aop_sound (hT:TabOk P T) (S:Sim tt w0 G s a w) (o:Oper) (hd:∀x,o.dst=some x→x<a.tmps.size) {K:St→Prop} (h:aop P T tt o K s):o.wp P a w (Nxt tt w0 a.tmps.size (kp o G) K) Q:=by
 have hkp:stores o.op=false→kp o G=some G:=fun e=>by unfold kp;rw [e]
 have hkn:stores o.op=true→kp o G=none:=fun e=>by unfold kp;rw [e]
 cases ho:o.op
 case box t x=>rw [hkp (by rw [ho];rfl)];exact sound_box (T:=T) S o hd ho h
 case alloc t=>rw [hkp (by rw [ho];rfl)];exact sound_alloc hT S o hd ho h
 case store t x y=>rw [hkn (by rw [ho];rfl)];exact Oper.wp_mono (fun _ _ h=>h.weaken) (sound_store hT S o ho h)
 case load t x=>rw [hkp (by rw [ho];rfl)];exact sound_load hT S o hd ho h
 case buildSlice t n parts=>rw [hkp (by rw [ho];rfl)];exact sound_buildSlice hT S o hd ho h
 case makeSlice t l c=>rw [hkp (by rw [ho];rfl)];exact sound_makeSlice hT S o hd ho h
 case slice t x lo hi mx=>rw [hkp (by rw [ho];rfl)];exact sound_slice hT S o hd ho h
 case binOp op t x y yt=>rw [hkp (by rw [ho];rfl)];exact sound_binOp hT S o hd ho h
 case makeMap t r=>rw [hkp (by rw [ho];rfl)];exact sound_makeMap (T:=T) S o hd ho h
 case lookup t x k ok=>rw [hkp (by rw [ho];rfl)];exact sound_lookup (T:=T) S o hd ho h
 case mapEntry t x k=>rw [hkp (by rw [ho];rfl)];exact sound_entry (T:=T) S o hd ho h
 case entryStore t x n y=>rw [hkp (by rw [ho];rfl)];exact sound_entryStore (T:=T) S o ho h
 case mapUpdate t x k y=>rw [hkp (by rw [ho];rfl)];exact sound_update (T:=T) S o ho h
 case call c=>
  cases hc:c.callee
  case value f=>rw [hkp (by simp only [ho,stores,hc])];exact sound_call (T:=T) S o hd ho hc h
  case invoke r m=>rw [hkp (by simp only [ho,stores,hc])];exact aval_wp hT S o hd (Kp.refl G) (by simp only [aop,ho,hc] at h;rw [ho];exact h)
  case builtin b=>
   cases b
   case append=>rw [hkp (by simp only [ho,stores,hc])];exact sound_append hT S o hd ho hc h
   case copy=>rw [hkn (by simp only [ho,stores,hc])];exact sound_copy hT S o hd ho hc h
   case len=>
    rw [hkp (by simp only [ho,stores,hc])]
    simp only [aop,ho,hc] at h
    split at h
    ·next t kvs t' he ht=>exact sound_lenMap S o hd ho hc he ht h
    ·exact aval_wp hT S o hd (Kp.refl G) (by rw [ho];exact h)
   all_goals rw [hkp (by simp only [ho,stores,hc])];exact aval_wp hT S o hd (Kp.refl G) (by simp only [aop,ho,hc] at h;rw [ho];exact h)
 all_goals rw [hkp (by rw [ho];rfl)];exact aval_wp hT S o hd (Kp.refl G) (by simp only [aop,ho] at h;rw [ho];exact h)
theorem aopE_sound (hT:TabOk P T) {ops:Array Oper} (S:Sim tt w0 G s a w) (o:Oper) {K:St→Prop} (h:aopE P T tt ops o K s):
 Region.wanted o (yielded ops a.tmps)=true∧o.wp P a w (Nxt tt w0 a.tmps.size (some G) K) Q:=by
 unfold aopE at h
 split at h
 ·next hg=>
  refine ⟨by simp [Region.wanted,hg],?_⟩
  have he:=h.1
  unfold isElem at he
  split at he
  ·next t x y ho=>
   have key:=sound_store (Q:=Q) hT S o ho h.2
   split at he
   ·next hb=>rwa [show kpS s x G=some G by simp only [kpS,hb]] at key
   ·next hb=>rwa [show kpS s x G=some G by simp only [kpS,hb]] at key
   ·exact he.elim
  ·exact he.elim
 ·exact h.elim
theorem aopG_sound (hT:TabOk P T) {ops:Array Oper} (S:Sim tt w0 G s a w) (o:Oper) (hd:∀x,o.dst=some x→x<a.tmps.size) {K:St→Prop} (h:aopG P T tt ops o K s):
 if Region.wanted o (yielded ops a.tmps)=true then o.wp P a w (Nxt tt w0 a.tmps.size (kp o G) K) Q else Nxt tt w0 a.tmps.size (some G) K (a.put o.dst undef) w:=by
 unfold aopG guardOf at h
 split at h
 ·next hg=>
  have hw:Region.wanted o (yielded ops a.tmps)=true:=by simp [Region.wanted,hg]
  rw [if_pos hw]
  exact aop_sound hT S o hd h
 ·next j want hg=>
  split at h
  ·next oj hj=>
   split at h
   ·next d hdj=>
    split at h
    ·next b hb=>
     have hr:=S.eval (.tmp d)
     rw [hb] at hr
     have hu:a.tmps.getD d undef= .bool b:=hr.bool_inv
     have hy:yielded ops a.tmps j=some b:=by
      have:a.tmps[d]? =some (.bool b):=by
       simp only [Array.getD_eq_getD_getElem?] at hu
       cases hx:a.tmps[d]? with
       |none=>rw [hx] at hu;simp [undef] at hu
       |some v=>rw [hx] at hu;simpa using hu
      simp [yielded,hj,hdj,this]
     have hw:Region.wanted o (yielded ops a.tmps)=(b==want):=by
      simp only [Region.wanted,hg,hy]
      cases b<;>cases want<;>rfl
     simp only [branch_iff] at h
     cases b with
     |true=>
      have h1:=h.1 rfl
      have S1:=S.know' (d:=d) hb hr
      cases want with
      |true=>rw [if_pos (by rw [hw];rfl)];exact aop_sound hT S1 o hd h1
      |false=>rw [if_neg (by rw [hw];decide)];exact put_sound S1 hd (v:= .tup []) ⟨[],rfl,trivial⟩ (Kp.refl G) h1
     |false=>
      have h1:=h.2 rfl
      have S1:=S.know' (d:=d) hb hr
      cases want with
      |true=>rw [if_neg (by rw [hw];decide)];exact put_sound S1 hd (v:= .tup []) ⟨[],rfl,trivial⟩ (Kp.refl G) h1
      |false=>rw [if_pos (by rw [hw];rfl)];exact aop_sound hT S1 o hd h1
    ·next vs hb=>
     have hr:=S.eval (.tmp d)
     rw [hb] at hr
     obtain ⟨us,hu0,_⟩:=hr
     have hu:a.tmps.getD d undef= .tuple us.toArray:=hu0
     have hy:yielded ops a.tmps j=none:=by
      simp only [Array.getD_eq_getD_getElem?] at hu
      cases hx:a.tmps[d]? with
      |none=>simp [yielded,hj,hdj,hx]
      |some v=>
       rw [hx] at hu
       simp only [Option.getD_some] at hu
       subst hu
       simp [yielded,hj,hdj,hx]
     have hw:Region.wanted o (yielded ops a.tmps)=false:=by simp [Region.wanted,hg,hy]
     rw [if_neg (by rw [hw];decide)]
     exact put_sound S hd (v:= .tup []) ⟨[],rfl,trivial⟩ (Kp.refl G) h
    ·exact h.elim
   ·exact h.elim
  ·exact h.elim
theorem bytes_flat {X:Nat→Prop}:∀ {ns:List Int} {dss:List (List Value)},All2 (fun ds cs=>ds.length=1∧All2 (RepV w X) ds cs) (ns.map fun n=>[AV.int .u8 n]) dss→dss.flatten=ns.map (Value.int .u8)
 |[],dss,h=>by
  obtain rfl:=h.nil_inv
  rfl
 |n::ns,dss,h=>by
  obtain ⟨c,cs,rfl,⟨-,h1⟩,h2⟩:=h.cons_inv
  obtain ⟨u,us,rfl,h3,h4⟩:=h1.cons_inv
  obtain rfl:=h4.nil_inv
  cases h3
  simp [bytes_flat h2]
theorem sound_toStr (hT:TabOk P T) (S:Sim tt w0 G s a w) (o:Oper) (hd:∀x,o.dst=some x→x<a.tmps.size) {K:St→Prop} {src dst e:Nat} {x:Operand} (ho:o.op= .convert src dst x) (he:(T src).elem=some e)
 (hk:((T dst).isStr&&(T src).ok&&(T dst).ok&&(T e).ok&&isU8 (T e).kind)=true) (h:srcK 1 (s.eval x) fun es=>toStr es fun b=>putK s o.dst (.str b) K):o.wp P a w (Nxt tt w0 a.tmps.size none K) Q:=by
 simp only [Bool.and_eq_true] at hk
 obtain ⟨⟨⟨⟨k1,k2⟩,k3⟩,k4⟩,k5⟩:=hk
 obtain ⟨es,A,c,dss,m1,hu,m3,m4,m5⟩:=src_sound h (S.eval x)
 obtain ⟨ns,rfl,hK⟩:=m1.out
 have hf:=bytes_flat m3
 obtain ⟨i1,d1,q1,q2, -, -, -,q3, -⟩:=ty_at hT k2
 obtain ⟨i2,d2,r1,r2, -, -, -, -, -, -, -, -,r3, -⟩:=ty_at hT k3
 obtain ⟨i3,d3,t1,t2, -, -, -, -, -, -,t3, -⟩:=ty_at hT k4
 have e1:d1= .slice e:=by
  rw [q3] at he
  cases d1<;>simp [elemD] at he
  rw [he]
 have e2:d2= .string:=by
  rw [r3] at k1
  cases d2<;>simp [strD] at k1
  rfl
 have e3:d3= .int .u8:=by
  rw [t3] at k5
  cases d3<;>simp [kindD,isU8] at k5
  next k=>cases k<;>simp at k5<;>rfl
 subst e1 e2 e3
 have hrun:(execOp a.eval o).run P w= .ok (.value (.string (strOf ns))) w:=by
  have hc:=run_convert_bytes_string (P:=P) w src dst e A (ns.map fun n=>[AV.int .u8 n]).length c q2 t2 r2
  have hb:(Conv.bytesToString (.slice A (ns.map fun n=>[AV.int .u8 n]).length c)).run P w= .ok (.string (strOf ns)) w:=by
   cases A with
   |none=>
    have h0:=m4 rfl
    have:ns=[]:=by simpa using h0
    subst this
    simp [Conv.bytesToString,strOf,Sem.run_pure]
   |some ad=>
    refine run_bytesToString w ad _ c ns ?_
    have:=run_loadCellsFrom (P:=P) ad w (ns.map fun n=>[AV.int .u8 n]).length 0 (ns.map (Value.int .u8)) #[] (by simp) (fun j v hv=>by rw [Nat.zero_add];exact m5 ad rfl j v (by rw [hf];exact hv))
    simpa [loadCells] using this
  simp only [execOp,ho,hu,Sem.run_bind,hc,hb,Result.andThen_ok,Sem.run_pure]
 refine val_wp hrun ?_
 exact put_sound S hd (v:= .str (strOf ns)) (.str _) Kp.none hK
theorem aopX_sound (hT:TabOk P T) (S:Sim tt w0 G s a w) (o:Oper) (hd:∀x,o.dst=some x→x<a.tmps.size) {K:St→Prop} (h:aopX P T tt o K s):o.wp P a w (Nxt tt w0 a.tmps.size none K) Q:=by
 have plain:aop P T tt o K s→o.wp P a w (Nxt tt w0 a.tmps.size none K) Q:=fun h=>Oper.wp_mono (fun _ _ h=>h.weaken) (aop_sound hT S o hd h)
 unfold aopX at h
 split at h
 ·next c ho=>
  split at h
  ·next f hc=>
   split at h
   ·rcases callS_iff.1 h with h|h
    ·exact plain h
    ·exact sound_mcall S o hd ho hc h
   ·by_cases hm:mcall P tt f c.args.toList o.dst K s
    ·exact sound_mcall S o hd ho hc hm
    ·rw [eq_false hm] at h
     refine plain ?_
     simp only [aop,ho,hc]
     exact h
  ·exact plain h
 ·next src dst x ho=>
  split at h
  ·next e he=>
   split at h
   ·next hk=>exact sound_toStr hT S o hd ho he hk h
   ·exact plain h
  ·exact plain h
 ·exact plain h
theorem aopXG_sound (hT:TabOk P T) {ops:Array Oper} (S:Sim tt w0 G s a w) (o:Oper) (hd:∀x,o.dst=some x→x<a.tmps.size) {K:St→Prop} (h:aopXG P T tt ops o K s):
 if Region.wanted o (yielded ops a.tmps)=true then o.wp P a w (Nxt tt w0 a.tmps.size none K) Q else Nxt tt w0 a.tmps.size none K (a.put o.dst undef) w:=by
 unfold aopXG guardOf at h
 split at h
 ·next hg=>
  have hw:Region.wanted o (yielded ops a.tmps)=true:=by simp [Region.wanted,hg]
  rw [if_pos hw]
  exact aopX_sound hT S o hd h
 ·next j want hg=>
  split at h
  ·next oj hj=>
   split at h
   ·next d hdj=>
    split at h
    ·next b hb=>
     have hr:=S.eval (.tmp d)
     rw [hb] at hr
     have hu:a.tmps.getD d undef= .bool b:=hr.bool_inv
     have hy:yielded ops a.tmps j=some b:=by
      have:a.tmps[d]? =some (.bool b):=by
       simp only [Array.getD_eq_getD_getElem?] at hu
       cases hx:a.tmps[d]? with
       |none=>rw [hx] at hu;simp [undef] at hu
       |some v=>rw [hx] at hu;simpa using hu
      simp [yielded,hj,hdj,this]
     have hw:Region.wanted o (yielded ops a.tmps)=(b==want):=by
      simp only [Region.wanted,hg,hy]
      cases b<;>cases want<;>rfl
     simp only [branch_iff] at h
     cases b with
     |true=>
      have h1:=h.1 rfl
      have S1:=S.know' (d:=d) hb hr
      cases want with
      |true=>rw [if_pos (by rw [hw];rfl)];exact aopX_sound hT S1 o hd h1
      |false=>rw [if_neg (by rw [hw];decide)];exact put_sound S1 hd (v:= .tup []) ⟨[],rfl,trivial⟩ Kp.none h1
     |false=>
      have h1:=h.2 rfl
      have S1:=S.know' (d:=d) hb hr
      cases want with
      |true=>rw [if_neg (by rw [hw];decide)];exact put_sound S1 hd (v:= .tup []) ⟨[],rfl,trivial⟩ Kp.none h1
      |false=>rw [if_pos (by rw [hw];rfl)];exact aopX_sound hT S1 o hd h1
    ·next vs hb=>
     have hr:=S.eval (.tmp d)
     rw [hb] at hr
     obtain ⟨us,hu0,_⟩:=hr
     have hu:a.tmps.getD d undef= .tuple us.toArray:=hu0
     have hy:yielded ops a.tmps j=none:=by
      simp only [Array.getD_eq_getD_getElem?] at hu
      cases hx:a.tmps[d]? with
      |none=>simp [yielded,hj,hdj,hx]
      |some v=>
       rw [hx] at hu
       simp only [Option.getD_some] at hu
       subst hu
       simp [yielded,hj,hdj,hx]
     have hw:Region.wanted o (yielded ops a.tmps)=false:=by simp [Region.wanted,hg,hy]
     rw [if_neg (by rw [hw];decide)]
     exact put_sound S hd (v:= .tup []) ⟨[],rfl,trivial⟩ Kp.none h
    ·exact h.elim
   ·exact h.elim
  ·exact h.elim
def Out (tt:Nat) (w0:En) (n:Nat) (Q:Ex→St→Prop):Exit→Act→World→Prop
 | .normal,a,w=>Nxt tt w0 n none (Q .norm) a w
 | .exit i,a,w=>Nxt tt w0 n none (Q (.exit i)) a w
 | .ret,a,w=>Nxt tt w0 n none (Q .ret) a w
 |_,_,_=>False
def dstOk (n:Nat) (o:Oper):Bool:=match o.dst with|some d=>Nat.blt d n|none=>true
def opsOk (n:Nat):List Oper→Bool
 |[]=>true
 |o::os=>dstOk n o&&opsOk n os
theorem opsOk_at {n:Nat}:∀ {os:List Oper} {i:Nat} {o:Oper},opsOk n os=true→os[i]? =some o→∀x,o.dst=some x→x<n
 |[],i,o,_,h,x,hx=>by simp at h
 |o'::os,0,o,hk,h,x,hx=>by
  simp only [opsOk,Bool.and_eq_true] at hk
  simp only [List.getElem?_cons_zero,Option.some.injEq] at h
  subst h
  have:=hk.1
  simp only [dstOk,hx] at this
  simpa using this
 |o'::os,i+1,o,hk,h,x,hx=>by
  simp only [opsOk,Bool.and_eq_true] at hk
  exact opsOk_at hk.2 (by simpa using h) x hx
theorem aops_sound (hT:TabOk P T) {ops:Array Oper} {n:Nat} (hok:opsOk n ops.toList=true) {K:St→Prop}:∀(m k:Nat),k+m=ops.size→∀(G:Gh) (s:St) (a:Act) (w:World),a.tmps.size=n→Sim tt w0 G s a w→aops P T tt ops (ops.toList.drop k) K s→
 wpOps P ops (fun e a w=>match e with| .normal=>Nxt tt w0 n none K a w|_=>False) (List.range' k m) a w
 |0,k,hk,G,s,a,w,hn,S,h=>by
  rw [List.drop_of_length_le (by simp;omega)] at h
  exact ⟨G,s,S,hn,h,Kp.none⟩
 |m+1,k,hk,G,s,a,w,hn,S,h=>by
  have hlt:k<ops.size:=by omega
  rw [List.drop_eq_getElem_cons (by simpa using hlt)] at h
  simp only [aops] at h
  rw [List.range'_succ,wpOps_cons]
  have ho:ops[k]? =some ops[k]:=Array.getElem?_eq_getElem hlt
  unfold wpOp
  simp only [ho]
  have hd:=opsOk_at hok (show ops.toList[k]? =some ops[k] by simpa using ho)
  have key:=aopXG_sound (P:=P) (Q:=fun e a w=>match e with| .normal=>Nxt tt w0 n none K a w|_=>False) hT S ops[k] (by rw [hn];exact hd) h
  have nx:∀F a' w',Nxt tt w0 a.tmps.size F (fun s'=>aops P T tt ops (ops.toList.drop (k+1)) K s') a' w'→wpOps P ops (fun e a w=>match e with| .normal=>Nxt tt w0 n none K a w|_=>False) (List.range' (k+1) m) a' w':=fun F a' w' ⟨G',s',S',hn',h',_⟩=>
   aops_sound hT hok m (k+1) (by omega) G' s' a' w' (hn'.trans hn) S' h'
  split
  ·next hw=>
   rw [if_pos hw] at key
   exact .inl (Oper.wp_mono (nx _) key)
  ·next hw=>
   rw [if_neg hw] at key
   exact nx _ _ _ key
end
section
variable {P:Program} {ops:Array Oper} {Q:Exit→Act→World→Prop} {S:World→Prop} {m:Nat}
def wpD (P:Program) (ops:Array Oper) (Q:Exit→Act→World→Prop) (S:World→Prop) (m:Nat):Nat→Array Bool→Act→World→Prop
 |0,l,a,w=>Region.ready .any ops l=[]∧Q .normal a w
 |fuel+1,l,a,w=>(Region.ready .any ops l=[]→Q .normal a w)∧∀i∈Region.ready .any ops l,wpOp P ops Q i (fun a' w'=>(i<m→S w')∧wpD P ops Q S m fuel (l.setIfInBounds i true) a' w') a w
theorem wpAny_of_D:∀(fuel:Nat) (l:Array Bool) (a:Act) (w:World),wpD P ops Q S m fuel l a w→wpAny P .any ops Q fuel l a w
 |0,_,_,_,h=>h
 |fuel+1,_,_,_,h=>⟨h.1,fun i hi=>wpOp_mono (fun a' w' h'=>wpAny_of_D fuel _ a' w' h'.2) (h.2 i hi)⟩
def Cl (ops:Array Oper) (l:Array Bool):Prop:=∀(k:Nat) (o:Oper),ops[k]? =some o→l.getD k false=true→∀e∈o.after,Region.binds .any e=true→l.getD e.on false=true
theorem Cl.set {l:Array Bool} {i:Nat} (h:Cl ops l) (hr:i∈Region.ready .any ops l):Cl ops (l.setIfInBounds i true):=fun k o ho hk e he hb=>by
 by_cases hki:i=k
 ·subst hki
  obtain ⟨_,o',ho',hall⟩:=mem_ready.1 hr
  rw [ho] at ho'
  injection ho' with ho'
  subst ho'
  exact getD_set_true (hall e he hb)
 ·rw [getD_set_ne false hki] at hk
  exact getD_set_true (h k o ho hk e he hb)
inductive Reach (ops:Array Oper):Nat→Nat→Prop
 |one {j:Nat} {o:Oper} {e:Edge} (h:ops[j]? =some o) (he:e∈o.after) (hb:Region.binds .any e=true):Reach ops j e.on
 |more {j i:Nat} {o:Oper} {e:Edge} (h:ops[j]? =some o) (he:e∈o.after) (hb:Region.binds .any e=true) (k:Reach ops e.on i):Reach ops j i
theorem reach_done {l:Array Bool} (h:Cl ops l) {j i:Nat} (k:Reach ops j i):(∀o,ops[j]? =some o→∀e∈o.after,Region.binds .any e=true→l.getD e.on false=true)→l.getD i false=true:=by
 induction k with
 |one ho he hb=>exact fun hj=>hj _ ho _ he hb
 |more ho he hb _ ih=>exact fun hj=>ih fun o' ho'=>h _ o' ho' (hj _ ho _ he hb)
theorem mask_bit {ms:List Nat} {i:Nat}:∀ {L:List Edge} {M:Nat},(L.foldl (fun M e=>if Region.binds .any e=true then M|||(2 ^ e.on|||ms.getD e.on 0) else M) M).testBit i=true→M.testBit i=true∨∃e∈L,Region.binds .any e=true∧(e.on=i∨(ms.getD e.on 0).testBit i=true)
 |[],M,h=> .inl h
 |e::L,M,h=>by
  rcases mask_bit (L:=L) h with h|⟨e',he',hb,h⟩
  ·dsimp only at h
   split at h
   ·next hb=>
    rw [Nat.testBit_or,Nat.testBit_or,Nat.testBit_two_pow,Bool.or_eq_true,Bool.or_eq_true,decide_eq_true_eq] at h
    rcases h with h|h|h
    ·exact .inl h
    ·exact .inr ⟨e,by simp,hb, .inl h⟩
    ·exact .inr ⟨e,by simp,hb, .inr h⟩
   ·exact .inl h
  ·exact .inr ⟨e',by simp [he'],hb,h⟩
theorem masks_reach:∀ {os:List Oper} {ms:List Nat},os=ops.toList.drop ms.length→(∀j i,(ms.getD j 0).testBit i=true→Reach ops j i)→∀j i,((masks os ms).getD j 0).testBit i=true→Reach ops j i
 |[],ms,_,h=>h
 |o::os,ms,ho,h=>by
  have h0:ops[ms.length]? =some o:=by
   have:=congrArg (·[0]?) ho
   simp only [List.getElem?_cons_zero,List.getElem?_drop,Nat.add_zero] at this
   rw [←Array.getElem?_toList];exact this.symm
  refine masks_reach (os:=os) (ms:=ms++[maskOf ms o]) ?_ ?_
  ·have:=congrArg (List.drop 1) ho
   rw [List.drop_drop] at this
   simpa using this
  ·intro j i hj
   rw [List.getD_eq_getElem?_getD] at hj
   rcases Nat.lt_trichotomy j ms.length with hlt|rfl|hgt
   ·rw [List.getElem?_append_left hlt] at hj
    exact h j i (by rw [List.getD_eq_getElem?_getD];exact hj)
   ·rw [List.getElem?_append_right (Nat.le_refl _),Nat.sub_self] at hj
    have hj':(maskOf ms o).testBit i=true:=hj
    rcases mask_bit hj' with hz|⟨e,he,hb,hz|hz⟩
    ·simp at hz
    ·subst hz;exact .one h0 (by simpa using he) hb
    ·exact .more h0 (by simpa using he) hb (h _ _ hz)
   ·rw [List.getElem?_eq_none (by simp;omega)] at hj
    simp at hj
theorem D_first {i:Nat} {oi:Oper} {v:Value} {Y:World→Prop} (hi:ops[i]? =some oi) (hsel:∀(j:Nat) (o:Oper) cs b,ops[j]? =some o→o.op≠ .select cs b)
 (hQ:∀c a w,Q (.panic c) (a.put oi.dst v) w→Q (.panic c) a w)
 (hm:i<m→∀l:Array Bool,Cl ops l→l.getD i true=false→∀j∈Region.ready .any ops l,j<m) (hY:(∀w,Y w)∨(i<m∧∀w,S w→Y w)):
 ∀(fuel:Nat) (l:Array Bool) (a:Act) (w:World),Cl ops l→
  (∀j oj,ops[j]? =some oj→j≠i→l.getD j true=false→(∀e∈oj.after,Region.binds .any e=true→e.on≠i)→oi.apart ops oj=true)→
  i∈Region.ready .any ops l→YieldsIf P ops Y oi v a→Y w→(i<m→S w)→wpD P ops Q S m fuel (l.setIfInBounds i true) (a.put oi.dst v) w→wpD P ops Q S m (fuel+1) l a w:=by
 intro fuel
 induction fuel with
 |zero=>
  intro l a w _ _ hr hy hYw hS H
  refine ⟨fun h=>(by rw [h] at hr;cases hr),fun j hj=>?_⟩
  by_cases hji:j=i
  ·subst hji;exact hy.wpOp hi hYw ⟨hS,H⟩
  ·have:=ready_mono hj hji
   rw [H.1] at this
   cases this
 |succ fuel ih=>
  intro l a w hcl hfree hr hy hYw hS H
  refine ⟨fun h=>(by rw [h] at hr;cases hr),fun j hj=>?_⟩
  by_cases hji:j=i
  ·subst hji;exact hy.wpOp hi hYw ⟨hS,H⟩
  ·have h1:=H.2 j (ready_mono hj hji)
   obtain ⟨hjun,oj,hoj,hall⟩:=mem_ready.1 hj
   have hnot:∀e∈oj.after,Region.binds .any e=true→e.on≠i:=fun e he hb heq=>by
    have h1:=hall e he hb
    have h0:=(mem_ready.1 hr).1
    rw [heq] at h1
    rcases Nat.lt_or_ge i l.size with h'|h'
    ·simp [h'] at h0 h1;rw [h0] at h1;cases h1
    ·simp [Array.getElem?_eq_none h'] at h1
   have h2:=wpOp_putIf hoj (hfree j oj hoj hji hjun hnot) (fun cs b=>hsel i oi cs b hi) (fun cs b=>hsel j oj cs b hoj) hQ hy h1
   have hfree':∀k ok,ops[k]? =some ok→k≠i→(l.setIfInBounds j true).getD k true=false→
    (∀e∈ok.after,Region.binds .any e=true→e.on≠i)→oi.apart ops ok=true:=fun k ok hk hki hun hno=>by
    refine hfree k ok hk hki ?_ hno
    by_cases hjk:j=k
    ·subst hjk;exact hjun
    ·rw [getD_set_ne true hjk] at hun;exact hun
   refine wpOp_mono (fun a' w' h3=>⟨h3.2.1,ih (l.setIfInBounds j true) a' w' (hcl.set hj) hfree' (ready_mono hr (Ne.symm hji)) h3.1 ?_ (fun h=>h3.2.1 (hm h l hcl (mem_ready.1 hr).1 j hj)) ?_⟩) h2
   ·rcases hY with h|⟨h,h'⟩
    ·exact h w'
    ·exact h' w' (h3.2.1 (hm h l hcl (mem_ready.1 hr).1 j hj))
   ·rw [Array.setIfInBounds_comm _ _ hji]
    exact h3.2.2
theorem D_done {l:Array Bool} {a:Act} {w:World} (hr:Region.ready .any ops l=[]) (h:Q .normal a w):∀fuel,wpD P ops Q S m fuel l a w
 |0=>⟨hr,h⟩
 |_+1=>⟨fun _=>h,by rw [hr];simp⟩
def Q1 {α:Type} (w:World) (r:Result α):Prop:=(∃u,r= .ok u w)∨∃h w',r= .halt h w'
theorem Q1.bind {α β:Type} {x:Sem α} {f:α→Sem β} {w:World} (h:Q1 w (x.run P w)) (k:∀u,Q1 w ((f u).run P w)):Q1 w ((x>>=f).run P w):=by
 rw [Sem.run_bind]
 rcases h with ⟨u,h⟩|⟨e,w',h⟩
 ·rw [h];exact k u
 ·rw [h];exact .inr ⟨e,w',rfl⟩
theorem q1_pure {α:Type} {a:α} {w:World}:Q1 w ((pure a:Sem α).run P w):= .inl ⟨a,rfl⟩
theorem q1_load {a:Addr} {w:World}:Q1 w ((load a).run P w):=by
 rw [run_load]
 split
 ·exact .inl ⟨_,rfl⟩
 ·split
  ·exact .inl ⟨_,rfl⟩
  ·exact .inr ⟨_,_,rfl⟩
theorem q1_under {t:TypeId} {w:World}:Q1 w ((underlying t).run P w):=by
 unfold underlying
 refine Q1.bind (.inl ⟨P,rfl⟩) fun u=>?_
 split
 ·exact q1_pure
 ·exact .inr ⟨_,_,rfl⟩
theorem q1_cells {a:Addr} {w:World}:∀ {n i:Nat} {acc:Array Value},Q1 w ((loadCellsFrom a i n acc).run P w)
 |0,i,acc=>q1_pure
 |n+1,i,acc=>Q1.bind q1_load fun u=>q1_cells
theorem q1_size {t:TypeId} {w:World}:Q1 w ((sizeOf t).run P w):=by
 unfold sizeOf typeInfo
 refine Q1.bind ?_ fun u=>q1_pure
 refine Q1.bind (.inl ⟨P,rfl⟩) fun u=>?_
 split
 ·exact q1_pure
 ·exact .inr ⟨_,_,rfl⟩
theorem q1_agg {t:TypeId} {w:World}:Q1 w ((isAgg t).run P w):=by
 unfold isAgg
 refine Q1.bind q1_under fun u=>?_
 split<;>exact q1_pure
theorem q1_loadAt {t:TypeId} {v:Value} {w:World}:Q1 w ((Instr.loadAt t v).run P w):=by
 unfold Instr.loadAt
 refine Q1.bind ?_ fun u=>?_
 ·unfold Instr.sureAddr
  split
  ·exact q1_pure
  ·exact .inr ⟨_,_,rfl⟩
 ·unfold loadVar
  refine Q1.bind q1_agg fun b=>?_
  split
  ·exact Q1.bind q1_size fun n=>Q1.bind q1_cells fun c=>q1_pure
  ·exact q1_load
theorem wpOp_same {j:Nat} {oj:Oper} (hj:ops[j]? =some oj) (hl:isLoad oj.op=true) {K:Act→World→Prop} {a:Act} {w:World} (h:wpOp P ops Q j K a w):wpOp P ops Q j (fun a' w'=>w'=w∧K a' w') a w:=by
 obtain ⟨dst,op,type,pos,after,guard⟩:=oj
 cases op<;>simp only [isLoad,Bool.false_eq_true] at hl
 next t x=>
 unfold wpOp at h ⊢
 simp only [hj] at h ⊢
 split
 ·next hw=>
  rw [if_pos hw] at h
  rcases h with h|h
  ·left
   unfold Oper.wp at h ⊢
   have hq:Q1 w ((execOp a.eval { dst:=dst,op:= .load t x,type:=type,pos:=pos,after:=after,guard:=guard }).run P w):=Q1.bind q1_loadAt fun u=>q1_pure
   have hv:∀u w',(execOp a.eval { dst:=dst,op:= .load t x,type:=type,pos:=pos,after:=after,guard:=guard }).run P w= .ok u w'→∃v,u= .value v:=fun u w' e=>by
    simp only [execOp,Sem.run_bind,Sem.run_pure] at e
    cases hr:(Instr.loadAt t (a.eval x)).run P w with
    |ok v w''=>rw [hr] at e;simp only [Result.andThen_ok] at e;injection e with e1 e2;exact ⟨v,e1.symm⟩
    |halt e' w''=>rw [hr] at e;simp [Result.andThen] at e
   rcases hq with ⟨u,hu⟩|⟨e,w',hu⟩
   ·obtain ⟨v,rfl⟩:=hv u w hu
    rw [hu] at h ⊢
    exact ⟨rfl,h⟩
   ·rw [hu] at h ⊢
    cases e<;>exact h
  ·exact .inr h
 ·next hw=>
  rw [if_neg hw] at h
  exact ⟨trivial,h⟩
theorem D_quiet {i:Nat} {oi:Oper} {v:Value} (hi:ops[i]? =some oi) (hsel:∀(j:Nat) (o:Oper) cs b,ops[j]? =some o→o.op≠ .select cs b)
 (hQ:∀c a w,Q (.panic c) (a.put oi.dst v) w→Q (.panic c) a w) {D:List Nat}:
 ∀(fuel:Nat) (l:Array Bool) (a:Act) (w:World),
  (∀j oj,ops[j]? =some oj→j≠i→l.getD j true=false→(∀e∈oj.after,Region.binds .any e=true→e.on≠i)→oi.apart ops oj=true)→
  (∀j oj,ops[j]? =some oj→j≠i→l.getD j true=false→j∉D→isLoad oj.op=true)→
  (∀j∈D,l.getD j true=false∧∃oj,ops[j]? =some oj∧∃e∈oj.after,Region.binds .any e=true∧(e.on=i∨e.on∈D))→
  i∈Region.ready .any ops l→YieldsIf P ops (fun x=>x=w) oi v a→(i<m→S w)→wpD P ops Q S m fuel (l.setIfInBounds i true) (a.put oi.dst v) w→wpD P ops Q S m (fuel+1) l a w:=by
 intro fuel
 induction fuel with
 |zero=>
  intro l a w _ _ _ hr hy hS H
  refine ⟨fun h=>(by rw [h] at hr;cases hr),fun j hj=>?_⟩
  by_cases hji:j=i
  ·subst hji;exact hy.wpOp hi rfl ⟨hS,H⟩
  ·have:=ready_mono hj hji
   rw [H.1] at this
   cases this
 |succ fuel ih=>
  intro l a w hfree hq1 hq2 hr hy hS H
  refine ⟨fun h=>(by rw [h] at hr;cases hr),fun j hj=>?_⟩
  by_cases hji:j=i
  ·subst hji;exact hy.wpOp hi rfl ⟨hS,H⟩
  ·have h1:=H.2 j (ready_mono hj hji)
   obtain ⟨hjun,oj,hoj,hall⟩:=mem_ready.1 hj
   have hlisted:∀e∈oj.after,Region.binds .any e=true→l.getD e.on true=false→False:=fun e he hb h0=>by
    have h1:=hall e he hb
    simp only [Array.getD_eq_getD_getElem?] at h0 h1
    cases hx:l[e.on]? with
    |none=>rw [hx] at h0;simp at h0
    |some b=>rw [hx] at h0 h1;simp at h0 h1;rw [h0] at h1;cases h1
   have hiun:=(mem_ready.1 hr).1
   have hnot:∀e∈oj.after,Region.binds .any e=true→e.on≠i:=fun e he hb heq=>hlisted e he hb (by rw [heq];exact hiun)
   have hjD:j∉D:=fun hD=>by
    obtain ⟨_,oj',hoj',e,he,hb,h⟩:=hq2 j hD
    rw [hoj] at hoj'
    injection hoj' with hoj'
    subst hoj'
    rcases h with h|h
    ·exact hnot e he hb h
    ·exact hlisted e he hb (hq2 _ h).1
   have h2:=wpOp_putIf hoj (hfree j oj hoj hji hjun hnot) (fun cs b=>hsel i oi cs b hi) (fun cs b=>hsel j oj cs b hoj) hQ hy h1
   have h4:=wpOp_same hoj (hq1 j oj hoj hji hjun hjD) h2
   have hset:∀k,(l.setIfInBounds j true).getD k true=false→l.getD k true=false:=fun k hun=>by
    by_cases hjk:j=k
    ·subst hjk;exact hjun
    ·rw [getD_set_ne true hjk] at hun;exact hun
   refine wpOp_mono (fun a' w' h3=>?_) h4
   obtain ⟨rfl,h5,h6,h7⟩:=h3
   refine ⟨h6,ih (l.setIfInBounds j true) a' w' (fun k ok hk hki hun hno=>hfree k ok hk hki (hset k hun) hno) (fun k ok hk hki hun hD=>hq1 k ok hk hki (hset k hun) hD) (fun k hk=>?_) (ready_mono hr (Ne.symm hji)) h5 hS ?_⟩
   ·obtain ⟨q1,q2⟩:=hq2 k hk
    refine ⟨?_,q2⟩
    rw [getD_set_ne true (show j≠k from fun e=>hjD (by rw [e];exact hk))]
    exact q1
   ·rw [Array.setIfInBounds_comm _ _ hji]
    exact h7
theorem quiet_spec {l:Array Bool} {i:Nat} {D:List Nat} (h:quietOk ops l i D=true):
 (∀j oj,ops[j]? =some oj→j≠i→l.getD j true=false→j∉D→isLoad oj.op=true)∧(∀j∈D,l.getD j true=false∧∃oj,ops[j]? =some oj∧∃e∈oj.after,Region.binds .any e=true∧(e.on=i∨e.on∈D)):=by
 unfold quietOk at h
 rw [Bool.and_eq_true,List.all_eq_true,List.all_eq_true] at h
 obtain ⟨h1,h2⟩:=h
 refine ⟨fun j oj hj hji hl hD=>?_,fun j hj=>?_⟩
 ·have hlt:j<ops.size:=(Array.getElem?_eq_some_iff.1 hj).1
  have:=h1 j (List.mem_range.2 hlt)
  rw [hl,hj] at this
  simpa [hji,hD] using this
 ·have:=h2 j hj
  unfold waitsFor at this
  rw [Bool.and_eq_true] at this
  obtain ⟨a1,a2⟩:=this
  refine ⟨by simpa using a1,?_⟩
  cases hj:ops[j]? with
  |none=>rw [hj] at a2;cases a2
  |some o=>
   rw [hj] at a2
   refine ⟨o,rfl,?_⟩
   simp only [Array.any_eq_true] at a2
   obtain ⟨k,hk,he⟩:=a2
   refine ⟨o.after[k],Array.getElem_mem hk,?_⟩
   simpa using he
theorem late_at {i:Nat} {o:Oper} (h:lateOk ops m i=true) (ho:ops[i]? =some o) (hm:i<m):stores o.op=false:=by
 simp only [lateOk,ho,Bool.or_eq_true,decide_eq_true_eq,Bool.not_eq_true'] at h
 rcases h with h|h
 ·omega
 ·exact h
theorem phase_at (h:phaseOk ops m=true) {j:Nat} {o:Oper} (ho:ops[j]? =some o):m≤j→∀i,i<m→Reach ops j i:=by
 have hj:j<ops.size:=(Array.getElem?_eq_some_iff.1 ho).1
 have:=List.all_eq_true.1 h j (List.mem_range.2 hj)
 intro hm i hi
 rw [if_pos hm] at this
 exact masks_reach (ms:=[]) rfl (fun j i h=>by simp at h) j i (List.all_eq_true.1 this i (List.mem_range.2 hi))
theorem phase_done (h:phaseOk ops m=true) {l:Array Bool} (hcl:Cl ops l) {j:Nat} (hr:j∈Region.ready .any ops l) (hm:m≤j) {i:Nat} (hi:i<m):l.getD i false=true:=by
 obtain ⟨_,o,ho,hall⟩:=mem_ready.1 hr
 exact reach_done hcl (phase_at h ho hm i hi) fun o' ho'=>by rw [ho] at ho';injection ho' with ho';subst ho';exact hall
theorem getD_tt {l:Array Bool} {i:Nat} (h:l.getD i false=true):l.getD i true=true:=by
 simp only [Array.getD_eq_getD_getElem?] at h ⊢
 cases hx:l[i]? with
 |none=>rw [hx] at h;simp at h
 |some v=>rw [hx] at h;simpa using h
end
structure Older (N:Nat) (w1 w:World):Prop where
 size:N≤w.heap.size
 same:∀b,b<N→w.heap[b]? =w1.heap[b]?
 cells:∀b o,N≤b→w.heap[b]? =some o→∃c e fr,o= .cells c e fr
section
variable {P:Program} {ops:Array Oper} {Q:Exit→Act→World→Prop} {S:World→Prop} {m N:Nat} {w1:World}
def QK {α:Type} (N:Nat) (w1:World) (r:Result α):Prop:=(∃u w',r= .ok u w'∧Older N w1 w')∨∃h w',r= .halt h w'
theorem QK.bind {α β:Type} {x:Sem α} {f:α→Sem β} {w:World} (h:QK N w1 (x.run P w)) (k:∀u w',Older N w1 w'→QK N w1 ((f u).run P w')):QK N w1 ((x>>=f).run P w):=by
 rw [Sem.run_bind]
 rcases h with ⟨u,w',h,h2⟩|⟨e,w',h⟩
 ·rw [h];exact k u w' h2
 ·rw [h];exact .inr ⟨e,w',rfl⟩
theorem Q1.qk {α:Type} {w:World} {r:Result α} (h:Q1 w r) (hw:Older N w1 w):QK N w1 r:=by
 rcases h with ⟨u,h⟩|h
 ·exact .inl ⟨u,w,h,hw⟩
 ·exact .inr h
theorem q1_prog {w:World}:Q1 w ((program:Sem Program).run P w):= .inl ⟨P,rfl⟩
theorem q1_shape {r:Nat} {w:World}:Q1 w ((shape r).run P w):= .inl ⟨_,rfl⟩
theorem q1_stuck {α:Type} {why:String} {w:World}:Q1 (α:=α) w ((stuck why:Sem α).run P w):= .inr ⟨_,_,rfl⟩
theorem q1_uns {α:Type} {u:Unsupported} {w:World}:Q1 (α:=α) w ((unsupported u:Sem α).run P w):= .inr ⟨_,_,rfl⟩
theorem q1_obj {r:Nat} {w:World}:Q1 w ((getObj r).run P w):=by
 unfold getObj
 simp only [Sem.run]
 split
 ·exact .inr ⟨_,_,rfl⟩
 ·exact .inl ⟨_,rfl⟩
 ·exact .inr ⟨_,_,rfl⟩
theorem q1_view {a:Addr} {w:World}:Q1 w ((noView a).run P w):=by
 unfold noView
 repeat' (first|exact q1_pure|exact q1_stuck|exact q1_uns|exact q1_prog|exact q1_shape|exact q1_obj|exact .inl ⟨_,rfl⟩|refine Q1.bind ?_ fun _=>?_|split|dsimp only)
theorem q1_byte {a:Addr} {w:World}:Q1 w ((byteOf a).run P w):=by
 unfold byteOf
 repeat' (first|exact q1_pure|exact q1_stuck|exact q1_uns|exact q1_prog|exact q1_shape|exact q1_view|refine Q1.bind ?_ fun _=>?_|split|dsimp only)
theorem q1_sure {v:Value} {w:World}:Q1 w ((Instr.sureAddr v).run P w):=by
 unfold Instr.sureAddr
 split
 ·exact q1_pure
 ·exact .inr ⟨_,_,rfl⟩
theorem q1_field {s:TypeId} {v:Value} {f:Nat} {w:World}:Q1 w ((Instr.fieldAt s v f).run P w):=by
 unfold Instr.fieldAt fieldPlace partAt
 repeat' (first|exact q1_pure|exact q1_stuck|exact q1_uns|exact q1_under|exact q1_size|exact q1_sure|exact q1_byte|refine Q1.bind ?_ fun _=>?_|split|dsimp only)
theorem q1_intOf {v:Value} {w:World}:Q1 w ((asIntOf v).run P w):=by
 unfold asIntOf
 split<;>first|exact q1_pure|exact q1_uns|exact q1_stuck
theorem q1_bounds {α:Type} {k:IntKind} {x y:Int} {c:BoundsCode} {w:World}:Q1 (α:=α) w ((boundsPanic k x y c:Sem α).run P w):=by
 obtain ⟨s,w',h⟩:=run_boundsPanic (α:=α) (P:=P) (w:=w) k x y c
 exact .inr ⟨_,w',h⟩
theorem q1_index {t:TypeId} {v x:Value} {w:World}:Q1 w ((Instr.indexAt t v x).run P w):=by
 unfold Instr.indexAt
 repeat' (first|exact q1_pure|exact q1_stuck|exact q1_uns|exact q1_under|exact q1_size|exact q1_sure|exact q1_intOf|exact q1_bounds|refine Q1.bind ?_ fun _=>?_|split|dsimp only)
theorem q1_zero {t:TypeId} {w:World}:Q1 w ((zeroValue t).run P w):=by
 unfold zeroValue typeInfo
 repeat' (first|exact q1_pure|exact q1_stuck|exact q1_uns|exact q1_prog|refine Q1.bind ?_ fun _=>?_|split|dsimp only)
theorem Older.setCell {w:World} (h:Older N w1 w) {a:Addr} (ha:N≤a.block) (v:Value):Older N w1 (w.setCell a v) where
 size:=by rw [World.size_setCell];exact h.size
 same:=fun b hb=>by rw [Below.heap_setCell w a v b (by omega)];exact h.same b hb
 cells:=fun b o hb ho=>by
  by_cases e:b=a.block
  ·subst e
   have ho':(w.heap.modify a.block fun| .cells c elem frozen=>Obj.cells (if a.spot.isSome then c else c.setIfInBounds a.off v) elem frozen|o=>o)[a.block]? =some o:=ho
   rw [Array.getElem?_modify,if_pos rfl] at ho'
   obtain ⟨o1,h1,h2⟩:=Option.map_eq_some_iff.1 ho'
   obtain ⟨c,e1,fr,rfl⟩:=h.cells _ o1 hb h1
   exact ⟨_,_,_,h2.symm⟩
  ·rw [Below.heap_setCell w a v b e] at ho
   exact h.cells b o hb ho
theorem Older.alloc {w:World} (h:Older N w1 w) (c:Array Value) (e:TypeId):Older N w1 { w with heap:=w.heap.push (.cells c e) } where
 size:=by simp only [Array.size_push];have:=h.size;omega
 same:=fun b hb=>by
  have:=h.size
  have hlt:b<w.heap.size:=by omega
  rw [←h.same b hb]
  simp only [Array.getElem?_push]
  rw [if_neg (by omega)]
 cells:=fun b o hb ho=>by
  simp only [Array.getElem?_push] at ho
  split at ho
  ·injection ho with ho;exact ⟨_,_,_,ho.symm⟩
  ·exact h.cells b o hb ho
theorem qk_store {w:World} (h:Older N w1 w) {a:Addr} (ha:N≤a.block) (v:Value):QK N w1 ((store a v).run P w):=by
 have go:∀e,QK N w1 (match w.cell? a with
  |some _=>if w.frozen? a then (Result.halt e w:Result Unit) else .ok () (w.setCell a v)
  |none=>match w.farStore P a v false with
   | .ok (w',_)=> .ok () w'
   | .error h=> .halt h w):=by
  intro e
  split
  ·split
   ·exact .inr ⟨_,_,rfl⟩
   ·exact .inl ⟨_,_,rfl,h.setCell ha v⟩
  ·unfold World.farStore
   split
   ·next heq=>
    split at heq
    ·next hv=>
     obtain ⟨c,e,fr,h1⟩:=h.cells _ _ ha hv
     cases h1
    ·cases heq
   ·exact .inr ⟨_,_,rfl⟩
 by_cases hv:v.oneCell'=true
 ·rw [run_store P w a v .plain hv]
  exact go _
 ·cases v<;>first|(exfalso;apply hv;rfl)|exact .inr ⟨_,_,rfl⟩
theorem add_block {a:Addr} {i:Nat}:a.block=(a.add i).block:=by unfold Addr.add;split<;>rfl
theorem qk_cells {a:Addr} (ha:N≤a.block):∀ {vs:List Value} {i:Nat} {w:World},Older N w1 w→QK N w1 ((storeCells a vs i).run P w)
 |[],i,w,h=> .inl ⟨(),w,rfl,h⟩
 |v::vs,i,w,h=>QK.bind (qk_store h (a:=a.add i) (add_block▸ha) v) fun _ w' h'=>qk_cells ha h'
theorem qk_storeVar {t:TypeId} {a:Addr} (ha:N≤a.block) {v:Value} {w:World} (h:Older N w1 w):QK N w1 ((storeVar t a v).run P w):=by
 unfold storeVar
 refine QK.bind (q1_size.qk h) fun n w' h'=>?_
 split
 ·exact .inr ⟨_,_,rfl⟩
 ·exact qk_cells ha h'
def QV (N:Nat) (w1:World) (A:Value→Prop) (r:Result Next):Prop:=(∃u w',(r= .ok (.value u) w'∨(r= .ok .skip w'∧u=undef))∧A u∧Older N w1 w')∨∃h w',r= .halt h w'
theorem QV.val {x:Sem Value} {w:World} (h:QK N w1 (x.run P w)):QV N w1 (fun _=>True) ((do pure (.value (←x)):Sem Next).run P w):=by
 rcases h with ⟨u,w',h,h2⟩|⟨e,w',h⟩
 ·exact .inl ⟨u,w', .inl (by rw [Sem.run_bind,h];rfl),trivial,h2⟩
 ·exact .inr ⟨e,w',by rw [Sem.run_bind,h];rfl⟩
theorem QV.unit {x:Sem Unit} {w:World} (h:QK N w1 (x.run P w)):QV N w1 (fun u=>u=undef) ((do x;pure .skip:Sem Next).run P w):=by
 rcases h with ⟨u,w',h,h2⟩|⟨e,w',h⟩
 ·exact .inl ⟨undef,w', .inr ⟨by rw [Sem.run_bind,h];rfl,rfl⟩,rfl,h2⟩
 ·exact .inr ⟨e,w',by rw [Sem.run_bind,h];rfl⟩
def NewP (N:Nat) (u:Value):Prop:=u=undef∨∃b,N≤b∧u= .pointer (some ⟨b,0,none⟩)
theorem qv_alloc {t:TypeId} {w:World} (h:Older N w1 w):QV N w1 (NewP N) ((do pure (.value (←Instr.alloc t true (.tuple #[]))):Sem Next).run P w):=by
 have hz:=q1_zero (P:=P) (t:=t) (w:=w)
 rcases hz with ⟨z,hz⟩|⟨e,w',hz⟩
 ·refine .inl ⟨.pointer (some ⟨w.heap.size,0,none⟩),{ w with heap:=w.heap.push (.cells z.cells t) }, .inl ?_, .inr ⟨_,h.size,rfl⟩,h.alloc _ _⟩
  unfold Instr.alloc
  simp only [Sem.run_bind,hz,Result.andThen_ok,newVar,newRow,newObj,Sem.run,Sem.run_pure]
 ·refine .inr ⟨e,w',?_⟩
  unfold Instr.alloc
  simp only [Sem.run_bind,hz,Result.andThen]
theorem wpOp_old {A:Value→Prop} (hA:A undef) {j:Nat} {oj:Oper} (hj:ops[j]? =some oj) {K:Act→World→Prop} {a:Act} {w:World} (hw:Older N w1 w) (hq:QV N w1 A ((execOp a.eval oj).run P w)) (h:wpOp P ops Q j K a w):
 wpOp P ops Q j (fun a' w'=>Older N w1 w'∧(∃u,a'=a.put oj.dst u∧A u)∧K a' w') a w:=by
 unfold wpOp at h ⊢
 simp only [hj] at h ⊢
 split
 ·next hwd=>
  rw [if_pos hwd] at h
  rcases h with h|h
  ·left
   unfold Oper.wp at h ⊢
   rcases hq with ⟨u,w',hu|⟨hu,rfl⟩,h1,h2⟩|⟨e,w',hu⟩
   ·rw [hu] at h ⊢
    exact ⟨h2,⟨u,rfl,h1⟩,h⟩
   ·rw [hu] at h ⊢
    exact ⟨h2,⟨undef,rfl,h1⟩,h⟩
   ·rw [hu] at h ⊢
    cases e<;>exact h
  ·exact .inr h
 ·next hwd=>
  rw [if_neg hwd] at h
  exact ⟨hw,⟨undef,rfl,hA⟩,h⟩
def Made1 (ops:Array Oper) (l1:Array Bool) (N:Nat) (l:Array Bool) (a:Act):Prop:=∀k d,freshTo ops l1 k d=true→l.getD k true=true→NewP N (a.tmps.getD d undef)
theorem getD_put_ne {a:Act} {o:Option Tmp} {u:Value} {d:Nat} (h:o≠some d):(a.put o u).tmps.getD d undef=a.tmps.getD d undef:=by
 cases o with
 |none=>rfl
 |some e=>
  have he:e≠d:=fun h'=>h (by rw [h'])
  show (a.tmps.setIfInBounds e u).getD d undef=_
  rw [Array.getD_eq_getD_getElem?,Array.getD_eq_getD_getElem?,Array.getElem?_setIfInBounds_ne he]
theorem getD_put_eq {a:Act} {u:Value} {d:Nat}:(a.put (some d) u).tmps.getD d undef=u∨(a.put (some d) u).tmps.getD d undef=undef:=by
 show (a.tmps.setIfInBounds d u).getD d undef=u∨(a.tmps.setIfInBounds d u).getD d undef=undef
 rw [Array.getD_eq_getD_getElem?,Array.getElem?_setIfInBounds]
 by_cases h:d<a.tmps.size
 ·rw [if_pos rfl,if_pos h];exact .inl rfl
 ·rw [if_pos rfl,if_neg h];exact .inr rfl
theorem fresh_spec {l:Array Bool} {k d:Nat} (h:freshTo ops l k d=true):l.getD k true=false∧(∃o t,ops[k]? =some o∧o.op= .alloc t∧o.dst=some d)∧∀(j:Nat) (o:Oper),ops[j]? =some o→j≠k→o.dst≠some d:=by
 unfold freshTo at h
 rw [Bool.and_eq_true,Bool.and_eq_true] at h
 obtain ⟨⟨h1,h2⟩,h3⟩:=h
 refine ⟨by simpa using h1,?_,fun j o hj hjk e=>?_⟩
 ·cases hk:ops[k]? with
  |none=>rw [hk] at h2;cases h2
  |some o=>
   rw [hk] at h2
   simp only [Bool.and_eq_true] at h2
   obtain ⟨⟨h4,h5⟩,h6⟩:=h2
   cases ho:o.op<;>rw [ho] at h4<;>first|cases h4|skip
   next t=>exact ⟨o,t,rfl,ho,by simpa using h5⟩
 ·have hlt:j<ops.size:=(Array.getElem?_eq_some_iff.1 hj).1
  have:=List.all_eq_true.1 h3 j (List.mem_range.2 hlt)
  rw [hj] at this
  simp [hjk,e] at this
theorem Made1.step {l1 l:Array Bool} {a:Act} (h:Made1 ops l1 N l a) {j:Nat} {oj:Oper} (hj:ops[j]? =some oj) {u:Value} (hu:∀t,oj.op= .alloc t→NewP N u):Made1 ops l1 N (l.setIfInBounds j true) (a.put oj.dst u):=fun k d hf hl=>by
 obtain ⟨-,⟨o,t,ho,h1,h2⟩,h3⟩:=fresh_spec hf
 by_cases e:j=k
 ·subst e
  rw [hj] at ho
  injection ho with ho
  subst ho
  rw [h2]
  rcases getD_put_eq (a:=a) (u:=u) (d:=d) with h4|h4
  ·rw [h4];exact hu t h1
  ·rw [h4];exact .inl rfl
 ·rw [getD_put_ne (h3 j oj hj e)]
  refine h k d hf ?_
  rwa [getD_set_ne true e] at hl
theorem plain_qv {l1 l:Array Bool} {a:Act} {w:World} {j:Nat} {oj:Oper} (hj:ops[j]? =some oj) (hr:j∈Region.ready .any ops l) (hp:plainOp ops l1 oj=true) (hM:Made1 ops l1 N l a) (hw:Older N w1 w):QV N w1 (fun u=>∀t,oj.op= .alloc t→NewP N u) ((execOp a.eval oj).run P w):=by
 have wk:∀ {A:Value→Prop} {r:Result Next},(∀t,oj.op≠ .alloc t)→QV N w1 A r→QV N w1 (fun u=>∀t,oj.op= .alloc t→NewP N u) r:=fun hn h=>by
  rcases h with ⟨u,w',h1,h2,h3⟩|h
  ·exact .inl ⟨u,w',h1,fun t ht=>absurd ht (hn t),h3⟩
  ·exact .inr h
 obtain ⟨dst,op,type,pos,after,guard⟩:=oj
 cases op<;>simp only [plainOp,Bool.false_eq_true] at hp
 next t=>
  rcases qv_alloc (P:=P) (t:=t) hw with ⟨u,w',h1,h2,h3⟩|h
  ·exact .inl ⟨u,w',h1,fun t ht=>h2,h3⟩
  ·exact .inr h
 next t x=>exact wk (fun t h=>by cases h) (QV.val (q1_loadAt.qk hw))
 next t x y=>
  cases x<;>simp only [Bool.false_eq_true] at hp
  next d=>
  refine wk (fun t h=>by cases h) (QV.unit ?_)
  obtain ⟨k,hk,h2⟩:=List.any_eq_true.1 hp
  rw [Bool.and_eq_true,Array.any_eq_true] at h2
  obtain ⟨hf,e,he,h3⟩:=h2
  rw [Bool.and_eq_true,beq_iff_eq] at h3
  have hdone:l.getD k false=true:=by
   obtain ⟨_,o',ho',hall⟩:=mem_ready.1 hr
   rw [hj] at ho'
   injection ho' with ho'
   subst ho'
   have:=hall _ (Array.getElem_mem he) h3.1
   rwa [h3.2] at this
  have hnew:=hM k d hf (getD_tt hdone)
  unfold Instr.storeAt
  show QK N w1 ((Instr.sureAddr (a.tmps.getD d undef)>>=fun x=>storeVar t x (a.eval y)).run P w)
  rcases hnew with h4|⟨b,hb,h4⟩
  ·rw [h4];exact .inr ⟨_,w,rfl⟩
  ·rw [h4]
   exact qk_storeVar (a:=⟨b,0,none⟩) hb hw
 next s x f=>exact wk (fun t h=>by cases h) (QV.val (q1_field.qk hw))
 next t x ix=>exact wk (fun t h=>by cases h) (QV.val (q1_index.qk hw))
theorem D_var {l1:Array Bool} {i:Nat} {oi:Oper} {v:Value} (hi:ops[i]? =some oi) (hsel:∀(j:Nat) (o:Oper) cs b,ops[j]? =some o→o.op≠ .select cs b) (hm0:m=0)
 (hQ:∀c a w,Q (.panic c) (a.put oi.dst v) w→Q (.panic c) a w) {D:List Nat}:
 ∀(fuel:Nat) (l:Array Bool) (a:Act) (w:World),
  (∀j oj,ops[j]? =some oj→j≠i→l.getD j true=false→(∀e∈oj.after,Region.binds .any e=true→e.on≠i)→oi.apart ops oj=true)→
  (∀j oj,ops[j]? =some oj→j≠i→l.getD j true=false→j∉D→plainOp ops l1 oj=true)→
  (∀j∈D,l.getD j true=false∧∃oj,ops[j]? =some oj∧∃e∈oj.after,Region.binds .any e=true∧(e.on=i∨e.on∈D))→
  Made1 ops l1 N l a→Older N w1 w→
  i∈Region.ready .any ops l→YieldsIf P ops (Older N w1) oi v a→wpD P ops Q S m fuel (l.setIfInBounds i true) (a.put oi.dst v) w→wpD P ops Q S m (fuel+1) l a w:=by
 intro fuel
 induction fuel with
 |zero=>
  intro l a w _ _ _ hM hO hr hy H
  refine ⟨fun h=>(by rw [h] at hr;cases hr),fun j hj=>?_⟩
  by_cases hji:j=i
  ·subst hji;exact hy.wpOp hi hO ⟨fun h=>by omega,H⟩
  ·have:=ready_mono hj hji
   rw [H.1] at this
   cases this
 |succ fuel ih=>
  intro l a w hfree hq1 hq2 hM hO hr hy H
  refine ⟨fun h=>(by rw [h] at hr;cases hr),fun j hj=>?_⟩
  by_cases hji:j=i
  ·subst hji;exact hy.wpOp hi hO ⟨fun h=>by omega,H⟩
  ·have h1:=H.2 j (ready_mono hj hji)
   obtain ⟨hjun,oj,hoj,hall⟩:=mem_ready.1 hj
   have hlisted:∀e∈oj.after,Region.binds .any e=true→l.getD e.on true=false→False:=fun e he hb h0=>by
    have h1:=hall e he hb
    simp only [Array.getD_eq_getD_getElem?] at h0 h1
    cases hx:l[e.on]? with
    |none=>rw [hx] at h0;simp at h0
    |some b=>rw [hx] at h0 h1;simp at h0 h1;rw [h0] at h1;cases h1
   have hiun:=(mem_ready.1 hr).1
   have hnot:∀e∈oj.after,Region.binds .any e=true→e.on≠i:=fun e he hb heq=>hlisted e he hb (by rw [heq];exact hiun)
   have hjD:j∉D:=fun hD=>by
    obtain ⟨_,oj',hoj',e,he,hb,h⟩:=hq2 j hD
    rw [hoj] at hoj'
    injection hoj' with hoj'
    subst hoj'
    rcases h with h|h
    ·exact hnot e he hb h
    ·exact hlisted e he hb (hq2 _ h).1
   have h2:=wpOp_putIf hoj (hfree j oj hoj hji hjun hnot) (fun cs b=>hsel i oi cs b hi) (fun cs b=>hsel j oj cs b hoj) hQ hy h1
   have h4:=wpOp_old (A:=fun u=>∀t,oj.op= .alloc t→NewP N u) (fun t _=> .inl rfl) hoj hO (plain_qv hoj hj (hq1 j oj hoj hji hjun hjD) hM hO) h2
   have hset:∀k,(l.setIfInBounds j true).getD k true=false→l.getD k true=false:=fun k hun=>by
    by_cases hjk:j=k
    ·subst hjk;exact hjun
    ·rw [getD_set_ne true hjk] at hun;exact hun
   refine wpOp_mono (fun a' w' h3=>?_) h4
   obtain ⟨hO',⟨u,rfl,hu⟩,h5,h6,h7⟩:=h3
   refine ⟨fun h=>by omega,ih (l.setIfInBounds j true) _ w' (fun k ok hk hki hun hno=>hfree k ok hk hki (hset k hun) hno) (fun k ok hk hki hun hD=>hq1 k ok hk hki (hset k hun) hD) (fun k hk=>?_) (hM.step hoj hu) hO' (ready_mono hr (Ne.symm hji)) h5 ?_⟩
   ·obtain ⟨q1,q2⟩:=hq2 k hk
    refine ⟨?_,q2⟩
    rw [getD_set_ne true (show j≠k from fun e=>hjD (by rw [e];exact hk))]
    exact q1
   ·rw [Array.setIfInBounds_comm _ _ hji]
    exact h7
theorem var_spec {l:Array Bool} {i:Nat} {D:List Nat} (h:varOk ops l i D=true):
 (∀j oj,ops[j]? =some oj→j≠i→l.getD j true=false→j∉D→plainOp ops l oj=true)∧(∀j∈D,l.getD j true=false∧∃oj,ops[j]? =some oj∧∃e∈oj.after,Region.binds .any e=true∧(e.on=i∨e.on∈D)):=by
 unfold varOk at h
 rw [Bool.and_eq_true,List.all_eq_true,List.all_eq_true] at h
 obtain ⟨h1,h2⟩:=h
 refine ⟨fun j oj hj hji hl hD=>?_,fun j hj=>?_⟩
 ·have hlt:j<ops.size:=(Array.getElem?_eq_some_iff.1 hj).1
  have:=h1 j (List.mem_range.2 hlt)
  rw [hl,hj] at this
  simpa [hji,hD] using this
 ·have:=h2 j hj
  unfold waitsFor at this
  rw [Bool.and_eq_true] at this
  obtain ⟨a1,a2⟩:=this
  refine ⟨by simpa using a1,?_⟩
  cases hj:ops[j]? with
  |none=>rw [hj] at a2;cases a2
  |some o=>
   rw [hj] at a2
   refine ⟨o,rfl,?_⟩
   simp only [Array.any_eq_true] at a2
   obtain ⟨k,hk,he⟩:=a2
   refine ⟨o.after[k],Array.getElem_mem hk,?_⟩
   simpa using he
theorem made_start {l:Array Bool} {a:Act}:Made1 ops l N l a:=fun k d hf hl=>by
 have:=(fresh_spec hf).1
 rw [this] at hl;cases hl
theorem older_start {w:World}:Older w.heap.size w w where
 size:=Nat.le_refl _
 same:=fun _ _=>rfl
 cells:=fun b o hb ho=>by
  have:=(Array.getElem?_eq_some_iff.1 ho).1
  omega
end
section
variable {P:Program} {T:Nat→Ty} {tt:Nat} {w0:En} {w w':World} {G:Gh} {s:St} {a:Act} {ops:Array Oper} {m n:Nat}
theorem put_same (S:Sim tt w0 G s a w) {d:Option Nat} (hd:∀x,d=some x→x<a.tmps.size) {v:AV} {u:Value} (hr:RA w0.B G w v u) {K:St→Prop} (h:putK s d v K):∃s1,Sim tt w0 G s1 (a.put d u) w∧K s1:=by
 cases d with
 |none=>exact ⟨s,S,h⟩
 |some d=>
  simp only [putK,force_eq] at h
  exact ⟨_,S.put (hd d rfl) hr,h⟩
theorem take_sound (hT:TabOk P T) (S:Sim tt w0 G s a w) (o:Oper) (hd:∀x,o.dst=some x→x<a.tmps.size) {K:St→Prop} (h:atakeG T ops o K s):
 ∃u s1,Sim tt w0 G s1 (a.put o.dst u) w∧K s1∧∀Y:World→Prop,(isLoad o.op=true→∀w',Y w'→Agr G w w')→YieldsIf P ops Y o u a:=by
 have yes:∀s,Sim tt w0 G s a w→Region.wanted o (yielded ops a.tmps)=true→(aval T s o.op fun v=>putK s o.dst v K)→∃u s1,Sim tt w0 G s1 (a.put o.dst u) w∧K s1∧∀Y:World→Prop,(isLoad o.op=true→∀w',Y w'→Agr G w w')→YieldsIf P ops Y o u a:=fun s S hw h=>by
  obtain ⟨v,u,h1,h2,h3⟩:=aval_sound hT S o h
  obtain ⟨s1,k1,k2⟩:=put_same S hd h2 h1
  exact ⟨u,s1,k1,k2,fun Y hY=> .inl ⟨hw,fun w' hw'=>h3 w' fun hl=>hY hl w' hw'⟩⟩
 have no:∀s,Sim tt w0 G s a w→Region.wanted o (yielded ops a.tmps)=false→putK s o.dst (.tup []) K→∃u s1,Sim tt w0 G s1 (a.put o.dst u) w∧K s1∧∀Y:World→Prop,(isLoad o.op=true→∀w',Y w'→Agr G w w')→YieldsIf P ops Y o u a:=fun s S hw h=>by
  obtain ⟨s1,k1,k2⟩:=put_same S hd (v:= .tup []) (u:=undef) ⟨[],rfl,trivial⟩ h
  exact ⟨undef,s1,k1,k2,fun Y hY=> .inr ⟨hw,rfl⟩⟩
 unfold atakeG guardOf at h
 split at h
 ·next hg=>exact yes s S (by simp [Region.wanted,hg]) h
 ·next j want hg=>
  split at h
  ·next oj hj=>
   split at h
   ·next d hdj=>
    split at h
    ·next b hb=>
     have hr:=S.eval (.tmp d)
     rw [hb] at hr
     have hu:a.tmps.getD d undef= .bool b:=hr.bool_inv
     have hy:yielded ops a.tmps j=some b:=by
      have:a.tmps[d]? =some (.bool b):=by
       simp only [Array.getD_eq_getD_getElem?] at hu
       cases hx:a.tmps[d]? with
       |none=>rw [hx] at hu;simp [undef] at hu
       |some v=>rw [hx] at hu;simpa using hu
      simp [yielded,hj,hdj,this]
     have hw:Region.wanted o (yielded ops a.tmps)=(b==want):=by
      simp only [Region.wanted,hg,hy]
      cases b<;>cases want<;>rfl
     simp only [branch_iff] at h
     cases b with
     |true=>
      have S1:=S.know' (d:=d) hb hr
      cases want with
      |true=>exact yes _ S1 (by rw [hw];rfl) (h.1 rfl)
      |false=>exact no _ S1 (by rw [hw];rfl) (h.1 rfl)
     |false=>
      have S1:=S.know' (d:=d) hb hr
      cases want with
      |true=>exact no _ S1 (by rw [hw];rfl) (h.2 rfl)
      |false=>exact yes _ S1 (by rw [hw];rfl) (h.2 rfl)
    ·next vs hb=>
     have hr:=S.eval (.tmp d)
     rw [hb] at hr
     obtain ⟨us,hu0,_⟩:=hr
     have hu:a.tmps.getD d undef= .tuple us.toArray:=hu0
     have hy:yielded ops a.tmps j=none:=by
      simp only [Array.getD_eq_getD_getElem?] at hu
      cases hx:a.tmps[d]? with
      |none=>simp [yielded,hj,hdj,hx]
      |some v=>
       rw [hx] at hu
       simp only [Option.getD_some] at hu
       subst hu
       simp [yielded,hj,hdj,hx]
     exact no s S (by simp [Region.wanted,hg,hy]) h
    ·exact h.elim
   ·exact h.elim
  ·exact h.elim
theorem loadQ_sound (hT:TabOk P T) (S:Sim tt w0 G s a w) (o:Oper) (hd:∀x,o.dst=some x→x<a.tmps.size) {K:St→Prop} (h:aloadQ T ops o K s):
 ∃u s1,Sim tt w0 G s1 (a.put o.dst u) w∧K s1∧YieldsIf P ops (fun x=>x=w) o u a:=by
 have no:∀s,Sim tt w0 G s a w→Region.wanted o (yielded ops a.tmps)=false→putK s o.dst (.tup []) K→∃u s1,Sim tt w0 G s1 (a.put o.dst u) w∧K s1∧YieldsIf P ops (fun x=>x=w) o u a:=fun s S hw h=>by
  obtain ⟨s1,k1,k2⟩:=put_same S hd (v:= .tup []) (u:=undef) ⟨[],rfl,trivial⟩ h
  exact ⟨undef,s1,k1,k2, .inr ⟨hw,rfl⟩⟩
 have yes:∀s,Sim tt w0 G s a w→Region.wanted o (yielded ops a.tmps)=true→aloadN T o K s→∃u s1,Sim tt w0 G s1 (a.put o.dst u) w∧K s1∧YieldsIf P ops (fun x=>x=w) o u a:=fun s S hw h=>by
  unfold aloadN at h
  split at h
  ·next t x ho=>
   split at h
   ·next t' i off cs hb=>
    have hx:=S.eval x
    rw [hb] at hx
    obtain ⟨g,n,c,e,cur,us,k1,hu,k3,k4,k4',k5,k6⟩:=hx
    obtain ⟨v,u,h1,h2,h3⟩:=load_sound (P:=P) (b:=g) (o:=i * cs.length+off) hT h ((k5.mono fun _ _ h=>(RepU.rc h:RC w0.B G w _ _)).drop off)
    obtain ⟨s1,m1,m2⟩:=put_same S hd (RC.of_load h2) h1
    refine ⟨u,s1,m1,m2, .inl ⟨hw,fun w' e=>?_⟩⟩
    subst e
    have:=h3 w' (fun j v hv=>by rw [List.getElem?_drop] at hv;rw [Nat.add_assoc];exact k6 _ v hv)
    simp only [execOp,ho,hu,Sem.run_bind,this,Result.andThen_ok,Sem.run_pure]
   ·next t' i e2 z2 es hb=>
    have hx:=S.eval x
    rw [hb] at hx
    obtain ⟨g,n,c,e,cur,k1,hu,k3,k4,k5,k6⟩:=hx
    obtain ⟨hh,q1,q2,q3⟩:=k6 es rfl
    have hA:All2 (RC w0.B G w) [.own (.r t' i) e2 z2 es] [hh]:=⟨⟨q2,q3⟩,trivial⟩
    obtain ⟨v,u,h1,h2,h3⟩:=load_sound (P:=P) (b:=g) (o:=i) hT h hA
    obtain ⟨s1,m1,m2⟩:=put_same S hd (RC.of_load h2) h1
    refine ⟨u,s1,m1,m2, .inl ⟨hw,fun w' e=>?_⟩⟩
    subst e
    have:=h3 w' (fun j v hv=>by
     cases j with
     |zero=>
      simp only [List.getElem?_cons_zero,Option.some.injEq] at hv
      subst hv
      rw [Nat.add_zero,(show Blk w' g e cur from k4).cell,←Array.getElem?_toList]
      exact q1
     |succ j=>simp at hv)
    simp only [execOp,ho,hu,Sem.run_bind,this,Result.andThen_ok,Sem.run_pure]
   ·obtain ⟨v,u,h1,h2,h3⟩:=aval_sound hT S o (by rw [ho];exact h)
    obtain ⟨s1,m1,m2⟩:=put_same S hd h2 h1
    exact ⟨u,s1,m1,m2, .inl ⟨hw,fun w' e=>h3 w' fun _=>by rw [e];exact Agr.refl _ _⟩⟩
  ·exact h.elim
 unfold aloadQ guardOf at h
 split at h
 ·next hg=>exact yes s S (by simp [Region.wanted,hg]) h
 ·next j want hg=>
  split at h
  ·next oj hj=>
   split at h
   ·next d hdj=>
    split at h
    ·next b hb=>
     have hr:=S.eval (.tmp d)
     rw [hb] at hr
     have hu:a.tmps.getD d undef= .bool b:=hr.bool_inv
     have hy:yielded ops a.tmps j=some b:=by
      have:a.tmps[d]? =some (.bool b):=by
       simp only [Array.getD_eq_getD_getElem?] at hu
       cases hx:a.tmps[d]? with
       |none=>rw [hx] at hu;simp [undef] at hu
       |some v=>rw [hx] at hu;simpa using hu
      simp [yielded,hj,hdj,this]
     have hw:Region.wanted o (yielded ops a.tmps)=(b==want):=by
      simp only [Region.wanted,hg,hy]
      cases b<;>cases want<;>rfl
     simp only [branch_iff] at h
     cases b with
     |true=>
      have S1:=S.know' (d:=d) hb hr
      cases want with
      |true=>exact yes _ S1 (by rw [hw];rfl) (h.1 rfl)
      |false=>exact no _ S1 (by rw [hw];rfl) (h.1 rfl)
     |false=>
      have S1:=S.know' (d:=d) hb hr
      cases want with
      |true=>exact no _ S1 (by rw [hw];rfl) (h.2 rfl)
      |false=>exact yes _ S1 (by rw [hw];rfl) (h.2 rfl)
    ·next vs hb=>
     have hr:=S.eval (.tmp d)
     rw [hb] at hr
     obtain ⟨us,hu0,_⟩:=hr
     have hu:a.tmps.getD d undef= .tuple us.toArray:=hu0
     have hy:yielded ops a.tmps j=none:=by
      simp only [Array.getD_eq_getD_getElem?] at hu
      cases hx:a.tmps[d]? with
      |none=>simp [yielded,hj,hdj,hx]
      |some v=>
       rw [hx] at hu
       simp only [Option.getD_some] at hu
       subst hu
       simp [yielded,hj,hdj,hx]
     exact no s S (by simp [Region.wanted,hg,hy]) h
    ·exact h.elim
   ·exact h.elim
  ·exact h.elim
def Fin (tt:Nat) (w0:En) (n:Nat) (K:St→Prop):Exit→Act→World→Prop:=fun e a w=>match e with| .normal=>Nxt tt w0 n none K a w|_=>False
def Held (F:Gh) (w':World):Prop:=∀b,F.fz b→w'.heap[b]? =F.fw.heap[b]?
theorem run_sound (hT:TabOk P T) (hok:opsOk n ops.toList=true) (hns:Region.noSelect ops=true) (hph:phaseOk ops m=true) {K0:St→Prop} (F:Gh):∀(p:Plan) (K:St→Prop) (E:Array Bool→Bool) (d0:Nat),(∀l fuel G s a w,E l=true→Cl ops l→d0≤fuel→K s→Sim tt w0 G s a w→a.tmps.size=n→((∀i,i<m→l.getD i true=true)∨(G.fz=F.fz∧G.fw=F.fw))→wpD P ops (Fin tt w0 n K0) (Held F) m fuel l a w)→
 (∀pre l fuel G s a w,chk ops m E pre false p l=true→Cl ops l→depth p+d0≤fuel→arun P T tt ops p K s→Sim tt w0 G s a w→a.tmps.size=n→((∀i,i<m→l.getD i true=true)∨(G.fz=F.fz∧G.fw=F.fw))→(pre=true→∀w',Held F w'→Agr G w w')→wpD P ops (Fin tt w0 n K0) (Held F) m fuel l a w)∧
 (∀l fuel G s a w,chk ops m E false true p l=true→Cl ops l→depth p+d0≤fuel+1→arun P T tt ops p K s→Sim tt w0 G s a w→a.tmps.size=n→((∀i,i<m→l.getD i true=true)∨(G.fz=F.fz∧G.fw=F.fw))→∀i∈altIdx p,i∈Region.ready .any ops l→wpOp P ops (Fin tt w0 n K0) i (fun a' w'=>(i<m→Held F w')∧wpD P ops (Fin tt w0 n K0) (Held F) m fuel (l.setIfInBounds i true) a' w') a w):=by
 have listed:∀ {l:Array Bool} {i:Nat},(∀k,k<m→l.getD k true=true)→∀k,k<m→(l.setIfInBounds i true).getD k true=true:=fun {l i} h k hk=>by
  by_cases e:i=k
  ·subst e
   simp only [Array.getD_eq_getD_getElem?,Array.getElem?_setIfInBounds]
   by_cases hlt:i<l.size<;>simp [hlt]
  ·rw [getD_set_ne true e];exact h k hk
 have late:∀ {l:Array Bool} {i:Nat},Cl ops l→i∈Region.ready .any ops l→m≤i→∀k,k<m→l.getD k true=true:=fun {l i} hcl hr hm k hk=>getD_tt (phase_done hph hcl hr hm hk)
 have held:∀ {G:Gh} {s:St} {a:Act} {w:World},Sim tt w0 G s a w→G.fz=F.fz∧G.fw=F.fw→Held F w:=fun {G s a w} S h b hb=>by
  have:=(S.fz1 b (h.1▸hb)).2
  rw [h.2] at this
  exact this
 have step:∀(K:St→Prop) (E:Array Bool→Bool) (d0:Nat) (p:Plan),(∀pre l fuel G s a w,chk ops m E pre false p l=true→Cl ops l→depth p+d0≤fuel→arun P T tt ops p K s→Sim tt w0 G s a w→a.tmps.size=n→((∀i,i<m→l.getD i true=true)∨(G.fz=F.fz∧G.fw=F.fw))→(pre=true→∀w',Held F w'→Agr G w w')→wpD P ops (Fin tt w0 n K0) (Held F) m fuel l a w)→
  ∀(i fuel:Nat) (l:Array Bool) (G:Gh) (s:St) (a:Act) (w:World),chk ops m E false false p (l.setIfInBounds i true)=true→Cl ops l→depth p+d0≤fuel→((lateOk ops m i=true∧match ops[i]? with|some o=>aopG P T tt ops o (arun P T tt ops p K) s|none=>False)∨(match ops[i]? with|some o=>aopE P T tt ops o (arun P T tt ops p K) s|none=>False)∨(m≤i∧match ops[i]? with|some o=>aopXG P T tt ops o (arun P T tt ops p K) s|none=>False))→Sim tt w0 G s a w→a.tmps.size=n→((∀i,i<m→l.getD i true=true)∨(G.fz=F.fz∧G.fw=F.fw))→i∈Region.ready .any ops l→
  wpOp P ops (Fin tt w0 n K0) i (fun a' w'=>(i<m→Held F w')∧wpD P ops (Fin tt w0 n K0) (Held F) m fuel (l.setIfInBounds i true) a' w') a w:=by
  intro K E d0 p ih i fuel l G s a w hc hcl hdp h S hn hI hr
  obtain ⟨hun,o,ho,hall⟩:=mem_ready.1 hr
  simp only [ho] at h
  have hd:=opsOk_at hok (show ops.toList[i]? =some o by simpa using ho)
  have nx:∀F' a' w',(i<m→F'=some G)→Nxt tt w0 a.tmps.size F' (arun P T tt ops p K) a' w'→(i<m→Held F w')∧wpD P ops (Fin tt w0 n K0) (Held F) m fuel (l.setIfInBounds i true) a' w':=fun F' a' w' hF ⟨G',s',S',hn',h',hk⟩=>by
   rcases Nat.lt_or_ge i m with him|him
   ·have hkk:=hk G (hF him)
    have hG:G.fz=F.fz∧G.fw=F.fw:=by
     rcases hI with hI|hI
     ·have:=hI i him;rw [hun] at this;cases this
     ·exact hI
    have hG':G'.fz=F.fz∧G'.fw=F.fw:=⟨hkk.1.trans hG.1,hkk.2.trans hG.2⟩
    exact ⟨fun _=>held S' hG',ih false _ fuel G' s' a' w' hc (hcl.set hr) hdp h' S' (hn'.trans hn) (.inr hG') (by nofun)⟩
   ·exact ⟨fun h=>by omega,ih false _ fuel G' s' a' w' hc (hcl.set hr) hdp h' S' (hn'.trans hn) (.inl (listed (late hcl hr him))) (by nofun)⟩
  rcases h with ⟨hlate,h⟩|h|⟨hmi,h⟩
  rotate_left 2
  ·have key:=aopXG_sound (P:=P) (Q:=Fin tt w0 n K0) hT S o (by rw [hn];exact hd) h
   unfold wpOp
   simp only [ho]
   split
   ·next hw=>
    rw [if_pos hw] at key
    exact .inl (Oper.wp_mono (fun a' w'=>nx _ a' w' fun h=>by omega) key)
   ·next hw=>
    rw [if_neg hw] at key
    exact nx _ _ _ (fun h=>by omega) key
  rotate_left 1
  ·obtain ⟨hw,key⟩:=aopE_sound (P:=P) (ops:=ops) (Q:=Fin tt w0 n K0) hT S o h
   unfold wpOp
   simp only [ho]
   rw [if_pos hw]
   exact .inl (Oper.wp_mono (fun a' w'=>nx _ a' w' fun _=>rfl) key)
  have key:=aopG_sound (P:=P) (Q:=Fin tt w0 n K0) hT S o (by rw [hn];exact hd) h
  have hkp:i<m→kp o G=some G:=fun him=>by
   unfold kp
   rw [late_at hlate ho him]
  unfold wpOp
  simp only [ho]
  split
  ·next hw=>
   rw [if_pos hw] at key
   exact .inl (Oper.wp_mono (fun a' w'=>nx _ a' w' hkp) key)
  ·next hw=>
   rw [if_neg hw] at key
   exact nx _ _ _ (fun _=>rfl) key
 intro p
 induction p with
 |done=>
  intro K E d0 hE
  refine ⟨fun pre l fuel G s a w hc hcl hdp h S hn hI hp=>hE l fuel G s a w (by simpa [chk] using hc) hcl (by simp only [depth] at hdp;omega) h S hn hI,fun l fuel G s a w hc hcl hdp h S hn hI i hi=>by simp [altIdx] at hi⟩
 |stop=>
  intro K E d0 hE
  exact ⟨fun pre l fuel G s a w hc _=>by simp [chk] at hc,fun l fuel G s a w hc hcl hdp h S hn hI i hi=>by simp [altIdx] at hi⟩
 |take i p ih=>
  intro K E d0 hE
  refine ⟨fun pre l fuel G s a w hc hcl hdp h S hn hI hp=>?_,fun l fuel G s a w hc _=>by simp [chk] at hc⟩
  simp only [chk,Bool.and_eq_true] at hc
  obtain ⟨⟨⟨c1,c2⟩,c3⟩,c4⟩:=hc
  cases fuel with
  |zero=>simp only [depth] at hdp;omega
  |succ fuel=>
   simp only [arun] at h
   cases ho:ops[i]? with
   |none=>simp only [ho] at h
   |some o=>
    simp only [ho] at h c3
    have hd:=opsOk_at hok (show ops.toList[i]? =some o by simpa using ho)
    obtain ⟨u,s1,S1,h1,hy⟩:=take_sound hT S o (by rw [hn];exact hd) h
    have hr:i∈Region.ready .any ops l:=by simpa using c1
    have hmm:i<m→∀l:Array Bool,Cl ops l→l.getD i true=false→∀j∈Region.ready .any ops l,j<m:=fun him l hcl hl j hj=>by
     rcases Nat.lt_or_ge j m with h|h
     ·exact h
     ·rw [getD_tt (phase_done hph hcl hj h him)] at hl;cases hl
    have hIm:i<m→G.fz=F.fz∧G.fw=F.fw:=fun him=>by
     rcases hI with hI|hI
     ·have:=hI i him;rw [(mem_ready.1 hr).1] at this;cases this
     ·exact hI
    have rest:=(ih K E d0 hE).1 pre (l.setIfInBounds i true) fuel G s1 (a.put o.dst u) w c4 (hcl.set hr) (by simp only [depth] at hdp;omega) h1 S1 (size_put.trans hn) (hI.imp listed id) hp
    simp only [Bool.or_eq_true] at c3
    rcases c3 with c3|c3
    ·have hl:isLoad o.op≠true:=fun e=>by
      cases hop:o.op<;>simp [hop,isLoad,valueOp] at e c3
     exact D_first (Y:=fun _=>True) ho (Region.noSelect_spec hns) (fun _ _ _ h=>h) hmm (.inl fun _=>trivial) fuel l a w hcl (Region.free_spec ho c2) hr (hy _ fun e=>absurd e hl) trivial (fun h=>held S (hIm h)) rest
    ·simp only [Bool.and_eq_true,decide_eq_true_eq] at c3
     exact D_first (Y:=Held F) ho (Region.noSelect_spec hns) (fun _ _ _ h=>h) hmm (.inr ⟨c3.2,fun _ h=>h⟩) fuel l a w hcl (Region.free_spec ho c2) hr (hy _ fun _=>hp c3.1.1) (held S (hIm c3.2)) (fun h=>held S (hIm h)) rest
 |takeQ i p ih=>
  intro K E d0 hE
  refine ⟨fun pre l fuel G s a w hc hcl hdp h S hn hI hp=>?_,fun l fuel G s a w hc _=>by simp [chk] at hc⟩
  simp only [chk,Bool.and_eq_true] at hc
  obtain ⟨⟨⟨c1,c2⟩,c3⟩,c4⟩:=hc
  cases fuel with
  |zero=>simp only [depth] at hdp;omega
  |succ fuel=>
   simp only [arun] at h
   cases ho:ops[i]? with
   |none=>simp only [ho] at h
   |some o=>
    simp only [ho] at h
    have hd:=opsOk_at hok (show ops.toList[i]? =some o by simpa using ho)
    obtain ⟨u,s1,S1,h1,hy⟩:=loadQ_sound (ops:=ops) hT S o (by rw [hn];exact hd) h
    have hr:i∈Region.ready .any ops l:=by simpa using c1
    have hIm:i<m→G.fz=F.fz∧G.fw=F.fw:=fun him=>by
     rcases hI with hI|hI
     ·have:=hI i him;rw [(mem_ready.1 hr).1] at this;cases this
     ·exact hI
    have rest:=(ih K E d0 hE).1 pre (l.setIfInBounds i true) fuel G s1 (a.put o.dst u) w c4 (hcl.set hr) (by simp only [depth] at hdp;omega) h1 S1 (size_put.trans hn) (hI.imp listed id) hp
    obtain ⟨q1,q2⟩:=quiet_spec c3
    exact D_quiet ho (Region.noSelect_spec hns) (fun _ _ _ h=>h) fuel l a w (Region.free_spec ho c2) q1 q2 hr hy (fun h=>held S (hIm h)) rest
 |takeV i p ih=>
  intro K E d0 hE
  refine ⟨fun pre l fuel G s a w hc hcl hdp h S hn hI hp=>?_,fun l fuel G s a w hc _=>by simp [chk] at hc⟩
  simp only [chk,Bool.and_eq_true] at hc
  obtain ⟨⟨⟨⟨⟨cm,c1⟩,c2⟩,cl⟩,c3⟩,c4⟩:=hc
  have cm0:m=0:=Nat.eq_of_beq_eq_true cm
  cases fuel with
  |zero=>simp only [depth] at hdp;omega
  |succ fuel=>
   simp only [arun] at h
   cases ho:ops[i]? with
   |none=>simp only [ho] at h
   |some o=>
    simp only [ho] at h cl
    have hd:=opsOk_at hok (show ops.toList[i]? =some o by simpa using ho)
    obtain ⟨u,s1,S1,h1,hy⟩:=take_sound hT S o (by rw [hn];exact hd) h
    have hr:i∈Region.ready .any ops l:=by simpa using c1
    have rest:=(ih K E d0 hE).1 pre (l.setIfInBounds i true) fuel G s1 (a.put o.dst u) w c4 (hcl.set hr) (by simp only [depth] at hdp;omega) h1 S1 (size_put.trans hn) (hI.imp listed id) hp
    obtain ⟨q1,q2⟩:=var_spec c3
    exact D_var (N:=w.heap.size) (w1:=w) ho (Region.noSelect_spec hns) cm0 (fun _ _ _ h=>h) fuel l a w (Region.free_spec ho c2) q1 q2 made_start older_start hr (hy _ fun _ w' hw' b hb _=>hw'.same b hb) rest
 |alt i p rest ih1 ih2=>
  intro K E d0 hE
  refine ⟨fun pre l fuel G s a w hc hcl hdp h S hn hI hp=>?_,fun l fuel G s a w hc hcl hdp h S hn hI k hk hr=>?_⟩
  ·simp only [chk,Bool.and_eq_true,beq_iff_eq] at hc
   obtain ⟨⟨⟨c1,c0⟩,c2⟩,c3⟩:=hc
   cases fuel with
   |zero=>simp only [depth] at hdp;omega
   |succ fuel=>
    refine ⟨fun hr=>(by rw [←c1] at hr;cases hr),fun k hk=>?_⟩
    have hk':=hk
    rw [←c1] at hk'
    rcases List.mem_cons.1 hk' with rfl|hk'
    ·exact step K E d0 p (ih1 K E d0 hE).1 k fuel l G s a w c2 hcl (by simp only [depth] at hdp;omega) (.inl ⟨c0,h.1⟩) S hn hI hk
    ·exact (ih2 K E d0 hE).2 l fuel G s a w c3 hcl (by simp only [depth] at hdp;omega) h.2 S hn hI k hk' hk
  ·simp only [chk,Bool.and_eq_true] at hc
   rcases List.mem_cons.1 hk with rfl|hk'
   ·exact step K E d0 p (ih1 K E d0 hE).1 k fuel l G s a w hc.1.2 hcl (by simp only [depth] at hdp;omega) (.inl ⟨hc.1.1,h.1⟩) S hn hI hr
   ·exact (ih2 K E d0 hE).2 l fuel G s a w hc.2 hcl (by simp only [depth] at hdp;omega) h.2 S hn hI k hk' hr
 |altE i p rest ih1 ih2=>
  intro K E d0 hE
  refine ⟨fun pre l fuel G s a w hc hcl hdp h S hn hI hp=>?_,fun l fuel G s a w hc hcl hdp h S hn hI k hk hr=>?_⟩
  ·simp only [chk,Bool.and_eq_true,beq_iff_eq] at hc
   obtain ⟨⟨c1,c2⟩,c3⟩:=hc
   cases fuel with
   |zero=>simp only [depth] at hdp;omega
   |succ fuel=>
    refine ⟨fun hr=>(by rw [←c1] at hr;cases hr),fun k hk=>?_⟩
    have hk':=hk
    rw [←c1] at hk'
    rcases List.mem_cons.1 hk' with rfl|hk'
    ·exact step K E d0 p (ih1 K E d0 hE).1 k fuel l G s a w c2 hcl (by simp only [depth] at hdp;omega) (.inr (.inl h.1)) S hn hI hk
    ·exact (ih2 K E d0 hE).2 l fuel G s a w c3 hcl (by simp only [depth] at hdp;omega) h.2 S hn hI k hk' hk
  ·simp only [chk,Bool.and_eq_true] at hc
   rcases List.mem_cons.1 hk with rfl|hk'
   ·exact step K E d0 p (ih1 K E d0 hE).1 k fuel l G s a w hc.1 hcl (by simp only [depth] at hdp;omega) (.inr (.inl h.1)) S hn hI hr
   ·exact (ih2 K E d0 hE).2 l fuel G s a w hc.2 hcl (by simp only [depth] at hdp;omega) h.2 S hn hI k hk' hr
 |altM i p rest ih1 ih2=>
  intro K E d0 hE
  refine ⟨fun pre l fuel G s a w hc hcl hdp h S hn hI hp=>?_,fun l fuel G s a w hc hcl hdp h S hn hI k hk hr=>?_⟩
  ·simp only [chk,Bool.and_eq_true,beq_iff_eq] at hc
   obtain ⟨⟨⟨c1,c0⟩,c2⟩,c3⟩:=hc
   cases fuel with
   |zero=>simp only [depth] at hdp;omega
   |succ fuel=>
    refine ⟨fun hr=>(by rw [←c1] at hr;cases hr),fun k hk=>?_⟩
    have hk':=hk
    rw [←c1] at hk'
    rcases List.mem_cons.1 hk' with rfl|hk'
    ·exact step K E d0 p (ih1 K E d0 hE).1 k fuel l G s a w c2 hcl (by simp only [depth] at hdp;omega) (.inr (.inr ⟨by simpa using c0,h.1⟩)) S hn hI hk
    ·exact (ih2 K E d0 hE).2 l fuel G s a w c3 hcl (by simp only [depth] at hdp;omega) h.2 S hn hI k hk' hk
  ·simp only [chk,Bool.and_eq_true] at hc
   rcases List.mem_cons.1 hk with rfl|hk'
   ·exact step K E d0 p (ih1 K E d0 hE).1 k fuel l G s a w hc.1.2 hcl (by simp only [depth] at hdp;omega) (.inr (.inr ⟨by simpa using hc.1.1,h.1⟩)) S hn hI hr
   ·exact (ih2 K E d0 hE).2 l fuel G s a w hc.2 hcl (by simp only [depth] at hdp;omega) h.2 S hn hI k hk' hr
 |cut L p q ih1 ih2=>
  intro K E d0 hE
  refine ⟨fun pre l fuel G s a w hc hcl hdp h S hn hI hp=>?_,fun l fuel G s a w hc _=>by simp [chk] at hc⟩
  simp only [chk,Bool.and_eq_true] at hc
  obtain ⟨⟨cm,c1⟩,c2⟩:=hc
  have cm0:m=0:=Nat.eq_of_beq_eq_true cm
  simp only [arun] at h
  obtain ⟨s',h1,h2⟩:=h.out
  refine (ih1 (leS tt s') (fun l=>l==maskL ops.size L) (depth q+d0) ?_).1 pre l fuel G s a w c1 hcl (by simp only [depth] at hdp;omega) h1 S hn hI hp
  intro l' fuel' G1 s1 a1 w1 hl hcl1 hf hle S1 hn1 hI1
  have hl':l'=maskL ops.size L:=by simpa using hl
  subst hl'
  obtain ⟨G2,S2⟩:=hle.out w0 G1 a1 w1 S1
  exact (ih2 K E d0 hE).1 false _ fuel' G2 s' a1 w1 c2 hcl1 (by omega) h2 S2 hn1 (.inl fun i hi=>by omega) (by nofun)
theorem Sim.freeze (S:Sim tt w0 G s a w):Sim tt w0 { G with fz:=fun b=>b<w.heap.size∧(¬GM G b∨∃t,G.box t=some b),fw:=w } s a w:=
 { S with
   slot:=S.slot
   box:=S.box
   tape:=S.tape
   noTape:=S.noTape
   fz1:=fun b h=>⟨h.1,rfl⟩
   fz2:=fun t v b h h' hz=>hz.2.elim (fun k=>k (.inr (.inl ⟨t,v,h,h'⟩))) fun ⟨t',k⟩=>S.boxOwn t' t v b k h h'
   fz3:=fun b h hz=>hz.2.elim (fun k=>k (.inr (.inr h))) fun ⟨t',k⟩=>S.tapeBox t' b h k }
theorem draw_sound (hmx:P.follows .mixedOrders=true) (hT:TabOk P T) {id:Nat} (hok:opsOk n ops.toList=true) {K:St→Prop} (S:Sim tt w0 G s a w) (hn:a.tmps.size=n) (h:adraw P T tt ops K s):(Code.region id ops true).wp P (Fin tt w0 n K) a w:=by
 simp only [adraw_iff] at h
 obtain ⟨m,p,hp,h⟩:=h
 simp only [planOk,Bool.and_eq_true,decide_eq_true_eq] at hp
 obtain ⟨⟨⟨p1,p2⟩,p3⟩,p4⟩:=hp
 have S1:=(S.drew (n:=w.drawn+1) (Nat.le_succ _)).freeze
 exact wp_region_any hmx (wpAny_of_D _ _ _ _ ((run_sound hT hok p1 p2 _ p K _ 0 (fun l fuel G s a w hl _ _ hk S hn _=>D_done (by simpa using hl) ⟨G,s,S,hn,hk,Kp.none⟩ fuel)).1 true _ ops.size _ s a _ p4 (fun k o ho hk=>by rw [Array.getD_eq_getD_getElem?,Array.getElem?_replicate] at hk;split at hk<;>simp at hk) p3 h S1 hn (.inr ⟨rfl,rfl⟩) fun _ w' hw' b hb hx=>hw' b ⟨hb,hx⟩))
end
def acode (P:Program) (T:Nat→Ty) (tt:Nat) (cuts:Nat→Bool):Code→(Ex→St→Prop)→St→Prop
 | .skip,Q,s=>Q .norm s
 | .region id ops draw,Q,s=>match cuts id with
  |false=>match draw with
   |false=>aops P T tt ops ops.toList (Q .norm) s
   |true=>adraw P T tt ops (Q .norm) s
  |true=>rest tt (fun s=>match draw with
   |false=>aops P T tt ops ops.toList (Q .norm) s
   |true=>adraw P T tt ops (Q .norm) s) s
 | .seq x y,Q,s=>acode P T tt cuts x (fun e s'=>match e with| .norm=>acode P T tt cuts y Q s'| .exit i=>Q (.exit i) s'| .ret=>Q .ret s') s
 | .cond c x y,Q,s=>match s.eval c with| .bool v=>branch v (acode P T tt cuts x Q s) (acode P T tt cuts y Q s)|_=>False
 | .block id body,Q,s=>acode P T tt cuts body (fun e s'=>match e with| .exit i=>(match Nat.beq i id with|true=>Q .norm s'|false=>Q (.exit i) s')| .norm=>Q .norm s'| .ret=>Q .ret s') s
 | .loop body,Q,s=>aloop tt (acode P T tt cuts body) Q s
 | .exit id,Q,s=>Q (.exit id) s
 | .ret,Q,s=>Q .ret s
 | .label _,Q,s=>Q .norm s
 | .scope c,Q,s=>acode P T tt cuts c Q s
 |_,_,_=>False
def wf (n:Nat):Code→Bool
 | .region _ ops _=>opsOk n ops.toList
 | .seq x y=>wf n x&&wf n y
 | .cond _ x y=>wf n x&&wf n y
 | .block _ x=>wf n x
 | .loop x=>wf n x
 | .scope x=>wf n x
 |_=>true
section
variable {P:Program} {T:Nat→Ty} {tt:Nat} {w0:En} {w w':World} {G:Gh} {s:St} {a:Act} {n:Nat} {cuts:Nat→Bool}
theorem out_fin {Q:Ex→St→Prop} {e:Exit} {a:Act} {w:World} (h:Fin tt w0 n (Q .norm) e a w):Out tt w0 n Q e a w:=by cases e<;>first|exact h|exact h.elim
theorem code_sound (hmx:P.follows .mixedOrders=true) (hT:TabOk P T):∀(c:Code) (Q:Ex→St→Prop) (G:Gh) (s:St) (a:Act) (w:World),wf n c=true→acode P T tt cuts c Q s→Sim tt w0 G s a w→a.tmps.size=n→c.wp P (Out tt w0 n Q) a w:=by
 intro c
 induction c with
 |skip=>exact fun Q G s a w _ h S hn=>wp_skip ⟨G,s,S,hn,h,Kp.none⟩
 |label l=>exact fun Q G s a w _ h S hn=>wp_label ⟨G,s,S,hn,h,Kp.none⟩
 |scope x ih=>exact fun Q G s a w hw h S hn=>wp_scope_straight (wp_mono (ih Q G s a w hw h S hn) fun e a w h=>by cases e<;>first|exact h|exact h.elim)
 |region id ops draw=>
  have key:∀(Q:Ex→St→Prop) (G:Gh) (s:St) (a:Act) (w:World),wf n (.region id ops draw)=true→(match draw with|false=>aops P T tt ops ops.toList (Q .norm) s|true=>adraw P T tt ops (Q .norm) s)→Sim tt w0 G s a w→a.tmps.size=n→(Code.region id ops draw).wp P (Out tt w0 n Q) a w:=by
   intro Q G s a w hw h S hn
   cases draw with
   |false=>
    refine wp_mono (wp_region ?_) fun e a w h=>out_fin (Q:=Q) h
    have:=aops_sound (P:=P) (w0:=w0) (tt:=tt) hT (ops:=ops) (n:=n) hw (K:=Q .norm) ops.size 0 (by omega) G s a w hn S (by simpa using h)
    rw [List.range_eq_range']
    exact this
   |true=>exact wp_mono (draw_sound hmx hT (id:=id) hw S hn h) fun e a w h=>out_fin h
  intro Q G s a w hw h S hn
  simp only [acode] at h
  split at h
  ·exact key Q G s a w hw h S hn
  ·obtain ⟨s',hle,h'⟩:=rest_iff.1 h
   obtain ⟨G',S'⟩:=hle w0 G a w S
   exact key Q G' s' a w hw h' S' hn
 |seq x y ihx ihy=>
  intro Q G s a w hw h S hn
  simp only [wf,Bool.and_eq_true] at hw
  simp only [acode] at h
  refine wp_seq (wp_mono (ihx _ G s a w hw.1 h S hn) fun e a' w' ho=>?_)
  cases e with
  |normal=>
   obtain ⟨G',s',S',hn',h',_⟩:=ho
   exact ihy Q G' s' a' w' hw.2 h' S' hn'
  |exit i=>exact ho
  |ret=>exact ho
  |goto l=>exact ho.elim
  |panic c=>exact ho.elim
  |outgrown=>exact ho.elim
 |cond c x y ihx ihy=>
  intro Q G s a w hw h S hn
  simp only [wf,Bool.and_eq_true] at hw
  simp only [acode] at h
  split at h
  ·next b hb=>
   have hr:=S.eval c
   rw [hb] at hr
   simp only [branch_iff] at h
   cases b with
   |true=>exact wp_cond_true hr.bool_inv (ihx Q G s a w hw.1 (h.1 rfl) S hn)
   |false=>exact wp_cond_false hr.bool_inv (ihy Q G s a w hw.2 (h.2 rfl) S hn)
  ·exact h.elim
 |block id x ih=>
  intro Q G s a w hw h S hn
  simp only [acode] at h
  refine wp_block (wp_mono (ih _ G s a w hw h S hn) fun e a' w' ho=>?_)
  cases e with
  |normal=>exact ho
  |exit i=>
   simp only [Exit.inBlock]
   obtain ⟨G',s',S',hn',h',hk⟩:=ho
   by_cases e:i=id
   ·subst e
    rw [if_pos rfl]
    simp only [beq_self] at h'
    exact ⟨G',s',S',hn',h',hk⟩
   ·rw [if_neg e]
    simp only [beq_ne e] at h'
    exact ⟨G',s',S',hn',h',hk⟩
  |ret=>exact ho
  |goto l=>exact ho.elim
  |panic c=>exact ho.elim
  |outgrown=>exact ho.elim
 |loop x ih=>
  intro Q G s a w hw h S hn
  simp only [acode,aloop_iff] at h
  obtain ⟨α,I,st,μ,x0,hI,hle,hstep⟩:=h
  obtain ⟨G',S'⟩:=hle w0 G a w S
  classical
  let J:Act→World→Nat→Prop:=fun a w k=>∃G x,Sim tt w0 G (st x) a w∧a.tmps.size=n∧I x∧μ x=k
  have hJ:∀a w,(∃k,J a w k)→∃k,J a w k∧∀j,J a w j→k≤j:=fun a w ⟨k,hk⟩=>by
   induction k using Nat.strongRecOn with
   |_ k ih=>
    by_cases hex:∃j,j<k∧J a w j
    ·obtain ⟨j,hj,hJj⟩:=hex
     exact ih j hj hJj
    ·exact ⟨k,hk,fun j hj=>Nat.le_of_not_lt fun hlt=>hex ⟨j,hlt,hj⟩⟩
  let μ':Act→World→Nat:=fun a w=>if h:∃k,J a w k then (hJ a w h).choose else 0
  have hμ:∀a w (h:∃k,J a w k),J a w (μ' a w)∧∀j,J a w j→μ' a w≤j:=fun a w h=>by
   simp only [μ',h,dite_true]
   exact (hJ a w h).choose_spec
  refine wp_loop (fun a w=>∃k,J a w k) μ' ⟨μ x0,G',x0,S',hn,hI,rfl⟩ fun a w hI'=>?_
  obtain ⟨⟨G1,s1,S1,hn1,hI1,hm1⟩,_⟩:=hμ a w hI'
  refine wp_mono (ih _ G1 (st s1) a w hw (hstep s1 hI1) S1 hn1) fun e a' w' ho=>?_
  cases e with
  |normal=>
   obtain ⟨G2,s2,S2,hn2,⟨s3,hI3,hle,hlt⟩,_⟩:=ho
   obtain ⟨G3,S3⟩:=hle w0 G2 a' w' S2
   have hj:J a' w' (μ s3):=⟨G3,s3,S3,hn2,hI3,rfl⟩
   exact ⟨⟨_,hj⟩,by have:=(hμ a' w' ⟨_,hj⟩).2 _ hj;omega⟩
  |exit i=>exact ho
  |ret=>exact ho
  |goto l=>exact ho.elim
  |panic c=>exact ho.elim
  |outgrown=>exact ho.elim
 |exit id=>exact fun Q G s a w _ h S hn=>wp_exit ⟨G,s,S,hn,h,Kp.none⟩
 |ret=>exact fun Q G s a w _ h S hn=>wp_ret ⟨G,s,S,hn,h,Kp.none⟩
 |_=>intro Q G s a w _ h;exact h.elim
end
def ares (T:Nat→Ty) (s:St):List ResultVar→(List AV→Prop)→Prop
 |[],K=>K []
 | .tmp t::rs,K=>force (s.eval (.tmp t)) fun v=>ares T s rs fun vs=>K (v::vs)
 | .cell b t::rs,K=>match s.eval (.tmp b) with
  | .ptr b' off=>match s.box b' with
   |some cs=>loadAs (T t) (cs.drop off) fun v=>force v fun v=>ares T s rs fun vs=>K (v::vs)
   |none=>False
  |_=>False
def RetC (v r:AV):Prop:=(r=v∧plainC v=true)∨(∃t e z es,v= .own t e z es∧r= .lst z es)∨(v= .nil∧∃z,r= .lst z [])
def RetG (v r:AV):Prop:=RetC v r∨∃cs cs',v= .agg cs∧r= .agg cs'∧All2 RetC cs cs'
def RetV (v r:AV):Prop:=RetG v r∨(∃t e z es,v= .own t e z es∧r= .own 0 e z es)∨(v= .nil∧∃e z,r= .own 0 e z [])∨(∃vs rs,v= .tup vs∧r= .tup rs∧All2 RetG vs rs)∨∃t e z es rs,v= .tup (.own t e z es::rs)∧r= .tup (.own 0 e z es::rs)∧scalars rs=true
structure aret (v:AV) (R:AV→Prop):Prop where
 out:∃r,RetV v r∧R r
theorem aret_iff {v:AV} {R:AV→Prop}:aret v R↔(∃r,RetV v r∧R r):=⟨fun h=>h.out,fun h=>⟨h⟩⟩
def afin (T:Nat→Ty) (rs:List ResultVar) (R:AV→Prop) (s:St):Prop:=ares T s rs fun vs=>match vs with
 |[v]=>aret v R
 |vs=>aret (.tup vs) R
def init (b:Bool) (args:List AV):St:=⟨fun i=>args.getD i .undef,fun _=>none,b⟩
def abody (P:Program) (T:Nat→Ty) (tt:Nat) (cuts:Nat→Bool) (c:Code) (rs:List ResultVar) (b:Bool) (args:List AV) (R:AV→Prop):Prop:=
 acode P T tt cuts c (fun e s=>match e with| .norm=>afin T rs R s| .ret=>afin T rs R s| .exit _=>False) (init b args)
section
variable {P:Program} {T:Nat→Ty} {tt:Nat} {w0:En} {w w':World} {G:Gh} {s:St} {a:Act} {n:Nat}
def resSem (tmps:Array Value):ResultVar→Sem Value
 | .tmp t=>pure (tmps.getD t undef)
 | .cell b t=>do loadVar t (←asAddr (tmps.getD b undef))
theorem results_eq (fn:Func) (tmps:Array Value):results fn tmps=(do
 let vs ←fn.results.mapM (resSem tmps)
 pure (if h:vs.size=1 then vs[0] else .tuple vs)):=by
 unfold results
 congr 1
theorem ares_sound (hT:TabOk P T) (S:Sim tt w0 G s a w):∀ {rs:List ResultVar} {K:List AV→Prop},ares T s rs K→∃vs us,K vs∧All2 (RA w0.B G w) vs us∧
 (rs.mapM (resSem a.tmps)).run P w= .ok us w
 |[],K,h=>⟨[],[],h,trivial,by simp⟩
 | .tmp t::rs,K,h=>by
  simp only [ares,force_eq] at h
  obtain ⟨vs,us,h1,h2,h3⟩:=ares_sound hT S h
  exact ⟨_,a.tmps.getD t undef::us,h1,⟨S.eval (.tmp t),h2⟩,by simp only [List.mapM_cons,resSem,Sem.run_bind,Sem.run_pure,Result.andThen_ok,h3]⟩
 | .cell b t::rs,K,h=>by
  simp only [ares] at h
  have hb:=S.eval (.tmp b)
  split at h
  ·next b' off he=>
   rw [he] at hb
   obtain ⟨bb,hbb,hu0⟩:=hb
   have hu:a.tmps.getD b undef= .pointer (some ⟨bb,off,none⟩):=hu0
   split at h
   ·next cs hcs=>
    obtain ⟨b2,e,us0,k1,k2,k3⟩:=S.box b' cs hcs
    rw [hbb] at k1
    injection k1 with k1
    subst k1
    obtain ⟨v,u,m1,m2,m3⟩:=load_sound (P:=P) (b:=bb) (o:=off) hT h (k3.drop off)
    rw [force_eq] at m1
    obtain ⟨vs,us,h1,h2,h3⟩:=ares_sound hT S m1
    refine ⟨_,u::us,h1,⟨RC.of_load m2,h2⟩,?_⟩
    have:=m3 w (fun j v hv=>by rw [k2.cell];rw [List.getElem?_drop] at hv;simpa using hv)
    simp only [Instr.loadAt,Instr.sureAddr,Sem.run_bind,Sem.run_pure,Result.andThen_ok] at this
    simp only [List.mapM_cons,resSem,Sem.run_bind,hu,asAddr,Sem.run_pure,Result.andThen_ok,this,h3]
   ·exact h.elim
  ·exact h.elim
theorem retc_sound {X:Nat→Prop} {tp:Option Nat} (S:Sim tt w0 G s a w) (hX:w0.X=X) (htp:w0.tp=tp) {v r:AV} {u:Value} (h:RetC v r) (hr:RC w0.B G w v u):RC w0.B (G0 tp X (none,0,0)) w r u:=by
 have hgx:∀b,GX (G0 tp X (none,0,0)) b→GX G b:=fun b hb=>by
  rcases hb with (⟨t,ht⟩|⟨t,v,ht,_⟩|ht)|hb
  ·cases ht
  ·cases ht
  ·exact .inl (.inr (.inr (S.tape0 b (htp.trans ht)).1))
  ·exact .inr (by rw [S.ext0,hX];exact hb)
 rcases h with ⟨rfl,hp⟩|⟨t,e,z,es,rfl,rfl⟩|⟨rfl,z,rfl⟩
 ·cases r
  case nil=>exact hr
  case int=>exact RepV.move hr (fun _ _ _=>rfl) fun b _=>hgx b
  case bool=>exact RepV.move hr (fun _ _ _=>rfl) fun b _=>hgx b
  case str=>exact RepV.move hr (fun _ _ _=>rfl) fun b _=>hgx b
  case lst=>exact RepV.move hr (fun _ _ _=>rfl) fun b _=>hgx b
  all_goals simp [plainC] at hp
 ·refine hr.2.rep (fun b _=>hgx b) fun b hb hx=>?_
  rcases hx with (⟨t,ht⟩|⟨t,v,ht,_⟩|ht)|hx
  ·cases ht
  ·cases ht
  ·exact S.tapeOwn _ _ b (S.tape0 b (htp.trans ht)).1 hr.1 hb
  ·exact S.newX (S.ownLt _ _ b hr.1 hb).1 (by rw [S.ext0,hX];exact hx)
 ·have:u= .slice none 0 0:=hr
  subst this
  exact RepV.nil z _ _
theorem retg_sound {X:Nat→Prop} {tp:Option Nat} (S:Sim tt w0 G s a w) (hX:w0.X=X) (htp:w0.tp=tp) {v r:AV} {u:Value} (h:RetG v r) (hr:RG w0.B G w v u):RG w0.B (G0 tp X (none,0,0)) w r u:=by
 rcases h with h|⟨cs,cs',rfl,rfl,hA⟩
 ·have:RC w0.B G w v u:=by
   rcases h with ⟨rfl,hp⟩|⟨t,e,z,es,rfl,rfl⟩|⟨rfl,z,rfl⟩
   ·cases r<;>first|exact hr|(simp [plainC] at hp)
   ·exact hr
   ·exact hr
  exact (retc_sound S hX htp h this).rp.rg
 ·obtain ⟨us,rfl,hc⟩:=hr
  refine ⟨us,rfl,All2.of (hA.len.symm.trans hc.len) fun j c u h1 h2=>?_⟩
  obtain ⟨c0,k1,k2⟩:=hA.get' h1
  obtain ⟨u0,k3,k4⟩:=hc.get k1
  rw [h2] at k3
  injection k3 with k3
  subst k3
  exact retc_sound S hX htp k2 k4
theorem scalars_at:∀ {rs:List AV},scalars rs=true→∀ {j:Nat} {v:AV},rs[j]? =some v→scalar0 v=true
 |[],_,_,_,h=>by simp at h
 |r::rs,hs,0,v,h=>by
  simp only [scalars,Bool.and_eq_true] at hs
  simp only [List.getElem?_cons_zero,Option.some.injEq] at h
  subst h;exact hs.1
 |r::rs,hs,j+1,v,h=>by
  simp only [scalars,Bool.and_eq_true] at hs
  exact scalars_at hs.2 (show rs[j]? =some v from h)
theorem ret_sound {X:Nat→Prop} {tp:Option Nat} (S:Sim tt w0 G s a w) (hBs:w0.B=w0.heap.size) (hX:w0.X=X) (htp:w0.tp=tp) {v r:AV} {u:Value} (h:RetV v r) (hr:RA w0.B G w v u):RetR tt tp X w0 w r u:=by
 rcases h with h|⟨t,e,z,es,rfl,rfl⟩|⟨rfl,e,z,rfl⟩|⟨vs,rs,rfl,rfl,hA⟩|⟨t,e,z,es,rs,rfl,rfl,hsc⟩
 rotate_left 4
 ·obtain ⟨us,rfl,hc⟩:=hr
  obtain ⟨u1,us2,rfl,h1,h2⟩:=hc.cons_inv
  obtain ⟨hG,css,h1,h3⟩:=(show RC w0.B G w (.own t e z es) u1 from h1)
  rw [hBs] at h1
  refine ⟨u1,us2,rfl,⟨css,h1,h3.mono fun _ _ h=>⟨h.1,h.2.mono fun _ _ hr=>hr.move (fun _ _ _=>rfl) fun b _ hb=>?_⟩⟩,scalars_ra hsc h2⟩
  rcases hb with hb|hb|hb
  ·exact .inr (by rw [S.ext0,hX];exact hb)
  ·exact .inl (.inr (.inr (S.tape0 b (htp.trans hb)).1))
  ·exact .inl (.inr (.inl ⟨t,u1,hG,hb⟩))
 ·have hg:RG w0.B G w v u:=by
   rcases h with (⟨rfl,hp⟩|⟨t,e,z,es,rfl,rfl⟩|⟨rfl,z,rfl⟩)|⟨cs,cs',rfl,rfl,hA⟩
   ·cases r<;>first|exact hr|(simp [plainC] at hp)
   ·exact hr
   ·exact hr
   ·exact hr
  have:=retg_sound S hX htp h hg
  rw [hBs] at this
  have hr':r≠ .tape∧(∀t e z es,r≠ .own t e z es)∧∀vs,r≠ .tup vs:=by
   rcases h with (⟨rfl,hp⟩|⟨t,e,z,es,rfl,rfl⟩|⟨rfl,z,rfl⟩)|⟨cs,cs',rfl,rfl,hA⟩
   ·cases r<;>first|(simp [plainC] at hp;done)|exact ⟨by simp,by simp,by simp⟩
   ·exact ⟨by simp,by simp,by simp⟩
   ·exact ⟨by simp,by simp,by simp⟩
   ·exact ⟨by simp,by simp,by simp⟩
  cases r
  case tape=>exact absurd rfl hr'.1
  case own=>exact absurd rfl (hr'.2.1 _ _ _ _)
  case tup=>exact absurd rfl (hr'.2.2 _)
  all_goals exact this.ra
 ·obtain ⟨hG,css,h1,h2⟩:=(show RC w0.B G w (.own t e z es) u from hr)
  rw [hBs] at h1
  refine ⟨css,h1,h2.mono fun _ _ h=>⟨h.1,h.2.mono fun _ _ hr=>hr.move (fun _ _ _=>rfl) fun b _ hb=>?_⟩⟩
  rcases hb with hb|hb|hb
  ·exact .inr (by rw [S.ext0,hX];exact hb)
  ·exact .inl (.inr (.inr (S.tape0 b (htp.trans hb)).1))
  ·exact .inl (.inr (.inl ⟨t,u,hG,hb⟩))
 ·obtain rfl:=hr.nil_inv
  exact ⟨[],World.ownsRow_nil w w0.heap.size e z,trivial⟩
 ·obtain ⟨us,rfl,hc⟩:=hr
  have hres:RA w0.heap.size (G0 tp X (none,0,0)) w (.tup rs) (.tuple us.toArray):=by
   refine ⟨us,rfl,All2.of (hA.len.symm.trans hc.len) fun j c u h1 h2=>?_⟩
   obtain ⟨c0,k1,k2⟩:=hA.get' h1
   obtain ⟨u0,k3,k4⟩:=hc.get k1
   rw [h2] at k3
   injection k3 with k3
   subst k3
   have:=retg_sound S hX htp k2 k4
   rw [hBs] at this
   exact this
  cases rs with
  |nil=>exact hres
  |cons r0 rest=>
   obtain ⟨c0,k1,k2⟩:=hA.get' (show (r0::rest)[0]? =some r0 from rfl)
   rcases k2 with (⟨rfl,hp⟩|⟨_,_,_,_,_,rfl⟩|⟨_,_,rfl⟩)|⟨_,_,_,rfl,_⟩
   ·cases r0<;>first|exact hres|(simp [plainC] at hp)
   ·exact hres
   ·exact hres
   ·exact hres
theorem good_of_c (cuts:Nat→Bool) (hmx:P.follows .mixedOrders=true) (hT:TabOk P T) {f:Nat} {fn:Func} {c:Code} {rs:List ResultVar} {b:Bool} {args:List AV} {R:AV→Prop} (hf:P.funcs[f]? =some fn) (hbd:fn.body=some c) (hname:(fn.name== "runtime.NumGoroutine")=false)
 (hn:fn.ntmps=n) (hrs:fn.results=rs.toArray) (hlen:(Nat.ble args.length n&&Nat.ble n 1000)=true) (hw:wf n c=true) (h:abody P T tt cuts c rs b args R):Good P tt b f args R:=by
 refine ⟨⟨fn,c,hf,hname,hbd⟩,fun w X tp us hd hX hgl htp hA hta=>?_⟩
 rw [Bool.and_eq_true] at hlen
 have hlen':args.length≤n:=Nat.le_of_ble_eq_true hlen.1
 have hn1:n≤1000:=Nat.le_of_ble_eq_true hlen.2
 have hl:=hA.len
 have hsz:(us.toArray++Array.replicate (fn.ntmps-us.toArray.size) undef).size=n:=by simp;omega
 have S:Sim tt ⟨w,X,tp,hd,w.heap.size,fun _=>False,fun _=>none,fun _=>undef⟩ (G0 tp X hd) (init b args) { tmps:=us.toArray++Array.replicate (fn.ntmps-us.toArray.size) undef,defers:=[] } w:=
  { slot:=fun i=>by
     show RA w.heap.size (G0 tp X hd) w (args.getD i .undef) _
     rcases Nat.lt_or_ge i us.length with hi|hi
     ·rw [at_lt (by omega)]
      obtain ⟨v,k1,k2⟩:=hA.get' (List.getElem?_eq_getElem hi)
      have e1:(us.toArray++Array.replicate (fn.ntmps-us.toArray.size) undef).getD i undef=us[i]:=by
       simp [Array.getD_eq_getD_getElem?,Array.getElem?_append,hi]
      simp only [e1,List.getD_eq_getElem?_getD,k1,Option.getD_some]
      exact k2
     ·have:args[i]? =none:=List.getElem?_eq_none (by omega)
      simp only [List.getD_eq_getElem?_getD,this,Option.getD_none]
      trivial
    box:=fun t cs h=>by cases h
    defers:=rfl
    chg:=ChgQ.refl _ _
    boxLt:=fun t b h=>by cases h
    ownLt:=fun t v b h=>by cases h
    boxInj:=fun t t' b h=>by cases h
    ownInj:=fun t t' v v' b h=>by cases h
    boxOwn:=fun t t' v b h=>by cases h
    tapeBox:=fun t b _ h=>by cases h
    tapeOwn:=fun t v b _ h=>by cases h
    tape:=fun h=>by
     have hb:b=true:=h
     rw [hb] at htp
     obtain ⟨p,rfl⟩:=Option.isSome_iff_exists.1 htp
     refine ⟨p,rfl,(hta p rfl).move rfl (fun _ _ _=>rfl) fun b _ hb=>?_⟩
     rcases hb with ⟨t,ht⟩|⟨t,v,ht,_⟩|hb
     ·cases ht
     ·cases ht
     ·exact hb
    noTape:=fun h=>by
     have hb:b=false:=h
     rw [hb] at htp
     show tp=none
     exact Option.not_isSome_iff_eq_none.1 (by rw [htp];nofun)
    ext:=fun b h=>hX b h
    fz1:=fun b h=>h.elim
    fz2:=fun t v b h=>by cases h
    fz3:=fun b _ h=>h.elim
    ext0:=rfl
    tape0:=fun p h=>⟨h,rfl⟩
    tapeNew:=fun b h _=>h
    hB:=Nat.le_refl _
    hM:=fun b h=>h.elim
    size:=by rw [hsz];exact hn1
    box0:=fun t b h=>by cases h
    gl:=fun g xs h=>by
     obtain ⟨h1,h2,h3⟩:=hgl g xs h
     exact ⟨h1,fun k=>k.elim h2 id,h3⟩ }
 refine calls_of_wp hf hbd (wp_mono (code_sound hmx hT c _ _ _ _ _ hw h S hsz) fun e a' w' ho=>?_)
 have key:∀Q,Nxt tt ⟨w,X,tp,hd,w.heap.size,fun _=>False,fun _=>none,fun _=>undef⟩ n none Q a' w'→(∀s,Q s→afin T rs R s)→a'.defers=[]∧∃v,(results fn a'.tmps).run P w'= .ok v w'∧∃u r,Ending.returned v= .returned u∧R r∧RetR tt tp X w w' r u∧ChgQ (Qt tt) (fun b=>tp=some b) w w'∧∀p,tp=some p→TapeAt tt (fun b=>tp=some b) hd.1 hd.2.1 hd.2.2 w' p:=fun Q ⟨G,s,S',_,hq,_⟩ hQ=>by
  refine ⟨S'.defers,?_⟩
  obtain ⟨vs,us',k1,k2,k3⟩:=ares_sound hT S' (hQ s hq)
  have hrun:(results fn a'.tmps).run P w'= .ok (if h:us'.toArray.size=1 then us'.toArray[0] else .tuple us'.toArray) w':=by
   rw [results_eq,hrs,Array.mapM_eq_mapM_toList]
   simp only [Sem.run_bind,Sem.run_map,k3,Result.andThen_ok,Sem.run_pure]
  have hchg:ChgQ (Qt tt) (fun b=>tp=some b) w w':=S'.chg.mono fun b hb h=>h.elim (fun h=>S'.tapeNew b h hb) fun h=>h.elim
  have htape:∀p,tp=some p→TapeAt tt (fun b=>tp=some b) hd.1 hd.2.1 hd.2.2 w' p:=fun p hp=>by
   obtain ⟨g1,g2⟩:=S'.tape0 p hp
   have hs:s.tp=true:=by
    cases h:s.tp with
    |true=>rfl
    |false=>rw [S'.noTape h] at g1;cases g1
   obtain ⟨p',m1,m2⟩:=S'.tape hs
   rw [g1] at m1
   injection m1 with m1
   subst m1
   rw [g2] at m2
   exact m2.move rfl (fun _ _ _=>rfl) fun b _ hb=> .inr (.inr (S'.tape0 b hb).1)
  refine ⟨_,hrun,?_⟩
  split at k1
  ·next v=>
   obtain ⟨u,us2,rfl,m1,m2⟩:=k2.cons_inv
   obtain rfl:=m2.nil_inv
   simp only [aret_iff] at k1
   obtain ⟨r,q1,q2⟩:=k1
   exact ⟨u,r,rfl,q2,ret_sound S' rfl rfl rfl q1 m1,hchg,htape⟩
  ·next hvs=>
   simp only [aret_iff] at k1
   obtain ⟨r,q1,q2⟩:=k1
   have hone:¬us'.toArray.size=1:=fun h=>by
    have hl:vs.length=1:=by rw [k2.len];simpa using h
    obtain ⟨v,rfl⟩:=List.length_eq_one_iff.1 hl
    exact hvs v rfl
   rw [dif_neg hone]
   refine ⟨_,r,rfl,q2,ret_sound (v:= .tup vs) S' rfl rfl rfl q1 ⟨us',rfl,?_⟩,hchg,htape⟩
   refine All2.of k2.len fun j v u h1 h2=>?_
   obtain ⟨u',k5,k6⟩:=k2.get h1
   rw [h2] at k5
   injection k5 with k5
   subst k5
   rcases q1 with q|⟨t,e,z,es,q,_⟩|⟨q,_⟩|⟨vs',rs',q,_,qA⟩|⟨t,e,z,es,rs',q,_,hsc⟩
   ·rcases q with (⟨_,hp⟩|⟨_,_,_,_,q,_⟩|⟨q,_⟩)|⟨_,_,q,_⟩<;>first|(cases q;done)|(simp [plainC] at hp)
   ·cases q
   ·cases q
   ·injection q with q
    subst q
    obtain ⟨r0,g1,g2⟩:=qA.get h1
    rcases g2 with (⟨_,hp⟩|⟨_,_,_,_,rfl,_⟩|⟨rfl,_⟩)|⟨_,_,rfl,_⟩
    ·cases v<;>first|exact k6|(simp [plainC] at hp)
    ·exact k6
    ·exact k6
    ·exact k6
   ·injection q with q
    subst q
    cases j with
    |zero=>simp only [List.getElem?_cons_zero,Option.some.injEq] at h1;subst h1;exact k6
    |succ j=>
     have:=scalars_at hsc (show rs'[j]? =some v from h1)
     cases v<;>first|exact k6|(simp [scalar0] at this)
 cases e with
 |normal=>exact key _ ho fun s h=>h
 |ret=>exact key _ ho fun s h=>h
 |exit i=>obtain ⟨_,_,_,_,h,_⟩:=ho;exact h.elim
 |goto l=>exact ho.elim
 |panic c=>exact ho.elim
 |outgrown=>exact ho.elim
theorem good_of (hmx:P.follows .mixedOrders=true) (hT:TabOk P T) {f:Nat} {fn:Func} {c:Code} {rs:List ResultVar} {b:Bool} {args:List AV} {R:AV→Prop} (hf:P.funcs[f]? =some fn) (hbd:fn.body=some c) (hname:(fn.name== "runtime.NumGoroutine")=false)
 (hn:fn.ntmps=n) (hrs:fn.results=rs.toArray) (hlen:(Nat.ble args.length n&&Nat.ble n 1000)=true) (hw:wf n c=true) (h:abody P T tt (fun _=>false) c rs b args R):Good P tt b f args R:=good_of_c (fun _=>false) hmx hT hf hbd hname hn hrs hlen hw h
def initM (b:Bool) (args:List AV) (bx:List (Nat×List AV)):St:=⟨fun i=>bif Nat.blt i 1000 then args.getD i .undef else lk (ovOf 1000 args) i,lkB bx,b⟩
structure aretM (tt:Nat) (b:Bool) (v:AV) (R:AV→List (Nat×AV)→List (Nat×List AV)→Prop) (s:St):Prop where
 out:s.tp=b∧∃r ov bx,Le tt (s.put 0 v) (mkSt ((0,r)::ov) bx b)∧ovGe ov=true∧R r ov bx
def noTup:List AV→Bool
 |[]=>true
 | .tup _::_=>false
 |_::vs=>noTup vs
def afinM (T:Nat→Ty) (tt:Nat) (b:Bool) (rs:List ResultVar) (R:AV→List (Nat×AV)→List (Nat×List AV)→Prop) (s:St):Prop:=ares T s rs fun vs=>match vs with
 |[v]=>aretM tt b v R s
 |vs=>match noTup vs with
  |true=>aretM tt b (.tup vs) R s
  |false=>False
def abodyM (P:Program) (T:Nat→Ty) (tt:Nat) (cuts:Nat→Bool) (c:Code) (rs:List ResultVar) (b:Bool) (args:List AV) (bx:List (Nat×List AV)) (R:AV→List (Nat×AV)→List (Nat×List AV)→Prop):Prop:=
 acode P T tt cuts c (fun e s=>match e with| .norm=>afinM T tt b rs R s| .ret=>afinM T tt b rs R s| .exit _=>False) (initM b args bx)
theorem noTup_rg:∀ {vs:List AV} {us:List Value},noTup vs=true→All2 (RA w0.B G w) vs us→All2 (RG w0.B G w) vs us
 |[],[],_,_=>trivial
 |v::vs,u::us,h,hA=>by
  cases v
  case tup=>simp [noTup] at h
  all_goals exact ⟨hA.1,noTup_rg h hA.2⟩
 |[],_::_,_,hA=>hA.elim
 |_::_,[],_,hA=>hA.elim
theorem good_of_m (cuts:Nat→Bool) (hmx:P.follows .mixedOrders=true) (hT:TabOk P T) {f:Nat} {fn:Func} {c:Code} {rs:List ResultVar} {b:Bool} {args:List AV} {bx:List (Nat×List AV)} {R:AV→List (Nat×AV)→List (Nat×List AV)→Prop} (hf:P.funcs[f]? =some fn) (hbd:fn.body=some c) (hname:(fn.name== "runtime.NumGoroutine")=false)
 (hn:fn.ntmps=n) (hrs:fn.results=rs.toArray) (hlen:(Nat.ble args.length n&&Nat.ble n 1000&&Nat.ble 1 n)=true) (hw:wf n c=true) (h:abodyM P T tt cuts c rs b args bx R):GoodM P tt b f args bx R:=by
 refine ⟨⟨fn,c,hf,hname,hbd⟩,fun w0 G us S0 hA=>?_⟩
 simp only [Bool.and_eq_true] at hlen
 have hlen':args.length≤n:=Nat.le_of_ble_eq_true hlen.1.1
 have hn1:n≤1000:=Nat.le_of_ble_eq_true hlen.1.2
 have hn0:1≤n:=Nat.le_of_ble_eq_true hlen.2
 have hl:=hA.len
 have hsz:(us.toArray++Array.replicate (fn.ntmps-us.toArray.size) undef).size=n:=by simp;omega
 have S:Sim tt w0 G (initM b args bx) { tmps:=us.toArray++Array.replicate (fn.ntmps-us.toArray.size) undef,defers:=[] } w0.toWorld:=
  { S0 with
    slot:=fun i=>by
     show RA w0.B G w0.toWorld (bif Nat.blt i 1000 then args.getD i .undef else lk (ovOf 1000 args) i) _
     by_cases hi1:i<1000
     ·have e0:Nat.blt i 1000=true:=by simpa using hi1
      rw [e0,at_lt hi1]
      simp only [cond_true]
      rcases Nat.lt_or_ge i us.length with hi|hi
      ·obtain ⟨v,k1,k2⟩:=hA.get' (List.getElem?_eq_getElem hi)
       have e1:(us.toArray++Array.replicate (fn.ntmps-us.toArray.size) undef).getD i undef=us[i]:=by
        simp [Array.getD_eq_getD_getElem?,Array.getElem?_append,hi]
       simp only [e1,List.getD_eq_getElem?_getD,k1,Option.getD_some]
       exact k2
      ·have:args[i]? =none:=List.getElem?_eq_none (by omega)
       simp only [List.getD_eq_getElem?_getD,this,Option.getD_none]
       trivial
     ·have e0:Nat.blt i 1000=false:=by rw [←Bool.not_eq_true,Nat.blt_eq];exact hi1
      rw [e0,at_ge hi1]
      simp only [cond_false]
      have:=S0.slot i
      rw [at_ge hi1] at this
      exact this
    box:=S0.box
    defers:=rfl
    tape:=S0.tape
    noTape:=S0.noTape
    size:=by rw [hsz];exact hn1 }
 refine calls_of_wp hf hbd (wp_mono (code_sound hmx hT c _ _ _ _ _ hw h S hsz) fun e a' w' ho=>?_)
 have key:∀Q,Nxt tt w0 n none Q a' w'→(∀s,Q s→afinM T tt b rs R s)→a'.defers=[]∧∃v,(results fn a'.tmps).run P w'= .ok v w'∧∃u r ov bx' G',Ending.returned v= .returned u∧R r ov bx'∧Sim tt w0 G' (mkSt ov bx' b) a0 w'∧RA w0.B G' w' r u:=fun Q ⟨G,s,S',hsz',hq,_⟩ hQ=>by
  refine ⟨S'.defers,?_⟩
  obtain ⟨vs,us',k1,k2,k3⟩:=ares_sound hT S' (hQ s hq)
  have hrun:(results fn a'.tmps).run P w'= .ok (if h:us'.toArray.size=1 then us'.toArray[0] else .tuple us'.toArray) w':=by
   rw [results_eq,hrs,Array.mapM_eq_mapM_toList]
   simp only [Sem.run_bind,Sem.run_map,k3,Result.andThen_ok,Sem.run_pure]
  refine ⟨_,hrun,?_⟩
  have fin:∀v u,aretM tt b v R s→RA w0.B G w' v u→∃r ov bx' G',R r ov bx'∧Sim tt w0 G' (mkSt ov bx' b) a0 w'∧RA w0.B G' w' r u:=fun v u hret hr=>by
   obtain ⟨htp,r,ov,bx',hle,hge,hR⟩:=hret.out
   have S1:=S'.put (d:=0) (v:=v) (u:=u) (by omega) hr
   obtain ⟨G',S2⟩:=hle w0 G _ w' S1
   refine ⟨r,ov,bx',G',hR,?_,?_⟩
   ·exact { S2 with
     slot:=fun i=>by
      show RA w0.B G' w' (lk ov i) _
      by_cases hi:i<1000
      ·rw [ovGe_at hge hi];trivial
      ·have:=S2.slot i
       rw [at_ge hi] at this ⊢
       have e:(mkSt ((0,r)::ov) bx' b).slot i=lk ov i:=by
        show lk ((0,r)::ov) i=_
        simp only [lk,beq_ne (show i≠0 by omega),cond_false]
       rw [e] at this
       exact this
     box:=S2.box
     defers:=rfl
     tape:=S2.tape
     noTape:=S2.noTape
     size:=by simp [a0] }
   ·have:=S2.slot 0
    rw [at_lt (by omega)] at this
    have e:(a'.put (some 0) u).tmps.getD 0 undef=u:=by
     show (a'.tmps.setIfInBounds 0 u).getD 0 undef=u
     rw [getD_put (by omega)]
     simp
    rw [e] at this
    exact this
  split at k1
  ·next v=>
   obtain ⟨u,us2,rfl,m1,m2⟩:=k2.cons_inv
   obtain rfl:=m2.nil_inv
   obtain ⟨r,ov,bx',G',h1,h2,h3⟩:=fin v u k1 m1
   exact ⟨u,r,ov,bx',G',rfl,h1,h2,h3⟩
  ·next hvs=>
   have hone:¬us'.toArray.size=1:=fun h=>by
    have hl:vs.length=1:=by rw [k2.len];simpa using h
    obtain ⟨v,rfl⟩:=List.length_eq_one_iff.1 hl
    exact hvs v rfl
   rw [dif_neg hone]
   split at k1
   ·next hnt=>
    obtain ⟨r,ov,bx',G',h1,h2,h3⟩:=fin (.tup vs) (.tuple us'.toArray) k1 ⟨us',rfl,noTup_rg hnt k2⟩
    exact ⟨_,r,ov,bx',G',rfl,h1,h2,h3⟩
   ·exact k1.elim
 cases e with
 |normal=>exact key _ ho fun s h=>h
 |ret=>exact key _ ho fun s h=>h
 |exit i=>obtain ⟨_,_,_,_,h,_⟩:=ho;exact h.elim
 |goto l=>exact ho.elim
 |panic c=>exact ho.elim
 |outgrown=>exact ho.elim
end
section
variable {P:Program} {T:Nat→Ty} {tt:Nat} {K:AV→Prop}
theorem branch_i {b:Bool} {A B:Prop} (h:b=true→A) (h':b=false→B):branch b A B:=by exact ⟨⟨h,h'⟩⟩
theorem branch_t {b:Bool} {A B:Prop} (hb:b=true) (h:A):branch b A B:=by subst hb;exact ⟨⟨fun _=>h,nofun⟩⟩
theorem branch_f {b:Bool} {A B:Prop} (hb:b=false) (h:B):branch b A B:=by subst hb;exact ⟨⟨nofun,fun _=>h⟩⟩
theorem branch_tt {A B:Prop} (h:A):branch true A B:=branch_t rfl h
theorem branch_ff {A B:Prop} (h:B):branch false A B:=branch_f rfl h
theorem branch_d {p:Prop} [Decidable p] {A B:Prop} (h:p→A) (h':¬p→B):branch (decide p) A B:=by exact ⟨⟨fun k=>h (of_decide_eq_true k),fun k=>h' (of_decide_eq_false k)⟩⟩
theorem branch_e {x y:Int} {A B:Prop} (h:x=y→A) (h':x≠y→B):branch (x==y) A B:=by exact ⟨⟨fun k=>h (by simpa using k),fun k=>h' (by simpa using k)⟩⟩
theorem branch_n {x y:Int} {A B:Prop} (h:x≠y→A) (h':x=y→B):branch (x != y) A B:=by exact ⟨⟨fun k=>h (by simpa using k),fun k=>h' (by simpa using k)⟩⟩
theorem branch_not {b:Bool} {A B:Prop} (h:branch b B A):branch (!b) A B:=by rw [branch_iff] at *;cases b<;>simp_all
theorem need_i {p A:Prop} (h:p) (k:A):need p A:=by exact ⟨⟨h,k⟩⟩
theorem need_o {p A:Prop} (k:A) (h:p:=by first|omega|(simp only [List.length_cons,List.length_nil];omega)|(simp only [List.length_append,List.length_cons,List.length_nil,List.length_map,List.length_replicate,List.length_modify];omega)):need p A:=need_i h k
theorem slc_e {A B C:Prop} (h:A):slc A B C:=⟨.inl h⟩
theorem callS_a {A B:Prop} (h:A):callS A B:=⟨.inl h⟩
theorem own_e {A B:Prop} (h:A):admO A B:=⟨.inl h⟩
theorem own_k {A B C:Prop} (h:B) (k:C):admO A (B∧C):=⟨.inr ⟨h,k⟩⟩
theorem slc_w {A B C:Prop} (h:B):slc A B C:=⟨.inr (.inl h)⟩
theorem slc_o {A B C:Prop} (h:C):slc A B C:=⟨.inr (.inr h)⟩
theorem nils_i {cs:List AV} {K:List AV→Prop} (cs':List AV) (h:All2 PresC cs cs') (k:K cs'):nils cs K:=by exact ⟨⟨cs',h,k⟩⟩
theorem pc {c:AV} {c':AV} (h:PresC c c'):PresC c c':=h
theorem nil_i {es:List (List AV)} {K:Bool→Prop} (h0:es=[]→K true) (h1:K false):nilTest es K:=by
 exact ⟨fun b hb=>by cases b;exact h1;exact h0 (hb rfl)⟩
theorem eq_i {t:Nat} {vs us:List Value} {K:Bool→Prop} {b:Bool} (h1:P.eqGuardType P.depth t=false) (h2:∀w,(Op.equalIn 10000 t (.agg vs.toArray) (.agg us.toArray)).run P w= .ok b w) (h:K b):eqS P t vs us K:=by exact ⟨⟨h1,b,h2,h⟩⟩
theorem mkmap_b {A B:Prop} (h:A):mkMapS A B:=⟨.inl h⟩
theorem mkmap_s {A B C D:Prop} (h:C):mkMapS A (mkMapS B (mkMapS C D)):=⟨.inr ⟨.inr ⟨.inl h⟩⟩⟩
theorem mkmap_m {A B C:Prop} {D:Nat→Nat→Prop} (e z:Nat) (h:D e z):mkMapS A (mkMapS B (mkMapS C (∃e z,D e z))):=⟨.inr ⟨.inr ⟨.inr ⟨e,z,h⟩⟩⟩⟩
theorem mapS_i {t n k e:Nat} {ks:List (List Int)} {z:Value} {A:Prop} (h1:P.underlying t=some (.map k e)) (h2:KeyOk P k n) (h3:∀w,(zeroValue e).run P w= .ok z w) (h4:∀k∈ks,k.length=n) (h:A):mapTyS P t n ks z A:=⟨⟨k,e,h1,h2,h3⟩,h4,h⟩
theorem mm_no {ks:List (List Int)} {rows:List (Option (List (List AV)))} {key:List Int} {A:Prop} {K:Nat→List (List AV)→Prop} (h:key∉ks) (k:A):mmS ks rows key A K:=⟨.inl ⟨h,k⟩⟩
theorem mm_at {ks:List (List Int)} {rows:List (Option (List (List AV)))} {key:List Int} {A:Prop} {K:Nat→List (List AV)→Prop} (i:Nat) (r:List (List AV)) (h1:ks[i]? =some key) (h2:∀j,j<i→ks[j]? ≠some key) (h3:rows[i]? =some (some r)) (k:K i r):mmS ks rows key A K:=⟨.inr ⟨i,r,h1,h2,h3,k⟩⟩
theorem row_s {i:Nat} {A B:Prop} (h:A):rowS i i A B:=⟨.inl ⟨rfl,h⟩⟩
theorem row_o {i j:Nat} {A B:Prop} (hne:i≠j) (h:B):rowS i j A B:=⟨.inr ⟨hne,h⟩⟩
theorem subS_i {b:ByteArray} {lo hi:Int} {K:ByteArray→Prop} (h:0≤lo∧lo≤hi∧hi≤b.size) (k:K (b.extract lo.toNat hi.toNat)):subS b lo hi K:=⟨h,k⟩
theorem arith_i {n:Int} (h: -9223372036854775808≤n∧n≤9223372036854775807) (k:K (.int .i64 n)):arith .i64 n K:=by
 rw [arith_iff]
 have:IntKind.i64.wrap n=n:=by rw [IntKind.wrap_i64];omega
 rw [this];exact k
theorem arith_u {n:Int} (h:0≤n∧n≤9223372036854775807) (k:K (.int .u64 n)):arith .u64 n K:=by
 rw [arith_iff]
 have:IntKind.u64.wrap n=n:=by simp [IntKind.wrap,IntKind.bits,IntKind.signed];omega
 rw [this];exact k
theorem arith_8 {n:Int} (h:0≤n∧n≤255) (k:K (.int .u8 n)):arith .u8 n K:=by
 rw [arith_iff]
 have:IntKind.u8.wrap n=n:=by simp [IntKind.wrap,IntKind.bits,IntKind.signed];omega
 rw [this];exact k
theorem aget_f {cs:List AV} {len:Nat} {n:Int} {K:List AV→Prop} (f:Nat→AV) (h0:0≤n) (h:n<len) (hf:∀k,k<len→cs[k]? =some (f k)) (h3:K [f n.toNat]):agetS cs 1 len n K:=by
 refine ⟨⟨n.toNat,by omega,by omega,?_⟩⟩
 have:=hf n.toNat (by omega)
 have e:(cs.drop (n.toNat * 1)).take 1=[f n.toNat]:=by
  rw [Nat.mul_one,List.take_one,List.head?_drop,this];rfl
 rw [e];exact h3
theorem aidx_i {len:Nat} {n:Int} {K:Nat→Prop} (k:Nat) (h:n=k) (hk:k<len) (h3:K k):aidx len n K:=by exact ⟨⟨k,h,hk,h3⟩⟩
theorem idx_i {es:List (List AV)} {n:Int} {K:List AV→Prop} {cs:List AV} (h0:0≤n) (h:es[n.toNat]? =some cs) (k:K cs):idx es n K:=by exact ⟨⟨h0,cs,h,k⟩⟩
theorem idx_m {α:Type} {enc:α→List AV} {xs:List α} {n:Int} {K:List AV→Prop} (h0:0≤n) (h1:n<xs.length) (k:∀x,xs[n.toNat]? =some x→K (enc x)):idx (xs.map enc) n K:=by
 have hlt:n.toNat<xs.length:=by omega
 exact idx_i h0 (by rw [List.getElem?_map,List.getElem?_eq_getElem hlt];rfl) (k _ (List.getElem?_eq_getElem hlt))
theorem sub_i {es:List (List AV)} {lo hi:Int} {K:List (List AV)→Prop} (h:0≤lo∧lo≤hi∧hi≤es.length) (k:K ((es.take hi.toNat).drop lo.toNat)):sub es lo hi K:=by exact ⟨⟨h,k⟩⟩
theorem byte_i {s:ByteArray} {n:Int} {K:Int→Prop} {b:UInt8} (h0:0≤n) (h:s[n.toNat]? =some b) (k:K b.toNat):byteAt s n K:=by exact ⟨⟨h0,b,h,k⟩⟩
theorem wk_refl:∀ {vs:List AV},All2 Wk vs vs
 |[]=>trivial
 |v::vs=>⟨.inl (.inl rfl),wk_refl⟩
theorem call_i {alt:Prop} {b:Bool} {f:Nat} {args:List AV} {R:AV→Prop} (hG:Good P tt b f args R) (h:∀r,R r→K r):acall P tt b f args K alt:=by exact ⟨.inl ⟨args,R,wk_refl,hG,h⟩⟩
theorem call_e {alt:Prop} {b:Bool} {f:Nat} {args:List AV} {v:AV} (hG:Good P tt b f args (· =v)) (h:K v):acall P tt b f args K alt:=by exact ⟨.inl ⟨args,_,wk_refl,hG,fun r e=>e▸h⟩⟩
theorem Good.mono {b:Bool} {f:Nat} {args:List AV} {R R':AV→Prop} (h:Good P tt b f args R) (hR:∀r,R r→R' r):Good P tt b f args R':=
 ⟨h.1,fun w X tp us hd k1 k0 k2 k3 k4=>Calls.mono (h.2 w X tp us hd k1 k0 k2 k3 k4) fun e w' ⟨u,r,e1,e2,e3⟩=>⟨u,r,e1,hR r e2,e3⟩⟩
theorem ret_p {v:AV} {R:AV→Prop} (hp:plainC v=true) (h:R v):aret v R:=by exact ⟨⟨v, .inl (.inl (.inl ⟨rfl,hp⟩)),h⟩⟩
theorem ret_o {t:Tg} {e z:Nat} {es:List (List AV)} {R:AV→Prop} (h:R (.own 0 e z es)):aret (.own t e z es) R:=by exact ⟨⟨_, .inr (.inl ⟨t,e,z,es,rfl,rfl⟩),h⟩⟩
theorem ret_n {e z:Nat} {R:AV→Prop} (h:R (.own 0 e z [])):aret .nil R:=by exact ⟨⟨_, .inr (.inr (.inl ⟨rfl,e,z,rfl⟩)),h⟩⟩
theorem ret_a {cs cs':List AV} {R:AV→Prop} (hA:All2 RetC cs cs') (h:R (.agg cs')):aret (.agg cs) R:=by exact ⟨⟨_, .inl (.inr ⟨cs,cs',rfl,rfl,hA⟩),h⟩⟩
theorem ret_t {vs rs:List AV} {R:AV→Prop} (hA:All2 RetG vs rs) (h:R (.tup rs)):aret (.tup vs) R:=by exact ⟨⟨_, .inr (.inr (.inr (.inl ⟨vs,rs,rfl,rfl,hA⟩))),h⟩⟩
theorem ret_to {t:Tg} {e z:Nat} {es:List (List AV)} {rs:List AV} {R:AV→Prop} (hs:scalars rs=true) (h:R (.tup (.own 0 e z es::rs))):aret (.tup (.own t e z es::rs)) R:=by exact ⟨⟨_, .inr (.inr (.inr (.inr ⟨t,e,z,es,rs,rfl,rfl,hs⟩))),h⟩⟩
theorem rc_p {v:AV} (hp:plainC v=true):RetC v v:= .inl ⟨rfl,hp⟩
theorem rc_o {t:Tg} {e z:Nat} {es:List (List AV)}:RetC (.own t e z es) (.lst z es):= .inr (.inl ⟨t,e,z,es,rfl,rfl⟩)
theorem rc_n {z:Nat}:RetC .nil (.lst z []):= .inr (.inr ⟨rfl,z,rfl⟩)
theorem RetC.g {v r:AV} (h:RetC v r):RetG v r:= .inl h
theorem draw_i (m:Nat) (p:Plan) {ops:Array Oper} {K:St→Prop} {s:St} (hp:planOk ops m p=true) (h:arun P T tt ops p K s):adraw P T tt ops K s:=by exact ⟨⟨m,p,hp,h⟩⟩
def Slots:List (Nat×AV)→St→Prop
 |[],_=>True
 |(j,v)::l,s=>s.slot j=v∧Slots l s
def Boxes:List (Nat×List AV)→St→Prop
 |[],_=>True
 |(j,v)::l,s=>s.box j=some v∧Boxes l s
variable {s s1 s2:St}
theorem Le.refl:Le tt s s:=fun w0 G a w S=>⟨G,S⟩
theorem Le.trans (h:Le tt s s1) (k:Le tt s1 s2):Le tt s s2:=fun w0 G a w S=>by
 obtain ⟨G',S'⟩:=h w0 G a w S
 exact k w0 G' a w S'
theorem lk_slot {sl:List (Nat×AV)} (h:Slots sl s) (i:Nat):lk sl i= .undef∨lk sl i=s.slot i:=by
 induction sl with
 |nil=>exact .inl rfl
 |cons p l ih=>
  obtain ⟨j,v⟩:=p
  by_cases e:i=j
  ·subst e;right;simp only [lk,beq_self,cond_true];exact h.1.symm
  ·simp only [lk,beq_ne e,cond_false];exact ih h.2
theorem lk_box {bx:List (Nat×List AV)} (h:Boxes bx s) (i:Nat) (cs:List AV) (hc:lkB bx i=some cs):s.box i=some cs:=by
 induction bx with
 |nil=>cases hc
 |cons p l ih=>
  obtain ⟨j,v⟩:=p
  by_cases e:i=j
  ·subst e;simp only [lkB,beq_self,cond_true] at hc;rw [←hc];exact h.1
  ·simp only [lkB,beq_ne e,cond_false] at hc;exact ih h.2 hc
theorem le_mk {sl:List (Nat×AV)} {bx:List (Nat×List AV)} {tp:Bool} (h:Slots sl s) (hb:Boxes bx s) (htp:s.tp=tp):Le tt s (mkSt sl bx tp):=fun w0 G a w S=>
 ⟨G,{ S with
   slot:=fun i=>by
    rcases lk_slot h i with e|e
    ·show RA _ _ _ (lk sl i) _;rw [e];trivial
    ·show RA _ _ _ (lk sl i) _;rw [e];exact S.slot i
   box:=fun t cs hc=>S.box t cs (lk_box hb t cs hc)
   tape:=fun h=>S.tape (htp.trans h)
   noTape:=fun h=>S.noTape (htp.trans h) }⟩
theorem le_q {sl:List (Nat×AV)} {bx:List (Nat×List AV)} {tp:Bool} (h:Slots sl s:=by repeat' (first|exact trivial|rfl|apply And.intro)) (hb:Boxes bx s:=by repeat' (first|exact trivial|rfl|apply And.intro)) (htp:s.tp=tp:=by exact rfl):Le tt s (mkSt sl bx tp):=le_mk h hb htp
theorem le_erase (t:Nat):Le tt s (s.map (eraseF t)):=fun w0 G a w S=>⟨_,(S.erase t).1⟩
theorem le_adopt (i t e z:Nat) (h:s.slot i= .nil):Le tt s ((s.map (killF t)).put i (.own t e z [])):=fun w0 G a w S=>by
 have S1:=S.setOwn (w':=w) t (.slice none 0 0) (Nat.le_refl _) (fun _ _ _=>rfl) (fun b hb=>by cases hb) S.chg
 have hu:=S.slot i
 rw [h] at hu
 have hu':Act.at w0 a i= .slice none 0 0:=hu
 refine ⟨_,S1.know (v:= .own t e z []) ?_⟩
 rw [hu']
 exact ⟨upd_same,[],World.ownsRow_nil w w0.B e z,trivial⟩
theorem le_adoptBox (b j t e z:Nat) {cs:List AV} (hb:s.box b=some cs) (h:cs[j]? =some .nil):Le tt s ((s.map (killF t)).setBox b ((cs.map (killF t)).set j (.own t e z []))):=fun w0 G a w S=>by
 have S1:=S.setOwn (w':=w) t (.slice none 0 0) (Nat.le_refl _) (fun _ _ _=>rfl) (fun b hb=>by cases hb) S.chg
 obtain ⟨bb,ee,us,k1,k2,k3⟩:=S1.box b (cs.map (killF t)) (by simp [St.map,hb])
 obtain ⟨bb',ee',us',q1,q2,q3⟩:=S.box b cs hb
 obtain ⟨u,hu,hr⟩:=q3.get h
 have hu':u= .slice none 0 0:=hr
 have e1:us=us':=by
  have:bb=bb':=by
   have:=k1
   rw [show ({ G with own:=upd G.own t (some (.slice none 0 0)) }:Gh).box b=G.box b from rfl,q1] at this
   injection this with this
   exact this.symm
  subst this
  have a1:w.heap[bb]? =some (.cells us.toArray ee (0,0)):=k2
  have a2:w.heap[bb]? =some (.cells us'.toArray ee' (0,0)):=q2
  rw [a1] at a2
  simp only [Option.some.injEq,Obj.cells.injEq] at a2
  have:=congrArg Array.toList a2.1
  simpa using this
 subst e1
 refine ⟨_,S1.setBox k1 k2 ?_⟩
 have hset:=k3.set j (a:= .own t e z []) (b:=u) ⟨by rw [hu'];exact upd_same,by rw [hu'];exact ⟨[],World.ownsRow_nil w w0.B e z,trivial⟩⟩
 have:us.set j u=us:=by
  apply List.ext_getElem?
  intro k
  rw [List.getElem?_set]
  split
  ·next e=>subst e;rw [hu];simp [(List.getElem?_eq_some_iff.1 hu).1]
  ·rfl
 rwa [this] at hset
theorem le_nilBox (b j z:Nat) {cs:List AV} (hb:s.box b=some cs) (h:cs[j]? =some .nil):Le tt s (s.setBox b (cs.set j (.lst z []))):=fun w0 G a w S=>by
 obtain ⟨bb,e,us,k1,k2,k3⟩:=S.box b cs hb
 refine ⟨G,S.setBox k1 k2 ?_⟩
 obtain ⟨u,hu,hr⟩:=k3.get h
 have hu':u= .slice none 0 0:=hr
 have hset:=k3.set j (a:= .lst z []) (b:=u) (by rw [hu'];exact RepV.nil z _ _)
 have:us.set j u=us:=by
  refine List.ext_getElem? fun i=>?_
  rw [List.getElem?_set]
  split
  ·next e=>subst e;rw [hu];simp [(List.getElem?_eq_some_iff.1 hu).1]
  ·rfl
 rwa [this] at hset
theorem rest_i {K:St→Prop} (s':St) (hle:Le tt s s') (h:K s'):rest tt K s:=by exact ⟨⟨s',hle,h⟩⟩
theorem loop_i {α:Type} (I:α→Prop) (st:α→St) (μ:α→Nat) {body:(Ex→St→Prop)→St→Prop} {Q:Ex→St→Prop} (x0:α) (h0:I x0) (hle:Le tt s (st x0))
 (hstep:∀x,I x→body (fun e s'=>match e with| .norm=>∃x',I x'∧Le tt s' (st x')∧μ x'<μ x| .exit i=>Q (.exit i) s'| .ret=>Q .ret s') (st x)):aloop tt body Q s:=by
 exact ⟨⟨α,I,st,μ,x0,h0,hle,hstep⟩⟩
theorem plainC_ren {β ρ:List (Nat×Nat)} {v:AV} (h:plainC v=true):renL β ρ v=v:=by cases v<;>first|rfl|simp [plainC] at h
theorem plainCs_ren {β ρ:List (Nat×Nat)}:∀ {cs:List AV},plainCs cs=true→cs.map (renL β ρ)=cs
 |[],_=>rfl
 |c::cs,h=>by
  simp only [plainCs,Bool.and_eq_true] at h
  rw [List.map_cons,plainC_ren h.1,plainCs_ren h.2]
theorem plainG_ren {β ρ:List (Nat×Nat)} {v:AV} (h:plainG v=true):v.mapG (renL β ρ)=v:=by
 cases v
 case agg cs=>simp only [AV.mapG,plainCs_ren h]
 all_goals first|rfl|(simp [plainG,plainC] at h)
theorem plainGs_ren {β ρ:List (Nat×Nat)}:∀ {cs:List AV},plainGs cs=true→cs.map (AV.mapG (renL β ρ))=cs
 |[],_=>rfl
 |c::cs,h=>by
  simp only [plainGs,Bool.and_eq_true] at h
  rw [List.map_cons,plainG_ren h.1,plainGs_ren h.2]
theorem plainR_ren {β ρ:List (Nat×Nat)} {v:AV} (h:plainR v=true):v.mapT (renL β ρ)=v:=by
 cases v
 case tup cs=>simp only [AV.mapT,plainGs_ren h]
 case agg cs=>exact congrArg AV.agg (plainCs_ren h)
 all_goals first|rfl|(simp [plainR,plainG,plainC] at h)
theorem okN_nil {β ρ:List (Nat×Nat)} (h:okM β ρ=true):okN β ρ [] []=true:=by
 simp only [okM,Bool.and_eq_true] at h
 simp only [okN,List.append_nil,h.1.1.1.1,h.1.1.1.2,h.1.1.2,h.1.2,Bool.and_self,Bool.true_and]
 rfl
theorem rcall_i (β ρ ν σ:List (Nat×Nat)) {f:Operand} {xs:List Operand} {d:Option Nat} {K:St→Prop} {A:Prop} {g:Nat} {cap args:List AV} {bx:List (Nat×List AV)} {R:AV→List (Nat×AV)→List (Nat×List AV)→Prop} (s1:St) (hle:Le tt s s1)
 (hG:GoodM P tt (hasTape args) g args bx R) (hf:s1.eval f= .fn g cap) (hargs:evals s1 xs++cap=args.map (ren β ρ)) (hk:(okM β ρ&&okAs β ρ args&&keysIn bx (fsts β))=true) (hn:okN β ρ ν σ=true) (hbx:BoxesM s1 β ρ bx)
 (h:∀r ov bx',R r ov bx'→ovGe ov=true∧backK (β++ν) (ρ++σ) bx' (β++ν) (fun s=>putK s d (r.mapT (renL (β++ν) (ρ++σ))) K) (s1.map (afterF ν (ρ++σ) (ovOf 1000 args) ov))):callS A (mcall P tt f xs d K s):=
 ⟨.inr ⟨s1,g,cap,β,ρ,ν,σ,args,bx,R,hle,hf,hargs,hk,hn,hbx,hG,h⟩⟩
theorem mcall_i (β ρ:List (Nat×Nat)) {f:Operand} {xs:List Operand} {d:Option Nat} {K:St→Prop} {A:Prop} {g:Nat} {cap args:List AV} {bx:List (Nat×List AV)} {R:AV→List (Nat×AV)→List (Nat×List AV)→Prop} (s1:St) (hle:Le tt s s1)
 (hG:GoodM P tt (hasTape args) g args bx R) (hf:s1.eval f= .fn g cap) (hargs:evals s1 xs++cap=args.map (ren β ρ)) (hk:(okM β ρ&&okAs β ρ args&&keysIn bx (fsts β))=true) (hbx:BoxesM s1 β ρ bx)
 (h:∀r ov bx',R r ov bx'→(plainR r&&ovGe ov)=true∧backK β ρ bx' β (fun s=>putK s d r K) (s1.map (afterF [] ρ (ovOf 1000 args) ov))):callS A (mcall P tt f xs d K s):=
 rcall_i β ρ [] [] s1 hle hG hf hargs hk (okN_nil (by simp only [Bool.and_eq_true] at hk;exact hk.1.1)) hbx fun r ov bx' hr=>by
  obtain ⟨h1,h2⟩:=h r ov bx' hr
  rw [Bool.and_eq_true] at h1
  refine ⟨h1.2,?_⟩
  simp only [List.append_nil,plainR_ren h1.1]
  exact h2
theorem mcall_e (β ρ:List (Nat×Nat)) {f:Operand} {xs:List Operand} {d:Option Nat} {K:St→Prop} {A:Prop} {g:Nat} {cap args:List AV} {bx:List (Nat×List AV)} {r0:AV} {ov0:List (Nat×AV)} {bx0:List (Nat×List AV)}
 (hG:GoodM P tt (hasTape args) g args bx (fun r ov bx'=>r=r0∧ov=ov0∧bx'=bx0)) (hf:s.eval f= .fn g cap) (hargs:evals s xs++cap=args.map (ren β ρ)) (hk:(okM β ρ&&okAs β ρ args&&keysIn bx (fsts β))=true) (hbx:BoxesM s β ρ bx) (hp:(plainR r0&&ovGe ov0)=true)
 (h:backK β ρ bx0 β (fun s=>putK s d r0 K) (s.map (afterF [] ρ (ovOf 1000 args) ov0))):callS A (mcall P tt f xs d K s):=
 mcall_i β ρ s Le.refl hG hf hargs hk hbx fun r ov bx' ⟨e1,e2,e3⟩=>by subst e1 e2 e3;exact ⟨hp,h⟩
theorem rcall_e (β ρ ν σ:List (Nat×Nat)) {f:Operand} {xs:List Operand} {d:Option Nat} {K:St→Prop} {A:Prop} {g:Nat} {cap args:List AV} {bx:List (Nat×List AV)} {r0:AV} {ov0:List (Nat×AV)} {bx0:List (Nat×List AV)}
 (hG:GoodM P tt (hasTape args) g args bx (fun r ov bx'=>r=r0∧ov=ov0∧bx'=bx0)) (hf:s.eval f= .fn g cap) (hargs:evals s xs++cap=args.map (ren β ρ)) (hk:(okM β ρ&&okAs β ρ args&&keysIn bx (fsts β))=true) (hn:okN β ρ ν σ=true) (hbx:BoxesM s β ρ bx) (hp:ovGe ov0=true)
 (h:backK (β++ν) (ρ++σ) bx0 (β++ν) (fun s=>putK s d (r0.mapT (renL (β++ν) (ρ++σ))) K) (s.map (afterF ν (ρ++σ) (ovOf 1000 args) ov0))):callS A (mcall P tt f xs d K s):=
 rcall_i β ρ ν σ s Le.refl hG hf hargs hk hn hbx fun r ov bx' ⟨e1,e2,e3⟩=>by subst e1 e2 e3;exact ⟨hp,h⟩
theorem retM_i {b:Bool} {v:AV} {R:AV→List (Nat×AV)→List (Nat×List AV)→Prop} (r:AV) (ov:List (Nat×AV)) (bx:List (Nat×List AV)) (htp:s.tp=b) (hle:Le tt (s.put 0 v) (mkSt ((0,r)::ov) bx b)) (hge:ovGe ov=true) (h:R r ov bx):aretM tt b v R s:=⟨⟨htp,r,ov,bx,hle,hge,h⟩⟩
theorem GoodM.mono {b:Bool} {f:Nat} {args:List AV} {bx:List (Nat×List AV)} {R R':AV→List (Nat×AV)→List (Nat×List AV)→Prop} (h:GoodM P tt b f args bx R) (hR:∀r ov bx',R r ov bx'→R' r ov bx'):GoodM P tt b f args bx R':=
 ⟨h.1,fun w0 G us S hA=>(h.2 w0 G us S hA).mono fun e w' ⟨u,r,ov,bx',G',h1,h2,h3,h4⟩=>⟨u,r,ov,bx',G',h1,hR r ov bx' h2,h3,h4⟩⟩
end
end Go.Proofs.YtihjphblcohdeaaGreatDoor
namespace Go.Proofs.YtihjphblcohdeaaGreatDoor
theorem pc_nil (z:Nat):PresC .nil (.lst z []):= .inr ⟨z,rfl⟩
theorem pc_nil0:PresC .nil .nil:= .inl rfl
theorem ridx_i {rows:List (Option (List (List AV)))} {n:Int} {K:Option (List (List AV))→Prop} {o:Option (List (List AV))} (h0:0≤n) (h:rows[n.toNat]? =some o) (k:K o):ridx rows n K:=⟨⟨h0,o,h,k⟩⟩
theorem bld_a {A B:Prop} (h:A):bldS A B:=⟨.inl h⟩
theorem bld_m {A B:Prop} (h:B):bldS A B:=⟨.inr h⟩
section
variable {tt:Nat} {s:St}
theorem le_toMat (i t e e2 z2 n:Nat) (h:s.slot i= .own (.s t) e 1 (List.replicate n [.nil])):Le tt s ((s.map (killM t)).put i (.mat t e e2 z2 (List.replicate n (some [])))):=fun w0 G a w S=>S.toMat i t e e2 z2 n h
theorem le_adoptMat (i t e e2 z2:Nat) (h:s.slot i= .nil):Le tt s ((((s.map (killF t)).put i (.own t e 1 [])).map (killM t)).put i (.mat t e e2 z2 [])):=
 (le_adopt i t e 1 h).trans (le_toMat i t e e2 z2 0 (by simp [St.put]))
theorem le_matErase (i t:Nat) {e e2 z2:Nat} {R:List (List (List AV))} (h:s.slot i= .mat t e e2 z2 (R.map some)):Le tt s ((s.map (killM t)).put i (.lst 1 (R.map fun es=>[.lst z2 es]))):=fun w0 G a w S=>by
 have hu:=S.slot i
 rw [h] at hu
 obtain ⟨hT,hs,ho,hA⟩:=(show RC w0.B G w (.mat t e e2 z2 (R.map some)) (Act.at w0 a i) from hu)
 have H:Shift (fun tg=>(if tg.base=t then none else some tg)=some tg) (fun _=>True) G (GhP G fun tg=>if tg.base=t then none else some tg) w w:=ghP_shift
 have ok:∀v,OkTag (fun tg=>tg.base≠t) (fun _=>True) v→OkTag (fun tg=>(if tg.base=t then none else some tg)=some tg) (fun _=>True) v:=fun v h=>h.mono fun tg h=>if_neg h
 have S1:=S.perm (fun tg=>if tg.base=t then none else some tg) (fun x y q hx hy=>by
  split at hx
  ·cases hx
  ·split at hy
   ·cases hy
   ·injection hx with hx;injection hy with hy;exact hx.trans hy.symm) (killM t) (fun v u h=>by
  rcases killM_ok (t:=t) (v:=v) with e|⟨e,hk⟩
  ·rw [e];trivial
  ·rw [e];exact H.rp (ok v hk) h) (fun v u h=>by
  rcases killM_ok (t:=t) (v:=v) with e|⟨e,hk⟩
  ·rw [e];trivial
  ·rw [e];exact H.rc (ok v hk) h)
 have gone:∀tg v b,tg.base=t→G.own tg=some v→v.ownBlock=some b→¬GX (GhP G fun tg=>if tg.base=t then none else some tg) b:=fun tg v b hb h1 h2 hx=>by
  rcases hx with (⟨t',ht⟩|⟨t',v2,h,h'⟩|ht)|hx
  ·exact S.boxOwn t' tg v b ht h1 h2
  ·obtain ⟨t0,p0,h0⟩:=ghP_own h
   split at p0
   ·cases p0
   ·next hne=>
    injection p0 with p0
    subst p0
    exact hne (by rw [S.ownInj _ _ v2 v b h0 h1 h' h2];exact hb)
  ·exact S.tapeOwn tg v b ht h1 h2
  ·exact S.newX (S.ownLt tg v b h1 h2).1 hx
 have sub:∀b,GX (GhP G fun tg=>if tg.base=t then none else some tg) b→GX G b:=fun b hx=>hx.elim (fun h=> .inl (ghP_gm h)) .inr
 have hl:=ho.1
 rw [List.length_map,Nat.mul_one] at hl
 have hrows:All2 (fun ds cs=>ds.length=1∧All2 (RepV w (GX (GhP G fun tg=>if tg.base=t then none else some tg))) ds cs) (R.map fun es=>[AV.lst z2 es]) (hs.map fun x=>[x]):=All2.of (by simp [hl]) fun j ds cs hj hj'=>by
  simp only [List.getElem?_map,Option.map_eq_some_iff] at hj hj'
  obtain ⟨es,h1,rfl⟩:=hj
  obtain ⟨x,h2,rfl⟩:=hj'
  obtain ⟨x',k1,k2,k3⟩:=hA j es (by rw [List.getElem?_map,h1];rfl)
  rw [h2] at k1
  injection k1 with k1
  subst k1
  exact ⟨rfl,k3.rep (fun b _=>sub b) (fun b hb=>gone (.r t j) x b rfl k2 hb),trivial⟩
 have fl:(hs.map fun x=>[x]).flatten=hs:=by
  clear hrows hl ho hA
  induction hs with
  |nil=>rfl
  |cons x hs ih=>simp [ih]
 refine ⟨_,S1.know (v:= .lst 1 (R.map fun es=>[.lst z2 es])) (RepV.rc ?_).ra⟩
 generalize hux:Act.at w0 a i=ux at *
 rcases ho.2 with ⟨rfl,h0⟩|⟨g,cap,cur,rfl,hg,hh,hc,hm,hsz,ht⟩
 ·have:R=[]:=List.eq_nil_of_length_eq_zero (by simpa using h0)
  subst this
  exact .nil 1 _ _
 ·have:=rep_of_cells (w:=w) (A:=some ⟨g,0,none⟩) (c:=cap) (fun _=>⟨g,0,rfl,(Array.getElem?_eq_some_iff.1 hh).1,gone (.s t) _ g rfl hT rfl,fun j v hv=>by
   rw [fl] at hv
   have hj:j<hs.length:=(List.getElem?_eq_some_iff.1 hv).1
   rw [Nat.zero_add]
   have:=ho.cellAt j (by rw [List.length_map];omega)
   rw [this,hv]⟩) (by simpa using hc) hrows
  simpa using this
theorem lnk_a {A B:Prop} (h:A):lnkS A B:=⟨.inl h⟩
end
end Go.Proofs.YtihjphblcohdeaaGreatDoor
