/- Several texts in one: MA. (Printed small by a program: remarks, spaces and repeated headings are taken out.) -/
import Derived.WalkKit
import Derived.WalkSpells
import Derived.WalkLawsBesides
import Derived.Deep.QuietTactic
import Derived.BigQuiet
import Derived.Lib.Hide
import Derived.Maps.AppendAt
import Derived.Laws.OwnMore
import Derived.Laws.CopyRow
import Derived.OrdersHeld
import Derived.Laws.StructEq
import Derived.Laws.Cover3
import Derived.Lib.SliceRun
import Derived.Laws.Tables
set_option linter.unusedVariables false
set_option linter.unusedSimpArgs false
set_option linter.unnecessarySimpa false
set_option linter.unusedSectionVars false
namespace Go.Proofs.YtihjphblcohdeaaGreatDoor
open Go.RowKit
theorem ask_drawn {α:Type}:∀(x:Ask α) (w:World),w.drawn≤(w.ask x).2.drawn
 | .done a,w=>Nat.le_refl _
 | .ask what range k,w=>by
  unfold World.ask
  dsimp only
  split
  ·exact ask_drawn (k 0) w
  ·exact Nat.le_trans (Nat.le_succ _) (ask_drawn _ { w with drawn:=w.drawn+1 })
theorem sys_drawn (w:World) (c:Sys):w.drawn≤(w.sys c).2.drawn:=by
 unfold World.sys
 have h:=ask_drawn (Kernel.perform c w.os) w
 split
 ·exact Nat.le_refl _
 ·next r os w' e=>rw [e] at h;exact h
theorem viewStore_drawn {p:Program} {w w':World} {a:Addr} {u:TypeId} {k:Addr} {v:Value} {b:Bool} {l:List Addr} (h:w.viewStore p a u k v b= .ok (w',l)):w'.drawn=w.drawn:=by
 unfold World.viewStore at h
 simp only [bind,Except.bind,pure,Except.pure] at h
 repeat' (first|(split at h)|(injection h with h)|(cases h;done))
 all_goals first|(injection h with h1 h2;rw [←h1];done)|(rw [←h])
theorem farStore_drawn {p:Program} {w w':World} {a:Addr} {v:Value} {b:Bool} {l:List Addr} (h:w.farStore p a v b= .ok (w',l)):w'.drawn=w.drawn:=by
 unfold World.farStore at h
 split at h
 ·split at h
  ·next r e=>
   injection h with h
   subst h
   exact viewStore_drawn e
  ·cases h
 ·cases h
theorem run_drawn {α:Type} {P:Program}:∀(s:Sem α) (w:World) (v:α) (w':World),s.run P w= .ok v w'→w.drawn≤w'.drawn:=by
 intro s
 induction s with
 |pure a=>intro w v w' h;simp only [Sem.run] at h;injection h with h1 h2;subst h2;exact Nat.le_refl _
 |load m a k ih=>
  intro w v w' h
  simp only [Sem.run] at h
  split at h
  ·exact ih _ _ _ _ h
  ·split at h
   ·exact ih _ _ _ _ h
   ·cases h
 |store m a u k ih=>
  intro w v w' h
  cases u
  all_goals simp only [Sem.run] at h
  all_goals try (cases h;done)
  all_goals
   split at h
   ·split at h
    ·cases h
    ·have:=ih _ _ _ h;exact this
   ·split at h
    ·next e=>rw [←farStore_drawn e];exact ih _ _ _ h
    ·cases h
 |new o k ih=>intro w v w' h;simp only [Sem.run] at h;have:=ih _ _ _ _ h;exact this
 |shape r k ih=>intro w v w' h;simp only [Sem.run] at h;exact ih _ _ _ _ h
 |freeze a n k ih=>
  intro w v w' h;simp only [Sem.run] at h
  have:=ih _ _ _ h
  unfold World.freeze at this
  split at this<;>exact this
 |frozen a k ih=>intro w v w' h;simp only [Sem.run] at h;exact ih _ _ _ _ h
 |getObj r k ih=>
  intro w v w' h
  simp only [Sem.run] at h
  split at h
  ·cases h
  ·exact ih _ _ _ _ h
  ·cases h
 |setObj r o k ih=>
  intro w v w' h
  simp only [Sem.run] at h
  split at h
  ·cases h
  ·have:=ih _ _ _ h;exact this
  ·cases h
 |choose q k ih=>
  intro w v w' h
  simp only [Sem.run] at h
  split at h
  ·exact ih _ _ _ _ h
  ·exact Nat.le_trans (Nat.le_succ _) (ih _ _ _ _ h)
 |sys c k ih=>
  intro w v w' h
  simp only [Sem.run] at h
  exact Nat.le_trans (sys_drawn w c) (ih _ _ _ _ h)
 |program k ih=>intro w v w' h;simp only [Sem.run] at h;exact ih _ _ _ _ h
 |mark m k ih=>intro w v w' h;simp only [Sem.run] at h;exact ih _ _ _ h
 |halt h0=>intro w v w' h;simp only [Sem.run] at h;cases h
structure ChgQ (q:Prop) (X:Nat→Prop) (w w':World):Prop where
 os:w'.os=w.os
 tape:w'.tape=w.tape
 output:w'.output=w.output
 size:w.heap.size≤w'.heap.size
 block:∀b,b<w.heap.size→¬X b→w'.heap[b]? =w.heap[b]?
 drawn:q→w.drawn≤w'.drawn
abbrev Chg:=ChgQ False
def No:Nat→Prop:=fun _=>False
def From (p:Nat):Nat→Prop:=fun b=>p≤b
theorem no_ {b:Nat}:¬No b:=fun h=>h
section
variable {X Y:Nat→Prop} {a w w':World}
theorem ChgQ.refl {q:Prop} (X:Nat→Prop) (w:World):ChgQ q X w w:=⟨rfl,rfl,rfl,Nat.le_refl _,fun _ _ _=>rfl,fun _=>Nat.le_refl _⟩
theorem Chg.refl (X:Nat→Prop) (w:World):Chg X w w:=ChgQ.refl X w
variable {q:Prop}
theorem ChgQ.andThen (h:ChgQ q X a w) (k:ChgQ q Y w w') (hY:∀b,b<a.heap.size→Y b→X b):ChgQ q X a w':=
 ⟨k.os.trans h.os,k.tape.trans h.tape,k.output.trans h.output,Nat.le_trans h.size k.size,fun b hb hx=>
   (k.block b (Nat.lt_of_lt_of_le hb h.size) (fun hy=>hx (hY b hb hy))).trans (h.block b hb hx),fun d=>Nat.le_trans (h.drawn d) (k.drawn d)⟩
theorem ChgQ.trans (h:ChgQ q X a w) (k:ChgQ q X w w'):ChgQ q X a w':=h.andThen k fun _ _ h=>h
theorem ChgQ.keep (h:ChgQ q X a w) (k:ChgQ q No w w'):ChgQ q X a w':=h.andThen k fun _ _ h=>h.elim
theorem ChgQ.mono (h:ChgQ q X a w) (hY:∀b,b<a.heap.size→X b→Y b):ChgQ q Y a w:=⟨h.os,h.tape,h.output,h.size,fun b hb hn=>h.block b hb fun hx=>hn (hY b hb hx),h.drawn⟩
theorem ChgQ.drew (h:ChgQ q X a w):ChgQ q X a w.drew:=⟨h.os,h.tape,h.output,h.size,h.block,fun d=>Nat.le_succ_of_le (h.drawn d)⟩
theorem ChgQ.drewN (h:ChgQ q X a w) (n:Nat):ChgQ q X a (w.drewN n):=⟨h.os,h.tape,h.output,h.size,h.block,fun d=>Nat.le_add_right_of_le (h.drawn d)⟩
theorem ChgQ.alloc (h:ChgQ q X a w) (o:Obj):ChgQ q X a (w.alloc o):=
 h.trans ⟨rfl,rfl,rfl,by simp,fun b hb _=>Below.heap_alloc _ _ _ hb,fun _=>Nat.le_refl _⟩
theorem ChgQ.setCell (h:ChgQ q X a w) {p:Addr} (hp:X p.block∨a.heap.size≤p.block) (u:Value):ChgQ q X a (w.setCell p u):=
 ⟨h.os,h.tape,h.output,by simpa [World.setCell] using h.size,fun b hb hx=>(Below.heap_setCell _ _ _ _ (by
   rintro rfl
   rcases hp with hp|hp
   ·exact hx hp
   ·omega)).trans (h.block b hb hx),h.drawn⟩
theorem ChgQ.grown {row:Option Nat} (h:ChgQ q X a w) (hg:w.grownBy w' row) (hr:∀k,row=some k→X k∨a.heap.size≤k) (hd:q→w.drawn≤w'.drawn):ChgQ q X a w':=
 ⟨hg.os.trans h.os,hg.tape.trans h.tape,hg.output.trans h.output,Nat.le_trans h.size hg.size,fun b hb hx=>
   (hg.block b (Nat.lt_of_lt_of_le hb h.size) (fun e=>by
     rcases hr b e.symm with h|h
     ·exact hx h
     ·omega)).trans (h.block b hb hx),fun d=>Nat.le_trans (h.drawn d) (hd d)⟩
theorem ChgQ.up (h:Chg X a w) (hq:¬q):ChgQ q X a w:=⟨h.os,h.tape,h.output,h.size,h.block,fun d=>absurd d hq⟩
theorem ChgQ.down (h:ChgQ q X a w):Chg X a w:=⟨h.os,h.tape,h.output,h.size,h.block,nofun⟩
theorem ChgQ.below (h:ChgQ q No a w):Below a.heap.size a w:=⟨h.os,h.tape,h.output,h.size,fun b hb=>h.block b hb no_⟩
theorem Chg.of_below {B:Nat} (h:Below B a w) (hB:B=a.heap.size):Chg No a w:=⟨h.os,h.tape,h.output,h.size,fun b hb _=>h.block b (by omega),nofun⟩
theorem ChgQ.new (h:ChgQ q X a w) (hX:∀b,X b→a.heap.size≤b):ChgQ q No a w:=h.mono fun b hb hx=>absurd (hX b hx) (by omega)
theorem ChgQ.cell (h:ChgQ q X a w) {p:Addr} (hp:p.block<a.heap.size) (hx:¬X p.block):w.cell? p=a.cell? p:=World.cell?_of_block (h.block _ hp hx)
theorem ChgQ.frozen (h:ChgQ q X a w) {p:Addr} (hp:p.block<a.heap.size) (hx:¬X p.block):w.frozen? p=a.frozen? p:=World.frozen?_of_block (h.block _ hp hx)
end
def Blk (w:World) (g:Nat) (t:TypeId) (cs:Array Value):Prop:=w.heap[g]? =some (.cells cs t (0,0))
section
variable {X:Nat→Prop} {w w':World} {g:Nat} {t:TypeId} {cs:Array Value}
theorem Blk.lt (h:Blk w g t cs):g<w.heap.size:=(Array.getElem?_eq_some_iff.1 h).1
theorem Blk.cell (h:Blk w g t cs) (i:Nat):w.cell? ⟨g,i,none⟩=cs[i]? :=by
 have e:w.heap[g]? =some (.cells cs t (0,0)):=h
 simp [World.cell?,e]
theorem Blk.frozen (h:Blk w g t cs) (i:Nat):w.frozen? ⟨g,i,none⟩=false:=by
 have e:w.heap[g]? =some (.cells cs t (0,0)):=h
 simp [World.frozen?,e]
theorem Blk.chg (h:Blk w g t cs) (hb:Chg X w w') (hg:¬X g):Blk w' g t cs:=(hb.block g h.lt hg).trans h
theorem Blk.made (w:World) (t:TypeId) (cs:Array Value):Blk (w.alloc (.cells cs t)) w.heap.size t cs:=heap_alloc_new w _
theorem Blk.stored (h:Blk w g t cs) (i:Nat) (u:Value):Blk (w.setCell ⟨g,i,none⟩ u) g t (cs.setIfInBounds i u):=by
 have e:w.heap[g]? =some (.cells cs t (0,0)):=h
 show (w.setCell ⟨g,i,none⟩ u).heap[g]? =_
 rw [World.setCell,Array.getElem?_modify,if_pos rfl,e]
 rfl
theorem Blk.apart {g':Nat} {t':TypeId} {cs':Array Value} (h:Blk w g t cs) (h':Blk w g' t' cs') (hne:t≠t'):g≠g':=by
 intro e
 have e1:w.heap[g]? =some (.cells cs t (0,0)):=h
 have e2:w.heap[g']? =some (.cells cs' t' (0,0)):=h'
 rw [e,e2] at e1
 simp only [Option.some.injEq,Obj.cells.injEq] at e1
 exact hne e1.2.1.symm
end
structure Rep (α:Type) where
 size:Nat
 rep:World→(Nat→Prop)→List Value→α→Prop
 len:∀ {w X cs x},rep w X cs x→cs.length=size
 one:∀ {w X cs x},rep w X cs x→∀u∈cs,u.oneCell'=true
 move:∀ {w w' X Y cs x},rep w X cs x→(∀b,b<w.heap.size→¬X b→w'.heap[b]? =w.heap[b]?)→(∀b,b<w.heap.size→Y b→X b)→rep w' Y cs x
section
variable {α β:Type} (r:Rep α) (s:Rep β)
def Rep.int:Rep Int:=⟨1,fun _ _ cs x=>cs=[.int .i64 x],by rintro _ _ _ _ rfl;rfl,by rintro _ _ _ _ rfl;simp [Value.oneCell'],fun h _ _=>h⟩
def Rep.bool:Rep Bool:=⟨1,fun _ _ cs x=>cs=[.bool x],by rintro _ _ _ _ rfl;rfl,by rintro _ _ _ _ rfl;simp [Value.oneCell'],fun h _ _=>h⟩
def Rep.str:Rep ByteArray:=⟨1,fun _ _ cs x=>cs=[.string x],by rintro _ _ _ _ rfl;rfl,by rintro _ _ _ _ rfl;simp [Value.oneCell'],fun h _ _=>h⟩
def Rep.pair:Rep (α×β):=⟨r.size+s.size,fun w X cs x=>∃c d,cs=c++d∧r.rep w X c x.1∧s.rep w X d x.2,
 by rintro _ _ _ _ ⟨c,d,rfl,h1,h2⟩;simp [r.len h1,s.len h2],
 by
  rintro _ _ _ _ ⟨c,d,rfl,h1,h2⟩ u hu
  rcases List.mem_append.1 hu with hu|hu
  ·exact r.one h1 u hu
  ·exact s.one h2 u hu,
 by
  rintro _ _ _ _ _ _ ⟨c,d,rfl,h1,h2⟩ hb hX
  exact ⟨c,d,rfl,r.move h1 hb hX,s.move h2 hb hX⟩⟩
def Rep.by (f:β→α):Rep β:=⟨r.size,fun w X cs x=>r.rep w X cs (f x),fun h=>r.len h,fun h=>r.one h,fun h hb hX=>r.move h hb hX⟩
structure Slc (w:World) (X:Nat→Prop) (A:Option Addr) (n c:Nat) (xs:List α):Prop where
 len:xs.length=n
 cap:n≤c
 at_:0<n→∃b off,A=some ⟨b,off,none⟩∧b<w.heap.size∧¬X b∧∀i x,xs[i]? =some x→∃ys,(∀j u,ys[j]? =some u→w.cell? ⟨b,off+i * r.size+j,none⟩=some u)∧r.rep w X ys x
theorem Slc.move {w w':World} {X Y:Nat→Prop} {A:Option Addr} {n c:Nat} {xs:List α} (h:Slc r w X A n c xs) (hb:∀b,b<w.heap.size→¬X b→w'.heap[b]? =w.heap[b]?) (hX:∀b,b<w.heap.size→Y b→X b):Slc r w' Y A n c xs:=
 ⟨h.len,h.cap,fun hn=>by
   obtain ⟨b,off,rfl,hlt,hx,hi⟩:=h.at_ hn
   have e:=hb b hlt hx
   refine ⟨b,off,rfl,?_,fun hy=>hx (hX b hlt hy),fun i x hxi=>?_⟩
   ·rcases Nat.lt_or_ge b w'.heap.size with h|h
    ·exact h
    ·rw [Array.getElem?_eq_none h,Array.getElem?_eq_getElem hlt] at e;cases e
   ·obtain ⟨ys,hy,hr⟩:=hi i x hxi
    exact ⟨ys,fun j u hu=>(World.cell?_of_block (a:=⟨b,_,none⟩) e).trans (hy j u hu),r.move hr hb hX⟩⟩
theorem Slc.chg {w w':World} {X Y:Nat→Prop} {A:Option Addr} {n c:Nat} {xs:List α} (h:Slc r w X A n c xs) (hb:Chg Y w w') (hX:∀b,b<w.heap.size→Y b→X b):Slc r w' X A n c xs:=
 h.move r (fun b hlt hx=>hb.block b hlt fun hy=>hx (hX b hlt hy)) fun _ _ h=>h
theorem Slc.keep {w w':World} {X:Nat→Prop} {A:Option Addr} {n c:Nat} {xs:List α} (h:Slc r w X A n c xs) (hb:Chg No w w'):Slc r w' X A n c xs:=h.chg r hb fun _ _ h=>h.elim
theorem Slc.less {w:World} {X Y:Nat→Prop} {A:Option Addr} {n c:Nat} {xs:List α} (h:Slc r w X A n c xs) (hX:∀b,b<w.heap.size→Y b→X b):Slc r w Y A n c xs:=h.move r (fun _ _ _=>rfl) hX
theorem Slc.nil {w:World} {X:Nat→Prop}:Slc r w X none 0 0 []:=⟨rfl,Nat.le_refl _,fun h=>absurd h (by omega)⟩
def Rep.slice:Rep (List α):=⟨1,fun w X cs xs=>∃A n c,cs=[.slice A n c]∧Slc r w X A n c xs,
 by rintro _ _ _ _ ⟨A,n,c,rfl,_⟩;rfl,
 by rintro _ _ _ _ ⟨A,n,c,rfl,_⟩;simp [Value.oneCell'],
 by rintro _ _ _ _ _ _ ⟨A,n,c,rfl,h⟩ hb hX;exact ⟨A,n,c,rfl,h.move r hb hX⟩⟩
end
def nth (xs:List Int) (k:Nat):Int:=xs.getD k 0
theorem nth_some {xs:List Int} {k:Nat} (h:k<xs.length):xs[k]? =some (nth xs k):=by
 simp [nth,List.getD_eq_getElem?_getD,List.getElem?_eq_getElem h]
abbrev Ints (w:World) (X:Nat→Prop) (A:Option Addr) (n c:Nat) (xs:List Int):Prop:=Slc Rep.int w X A n c xs
theorem Slc.int_at {w:World} {X:Nat→Prop} {A:Option Addr} {n c:Nat} {xs:List Int} (h:Ints w X A n c xs):0<n→∃b off,A=some ⟨b,off,none⟩∧b<w.heap.size∧¬X b∧∀k,k<n→w.cell? ⟨b,off+k,none⟩=some (.int .i64 (nth xs k)):=by
 intro hn
 obtain ⟨b,off,hA,hlt,hx,hi⟩:=h.at_ hn
 refine ⟨b,off,hA,hlt,hx,fun k hk=>?_⟩
 obtain ⟨ys,hy,rfl⟩:=hi k _ (nth_some (by rw [h.len];exact hk))
 simpa [Rep.int] using hy 0 _ rfl
def zeros (n:Nat):Array Value:=((List.replicate n (0:Int)).map (Value.int .i64)).toArray
def Own {α:Type} (r:Rep α) (w:World) (X:Nat→Prop) (base:Nat) (e:TypeId) (v:Value) (xs:List α):Prop:=
 ∃css:List (List Value),css.length=xs.length∧w.ownsRow base e r.size v xs.length css.flatten∧
  ∀(i:Nat) (cs:List Value) (x:α),css[i]? =some cs→xs[i]? =some x→r.rep w (fun b=>X b∨v.ownBlock=some b) cs x
section
variable {α:Type} {r:Rep α} {w w':World} {X Y:Nat→Prop} {base:Nat} {e:TypeId} {v:Value} {xs:List α}
theorem Own.nil:Own r w X base e (.slice none 0 0) []:=⟨[],rfl,World.ownsRow_nil w base e r.size,fun i cs x h=>by simp at h⟩
theorem Own.blk (h:Own r w X base e v xs):∀k,v.ownBlock=some k→base≤k∧k<w.heap.size:=by
 obtain ⟨_,_,ho,_⟩:=h
 exact ho.lt
theorem Own.chg (h:Own r w X base e v xs) (hb:Chg Y w w') (hX:∀b,b<w.heap.size→Y b→X b) (hv:∀k,v.ownBlock=some k→¬Y k):Own r w' X base e v xs:=by
 obtain ⟨css,hl,ho,hr⟩:=h
 refine ⟨css,hl,⟨ho.1,?_⟩,fun i cs x h1 h2=>r.move (hr i cs x h1 h2) (fun b hlt hn=>hb.block b hlt fun hy=>hn (.inl (hX b hlt hy))) fun _ _ h=>h⟩
 rcases ho.2 with h2|⟨g,cap,cur,hv',hg,hh,rest⟩
 ·exact .inl h2
 ·exact .inr ⟨g,cap,cur,hv',hg,(hb.block g (Array.getElem?_eq_some_iff.1 hh).1 (hv g (by rw [hv'];rfl))).trans hh,rest⟩
theorem Own.keep (h:Own r w X base e v xs) (hb:Chg No w w'):Own r w' X base e v xs:=h.chg hb (fun _ _ h=>h.elim) fun _ _ h=>h
theorem Own.less (h:Own r w X base e v xs) (hX:∀b,b<w.heap.size→Y b→X b∨v.ownBlock=some b):Own r w Y base e v xs:=by
 obtain ⟨css,hl,ho,hr⟩:=h
 exact ⟨css,hl,ho,fun i cs x h1 h2=>r.move (hr i cs x h1 h2) (fun _ _ _=>rfl) fun b hlt hb=>hb.elim (hX b hlt) .inr⟩
theorem Own.form (h:Own r w X base e v xs):∃A c,v= .slice A xs.length c∧xs.length≤c∧c≤maxLen:=by
 obtain ⟨css,hl,ho,hr⟩:=h
 rcases ho.2 with ⟨rfl,hn⟩|⟨g,cap,cur,rfl,_,_,hc,hm,_⟩
 ·exact ⟨none,0,by rw [hn],by omega,Nat.zero_le _⟩
 ·exact ⟨_,cap,rfl,hc,hm⟩
theorem flatten_at {css:List (List Value)} {k:Nat} (hs:∀c∈css,c.length=k) {i j:Nat} {c:List Value} {u:Value} (hc:css[i]? =some c) (hu:c[j]? =some u):css.flatten[i * k+j]? =some u:=by
 induction css generalizing i with
 |nil=>simp at hc
 |cons d css ih=>
  have hd:d.length=k:=hs d (by simp)
  cases i with
  |zero=>
   simp at hc
   subst hc
   have hj:j<d.length:=(List.getElem?_eq_some_iff.1 hu).1
   rw [List.flatten_cons,List.getElem?_append_left (by omega)]
   simpa using hu
  |succ i=>
   rw [List.flatten_cons,List.getElem?_append_right (by rw [hd,Nat.add_mul];omega)]
   have:=ih (fun c hc=>hs c (by simp [hc])) (i:=i) (by simpa using hc)
   rw [←this]
   congr 1
   rw [hd,Nat.add_mul]
   omega
theorem Own.slc (h:Own r w X base e v xs) (hX:∀b,b<w.heap.size→Y b→X b) (hv:∀k,v.ownBlock=some k→¬Y k):∃A c,v= .slice A xs.length c∧c≤maxLen∧Slc r w Y A xs.length c xs:=by
 obtain ⟨css,hl,ho,hr⟩:=h
 have hlen:∀c∈css,c.length=r.size:=by
  intro c hc
  obtain ⟨i,hi,rfl⟩:=List.mem_iff_getElem.1 hc
  exact r.len (hr i _ _ (List.getElem?_eq_getElem hi) (List.getElem?_eq_getElem (by omega)))
 rcases ho.2 with ⟨rfl,hn⟩|⟨g,cap,cur,rfl,hg,hh,hc,hm,hsz,ht⟩
 ·refine ⟨none,0,by rw [hn],Nat.zero_le _,rfl,by omega,fun h=>by omega⟩
 ·refine ⟨_,cap,rfl,hm,rfl,hc,fun hn=>⟨g,0,rfl,(Array.getElem?_eq_some_iff.1 hh).1,hv g rfl,fun i x hx=>?_⟩⟩
  have hi:i<css.length:=by rw [hl];exact (List.getElem?_eq_some_iff.1 hx).1
  refine ⟨css[i],fun j u hu=>?_,r.move (hr i _ x (List.getElem?_eq_getElem hi) hx) (fun _ _ _=>rfl) fun b hlt hy=> .inl (hX b hlt hy)⟩
  have hf:=flatten_at hlen (List.getElem?_eq_getElem hi) hu
  rw [←ht,List.getElem?_take] at hf
  split at hf
  ·have e:w.heap[g]? =some (.cells cur _ (0,0)):=hh
   simpa [World.cell?,e] using hf
  ·cases hf
theorem Own.apart {β:Type} {s:Rep β} {base':Nat} {e':TypeId} {v':Value} {ys:List β} (h:Own r w X base e v xs) (h':Own s w Y base' e' v' ys) (hne:e≠e') {k:Nat} (hk:v.ownBlock=some k) (hk':v'.ownBlock=some k):False:=by
 obtain ⟨_,_,ho,_⟩:=h
 obtain ⟨_,_,ho',_⟩:=h'
 rcases ho.2 with ⟨rfl,_⟩|⟨g,_,cur,rfl,_,hh,_⟩
 ·simp [Value.ownBlock] at hk
 ·rcases ho'.2 with ⟨rfl,_⟩|⟨g',_,cur',rfl,_,hh',_⟩
  ·simp [Value.ownBlock] at hk'
  ·simp only [Value.ownBlock,Option.some.injEq] at hk hk'
   subst hk hk'
   rw [hh] at hh'
   simp only [Option.some.injEq,Obj.cells.injEq] at hh'
   exact hne hh'.2.1
theorem Own.snoc (h:Own r w X base e v xs) {css:List (List Value)} {cs:List Value} {x:α} {v':Value} (hl:css.length=xs.length)
 (hr:∀(i:Nat) (cs:List Value) (x:α),css[i]? =some cs→xs[i]? =some x→r.rep w (fun b=>X b∨v.ownBlock=some b) cs x) (hx:r.rep w (fun b=>X b∨v.ownBlock=some b) cs x)
 (ho:w'.ownsRow base e r.size v' (xs.length+1) (css.flatten++cs)) (hg:w.grownBy w' v.ownBlock) (hv:v'.ownBlock=v.ownBlock∨v'.ownBlock=some w.heap.size):
 Own r w' X base e v' (xs++[x]):=by
 have mv:∀ {cs:List Value} {x:α},r.rep w (fun b=>X b∨v.ownBlock=some b) cs x→r.rep w' (fun b=>X b∨v'.ownBlock=some b) cs x:=fun h=>
  r.move h (fun b hlt hn=>hg.block b hlt fun e=>hn (.inr e.symm)) fun b hlt hb=>by
   rcases hb with hb|hb
   ·exact .inl hb
   ·rcases hv with hv|hv
    ·exact .inr (hv▸hb)
    ·rw [hv] at hb;injection hb with hb;omega
 refine ⟨css++[cs],by simp [hl],by simpa using ho,fun i c y h1 h2=>?_⟩
 rcases Nat.lt_or_ge i xs.length with hi|hi
 ·rw [List.getElem?_append_left (by omega)] at h1
  rw [List.getElem?_append_left hi] at h2
  exact mv (hr i c y h1 h2)
 ·have:i=xs.length:=by
   have:=(List.getElem?_eq_some_iff.1 h2).1
   simp at this
   omega
  subst this
  rw [List.getElem?_append_right (by omega)] at h1 h2
  simp [hl] at h1 h2
  subst h1 h2
  exact mv hx
end
section
variable {P:Program}
end
theorem flatten_inv {css:List (List Value)} {k:Nat} (hs:∀c∈css,c.length=k) {j:Nat} {u:Value} (hu:css.flatten[j]? =some u):∃(i t:Nat) (c:List Value),css[i]? =some c∧c[t]? =some u∧j=i * k+t:=by
 induction css generalizing j with
 |nil=>simp at hu
 |cons d css ih=>
  have hd:d.length=k:=hs d (by simp)
  rw [List.flatten_cons] at hu
  rcases Nat.lt_or_ge j d.length with hj|hj
  ·rw [List.getElem?_append_left hj] at hu
   exact ⟨0,j,d,rfl,hu,by simp⟩
  ·rw [List.getElem?_append_right hj] at hu
   obtain ⟨i,t,c,h1,h2,h3⟩:=ih (fun c hc=>hs c (by simp [hc])) hu
   exact ⟨i+1,t,c,by simpa using h1,h2,by rw [Nat.add_mul];omega⟩
theorem Slc.cells {α:Type} {r:Rep α} {w:World} {X:Nat→Prop} {b off m c:Nat} {ys:List α} (h:Slc r w X (some ⟨b,off,none⟩) m c ys) (hm:0<m):
 ∃css:List (List Value),css.length=ys.length∧(∀(i:Nat) (cs:List Value) (y:α),css[i]? =some cs→ys[i]? =some y→r.rep w X cs y)∧∀(j:Nat) (u:Value),css.flatten[j]? =some u→w.cell? ⟨b,off+j,none⟩=some u:=by
 obtain ⟨b',off',hA,hlt,hx,hi⟩:=h.at_ hm
 injection hA with hA
 injection hA with h1 h2 _
 subst h1 h2
 have hex:∀n,n≤ys.length→∃css:List (List Value),css.length=n∧∀(i:Nat) (cs:List Value) (y:α),css[i]? =some cs→ys[i]? =some y→(∀(t:Nat) (u:Value),cs[t]? =some u→w.cell? ⟨b,off+i * r.size+t,none⟩=some u)∧r.rep w X cs y:=by
  intro n
  induction n with
  |zero=>exact fun _=>⟨[],rfl,fun i cs y h=>by simp at h⟩
  |succ n ih=>
   intro hn
   obtain ⟨css,hl,hc⟩:=ih (by omega)
   obtain ⟨zs,hz1,hz2⟩:=hi n _ (List.getElem?_eq_getElem (by omega))
   refine ⟨css++[zs],by simp [hl],fun i cs y h1 h2=>?_⟩
   rcases Nat.lt_or_ge i n with hin|hin
   ·rw [List.getElem?_append_left (by omega)] at h1
    exact hc i cs y h1 h2
   ·have:i=n:=by
     have:=(List.getElem?_eq_some_iff.1 h1).1
     simp at this
     omega
    subst this
    rw [List.getElem?_append_right (by omega)] at h1
    simp [hl] at h1
    subst h1
    rw [List.getElem?_eq_getElem (by omega)] at h2
    injection h2 with h2
    subst h2
    exact ⟨hz1,hz2⟩
 obtain ⟨css,hl,hc⟩:=hex ys.length (Nat.le_refl _)
 refine ⟨css,hl,fun i cs y h1 h2=>(hc i cs y h1 h2).2,fun j u hu=>?_⟩
 have hlen:∀c∈css,c.length=r.size:=by
  intro c hcm
  obtain ⟨i,hi',rfl⟩:=List.mem_iff_getElem.1 hcm
  exact r.len (hc i _ _ (List.getElem?_eq_getElem hi') (List.getElem?_eq_getElem (by omega))).2
 obtain ⟨i,t,cs,h1,h2,rfl⟩:=flatten_inv hlen hu
 have hil:i<ys.length:=by have:=(List.getElem?_eq_some_iff.1 h1).1;omega
 have:=(hc i cs _ h1 (List.getElem?_eq_getElem hil)).1 t u h2
 rwa [←Nat.add_assoc]
theorem Own.append {α:Type} {r:Rep α} {w w':World} {X:Nat→Prop} {base:Nat} {e:TypeId} {v:Value} {xs:List α} {css dss:List (List Value)} {ys:List α} {v':Value} (hl:css.length=xs.length)
 (hr:∀(i:Nat) (cs:List Value) (x:α),css[i]? =some cs→xs[i]? =some x→r.rep w (fun b=>X b∨v.ownBlock=some b) cs x) (hl':dss.length=ys.length)
 (hr':∀(i:Nat) (cs:List Value) (x:α),dss[i]? =some cs→ys[i]? =some x→r.rep w (fun b=>X b∨v.ownBlock=some b) cs x)
 (ho:w'.ownsRow base e r.size v' (xs.length+ys.length) (css.flatten++dss.flatten)) (hg:w.grownBy w' v.ownBlock) (hv:v'.ownBlock=v.ownBlock∨v'.ownBlock=some w.heap.size):
 Own r w' X base e v' (xs++ys):=by
 have mv:∀ {cs:List Value} {x:α},r.rep w (fun b=>X b∨v.ownBlock=some b) cs x→r.rep w' (fun b=>X b∨v'.ownBlock=some b) cs x:=fun h=>
  r.move h (fun b hlt hn=>hg.block b hlt fun e=>hn (.inr e.symm)) fun b hlt hb=>by
   rcases hb with hb|hb
   ·exact .inl hb
   ·rcases hv with hv|hv
    ·exact .inr (hv▸hb)
    ·rw [hv] at hb;injection hb with hb;omega
 refine ⟨css++dss,by simp [hl,hl'],by simpa using ho,fun i c y h1 h2=>?_⟩
 rcases Nat.lt_or_ge i xs.length with hi|hi
 ·rw [List.getElem?_append_left (by omega)] at h1
  rw [List.getElem?_append_left hi] at h2
  exact mv (hr i c y h1 h2)
 ·rw [List.getElem?_append_right (by omega)] at h1 h2
  exact mv (hr' _ c y (by rw [←hl];exact h1) h2)
section
variable {P:Program}
theorem run_append_nothing (w:World) (base:Nat) (t ty e:TypeId) (i:TypeInfo) (size:Nat) (ht:P.underlying t=some (.slice e)) (hi:P.info? e=some i)
 (v:Value) (n:Nat) (xs:List Value) (hown:w.ownsRow base e size v n xs) (c:Nat):(Builtin.append_ #[t,t] ty #[v, .slice none 0 c]).run P w= .ok v w:=by
 rcases hown.2 with ⟨rfl,rfl⟩|⟨g,cap,cur,rfl, -, -,hnc, -⟩
 ·simp [Builtin.append_,run_underlying ht,sizeOf,typeInfo,hi,Builtin.lenOf,Builtin.firstCells]
 ·simp [Builtin.append_,run_underlying ht,sizeOf,typeInfo,hi,Builtin.lenOf,Builtin.firstCells,hnc,storeCells]
end
inductive Tg where
 |s (t:Nat)
 |r (t i:Nat)
deriving DecidableEq
instance :Coe Nat Tg:=⟨Tg.s⟩
instance (n:Nat):OfNat Tg n:=⟨Tg.s n⟩
def Tg.eqb:Tg→Tg→Bool
 | .s a, .s b=>Nat.beq a b
 | .s _, .r _ _=>false
 | .r _ _, .s _=>false
 | .r a i, .r b j=>Nat.beq a b&&Nat.beq i j
theorem Tg.eqb_iff {a b:Tg}:Tg.eqb a b=true↔a=b:=by
 cases a<;>cases b<;>simp [Tg.eqb]
theorem Tg.eqb_self {a:Tg}:Tg.eqb a a=true:=Tg.eqb_iff.2 rfl
theorem Tg.eqb_ne {a b:Tg} (h:a≠b):Tg.eqb a b=false:=by
 rw [←Bool.not_eq_true,Tg.eqb_iff];exact h
inductive Kv where
 |b (l:List (Int×Bool))
 |i (l:List (Int×Int))
 |si (l:List (List Int×Int))
def keyV (k:List Int):Value:= .agg (k.map (Value.int .i64)).toArray
def Kv.vals:Kv→List (Value×Value)
 | .b l=>l.map fun p=>(Value.int .i64 p.1,Value.bool p.2)
 | .i l=>l.map fun p=>(Value.int .i64 p.1,Value.int .i64 p.2)
 | .si l=>l.map fun p=>(keyV p.1,Value.int .i64 p.2)
def Kv.zero:Kv→Value
 | .b _=> .bool false
 | .i _=> .int .i64 0
 | .si _=> .int .i64 0
def Kv.size:Kv→Nat
 | .b l=>l.length
 | .i l=>l.length
 | .si l=>l.length
inductive AV where
 |undef
 |nil
 |int (k:IntKind) (n:Int)
 |bool (b:Bool)
 |str (s:ByteArray)
 |lst (z:Nat) (es:List (List AV))
 |own (t:Tg) (e z:Nat) (es:List (List AV))
 |mat (t e e2 z2:Nat) (rows:List (Option (List (List AV))))
 |nilp
 |agg (cs:List AV)
 |tup (vs:List AV)
 |ptr (t off:Nat)
 |ept (t:Tg) (i off:Nat) (cs:List AV)
 |mpt (t i e2 z2:Nat) (o:Option (List (List AV)))
 |ref (cs:List AV)
 |fn (f:Nat) (cap:List AV)
 |tape
 |mp (t:Nat) (kvs:Kv)
 |win (t:Tg) (lo z:Nat) (es:List (List AV))
 |asl (t off n:Nat)
 |mm (t e z:Nat) (ks:List (List Int)) (rows:List (Option (List (List AV))))
instance :Inhabited AV:=⟨.undef⟩
def All2 {α β:Type} (R:α→β→Prop):List α→List β→Prop
 |[],[]=>True
 |a::as,b::bs=>R a b∧All2 R as bs
 |_,_=>False
section
variable {α β γ:Type} {R S:α→β→Prop}
theorem All2.len:∀ {as:List α} {bs:List β},All2 R as bs→as.length=bs.length
 |[],[],_=>rfl
 |_::_,_::_,h=>by simp [All2.len h.2]
 |[],_::_,h=>h.elim
 |_::_,[],h=>h.elim
theorem All2.mono (hm:∀a b,R a b→S a b):∀ {as:List α} {bs:List β},All2 R as bs→All2 S as bs
 |[],[],_=>trivial
 |_::_,_::_,h=>⟨hm _ _ h.1,All2.mono hm h.2⟩
 |[],_::_,h=>h.elim
 |_::_,[],h=>h.elim
theorem All2.get:∀ {as:List α} {bs:List β},All2 R as bs→∀ {j:Nat} {a:α},as[j]? =some a→∃b,bs[j]? =some b∧R a b
 |[],[],_,_,_,h=>by simp at h
 |a::as,b::bs,h,0,x,hx=>⟨b,rfl,by simp at hx;exact hx▸h.1⟩
 |a::as,b::bs,h,j+1,x,hx=>by simpa using All2.get h.2 (by simpa using hx)
 |[],_::_,h,_,_,_=>h.elim
 |_::_,[],h,_,_,_=>h.elim
theorem All2.get':∀ {as:List α} {bs:List β},All2 R as bs→∀ {j:Nat} {b:β},bs[j]? =some b→∃a,as[j]? =some a∧R a b
 |[],[],_,_,_,h=>by simp at h
 |a::as,b::bs,h,0,x,hx=>⟨a,rfl,by simp at hx;exact hx▸h.1⟩
 |a::as,b::bs,h,j+1,x,hx=>by simpa using All2.get' h.2 (by simpa using hx)
 |[],_::_,h,_,_,_=>h.elim
 |_::_,[],h,_,_,_=>h.elim
theorem All2.of:∀ {as:List α} {bs:List β},as.length=bs.length→(∀(j:Nat) (a:α) (b:β),as[j]? =some a→bs[j]? =some b→R a b)→All2 R as bs
 |[],[],_,_=>trivial
 |a::as,b::bs,hl,h=>⟨h 0 a b rfl rfl,All2.of (by simpa using hl) fun j x y hx hy=>h (j+1) x y (by simpa using hx) (by simpa using hy)⟩
 |[],_::_,hl,_=>by simp at hl
 |_::_,[],hl,_=>by simp at hl
theorem All2.append {as as':List α} {bs bs':List β} (h:All2 R as bs) (h':All2 R as' bs'):All2 R (as++as') (bs++bs'):=by
 induction as generalizing bs with
 |nil=>cases bs with
  |nil=>exact h'
  |cons=>exact h.elim
 |cons a as ih=>cases bs with
  |nil=>exact h.elim
  |cons b bs=>exact ⟨h.1,ih h.2⟩
theorem All2.drop {as:List α} {bs:List β} (h:All2 R as bs) (n:Nat):All2 R (as.drop n) (bs.drop n):=
 All2.of (by simp [h.len]) fun j a b ha hb=>by
  rw [List.getElem?_drop] at ha hb
  obtain ⟨b',hb',hr⟩:=h.get ha
  rw [hb] at hb'
  injection hb' with e
  exact e▸hr
theorem All2.take {as:List α} {bs:List β} (h:All2 R as bs) (n:Nat):All2 R (as.take n) (bs.take n):=
 All2.of (by simp [h.len]) fun j a b ha hb=>by
  rw [List.getElem?_take] at ha hb
  split at ha
  ·obtain ⟨b',hb',hr⟩:=h.get ha
   simp only [*,if_true] at hb
   injection hb with e
   exact e▸hr
  ·cases ha
theorem All2.set {as:List α} {bs:List β} (h:All2 R as bs) (n:Nat) {a:α} {b:β} (hr:R a b):All2 R (as.set n a) (bs.set n b):=
 All2.of (by simp [h.len]) fun j x y hx hy=>by
  rw [List.getElem?_set] at hx hy
  split at hx
  ·next e=>
   simp only [e,if_true] at hy
   split at hx
   ·split at hy
    ·injection hx with hx;injection hy with hy;exact hx▸hy▸hr
    ·cases hy
   ·cases hx
  ·next e=>
   simp only [e,if_false] at hy
   obtain ⟨y',hy',hr'⟩:=h.get hx
   rw [hy] at hy'
   injection hy' with e
   exact e▸hr'
theorem All2.map_left {f:γ→α}:∀ {cs:List γ} {bs:List β},All2 R (cs.map f) bs↔All2 (fun c b=>R (f c) b) cs bs
 |[],[]=>Iff.rfl
 |c::cs,b::bs=>and_congr Iff.rfl All2.map_left
 |[],_::_=>Iff.rfl
 |_::_,[]=>Iff.rfl
theorem All2.cons_inv {a:α} {as:List α} {bs:List β} (h:All2 R (a::as) bs):∃b bs',bs=b::bs'∧R a b∧All2 R as bs':=by
 cases bs with
 |nil=>exact h.elim
 |cons b bs=>exact ⟨b,bs,rfl,h.1,h.2⟩
theorem All2.nil_inv {bs:List β} (h:All2 R ([]:List α) bs):bs=[]:=by
 cases bs with
 |nil=>rfl
 |cons=>exact h.elim
end
def at2 (es:List (List AV)) (i j:Nat):Option AV:=(es[i]?).bind (·[j]?)
inductive RepV (w:World) (X:Nat→Prop):AV→Value→Prop
 |int (k:IntKind) (n:Int):RepV w X (.int k n) (.int k n)
 |bool (b:Bool):RepV w X (.bool b) (.bool b)
 |str (s:ByteArray):RepV w X (.str s) (.string s)
 |nil (z:Nat) (A:Option Addr) (c:Nat):RepV w X (.lst z []) (.slice A 0 c)
 |nil0:RepV w X .nil (.slice none 0 0)
 |undef (u:Value) (h:u.oneCell'=true):RepV w X .undef u
 |lst {z:Nat} {es:List (List AV)} {b off c:Nat} (f:Nat→Nat→Value) (hne:es≠[]) (hc:es.length≤c) (hb:b<w.heap.size) (hx:¬X b) (hz:∀cs∈es,cs.length=z)
  (hcell:∀i j d,at2 es i j=some d→w.cell? ⟨b,off+i * z+j,none⟩=some (f i j)) (hrep:∀i j d,at2 es i j=some d→RepV w X d (f i j)):RepV w X (.lst z es) (.slice (some ⟨b,off,none⟩) es.length c)
theorem heap_lt {w w':World} {b:Nat} (e:w'.heap[b]? =w.heap[b]?) (hlt:b<w.heap.size):b<w'.heap.size:=by
 rcases Nat.lt_or_ge b w'.heap.size with h|h
 ·exact h
 ·rw [Array.getElem?_eq_none h,Array.getElem?_eq_getElem hlt] at e;cases e
theorem RepV.move {w w':World} {X Y:Nat→Prop} {v:AV} {u:Value} (h:RepV w X v u) (hb:∀b,b<w.heap.size→¬X b→w'.heap[b]? =w.heap[b]?) (hY:∀b,b<w.heap.size→Y b→X b):RepV w' Y v u:=by
 induction h with
 |int k n=>exact .int k n
 |bool b=>exact .bool b
 |str s=>exact .str s
 |nil z A c=>exact .nil z A c
 |nil0=>exact .nil0
 |undef u h=>exact .undef u h
 |lst f hne hc hlt hx hz hcell hrep ih=>
  have e:=hb _ hlt hx
  exact .lst f hne hc (heap_lt e hlt) (fun hy=>hx (hY _ hlt hy)) hz (fun i j d hd=>(World.cell?_of_block (a:=⟨_,_,none⟩) e).trans (hcell i j d hd)) ih
theorem RepV.one {w:World} {X:Nat→Prop} {v:AV} {u:Value} (h:RepV w X v u):u.oneCell'=true:=by cases h<;>first|rfl|assumption
structure Gh where
 box:Nat→Option Nat
 own:Tg→Option Value
 tape:Option Nat
 ext:Nat→Prop
 hdr:Option Addr×Nat×Nat
 fz:Nat→Prop
 fw:World
def GM (G:Gh):Nat→Prop:=fun b=>(∃t,G.box t=some b)∨(∃t v,G.own t=some v∧Value.ownBlock v=some b)∨G.tape=some b
def GX (G:Gh):Nat→Prop:=fun b=>GM G b∨G.ext b
def OwnRep (B:Nat) (X:Nat→Prop) (w:World) (e z:Nat) (es:List (List AV)) (u:Value):Prop:=
 ∃css:List (List Value),w.ownsRow B e z u es.length css.flatten∧All2 (fun ds cs=>ds.length=z∧All2 (RepV w X) ds cs) es css
def MatRep (B:Nat) (G:Gh) (w:World) (t e e2 z2:Nat) (rows:List (Option (List (List AV)))) (u:Value):Prop:=
 ∃hs:List Value,w.ownsRow B e 1 u rows.length hs∧∀i es,rows[i]? =some (some es)→∃h,hs[i]? =some h∧G.own (.r t i)=some h∧OwnRep B (GX G) w e2 z2 es h
def MptRep (B:Nat) (G:Gh) (w:World) (t i e2 z2:Nat) (o:Option (List (List AV))) (u:Value):Prop:=
 ∃g n c e cur,G.own t=some (.slice (some ⟨g,0,none⟩) n c)∧u= .pointer (some ⟨g,i,none⟩)∧i<cur.size∧w.heap[g]? =some (.cells cur e (0,0))∧n≤cur.size∧
  ∀es,o=some es→∃h,cur.toList[i]? =some h∧G.own (.r t i)=some h∧OwnRep B (GX G) w e2 z2 es h
def PtrRep (G:Gh):AV→Value→Prop
 | .undef,_=>True
 | .ptr t off,u=>∃b,G.box t=some b∧u= .pointer (some ⟨b,off,none⟩)
 |_,_=>False
def RC (B:Nat) (G:Gh) (w:World):AV→Value→Prop
 | .undef,_=>True
 | .nil,u=>u= .slice none 0 0
 | .nilp,u=>u= .pointer none
 | .fn f cap,u=>∃us:List Value,u= .func (.func f) #[] us.toArray∧All2 (PtrRep G) cap us
 | .own t e z es,u=>G.own t=some u∧OwnRep B (GX G) w e z es u
 | .mat t e e2 z2 rows,u=>G.own t=some u∧MatRep B G w t e e2 z2 rows u
 | .ptr t off,u=>∃b,G.box t=some b∧u= .pointer (some ⟨b,off,none⟩)
 |v,u=>RepV w (GX G) v u
def RepU (w:World) (X:Nat→Prop) (v:AV) (u:Value):Prop:=v= .undef∨RepV w X v u
def RefRep (w:World) (M X:Nat→Prop) (cs:List AV) (u:Value):Prop:=
 ∃b o us,u= .pointer (some ⟨b,o,none⟩)∧b<w.heap.size∧¬M b∧All2 (RepU w X) cs us∧∀j v,us[j]? =some v→w.cell? ⟨b,o+j,none⟩=some v
def EptRep (G:Gh) (w:World) (t:Tg) (i off:Nat) (cs:List AV) (u:Value):Prop:=
 ∃g n c e cur us,G.own t=some (.slice (some ⟨g,0,none⟩) n c)∧u= .pointer (some ⟨g,i * cs.length+off,none⟩)∧i<n∧w.heap[g]? =some (.cells cur e (0,0))∧n * cs.length≤cur.size∧
  All2 (RepU w (GX G)) cs us∧∀j v,us[j]? =some v→w.cell? ⟨g,i * cs.length+j,none⟩=some v
def MpRep (G:Gh) (w:World) (t:Nat) (kvs:Kv) (u:Value):Prop:=
 ∃b es c,G.own t=some (.slice (some ⟨b,0,none⟩) 0 0)∧u= .map (some b)∧w.heap[b]? =some (.map es c)∧es.toList.map (fun e=>(e.key,e.val))=kvs.vals
def Aged (es:Array MapEntry) (c:Nat):Prop:=c=es.size∧∀(i:Nat) (e:MapEntry),es[i]? =some e→e.born=i
def MmRep (B:Nat) (G:Gh) (w:World) (t e z:Nat) (ks:List (List Int)) (rows:List (Option (List (List AV)))) (u:Value):Prop:=
 ∃b es c hs,G.own t=some (.slice (some ⟨b,0,none⟩) 0 0)∧u= .map (some b)∧w.heap[b]? =some (.map es c)∧es.toList.map (fun e=>(e.key,e.val))=(ks.zip hs).map (fun p=>(keyV p.1,p.2))∧hs.length=ks.length∧rows.length=ks.length∧
  (∀i es,rows[i]? =some (some es)→∃h,hs[i]? =some h∧G.own (.r t i)=some h∧OwnRep B (GX G) w e z es h)∧Aged es c
def WinRep (G:Gh) (w:World) (t:Tg) (lo z:Nat) (es:List (List AV)) (u:Value):Prop:=
 ∃g n c e cur css A c',G.own t=some (.slice (some ⟨g,0,none⟩) n c)∧lo+es.length≤n∧u= .slice A es.length c'∧(es≠[]→A=some ⟨g,lo * z,none⟩)∧es.length≤c'∧w.heap[g]? =some (.cells cur e (0,0))∧n * z≤cur.size∧
  All2 (fun ds cs=>ds.length=z∧All2 (RepV w (GX G)) ds cs) es css∧∀j v,css.flatten[j]? =some v→w.cell? ⟨g,lo * z+j,none⟩=some v
def RP (B:Nat) (G:Gh) (w:World):AV→Value→Prop
 | .ept t i off cs,u=>EptRep G w t i off cs u
 | .ref cs,u=>RefRep w (GM G) (GX G) cs u
 | .tape,u=>∃p,G.tape=some p∧u= .pointer (some ⟨p,0,none⟩)
 | .mp t kvs,u=>MpRep G w t kvs u
 | .win t lo z es,u=>WinRep G w t lo z es u
 | .mpt t i e2 z2 o,u=>MptRep B G w t i e2 z2 o u
 | .mm t e z ks rows,u=>MmRep B G w t e z ks rows u
 | .asl t off n,u=>∃b A c,G.box t=some b∧u= .slice A n c∧(0<n→A=some ⟨b,off,none⟩)∧n≤c
 |v,u=>RC B G w v u
def RG (B:Nat) (G:Gh) (w:World):AV→Value→Prop
 | .agg cs,u=>∃us:List Value,u= .agg us.toArray∧All2 (RC B G w) cs us
 | .fn f cap,u=>∃us:List Value,u= .func (.func f) #[] us.toArray∧All2 (RP B G w) cap us
 |v,u=>RP B G w v u
def RA (B:Nat) (G:Gh) (w:World):AV→Value→Prop
 | .tup vs,u=>∃us:List Value,u= .tuple us.toArray∧All2 (RG B G w) vs us
 |v,u=>RG B G w v u
structure St where
 slot:Nat→AV
 box:Nat→Option (List AV)
 tp:Bool
def St.put (s:St) (d:Nat) (v:AV):St:={ s with slot:=fun i=>bif Nat.beq i d then v else s.slot i }
def St.setBox (s:St) (d:Nat) (cs:List AV):St:={ s with box:=fun i=>bif Nat.beq i d then some cs else s.box i }
def AV.mapG (f:AV→AV):AV→AV
 | .undef=>f (.undef)
 | .nil=>f (.nil)
 | .nilp=>f (.nilp)
 | .int k n=>f (.int k n)
 | .bool b=>f (.bool b)
 | .str s=>f (.str s)
 | .lst z es=>f (.lst z es)
 | .own t e z es=>f (.own t e z es)
 | .mat t e e2 z2 rows=>f (.mat t e e2 z2 rows)
 | .agg cs=> .agg (cs.map f)
 | .tup vs=>f (.tup vs)
 | .ptr t off=>f (.ptr t off)
 | .asl t off n=>f (.asl t off n)
 | .ept t i off cs=>f (.ept t i off cs)
 | .mpt t i e2 z2 o=>f (.mpt t i e2 z2 o)
 | .ref cs=>f (.ref cs)
 | .fn g cap=> .fn g (cap.map f)
 | .tape=>f (.tape)
 | .mp t kvs=>f (.mp t kvs)
 | .mm t e z ks rows=>f (.mm t e z ks rows)
 | .win t lo z es=>f (.win t lo z es)
def AV.mapT (f:AV→AV):AV→AV
 | .undef=>f (.undef)
 | .nil=>f (.nil)
 | .nilp=>f (.nilp)
 | .int k n=>f (.int k n)
 | .bool b=>f (.bool b)
 | .str s=>f (.str s)
 | .lst z es=>f (.lst z es)
 | .own t e z es=>f (.own t e z es)
 | .mat t e e2 z2 rows=>f (.mat t e e2 z2 rows)
 | .agg cs=> .agg (cs.map f)
 | .tup vs=> .tup (vs.map (AV.mapG f))
 | .ptr t off=>f (.ptr t off)
 | .asl t off n=>f (.asl t off n)
 | .ept t i off cs=>f (.ept t i off cs)
 | .mpt t i e2 z2 o=>f (.mpt t i e2 z2 o)
 | .ref cs=>f (.ref cs)
 | .fn g cap=> .fn g (cap.map f)
 | .tape=>f (.tape)
 | .mp t kvs=>f (.mp t kvs)
 | .mm t e z ks rows=>f (.mm t e z ks rows)
 | .win t lo z es=>f (.win t lo z es)
def St.map (f:AV→AV) (s:St):St:={ s with slot:=fun i=>(s.slot i).mapT f,box:=fun t=>(s.box t).map (·.map f) }
def Tg.base:Tg→Nat
 | .s t=>t
 | .r t _=>t
def Tg.row:Tg→Bool
 | .s _=>false
 | .r _ _=>true
def killF (t:Tg):AV→AV
 | .undef=> .undef
 | .nil=> .nil
 | .nilp=> .nilp
 | .int k n=> .int k n
 | .bool b=> .bool b
 | .str s=> .str s
 | .lst z es=> .lst z es
 | .own t' e z es=>bif Tg.eqb t' t then .undef else .own t' e z es
 | .mat t' e e2 z2 rows=>bif Nat.beq t' t.base then .undef else .mat t' e e2 z2 rows
 | .agg cs=> .agg cs
 | .tup vs=> .tup vs
 | .ptr t off=> .ptr t off
 | .asl t off n=> .asl t off n
 | .ept t' i off cs=>bif Tg.eqb t' t then .undef else .ept t' i off cs
 | .mpt t' i e2 z2 o=>bif Nat.beq t' t.base then .undef else .mpt t' i e2 z2 o
 | .ref cs=> .ref cs
 | .fn g cap=> .fn g cap
 | .tape=> .tape
 | .mp t' kvs=>bif Tg.eqb t' t then .undef else .mp t' kvs
 | .mm t' e z ks rows=>bif Nat.beq t' t.base then .undef else .mm t' e z ks rows
 | .win t' lo z es=>bif Tg.eqb t' t then .undef else .win t' lo z es
def eraseF (t:Tg):AV→AV
 | .undef=> .undef
 | .nil=> .nil
 | .nilp=> .nilp
 | .int k n=> .int k n
 | .bool b=> .bool b
 | .str s=> .str s
 | .lst z es=> .lst z es
 | .own t' e z es=>bif Tg.eqb t' t then .lst z es else .own t' e z es
 | .mat t' e e2 z2 rows=>bif Nat.beq t' t.base then .undef else .mat t' e e2 z2 rows
 | .agg cs=> .agg cs
 | .tup vs=> .tup vs
 | .ptr t off=> .ptr t off
 | .asl t off n=> .asl t off n
 | .ept t' i off cs=>bif Tg.eqb t' t then .ref (cs.drop off) else .ept t' i off cs
 | .mpt t' i e2 z2 o=>bif Nat.beq t' t.base then .undef else .mpt t' i e2 z2 o
 | .ref cs=> .ref cs
 | .fn g cap=> .fn g cap
 | .tape=> .tape
 | .mp t' kvs=>bif Tg.eqb t' t then .undef else .mp t' kvs
 | .mm t' e z ks rows=>bif Nat.beq t' t.base then .undef else .mm t' e z ks rows
 | .win t' lo z es=>bif Tg.eqb t' t then .lst z es else .win t' lo z es
def killP1 (t:Nat):AV→AV
 | .undef=> .undef
 | .nil=> .nil
 | .nilp=> .nilp
 | .int k n=> .int k n
 | .bool b=> .bool b
 | .str s=> .str s
 | .lst z es=> .lst z es
 | .own t e z es=> .own t e z es
 | .mat t e e2 z2 rows=> .mat t e e2 z2 rows
 | .agg cs=> .agg cs
 | .tup vs=> .tup vs
 | .ptr t' off=>bif Nat.beq t' t then .undef else .ptr t' off
 | .asl t' off n=>bif Nat.beq t' t then .undef else .asl t' off n
 | .ept t i off cs=> .ept t i off cs
 | .mpt t i e2 z2 o=> .mpt t i e2 z2 o
 | .ref cs=> .ref cs
 | .fn g cap=> .fn g cap
 | .tape=> .tape
 | .mp t kvs=> .mp t kvs
 | .mm t e z ks rows=> .mm t e z ks rows
 | .win t lo z es=> .win t lo z es
def killPtrF (t:Nat):AV→AV
 | .undef=> .undef
 | .nil=> .nil
 | .nilp=> .nilp
 | .int k n=> .int k n
 | .bool b=> .bool b
 | .str s=> .str s
 | .lst z es=> .lst z es
 | .own t e z es=> .own t e z es
 | .mat t e e2 z2 rows=> .mat t e e2 z2 rows
 | .agg cs=> .agg cs
 | .tup vs=> .tup vs
 | .ptr t' off=>bif Nat.beq t' t then .undef else .ptr t' off
 | .asl t' off n=>bif Nat.beq t' t then .undef else .asl t' off n
 | .ept t i off cs=> .ept t i off cs
 | .mpt t i e2 z2 o=> .mpt t i e2 z2 o
 | .ref cs=> .ref cs
 | .fn g cap=> .fn g (cap.map (killP1 t))
 | .tape=> .tape
 | .mp t kvs=> .mp t kvs
 | .mm t e z ks rows=> .mm t e z ks rows
 | .win t lo z es=> .win t lo z es
def setIf (b:Bool) (x:AV):Nat→List AV→List AV
 |_,[]=>[]
 |0,c::cs=>(bif b then x else c)::cs
 |n+1,c::cs=>c::setIf b x n cs
theorem setIf_true {x:AV}:∀ {n:Nat} {cs:List AV},setIf true x n cs=cs.set n x
 |_,[]=>by cases ‹Nat› <;>rfl
 |0,c::cs=>rfl
 |n+1,c::cs=>by rw [setIf,setIf_true];rfl
theorem setIf_false {x:AV}:∀ {n:Nat} {cs:List AV},setIf false x n cs=cs
 |_,[]=>by cases ‹Nat› <;>rfl
 |0,c::cs=>rfl
 |n+1,c::cs=>by rw [setIf,setIf_false]
def storeO (t z i off:Nat) (x:AV):AV→AV
 | .undef=> .undef
 | .nil=> .nil
 | .nilp=> .nilp
 | .int k n=> .int k n
 | .bool b=> .bool b
 | .str s=> .str s
 | .lst z es=> .lst z es
 | .own t' e z' es=>bif Tg.eqb t' (.s t) then (bif Nat.beq z' z then .own t' e z' (es.modify i (·.set off x)) else .undef) else .own t' e z' es
 | .mat t' e e2 z2 rows=>bif Nat.beq t' t then .undef else .mat t' e e2 z2 rows
 | .agg cs=> .agg cs
 | .tup vs=> .tup vs
 | .ptr t off=> .ptr t off
 | .asl t off n=> .asl t off n
 | .ept t' i' off' cs=>bif Tg.eqb t' (.s t) then (bif Nat.beq cs.length z then (.ept t' i' off' (setIf (Nat.beq i' i) x off cs)) else .undef) else .ept t' i' off' cs
 | .mpt t' i e2 z2 o=>bif Nat.beq t' t then .undef else .mpt t' i e2 z2 o
 | .ref cs=> .ref cs
 | .fn g cap=> .fn g cap
 | .tape=> .tape
 | .mp t' kvs=>bif Tg.eqb t' (.s t) then .undef else .mp t' kvs
 | .mm t' e z ks rows=>bif Nat.beq t' t then .undef else .mm t' e z ks rows
 | .win t' lo z es=>bif Tg.eqb t' (.s t) then .undef else .win t' lo z es
def undefs (cs:List AV):List AV:=cs.map fun _=> .undef
def rowsF (t e0 z0:Nat) (f:List (Option (List (List AV)))→List (Option (List (List AV)))):AV→AV
 | .undef=> .undef
 | .nil=> .nil
 | .nilp=> .nilp
 | .int k n=> .int k n
 | .bool b=> .bool b
 | .str s=> .str s
 | .lst z es=> .lst z es
 | .own t' e z es=>bif t'.row&&Nat.beq t'.base t then .undef else .own t' e z es
 | .mat t' e e2 z2 rows=>bif Nat.beq t' t then (bif Nat.beq e2 e0&&Nat.beq z2 z0 then .mat t' e e2 z2 (f rows) else .undef) else .mat t' e e2 z2 rows
 | .agg cs=> .agg cs
 | .tup vs=> .tup vs
 | .ptr t off=> .ptr t off
 | .asl t off n=> .asl t off n
 | .ept t' i off cs=>bif t'.row&&Nat.beq t'.base t then .undef else .ept t' i off cs
 | .mpt t' i e2 z2 o=>bif Nat.beq t' t then .mpt t' i e2 z2 none else .mpt t' i e2 z2 o
 | .ref cs=> .ref cs
 | .fn g cap=> .fn g cap
 | .tape=> .tape
 | .mp t kvs=> .mp t kvs
 | .mm t' e z ks rows=>bif Nat.beq t' t then (bif Nat.beq e e0&&Nat.beq z z0 then .mm t' e z ks (f rows) else .undef) else .mm t' e z ks rows
 | .win t' lo z es=>bif t'.row&&Nat.beq t'.base t then .undef else .win t' lo z es
def storeRow (i off:Nat) (x:AV):Option (List (List AV))→Option (List (List AV))
 |some es=>some (es.modify i (·.set off x))
 |none=>none
def rowOwn (t k z i off:Nat) (x:AV) (t1 k1 e z':Nat) (es:List (List AV)):AV:=
 bif Nat.beq t1 t then (bif Nat.beq z' z then .own (.r t1 k1) e z' (bif Nat.beq k1 k then es.modify i (·.set off x) else es) else .undef) else .own (.r t1 k1) e z' es
def storeR (t k z i off:Nat) (x:AV):AV→AV
 | .undef=> .undef
 | .nil=> .nil
 | .nilp=> .nilp
 | .int k n=> .int k n
 | .bool b=> .bool b
 | .str s=> .str s
 | .lst z es=> .lst z es
 | .own t' e z' es=>match t' with
  | .s a=> .own (.s a) e z' es
  | .r t1 k1=>rowOwn t k z i off x t1 k1 e z' es
 | .mat t' e e2 z2 rows=>bif Nat.beq t' t then (bif Nat.beq z2 z then .mat t' e e2 z2 (rows.modify k (storeRow i off x)) else .undef) else .mat t' e e2 z2 rows
 | .agg cs=> .agg cs
 | .tup vs=> .tup vs
 | .ptr t off=> .ptr t off
 | .asl t off n=> .asl t off n
 | .ept t' i' off' cs=>bif t'.row&&Nat.beq t'.base t then .ept t' i' off' (undefs cs) else .ept t' i' off' cs
 | .mpt t' i' e2 z2 o=>bif Nat.beq t' t then (bif Nat.beq z2 z then .mpt t' i' e2 z2 (bif Nat.beq i' k then storeRow i off x o else o) else .mpt t' i' e2 z2 none) else .mpt t' i' e2 z2 o
 | .ref cs=> .ref cs
 | .fn g cap=> .fn g cap
 | .tape=> .tape
 | .mp t kvs=> .mp t kvs
 | .mm t' e z ks rows=>bif Nat.beq t' t then .undef else .mm t' e z ks rows
 | .win t' lo z es=>bif t'.row&&Nat.beq t'.base t then .undef else .win t' lo z es
def storeF (t:Tg) (z i off:Nat) (x:AV):AV→AV:=match t with
 | .s t=>storeO t z i off x
 | .r t k=>storeR t k z i off x
def killM (t:Nat):AV→AV
 | .undef=> .undef
 | .nil=> .nil
 | .nilp=> .nilp
 | .int k n=> .int k n
 | .bool b=> .bool b
 | .str s=> .str s
 | .lst z es=> .lst z es
 | .own t' e z es=>bif Nat.beq t'.base t then .undef else .own t' e z es
 | .mat t' e e2 z2 rows=>bif Nat.beq t' t then .undef else .mat t' e e2 z2 rows
 | .agg cs=> .agg cs
 | .tup vs=> .tup vs
 | .ptr t off=> .ptr t off
 | .asl t off n=> .asl t off n
 | .ept t' i off cs=>bif Nat.beq t'.base t then .undef else .ept t' i off cs
 | .mpt t' i e2 z2 o=>bif Nat.beq t' t then .undef else .mpt t' i e2 z2 o
 | .ref cs=> .ref cs
 | .fn g cap=> .fn g cap
 | .tape=> .tape
 | .mp t' kvs=>bif Nat.beq t' t then .undef else .mp t' kvs
 | .mm t' e z ks rows=>bif Nat.beq t' t then .undef else .mm t' e z ks rows
 | .win t' lo z es=>bif Nat.beq t'.base t then .undef else .win t' lo z es
def setRowF (t k T e0 z0:Nat) (x:List (List AV)):AV→AV
 | .undef=> .undef
 | .nil=> .nil
 | .nilp=> .nilp
 | .int k n=> .int k n
 | .bool b=> .bool b
 | .str s=> .str s
 | .lst z es=> .lst z es
 | .own t' e z es=>bif Nat.beq t'.base t||Tg.eqb t' (.s T) then .undef else .own t' e z es
 | .mat t' e e2 z2 rows=>bif Nat.beq t' t then (bif Nat.beq e2 e0&&Nat.beq z2 z0 then .mat t' e e2 z2 (rows.set k (some x)) else .undef) else bif Nat.beq t' T then .undef else .mat t' e e2 z2 rows
 | .agg cs=> .agg cs
 | .tup vs=> .tup vs
 | .ptr t off=> .ptr t off
 | .asl t off n=> .asl t off n
 | .ept t' i off cs=>bif Nat.beq t'.base t||Tg.eqb t' (.s T) then .undef else .ept t' i off cs
 | .mpt t' i e2 z2 o=>bif Nat.beq t' t then .mpt t' i e2 z2 none else bif Nat.beq t' T then .undef else .mpt t' i e2 z2 o
 | .ref cs=> .ref cs
 | .fn g cap=> .fn g cap
 | .tape=> .tape
 | .mp t' kvs=>bif Nat.beq t' t||Nat.beq t' T then .undef else .mp t' kvs
 | .mm t' e z ks rows=>bif Nat.beq t' t||Nat.beq t' T then .undef else .mm t' e z ks rows
 | .win t' lo z es=>bif Nat.beq t'.base t||Tg.eqb t' (.s T) then .undef else .win t' lo z es
def setRowS (t k e0 z0:Nat) (x:List (List AV)):AV→AV
 | .undef=> .undef
 | .nil=> .nil
 | .nilp=> .nilp
 | .int k n=> .int k n
 | .bool b=> .bool b
 | .str s=> .str s
 | .lst z es=> .lst z es
 | .own t' e z es=>bif Tg.eqb t' (.s t) then .undef else .own t' e z es
 | .mat t' e e2 z2 rows=>bif Nat.beq t' t then (bif Nat.beq e2 e0&&Nat.beq z2 z0 then .mat t' e e2 z2 (rows.set k (some x)) else .undef) else .mat t' e e2 z2 rows
 | .agg cs=> .agg cs
 | .tup vs=> .tup vs
 | .ptr t off=> .ptr t off
 | .asl t off n=> .asl t off n
 | .ept t' i off cs=>bif Tg.eqb t' (.s t) then .undef else .ept t' i off cs
 | .mpt t' i e2 z2 o=>bif Nat.beq t' t then .mpt t' i e2 z2 none else .mpt t' i e2 z2 o
 | .ref cs=> .ref cs
 | .fn g cap=> .fn g cap
 | .tape=> .tape
 | .mp t' kvs=>bif Nat.beq t' t then .undef else .mp t' kvs
 | .mm t' e z ks rows=>bif Nat.beq t' t then .undef else .mm t' e z ks rows
 | .win t' lo z es=>bif Tg.eqb t' (.s t) then .undef else .win t' lo z es
def swT (t i j:Nat):Tg→Tg
 | .s a=> .s a
 | .r a q=>bif Nat.beq a t then (bif Nat.beq q i then .r a j else bif Nat.beq q j then .r a i else .r a q) else .r a q
def swapF (t i j:Nat):AV→AV
 | .undef=> .undef
 | .nil=> .nil
 | .nilp=> .nilp
 | .int k n=> .int k n
 | .bool b=> .bool b
 | .str s=> .str s
 | .lst z es=> .lst z es
 | .own t' e z es=> .own (swT t i j t') e z es
 | .mat t' e e2 z2 rows=>bif Nat.beq t' t then .mat t' e e2 z2 ((rows.set i none).set j none) else .mat t' e e2 z2 rows
 | .agg cs=> .agg cs
 | .tup vs=> .tup vs
 | .ptr t off=> .ptr t off
 | .asl t off n=> .asl t off n
 | .ept t' q off cs=> .ept (swT t i j t') q off cs
 | .mpt t' q e2 z2 o=>bif Nat.beq t' t then .mpt t' q e2 z2 none else .mpt t' q e2 z2 o
 | .ref cs=> .ref cs
 | .fn g cap=> .fn g cap
 | .tape=> .tape
 | .mp t' kvs=> .mp t' kvs
 | .mm t' e z ks rows=>bif Nat.beq t' t then .undef else .mm t' e z ks rows
 | .win t' lo z es=> .win (swT t i j t') lo z es
def mapF (t:Nat) (kvs:Kv):AV→AV
 | .undef=> .undef
 | .nil=> .nil
 | .nilp=> .nilp
 | .int k n=> .int k n
 | .bool b=> .bool b
 | .str s=> .str s
 | .lst z es=> .lst z es
 | .own t' e z es=>bif Tg.eqb t' (.s t) then .undef else .own t' e z es
 | .mat t' e e2 z2 rows=>bif Nat.beq t' t then .undef else .mat t' e e2 z2 rows
 | .agg cs=> .agg cs
 | .tup vs=> .tup vs
 | .ptr t off=> .ptr t off
 | .asl t off n=> .asl t off n
 | .ept t' i off cs=>bif Tg.eqb t' (.s t) then .undef else .ept t' i off cs
 | .mpt t' i e2 z2 o=>bif Nat.beq t' t then .undef else .mpt t' i e2 z2 o
 | .ref cs=> .ref cs
 | .fn g cap=> .fn g cap
 | .tape=> .tape
 | .mp t' kvs'=>bif Nat.beq t' t then .mp t' kvs else .mp t' kvs'
 | .mm t' e z ks rows=>bif Nat.beq t' t then .undef else .mm t' e z ks rows
 | .win t' lo z es=>bif Tg.eqb t' (.s t) then .undef else .win t' lo z es
def spl {α:Type} (L:List α) (off:Nat) (cs:List α):List α:=L.take off++(cs++L.drop (off+cs.length))
def copyF (t:Tg) (z lo:Nat) (src:List (List AV)):AV→AV
 | .undef=> .undef
 | .nil=> .nil
 | .nilp=> .nilp
 | .int k n=> .int k n
 | .bool b=> .bool b
 | .str s=> .str s
 | .lst z es=> .lst z es
 | .own t' e z' es=>bif Tg.eqb t' t then (bif Nat.beq z' z then .own t' e z' (spl es lo src) else .undef) else .own t' e z' es
 | .mat t' e e2 z2 rows=>bif Nat.beq t' t.base then .undef else .mat t' e e2 z2 rows
 | .agg cs=> .agg cs
 | .tup vs=> .tup vs
 | .ptr t off=> .ptr t off
 | .asl t off n=> .asl t off n
 | .ept t' i off cs=>bif Tg.eqb t' t then .undef else .ept t' i off cs
 | .mpt t' i e2 z2 o=>bif Nat.beq t' t.base then .undef else .mpt t' i e2 z2 o
 | .ref cs=> .ref cs
 | .fn g cap=> .fn g cap
 | .tape=> .tape
 | .mp t' kvs=>bif Tg.eqb t' t then .undef else .mp t' kvs
 | .mm t' e z ks rows=>bif Nat.beq t' t.base then .undef else .mm t' e z ks rows
 | .win t' l z es=>bif Tg.eqb t' t then .undef else .win t' l z es
def TapeAt (tt:Nat) (X:Nat→Prop) (A:Option Addr) (n c:Nat) (w:World) (p:Nat):Prop:=∃xs k,Blk w p tt #[.slice A n c, .int .i64 (k:Nat)]∧Ints w X A n c xs∧k≤n∧n≤600
def laidG:List (Nat×List Int):=[(0,[1,2,4,8,16,5,10,20,13,26,17,7,14,28,29,31,27,19,3,6,12,24,21,15,30,25,23,11,22,9,18]),(1,[0,0,1,18,2,5,19,11,3,29,6,27,20,8,12,23,4,10,30,17,7,22,28,26,21,25,9,16,13,14,24,15])]
def lkG:List (Nat×List Int)→Nat→Option (List Int)
 |[],_=>none
 |(j,v)::l,i=>bif Nat.beq i j then some v else lkG l i
def lookG (g:Nat):Option (List Int):=lkG laidG g
def GlobAt (w:World) (X:Nat→Prop) (tp:Option Nat):Prop:=∀g xs,lookG g=some xs→g<w.heap.size∧¬X g∧tp≠some g∧∀(j:Nat) (x:Int),xs[j]? =some x→w.cell? ⟨g,j,none⟩=some (.int .i64 x)
structure En extends World where
 X:Nat→Prop
 tp:Option Nat
 hd:Option Addr×Nat×Nat
 B:Nat
 M:Nat→Prop
 bx:Nat→Option Nat
 outs:Nat→Value
instance :Coe En World:=⟨En.toWorld⟩
def CX (w0:En) (G:Gh):Nat→Prop:=fun b=>G.tape=some b∨w0.M b
def Nw (w0:En) (b:Nat):Prop:=w0.heap.size≤b∨w0.M b
def Act.at (w0:En) (a:Act) (i:Nat):Value:=bif Nat.blt i 1000 then a.tmps.getD i undef else w0.outs i
def Qt (tt:Nat):Prop:=1000000≤tt
structure Sim (tt:Nat) (w0:En) (G:Gh) (s:St) (a:Act) (w:World):Prop where
 slot:∀i,RA w0.B G w (s.slot i) (Act.at w0 a i)
 box:∀t cs,s.box t=some cs→∃b e us,G.box t=some b∧Blk w b e (List.toArray us)∧All2 (RC w0.B G w) cs us
 defers:a.defers=[]
 chg:ChgQ (Qt tt) (CX w0 G) w0 w
 boxLt:∀t b,G.box t=some b→Nw w0 b∧b<w.heap.size
 ownLt:∀t v b,G.own t=some v→v.ownBlock=some b→Nw w0 b∧b<w.heap.size
 boxInj:∀t t' b,G.box t=some b→G.box t'=some b→t=t'
 ownInj:∀t t' v v' b,G.own t=some v→G.own t'=some v'→v.ownBlock=some b→v'.ownBlock=some b→t=t'
 boxOwn:∀t t' v b,G.box t=some b→G.own t'=some v→v.ownBlock=some b→False
 tapeBox:∀t b,G.tape=some b→G.box t=some b→False
 tapeOwn:∀t v b,G.tape=some b→G.own t=some v→v.ownBlock=some b→False
 tape:s.tp=true→∃p,G.tape=some p∧TapeAt tt (GM G) G.hdr.1 G.hdr.2.1 G.hdr.2.2 w p
 noTape:s.tp=false→G.tape=none
 ext:∀b,G.ext b→b<w0.heap.size
 fz1:∀b,G.fz b→b<w.heap.size∧w.heap[b]? =G.fw.heap[b]?
 fz2:∀t v b,G.own t=some v→v.ownBlock=some b→¬G.fz b
 fz3:∀b,G.tape=some b→¬G.fz b
 ext0:G.ext=w0.X
 tape0:∀p,w0.tp=some p→G.tape=some p∧G.hdr=w0.hd
 tapeNew:∀b,G.tape=some b→b<w0.heap.size→w0.tp=some b
 hB:w0.B≤w0.heap.size
 hM:∀b,w0.M b→¬w0.X b
 size:a.tmps.size≤1000
 box0:∀t b,w0.bx t=some b→1000≤t∧G.box t=some b
 gl:GlobAt w0.toWorld (fun b=>w0.X b∨w0.M b) w0.tp
section
variable {B:Nat} {G G':Gh} {w w':World} {v:AV} {u:Value}
theorem RC.rp (h:RC B G w v u):RP B G w v u:=by
 cases v<;>first|exact h|(simp only [RC] at h;cases h)
theorem PtrRep.rp (h:PtrRep G v u):RP B G w v u:=by
 cases v<;>first|exact h|trivial|exact h.elim
theorem RP.rg (h:RP B G w v u):RG B G w v u:=by
 cases v
 case fn f cap=>
  obtain ⟨us,rfl,hA⟩:=h
  exact ⟨us,rfl,hA.mono fun _ _ h=>h.rp⟩
 all_goals first|exact h|(simp only [RP,RC] at h;cases h)
theorem RG.ra (h:RG B G w v u):RA B G w v u:=by
 cases v<;>first|exact h|(simp only [RG,RP,RC] at h;cases h)
theorem RepV.rc (h:RepV w (GX G) v u):RC B G w v u:=by cases h<;>first|(simp only [RC];done)|(simp only [RC];constructor<;>assumption)
theorem RC.ra (h:RC B G w v u):RA B G w v u:=h.rp.rg.ra
theorem RG.mapG {f:AV→AV} (hp:∀v u,RP B G w v u→RP B G' w' (f v) u) (hc:∀v u,RC B G w v u→RC B G' w' (f v) u) (h:RG B G w v u):RG B G' w' (v.mapG f) u:=by
 cases v
 case agg cs=>
  obtain ⟨us,rfl,hA⟩:=h
  exact ⟨us,rfl,All2.map_left.2 (hA.mono hc)⟩
 case fn g cap=>
  obtain ⟨us,rfl,hA⟩:=h
  exact ⟨us,rfl,All2.map_left.2 (hA.mono hp)⟩
 all_goals (simp only [RG] at h;exact (hp _ _ h).rg)
theorem RA.mapT {f:AV→AV} (hp:∀v u,RP B G w v u→RP B G' w' (f v) u) (hc:∀v u,RC B G w v u→RC B G' w' (f v) u) (h:RA B G w v u):RA B G' w' (v.mapT f) u:=by
 cases v
 case tup vs=>
  obtain ⟨us,rfl,hA⟩:=h
  exact ⟨us,rfl,All2.map_left.2 (hA.mono fun _ _ h=>h.mapG hp hc)⟩
 all_goals (simp only [RA] at h;exact (RG.mapG hp hc h).ra)
structure Shift (ko:Tg→Prop) (kb:Nat→Prop) (G G':Gh) (w w':World):Prop where
 sh:∀b,b<w.heap.size→¬GM G b→w'.heap[b]? =w.heap[b]?
 gm:∀b,b<w.heap.size→GM G' b→GM G b
 ex:∀b,G'.ext b→G.ext b
 own:∀t v,G.own t=some v→ko t→G'.own t=some v∧∀b,v.ownBlock=some b→w'.heap[b]? =w.heap[b]?
 box:∀t b,G.box t=some b→kb t→G'.box t=some b
 tape:∀p,G.tape=some p→G'.tape=some p
 fz:∀b,G.fz b→w'.heap[b]? =w.heap[b]?
 fzE:∀b,G'.fz b→G.fz b
 fwE:G'.fw=G.fw
 hdr:∀p,G.tape=some p→G'.hdr=G.hdr
 exE:G'.ext=G.ext
variable {ko:Tg→Prop} {kb:Nat→Prop}
theorem Shift.gx (S:Shift ko kb G G' w w') (b:Nat) (hb:b<w.heap.size) (h:GX G' b):GX G b:=h.elim (fun h=> .inl (S.gm b hb h)) fun h=> .inr (S.ex b h)
theorem Shift.rep (S:Shift ko kb G G' w w') (h:RepV w (GX G) v u):RepV w' (GX G') v u:=h.move (fun b hb hx=>S.sh b hb fun hm=>hx (.inl hm)) S.gx
theorem ownsRow_move {e size n:Nat} {xs:List Value} (h:w.ownsRow B e size u n xs) (hb:∀b,u.ownBlock=some b→w'.heap[b]? =w.heap[b]?):w'.ownsRow B e size u n xs:=by
 refine ⟨h.1,?_⟩
 rcases h.2 with h2|⟨g,cap,cur,hv,hg,hh,rest⟩
 ·exact .inl h2
 ·exact .inr ⟨g,cap,cur,hv,hg,(hb g (by rw [hv];rfl)).trans hh,rest⟩
theorem Shift.ownRep (S:Shift ko kb G G' w w') {e z:Nat} {es:List (List AV)} (hb:∀b,u.ownBlock=some b→w'.heap[b]? =w.heap[b]?) (h:OwnRep B (GX G) w e z es u):OwnRep B (GX G') w' e z es u:=by
 obtain ⟨css,h1,h2⟩:=h
 exact ⟨css,ownsRow_move h1 hb,h2.mono fun _ _ h=>⟨h.1,h.2.mono fun _ _ h=>S.rep h⟩⟩
def OkP (kb:Nat→Prop):AV→Prop
 | .ptr t _=>kb t
 |_=>True
def OkTag (ko:Tg→Prop) (kb:Nat→Prop):AV→Prop
 | .fn _ cap=>∀v∈cap,OkP kb v
 | .own t _ _ _=>ko t
 | .mat t _ _ _ _=>ko t∧∀i,ko (.r t i)
 | .ept t _ _ _=>ko t
 | .mpt t i _ _ _=>ko t∧ko (.r t i)
 | .mp t _=>ko t
 | .mm t _ _ _ _=>ko t∧∀i,ko (.r t i)
 | .win t _ _ _=>ko t
 | .ptr t _=>kb t
 | .asl t _ _=>kb t
 |_=>True
theorem Shift.ptrs (S:Shift ko kb G G' w w'):∀ {cap:List AV} {us:List Value},(∀v∈cap,OkP kb v)→All2 (PtrRep G) cap us→All2 (PtrRep G') cap us
 |[],[],_,_=>trivial
 |c::cap,u::us,hk,h=>by
  refine ⟨?_,S.ptrs (fun v hv=>hk v (by simp [hv])) h.2⟩
  have h1:=h.1
  have hk1:=hk c (by simp)
  cases c
  case undef=>trivial
  case ptr t off=>
   obtain ⟨b,hb,rfl⟩:=h1
   exact ⟨b,S.box t b hb hk1,rfl⟩
  all_goals exact h1.elim
 |[],_::_,_,h=>h.elim
 |_::_,[],_,h=>h.elim
theorem Shift.rc (S:Shift ko kb G G' w w') (hk:OkTag ko kb v) (h:RC B G w v u):RC B G' w' v u:=by
 cases v
 case undef=>trivial
 case fn f cap=>
  obtain ⟨us,rfl,hA⟩:=h
  exact ⟨us,rfl,S.ptrs hk hA⟩
 case ptr t off=>
  obtain ⟨b,hb,rfl⟩:=h
  exact ⟨b,S.box t b hb hk,rfl⟩
 case nil=>exact h
 case nilp=>exact h
 case own t e z es=>
  obtain ⟨h1,h2⟩:=S.own t u h.1 hk
  exact ⟨h1,S.ownRep h2 h.2⟩
 case mat t e e2 z2 rows=>
  obtain ⟨h1,hs,k1,k3⟩:=h
  obtain ⟨q1,q2⟩:=S.own t u h1 hk.1
  refine ⟨q1,hs,ownsRow_move k1 q2,fun i es hi=>?_⟩
  obtain ⟨h,r1,r2,r3⟩:=k3 i es hi
  obtain ⟨m1,m2⟩:=S.own (.r t i) h r2 (hk.2 i)
  exact ⟨h,r1,m1,S.ownRep m2 r3⟩
 all_goals exact S.rep h
theorem RepU.of {X:Nat→Prop} (h:RepV w X v u):RepU w X v u:= .inr h
theorem Shift.repU (S:Shift ko kb G G' w w') (h:RepU w (GX G) v u):RepU w' (GX G') v u:=h.imp id S.rep
theorem RepU.rc (h:RepU w (GX G) v u):RC B G w v u:=h.elim (fun e=>by subst e;trivial) RepV.rc
theorem cell_move {b o:Nat} (e:w'.heap[b]? =w.heap[b]?):w'.cell? ⟨b,o,none⟩=w.cell? ⟨b,o,none⟩:=World.cell?_of_block (a:=⟨b,o,none⟩) e
theorem Shift.ref (S:Shift ko kb G G' w w') {cs:List AV} (h:RefRep w (GM G) (GX G) cs u):RefRep w' (GM G') (GX G') cs u:=by
 obtain ⟨b,o,us,rfl,hb,hx,hA,hc⟩:=h
 have e:=S.sh b hb hx
 exact ⟨b,o,us,rfl,heap_lt e hb,fun hy=>hx (S.gm b hb hy),hA.mono fun _ _ h=>S.repU h,fun j v hv=>(cell_move e).trans (hc j v hv)⟩
theorem Shift.rp (S:Shift ko kb G G' w w') (hk:OkTag ko kb v) (h:RP B G w v u):RP B G' w' v u:=by
 cases v
 case ptr t off=>
  obtain ⟨b,hb,rfl⟩:=h
  exact ⟨b,S.box t b hb hk,rfl⟩
 case ept t i off cs=>
  obtain ⟨g,n,c,e,cur,us,h1,rfl,h3,h4,h4',h5,h6⟩:=h
  obtain ⟨k1,k2⟩:=S.own t _ h1 hk
  have e':=k2 g rfl
  exact ⟨g,n,c,e,cur,us,k1,rfl,h3,e'.trans h4,h4',h5.mono fun _ _ h=>S.repU h,fun j v hv=>(cell_move e').trans (h6 j v hv)⟩
 case mpt t i e2 z2 o=>
  obtain ⟨g,n,c,e,cur,h1,rfl,h3,h4,h5,h6⟩:=h
  obtain ⟨k1,k2⟩:=S.own t _ h1 hk.1
  refine ⟨g,n,c,e,cur,k1,rfl,h3,(k2 g rfl).trans h4,h5,fun es he=>?_⟩
  obtain ⟨h,h7,h8,h9⟩:=h6 es he
  obtain ⟨m1,m2⟩:=S.own (.r t i) h h8 hk.2
  exact ⟨h,h7,m1,S.ownRep m2 h9⟩
 case ref cs=>exact S.ref h
 case asl t off n=>
  obtain ⟨b,A,c,hb,rfl,hA⟩:=h
  exact ⟨b,A,c,S.box t b hb hk,rfl,hA⟩
 case tape=>
  obtain ⟨p,hp,rfl⟩:=h
  exact ⟨p,S.tape p hp,rfl⟩
 case mp t kvs=>
  obtain ⟨b,es,c,h1,rfl,h3,h4⟩:=h
  obtain ⟨k1,k2⟩:=S.own t _ h1 hk
  exact ⟨b,es,c,k1,rfl,(k2 b rfl).trans h3,h4⟩
 case mm t e z ks rows=>
  obtain ⟨b,es,c,hs,h1,rfl,h3,h4,h5,h6,h7,h8⟩:=h
  obtain ⟨k1,k2⟩:=S.own t _ h1 hk.1
  refine ⟨b,es,c,hs,k1,rfl,(k2 b rfl).trans h3,h4,h5,h6,fun i es hi=>?_,h8⟩
  obtain ⟨h,r1,r2,r3⟩:=h7 i es hi
  obtain ⟨m1,m2⟩:=S.own (.r t i) h r2 (hk.2 i)
  exact ⟨h,r1,m1,S.ownRep m2 r3⟩
 case win t lo z es=>
  obtain ⟨g,n,c,e,cur,css,A,c',h1,h2,h3,h4,h5,h6,h7,h8,h9⟩:=h
  obtain ⟨k1,k2⟩:=S.own t _ h1 hk
  have e':=k2 g rfl
  exact ⟨g,n,c,e,cur,css,A,c',k1,h2,h3,h4,h5,e'.trans h6,h7,h8.mono fun _ _ h=>⟨h.1,h.2.mono fun _ _ h=>S.rep h⟩,fun j v hv=>(cell_move e').trans (h9 j v hv)⟩
 all_goals exact (RC.rp (S.rc hk h))
end
section
variable {tt:Nat} {w0:En} {w w':World} {G G':Gh} {s:St} {a:Act}
theorem getD_put {tmps:Array Value} {d i:Nat} {u:Value} (hd:d<tmps.size):(tmps.setIfInBounds d u).getD i undef=if i=d then u else tmps.getD i undef:=by
 simp only [Array.getD_eq_getD_getElem?,Array.getElem?_setIfInBounds]
 by_cases h:d=i
 ·subst h;simp [hd]
 ·have:¬i=d:=fun e=>h e.symm
  simp [h,this]
theorem at_lt {i:Nat} (h:i<1000):Act.at w0 a i=a.tmps.getD i undef:=by
 have:Nat.blt i 1000=true:=by simpa using h
 simp only [Act.at,this,cond_true]
theorem at_ge {i:Nat} (h:¬i<1000):Act.at w0 a i=w0.outs i:=by
 have:Nat.blt i 1000=false:=by rw [←Bool.not_eq_true,Nat.blt_eq];exact h
 simp only [Act.at,this,cond_false]
theorem Sim.put (S:Sim tt w0 G s a w) {d:Nat} {v:AV} {u:Value} (hd:d<a.tmps.size) (h:RA w0.B G w v u):Sim tt w0 G (s.put d v) (a.put (some d) u) w:=
 { S with
   slot:=fun i=>by
    show RA _ _ _ (bif Nat.beq i d then v else s.slot i) (Act.at w0 (a.put (some d) u) i)
    have hN:=S.size
    by_cases e:i=d
    ·subst e
     rw [at_lt (by omega)]
     show RA _ _ _ _ ((a.tmps.setIfInBounds i u).getD i undef)
     rw [getD_put hd]
     simpa using h
    ·have:Nat.beq i d=false:=by rw [←Bool.not_eq_true,Nat.beq_eq];exact e
     simp only [this,cond_false]
     have hi:=S.slot i
     by_cases hl:i<1000
     ·rw [at_lt hl] at hi ⊢
      show RA _ _ _ _ ((a.tmps.setIfInBounds d u).getD i undef)
      rw [getD_put hd,if_neg e]
      exact hi
     ·rw [at_ge hl] at hi ⊢
      exact hi
   size:=by
    show (a.tmps.setIfInBounds d u).size≤1000
    rw [Array.size_setIfInBounds];exact S.size
   box:=S.box
   tape:=S.tape
   noTape:=S.noTape }
theorem Sim.know (S:Sim tt w0 G s a w) {d:Nat} {v:AV} (h:RA w0.B G w v (Act.at w0 a d)):Sim tt w0 G (s.put d v) a w:=
 { S with
   slot:=fun i=>by
    show RA _ _ _ (bif Nat.beq i d then v else s.slot i) (Act.at w0 a i)
    by_cases e:i=d
    ·subst e;simpa using h
    ·have:Nat.beq i d=false:=by rw [←Bool.not_eq_true,Nat.beq_eq];exact e
     simp only [this,cond_false]
     exact S.slot i
   box:=S.box
   tape:=S.tape
   noTape:=S.noTape }
theorem TapeAt.move {X Y:Nat→Prop} {A:Option Addr} {n c p:Nat} (h:TapeAt tt X A n c w p) (hp:w'.heap[p]? =w.heap[p]?) (hb:∀b,b<w.heap.size→¬X b→w'.heap[b]? =w.heap[b]?) (hY:∀b,b<w.heap.size→Y b→X b):TapeAt tt Y A n c w' p:=by
 obtain ⟨xs,k,h1,h2,h3⟩:=h
 exact ⟨xs,k,hp.trans h1,h2.move _ hb hY,h3⟩
theorem TapeAt.lt {X:Nat→Prop} {A:Option Addr} {n c p:Nat} (h:TapeAt tt X A n c w p):p<w.heap.size:=by
 obtain ⟨xs,k,h1, -⟩:=h
 exact h1.lt
theorem Sim.shift {ko:Tg→Prop} {kb:Nat→Prop} {f:AV→AV} (S:Sim tt w0 G s a w) (H:Shift ko kb G G' w w')
 (hp:∀v u,RP w0.B G w v u→RP w0.B G' w' (f v) u) (hc:∀v u,RC w0.B G w v u→RC w0.B G' w' (f v) u)
 (hbox:∀t b,G.box t=some b→s.box t≠none→∃b',G'.box t=some b'∧b'=b∧w'.heap[b]? =w.heap[b]?)
 (hchg:ChgQ (Qt tt) (CX w0 G') w0 w') (hsz:w.heap.size≤w'.heap.size)
 (boxLt:∀t b,G'.box t=some b→Nw w0 b∧b<w'.heap.size)
 (ownLt:∀t v b,G'.own t=some v→v.ownBlock=some b→Nw w0 b∧b<w'.heap.size)
 (boxInj:∀t t' b,G'.box t=some b→G'.box t'=some b→t=t')
 (ownInj:∀t t' v v' b,G'.own t=some v→G'.own t'=some v'→v.ownBlock=some b→v'.ownBlock=some b→t=t')
 (boxOwn:∀t t' v b,G'.box t=some b→G'.own t'=some v→v.ownBlock=some b→False)
 (tapeBox:∀t b,G'.tape=some b→G'.box t=some b→False)
 (tapeOwn:∀t v b,G'.tape=some b→G'.own t=some v→v.ownBlock=some b→False)
 (htp:s.tp=true→∃p,G'.tape=some p∧TapeAt tt (GM G') G'.hdr.1 G'.hdr.2.1 G'.hdr.2.2 w' p) (htn:s.tp=false→G'.tape=none)
 (ownFz:∀t v b,G'.own t=some v→v.ownBlock=some b→¬G.fz b) (tapeFz:∀b,G'.tape=some b→¬G.fz b) (tapeNew:∀b,G'.tape=some b→b<w0.heap.size→w0.tp=some b) (hb0:∀t b,G.box t=some b→1000≤t→G'.box t=some b:=by exact fun _ _ h _=>h):Sim tt w0 G' (s.map f) a w':=
 { slot:=fun i=>(S.slot i).mapT hp hc
   box:=fun t cs h=>by
    simp only [St.map,Option.map_eq_some_iff] at h
    obtain ⟨cs',h1,rfl⟩:=h
    obtain ⟨b,e,us,h2,h3,h4⟩:=S.box t cs' h1
    obtain ⟨b',h5,rfl,h7⟩:=hbox t b h2 (by simp [h1])
    exact ⟨b',e,us,h5,h7.trans h3,All2.map_left.2 (h4.mono hc)⟩
   defers:=S.defers
   chg:=hchg
   boxLt:=boxLt
   ownLt:=ownLt
   boxInj:=boxInj
   ownInj:=ownInj
   boxOwn:=boxOwn
   tapeBox:=tapeBox
   tapeOwn:=tapeOwn
   tape:=htp
   noTape:=htn
   ext:=fun b h=>S.ext b (H.ex b h)
   fz1:=fun b h=>⟨Nat.lt_of_lt_of_le (S.fz1 b (H.fzE b h)).1 hsz,by rw [H.fwE,←(S.fz1 b (H.fzE b h)).2];exact H.fz b (H.fzE b h)⟩
   fz2:=fun t v b h h' hz=>ownFz t v b h h' (H.fzE b hz)
   fz3:=fun b h hz=>tapeFz b h (H.fzE b hz)
   ext0:=H.exE.trans S.ext0
   tape0:=fun p h=>⟨H.tape p (S.tape0 p h).1,(H.hdr p (S.tape0 p h).1).trans (S.tape0 p h).2⟩
   tapeNew:=tapeNew
   hB:=S.hB
   hM:=S.hM
   size:=S.size
   box0:=fun t b h=>⟨(S.box0 t b h).1,hb0 t b (S.box0 t b h).2 (S.box0 t b h).1⟩
   gl:=S.gl }
theorem Sim.tapeShift {ko:Tg→Prop} {kb:Nat→Prop} (S:Sim tt w0 G s a w) (H:Shift ko kb G G' w w') (htape:G'.tape=G.tape) (htp:∀p,G.tape=some p→w'.heap[p]? =w.heap[p]?) (hh:G'.hdr=G.hdr) (h:s.tp=true):∃p,G'.tape=some p∧TapeAt tt (GM G') G'.hdr.1 G'.hdr.2.1 G'.hdr.2.2 w' p:=by
 obtain ⟨p,h1,h2⟩:=S.tape h
 rw [hh]
 exact ⟨p,htape.trans h1,h2.move (htp p h1) H.sh H.gm⟩
theorem map_id_st:s.map id=s:=by
 have hg:∀v:AV,v.mapG id=v:=fun v=>by cases v<;>simp [AV.mapG]
 have ht:∀v:AV,v.mapT id=v:=fun v=>by
  cases v
  case tup vs=>
   simp only [AV.mapT]
   congr 1
   conv=>rhs;rw [←List.map_id vs]
   exact List.map_congr_left fun v _=>hg v
  all_goals simp [AV.mapT]
 cases s with
 |mk slot box tp=>
  simp only [St.map,St.mk.injEq,and_true]
  exact ⟨funext fun i=>ht _,funext fun t=>by cases box t<;>simp⟩
theorem Sim.world (S:Sim tt w0 G s a w) (hsz:w.heap.size≤w'.heap.size) (hb:∀b,b<w.heap.size→w'.heap[b]? =w.heap[b]?) (hchg:ChgQ (Qt tt) (CX w0 G) w0 w'):Sim tt w0 G s a w':=by
 have H:Shift (fun _=>True) (fun _=>True) G G w w':=⟨fun b h _=>hb b h,fun b _ h=>h,fun b h=>h,fun t v h _=>⟨h,fun b hv=>hb b (S.ownLt t v b h hv).2⟩,fun t b h _=>h,fun p h=>h,fun b h=>hb b (S.fz1 b h).1,fun b h=>h,rfl,fun _ _=>rfl,rfl⟩
 have ok:∀v,OkTag (fun _=>True) (fun _=>True) v:=fun v=>by cases v<;>first|trivial|exact ⟨trivial,fun _=>trivial⟩|exact ⟨trivial,trivial⟩|exact fun v _=>by cases v<;>trivial
 have:=S.shift (f:=id) H (fun v u h=>H.rp (ok v) h) (fun v u h=>H.rc (ok v) h) (fun t b h _=>⟨b,h,rfl,hb b (S.boxLt t b h).2⟩) hchg hsz
  (fun t b h=>⟨(S.boxLt t b h).1,Nat.lt_of_lt_of_le (S.boxLt t b h).2 hsz⟩) (fun t v b h h'=>⟨(S.ownLt t v b h h').1,Nat.lt_of_lt_of_le (S.ownLt t v b h h').2 hsz⟩) S.boxInj S.ownInj S.boxOwn S.tapeBox S.tapeOwn
  (S.tapeShift H rfl (fun p h=>by
    cases htp:s.tp with
    |true=>
     obtain ⟨p',h1,h2⟩:=S.tape htp
     rw [h] at h1
     injection h1 with h1
     subst h1
     exact hb p h2.lt
    |false=>rw [S.noTape htp] at h;cases h) rfl) S.noTape S.fz2 S.fz3 S.tapeNew
 rwa [map_id_st] at this
theorem Sim.drew (S:Sim tt w0 G s a w) {n:Nat} (hn:w.drawn≤n):Sim tt w0 G s a { w with drawn:=n }:=
 S.world (Nat.le_refl _) (fun _ _=>rfl) ⟨S.chg.os,S.chg.tape,S.chg.output,S.chg.size,S.chg.block,fun d=>Nat.le_trans (S.chg.drawn d) hn⟩
end
def upd {κ α:Type} [DecidableEq κ] (f:κ→Option α) (d:κ) (x:Option α):κ→Option α:=fun t=>if t=d then x else f t
theorem upd_same {κ α:Type} [DecidableEq κ] {f:κ→Option α} {d:κ} {x:Option α}:upd f d x d=x:=by simp [upd]
theorem upd_ne {κ α:Type} [DecidableEq κ] {f:κ→Option α} {d t:κ} {x:Option α} (h:t≠d):upd f d x t=f t:=by simp [upd,h]
theorem upd_cases {κ α:Type} [DecidableEq κ] {f:κ→Option α} {d t:κ} {x:Option α} {y:α} (h:upd f d x t=some y):(t=d∧x=some y)∨(t≠d∧f t=some y):=by
 by_cases e:t=d
 ·subst e;rw [upd_same] at h;exact .inl ⟨rfl,h⟩
 ·rw [upd_ne e] at h;exact .inr ⟨e,h⟩
theorem beq_ne {i d:Nat} (e:i≠d):Nat.beq i d=false:=by rw [←Bool.not_eq_true,Nat.beq_eq];exact e
theorem beq_self {d:Nat}:Nat.beq d d=true:=Nat.beq_refl d
section
variable {tt:Nat} {w0:En} {w w':World} {G:Gh} {s:St} {a:Act} {B:Nat}
theorem Sim.tapeLt (S:Sim tt w0 G s a w) {p:Nat} (h:G.tape=some p):p<w.heap.size:=by
 cases htp:s.tp with
 |true=>
  obtain ⟨p',h1,h2⟩:=S.tape htp
  rw [h] at h1
  injection h1 with h1
  exact h1▸h2.lt
 |false=>rw [S.noTape htp] at h;cases h
theorem Sim.gxLt (S:Sim tt w0 G s a w) {b:Nat} (h:GX G b):b<w.heap.size:=by
 rcases h with (⟨t,h⟩|⟨t,v,h,h'⟩|h)|h
 ·exact (S.boxLt t b h).2
 ·exact (S.ownLt t v b h h').2
 ·exact S.tapeLt h
 ·exact Nat.lt_of_lt_of_le (S.ext b h) S.chg.size
theorem Sim.newX (S:Sim tt w0 G s a w) {b:Nat} (h:Nw w0 b) (hx:G.ext b):False:=by
 rcases h with h|h
 ·have:=S.ext b hx;omega
 ·exact S.hM b h (S.ext0▸hx)
def St.dropBox (s:St) (d:Nat):St:={ s with box:=fun i=>bif Nat.beq i d then none else s.box i }
theorem Sim.dropBox (S:Sim tt w0 G s a w) (d:Nat):Sim tt w0 G (s.dropBox d) a w:=
 { S with
   slot:=S.slot
   box:=fun t cs h=>by
    simp only [St.dropBox] at h
    by_cases e:t=d
    ·subst e;rw [beq_self] at h;cases h
    ·rw [beq_ne e] at h;exact S.box t cs h
   tape:=S.tape
   noTape:=S.noTape }
theorem Sim.setBox (S:Sim tt w0 G s a w) {d b e:Nat} {cs:List AV} {us:List Value} (hb:G.box d=some b) (hB:Blk w b e us.toArray) (h:All2 (RC w0.B G w) cs us):Sim tt w0 G (s.setBox d cs) a w:=
 { S with
   slot:=S.slot
   box:=fun t cs' h'=>by
    simp only [St.setBox] at h'
    by_cases e':t=d
    ·subst e';rw [beq_self] at h';injection h' with h';subst h';exact ⟨b,e,us,hb,hB,h⟩
    ·rw [beq_ne e'] at h';exact S.box t cs' h'
   tape:=S.tape
   noTape:=S.noTape }
theorem setBox_drop {f:AV→AV} {d:Nat} {cs:List AV}:((s.dropBox d).map f).setBox d cs=(s.map f).setBox d cs:=by
 simp only [St.setBox,St.map,St.dropBox,St.mk.injEq,true_and,and_true]
 funext i
 by_cases e:i=d
 ·subst e;simp
 ·simp [beq_ne e]
theorem Sim.allocBox (S:Sim tt w0 G s a w) (d e:Nat) (hd:d<a.tmps.size) {cs:List AV} {us:List Value} (h:All2 (RC w0.B G w) cs us):
 Sim tt w0 { G with box:=upd G.box d (some w.heap.size) } ((s.map (killPtrF d)).setBox d (cs.map (killPtrF d))) a (w.alloc (.cells us.toArray e)):=by
 have hb:∀b,b<w.heap.size→(w.alloc (.cells us.toArray e)).heap[b]? =w.heap[b]? :=fun b hb=>Below.heap_alloc _ _ _ hb
 have H:Shift (fun _=>True) (· ≠d) G { G with box:=upd G.box d (some w.heap.size) } w (w.alloc (.cells us.toArray e)):=
  ⟨fun b h _=>hb b h,fun b hlt hx=>by
    rcases hx with ⟨t,ht⟩|⟨t,v,h,h'⟩|h
    ·rcases upd_cases ht with ⟨_,e⟩|⟨_,e⟩
     ·injection e with e;omega
     ·exact .inl ⟨t,e⟩
    ·exact .inr (.inl ⟨t,v,h,h'⟩)
    ·exact .inr (.inr h),fun b h=>h,fun t v h _=>⟨h,fun b hv=>hb b (S.ownLt t v b h hv).2⟩,fun t b h hk=>(upd_ne hk).trans h,fun p h=>h,fun b h=>hb b (S.fz1 b h).1,fun b h=>h,rfl,fun _ _=>rfl,rfl⟩
 have hcap:∀ {cap:List AV} {us':List Value},All2 (PtrRep G) cap us'→All2 (PtrRep { G with box:=upd G.box d (some w.heap.size) }) (cap.map (killP1 d)) us':=fun {cap us'} h=>by
  refine All2.map_left.2 (h.mono fun v u h=>?_)
  cases v
  case undef=>trivial
  case ptr t off=>
   by_cases e:t=d
   ·subst e;simp only [killP1,beq_self,cond_true];trivial
   ·simp only [killP1,beq_ne e,cond_false]
    obtain ⟨b,hb,rfl⟩:=h
    exact ⟨b,(upd_ne e).trans hb,rfl⟩
  all_goals exact h.elim
 have hp:∀v u,RP w0.B G w v u→RP w0.B { G with box:=upd G.box d (some w.heap.size) } (w.alloc (.cells us.toArray e)) (killPtrF d v) u:=fun v u h=>by
  cases v
  case fn f cap=>
   obtain ⟨us',rfl,hA⟩:=h
   exact ⟨us',rfl,hcap hA⟩
  case ptr t off=>
   by_cases e:t=d
   ·subst e;simp only [killPtrF,beq_self,cond_true];trivial
   ·simp only [killPtrF,beq_ne e,cond_false];exact H.rp (v:= .ptr t off) e h
  case asl t off n=>
   by_cases e:t=d
   ·subst e;simp only [killPtrF,beq_self,cond_true];trivial
   ·simp only [killPtrF,beq_ne e,cond_false];exact H.rp (v:= .asl t off n) e h
  all_goals exact H.rp (by first|trivial|exact ⟨trivial,fun _=>trivial⟩|exact ⟨trivial,trivial⟩) h
 have hc:∀v u,RC w0.B G w v u→RC w0.B { G with box:=upd G.box d (some w.heap.size) } (w.alloc (.cells us.toArray e)) (killPtrF d v) u:=fun v u h=>by
  cases v
  case ptr t off=>
   by_cases e:t=d
   ·subst e;simp only [killPtrF,beq_self,cond_true];trivial
   ·simp only [killPtrF,beq_ne e,cond_false];exact H.rc (v:= .ptr t off) e h
  case asl t off n=>exact absurd h (by intro h;cases h)
  case fn f cap=>
   obtain ⟨us',rfl,hA⟩:=h
   exact ⟨us',rfl,hcap hA⟩
  all_goals exact H.rc (by first|trivial|exact ⟨trivial,fun _=>trivial⟩|exact ⟨trivial,trivial⟩) h
 have key:=(S.dropBox d).shift (f:=killPtrF d) H hp hc ?hbox (S.chg.alloc _) (by simp) ?boxLt (fun t v b h h'=>⟨(S.ownLt t v b h h').1,by have:=(S.ownLt t v b h h').2;simp;omega⟩) ?boxInj S.ownInj ?boxOwn ?tapeBox S.tapeOwn (S.tapeShift H rfl (fun p h=>hb p (S.tapeLt h)) rfl) S.noTape S.fz2 S.fz3 S.tapeNew ?hb0
 case hbox=>
  intro t b h' hn
  by_cases e':t=d
  ·subst e'
   exact absurd (show (s.dropBox t).box t=none by simp [St.dropBox]) hn
  ·exact ⟨b,(upd_ne e').trans h',rfl,hb b (S.boxLt t b h').2⟩
 case hb0=>
  intro t b h ht
  have:=S.size
  exact (upd_ne (by omega)).trans h
 case boxLt=>
  intro t b h
  rcases upd_cases h with ⟨_,e⟩|⟨_,e⟩
  ·injection e with e;subst e;exact ⟨.inl S.chg.size,by simp⟩
  ·have:=S.boxLt t b e;exact ⟨this.1,by simp;omega⟩
 case boxInj=>
  intro t t' b h h'
  rcases upd_cases h with ⟨e1,e⟩|⟨e1,e⟩<;>rcases upd_cases h' with ⟨e2,e'⟩|⟨e2,e'⟩
  ·exact e1.trans e2.symm
  ·injection e with e;have:=(S.boxLt t' b e').2;omega
  ·injection e' with e';have:=(S.boxLt t b e).2;omega
  ·exact S.boxInj t t' b e e'
 case boxOwn=>
  intro t t' v b h h' h''
  rcases upd_cases h with ⟨_,e⟩|⟨_,e⟩
  ·injection e with e;have:=(S.ownLt t' v b h' h'').2;omega
  ·exact S.boxOwn t t' v b e h' h''
 case tapeBox=>
  intro t b h h'
  rcases upd_cases h' with ⟨_,e⟩|⟨_,e⟩
  ·injection e with e;have:=S.tapeLt h;omega
  ·exact S.tapeBox t b h e
 have:=key.setBox (d:=d) (cs:=cs.map (killPtrF d)) (us:=us) upd_same (Blk.made w e us.toArray) (All2.map_left.2 (h.mono hc))
 rwa [setBox_drop] at this
theorem okT (v:AV):OkTag (fun _=>True) (fun _=>True) v:=by cases v<;>first|trivial|exact ⟨trivial,fun _=>trivial⟩|exact ⟨trivial,trivial⟩|exact fun v _=>by cases v<;>trivial
theorem ok_mat {T:Tg} {kb:Nat→Prop} {t e e2 z2:Nat} {rows:List (Option (List (List AV)))} (h:t≠T.base):OkTag (· ≠T) kb (.mat t e e2 z2 rows):=⟨fun e=>h (by rw [←e];rfl),fun i e=>h (by rw [←e];rfl)⟩
theorem ok_mm {T:Tg} {kb:Nat→Prop} {t e z:Nat} {ks:List (List Int)} {rows:List (Option (List (List AV)))} (h:t≠T.base):OkTag (· ≠T) kb (.mm t e z ks rows):=⟨fun e=>h (by rw [←e];rfl),fun i e=>h (by rw [←e];rfl)⟩
theorem ok_mpt {T:Tg} {kb:Nat→Prop} {t i e2 z2:Nat} {o:Option (List (List AV))} (h:t≠T.base):OkTag (· ≠T) kb (.mpt t i e2 z2 o):=⟨fun e=>h (by rw [←e];rfl),fun e=>h (by rw [←e];rfl)⟩
theorem Sim.unfz (S:Sim tt w0 G s a w) (p:Nat→Prop):Sim tt w0 { G with fz:=fun b=>G.fz b∧p b } s a w:=
 { S with
   slot:=S.slot
   box:=S.box
   tape:=S.tape
   noTape:=S.noTape
   fz1:=fun b h=>S.fz1 b h.1
   fz2:=fun t v b h h' hz=>S.fz2 t v b h h' hz.1
   fz3:=fun b h hz=>S.fz3 b h hz.1 }
theorem Sim.storeBox (S0:Sim tt w0 G s a w) {t b e:Nat} {cs':List AV} {us':List Value} (hb:G.box t=some b) (hB:Blk w' b e us'.toArray) (hsz:w'.heap.size=w.heap.size) (hne:∀b',b'≠b→w'.heap[b']? =w.heap[b']?)
 (hchg:ChgQ (Qt tt) (CX w0 G) w0 w') (h0:All2 (RC w0.B G w) cs' us'):Sim tt w0 { G with fz:=fun b'=>G.fz b'∧b'≠b } (s.setBox t cs') a w':=by
 have S:=S0.unfz (· ≠b)
 have h:All2 (RC w0.B { G with fz:=fun b'=>G.fz b'∧b'≠b } w) cs' us':=h0.mono fun v u h=>by cases v<;>exact h
 have hfz:∀b',(G.fz b'∧b'≠b)→w'.heap[b']? =w.heap[b']? :=fun b' h=>hne b' h.2
 have hx:∀b',¬GM { G with fz:=fun b'=>G.fz b'∧b'≠b } b'→b'≠b:=fun b' hn e=>hn (by subst e;exact .inl ⟨t,hb⟩)
 have hbo:∀t' v b',G.own t'=some v→v.ownBlock=some b'→w'.heap[b']? =w.heap[b']? :=fun t' v b' h h'=>hne b' fun e=>S.boxOwn t t' v b hb h (e▸h')
 have H:Shift (fun _=>True) (fun _=>True) { G with fz:=fun b'=>G.fz b'∧b'≠b } { G with fz:=fun b'=>G.fz b'∧b'≠b } w w':=⟨fun b' _ hn=>hne b' (hx b' hn),fun b _ h=>h,fun b h=>h,fun t' v h _=>⟨h,fun b' hv=>hbo t' v b' h hv⟩,fun t b h _=>h,fun p h=>h,hfz,fun b h=>h,rfl,fun _ _=>rfl,rfl⟩
 have key:=(S.dropBox t).shift (f:=id) H (fun v u h=>H.rp (okT v) h) (fun v u h=>H.rc (okT v) h) ?hbox hchg (by omega) (fun t b h=>⟨(S.boxLt t b h).1,by have:=(S.boxLt t b h).2;omega⟩) (fun t v b h h'=>⟨(S.ownLt t v b h h').1,by have:=(S.ownLt t v b h h').2;omega⟩)
  S.boxInj S.ownInj S.boxOwn S.tapeBox S.tapeOwn (S.tapeShift H rfl (fun p hp=>hne p fun e=>S.tapeBox t b (e▸hp) hb) rfl) S.noTape S.fz2 S.fz3 S.tapeNew
 case hbox=>
  intro t' b' h' hn
  by_cases e':t'=t
  ·subst e'
   exact absurd (show (s.dropBox t').box t'=none by simp [St.dropBox]) hn
  ·exact ⟨b',h',rfl,hne b' fun e=>e' (S.boxInj t' t b (e▸h') hb)⟩
 have:=key.setBox (d:=t) (cs:=cs') (us:=us') hb hB (h.mono fun v u h=>H.rc (okT v) h)
 rwa [setBox_drop,map_id_st] at this
theorem killF_ok {T:Tg} {v:AV}:killF T v= .undef∨(killF T v=v∧OkTag (· ≠T) (fun _=>True) v):=by
 cases v
 case own t e z es=>
  by_cases h:(t:Tg)=T
  ·subst h;exact .inl (by simp [killF,Tg.eqb_self])
  ·exact .inr ⟨by simp [killF,Tg.eqb_ne h],h⟩
 case ept t i off cs=>
  by_cases h:(t:Tg)=T
  ·subst h;exact .inl (by simp [killF,Tg.eqb_self])
  ·exact .inr ⟨by simp [killF,Tg.eqb_ne h],h⟩
 case mp t kvs=>
  by_cases h:(t:Tg)=T
  ·subst h;exact .inl (by simp [killF,Tg.eqb_self])
  ·exact .inr ⟨by simp [killF,Tg.eqb_ne h],h⟩
 case win t lo z es=>
  by_cases h:(t:Tg)=T
  ·subst h;exact .inl (by simp [killF,Tg.eqb_self])
  ·exact .inr ⟨by simp [killF,Tg.eqb_ne h],h⟩
 case mat t e e2 z2 rows=>
  by_cases h:t=T.base
  ·subst h;exact .inl (by simp [killF])
  ·exact .inr ⟨by simp [killF,beq_ne h],ok_mat h⟩
 case mm t e z ks rows=>
  by_cases h:t=T.base
  ·subst h;exact .inl (by simp [killF])
  ·exact .inr ⟨by simp [killF,beq_ne h],ok_mm h⟩
 case mpt t i e2 z2 o=>
  by_cases h:t=T.base
  ·subst h;exact .inl (by simp [killF])
  ·exact .inr ⟨by simp [killF,beq_ne h],ok_mpt h⟩
 all_goals first|exact .inr ⟨rfl,trivial⟩|exact .inr ⟨rfl,fun v _=>by cases v<;>trivial⟩
theorem Sim.setOwn (S:Sim tt w0 G s a w) (T:Tg) (v':Value) (hsz:w.heap.size≤w'.heap.size)
 (hne:∀b,b<w.heap.size→(∀v,G.own T=some v→v.ownBlock≠some b)→w'.heap[b]? =w.heap[b]?)
 (hv':∀b,v'.ownBlock=some b→(∃v,G.own T=some v∧v.ownBlock=some b)∨(w.heap.size≤b∧b<w'.heap.size))
 (hchg:ChgQ (Qt tt) (CX w0 G) w0 w'):Sim tt w0 { G with own:=upd G.own T (some v') } (s.map (killF T)) a w':=by
 have H:Shift (· ≠T) (fun _=>True) G { G with own:=upd G.own T (some v') } w w':=
  ⟨fun b hlt hn=>hne b hlt fun v h h'=>hn (.inr (.inl ⟨T,v,h,h'⟩)),fun b hlt hx=>by
    rcases hx with ⟨t,ht⟩|⟨t,v,h,h'⟩|h
    ·exact .inl ⟨t,ht⟩
    ·rcases upd_cases h with ⟨_,e⟩|⟨_,e⟩
     ·injection e with e
      subst e
      rcases hv' b h' with ⟨v,h1,h2⟩|h1
      ·exact .inr (.inl ⟨T,v,h1,h2⟩)
      ·omega
     ·exact .inr (.inl ⟨t,v,e,h'⟩)
    ·exact .inr (.inr h),fun b h=>h,fun t v h hk=>⟨(upd_ne hk).trans h,fun b hv=>hne b (S.ownLt t v b h hv).2 fun v2 h2 h3=>hk (S.ownInj t T v v2 b h h2 hv h3)⟩,fun t b h _=>h,fun p h=>h,fun b h=>hne b (S.fz1 b h).1 fun v h1 h2=>S.fz2 T v b h1 h2 h,fun b h=>h,rfl,fun _ _=>rfl,rfl⟩
 have hp:∀v u,RP w0.B G w v u→RP w0.B { G with own:=upd G.own T (some v') } w' (killF T v) u:=fun v u h=>by
  rcases killF_ok (T:=T) (v:=v) with e|⟨e,hk⟩
  ·rw [e];trivial
  ·rw [e];exact H.rp hk h
 have hc:∀v u,RC w0.B G w v u→RC w0.B { G with own:=upd G.own T (some v') } w' (killF T v) u:=fun v u h=>by
  rcases killF_ok (T:=T) (v:=v) with e|⟨e,hk⟩
  ·rw [e];trivial
  ·rw [e];exact H.rc hk h
 have hbx:∀t b,G.box t=some b→w'.heap[b]? =w.heap[b]? :=fun t b h=>hne b (S.boxLt t b h).2 fun v h1 h2=>S.boxOwn t T v b h h1 h2
 refine S.shift (f:=killF T) H hp hc (fun t b h _=>⟨b,h,rfl,hbx t b h⟩) hchg hsz (fun t b h=>⟨(S.boxLt t b h).1,by have:=(S.boxLt t b h).2;omega⟩) ?ownLt S.boxInj ?ownInj ?boxOwn S.tapeBox ?tapeOwn
  (S.tapeShift H rfl (fun p hp=>hne p (S.tapeLt hp) fun v h1 h2=>S.tapeOwn T v p hp h1 h2) rfl) S.noTape ?ownFz S.fz3 S.tapeNew
 case ownLt=>
  intro t v b h h'
  rcases upd_cases h with ⟨_,e⟩|⟨_,e⟩
  ·injection e with e
   subst e
   rcases hv' b h' with ⟨v,h1,h2⟩|h1
   ·exact ⟨(S.ownLt T v b h1 h2).1,by have:=(S.ownLt T v b h1 h2).2;omega⟩
   ·exact ⟨.inl (by have:=S.chg.size;omega),h1.2⟩
  ·exact ⟨(S.ownLt t v b e h').1,by have:=(S.ownLt t v b e h').2;omega⟩
 case ownInj=>
  intro t t' v1 v2 b h h' k k'
  rcases upd_cases h with ⟨e1,e⟩|⟨e1,e⟩<;>rcases upd_cases h' with ⟨e2,e'⟩|⟨e2,e'⟩
  ·exact e1.trans e2.symm
  ·injection e with e
   subst e
   rcases hv' b k with ⟨v,h1,h2⟩|h1
   ·exact e1.trans (S.ownInj T t' v v2 b h1 e' h2 k')
   ·have:=(S.ownLt t' v2 b e' k').2;omega
  ·injection e' with e'
   subst e'
   rcases hv' b k' with ⟨v,h1,h2⟩|h1
   ·exact (S.ownInj t T v1 v b e h1 k h2).trans e2.symm
   ·have:=(S.ownLt t v1 b e k).2;omega
  ·exact S.ownInj t t' v1 v2 b e e' k k'
 case boxOwn=>
  intro t t' v b h h' h''
  rcases upd_cases h' with ⟨_,e⟩|⟨_,e⟩
  ·injection e with e
   subst e
   rcases hv' b h'' with ⟨v,h1,h2⟩|h1
   ·exact S.boxOwn t T v b h h1 h2
   ·have:=(S.boxLt t b h).2;omega
  ·exact S.boxOwn t t' v b h e h''
 case tapeOwn=>
  intro t v b h h' h''
  rcases upd_cases h' with ⟨_,e⟩|⟨_,e⟩
  ·injection e with e
   subst e
   rcases hv' b h'' with ⟨v,h1,h2⟩|h1
   ·exact S.tapeOwn T v b h h1 h2
   ·have:=S.tapeLt h;omega
  ·exact S.tapeOwn t v b h e h''
 case ownFz=>
  intro t v b h h' hz
  rcases upd_cases h with ⟨_,e⟩|⟨_,e⟩
  ·injection e with e
   subst e
   rcases hv' b h' with ⟨v,h1,h2⟩|h1
   ·exact S.fz2 T v b h1 h2 hz
   ·have:=(S.fz1 b hz).1;omega
  ·exact S.fz2 t v b e h' hz
end
theorem at2_some {es:List (List AV)} {i j:Nat} {d:AV} (h:at2 es i j=some d):∃ds,es[i]? =some ds∧ds[j]? =some d:=by
 simp only [at2,Option.bind_eq_some_iff] at h
 exact h
section
variable {tt:Nat} {w0:En} {w w':World} {G:Gh} {s:St} {a:Act} {B:Nat}
theorem OwnRep.lens {X:Nat→Prop} {z:Nat} {es:List (List AV)} {css:List (List Value)} (h:All2 (fun ds cs=>ds.length=z∧All2 (RepV w X) ds cs) es css):(∀c∈css,c.length=z)∧(∀d∈es,d.length=z):=by
 constructor
 ·intro c hc
  obtain ⟨i,hi,rfl⟩:=List.mem_iff_getElem.1 hc
  obtain ⟨ds,_,h1,h2⟩:=h.get' (List.getElem?_eq_getElem hi)
  rw [←h2.len];exact h1
 ·intro d hd
  obtain ⟨i,hi,rfl⟩:=List.mem_iff_getElem.1 hd
  obtain ⟨cs,_,h1,h2⟩:=h.get (List.getElem?_eq_getElem hi)
  exact h1
theorem OwnRep.rep {X Y:Nat→Prop} {e z:Nat} {es:List (List AV)} {u:Value} (h:OwnRep B X w e z es u) (hY:∀b,b<w.heap.size→Y b→X b) (hu:∀b,u.ownBlock=some b→¬Y b):RepV w Y (.lst z es) u:=by
 obtain ⟨css,ho,hA⟩:=h
 obtain ⟨hl,hl'⟩:=OwnRep.lens hA
 have hlen:=hA.len
 rcases ho.2 with ⟨rfl,h0⟩|⟨g,cap,cur,rfl,hg,hh,hc,hm,hsz,ht⟩
 ·obtain rfl:es=[]:=List.eq_nil_of_length_eq_zero h0
  exact .nil z _ _
 ·by_cases hes:es=[]
  ·subst hes;exact .nil z _ _
  ·refine .lst (off:=0) (fun i j=>((css[i]?).bind (·[j]?)).getD Go.undef) hes hc (Array.getElem?_eq_some_iff.1 hh).1 (hu g rfl) hl' (fun i j d hd=>?_) (fun i j d hd=>?_)
   ·obtain ⟨ds,h1,h2⟩:=at2_some hd
    obtain ⟨cs,h3,h4,h5⟩:=hA.get h1
    obtain ⟨c,h6,h7⟩:=h5.get h2
    have hf:=flatten_at hl h3 h6
    have hlt:i * z+j<es.length * z:=by
     have:=(List.getElem?_eq_some_iff.1 hf).1
     rw [ho.1] at this
     exact this
    rw [Nat.zero_add,ho.cellAt _ hlt,hf]
    simp [h3,h6]
   ·obtain ⟨ds,h1,h2⟩:=at2_some hd
    obtain ⟨cs,h3,h4,h5⟩:=hA.get h1
    obtain ⟨c,h6,h7⟩:=h5.get h2
    simp only [h3,h6,Option.bind_some,Option.getD_some]
    exact h7.move (fun _ _ _=>rfl) hY
theorem rep_of_cells {Y:Nat→Prop} {z c:Nat} {es:List (List AV)} {css:List (List Value)} {A:Option Addr} (hA:es≠[]→∃g off,A=some ⟨g,off,none⟩∧g<w.heap.size∧¬Y g∧∀j v,css.flatten[j]? =some v→w.cell? ⟨g,off+j,none⟩=some v) (hc:es.length≤c)
 (h:All2 (fun ds cs=>ds.length=z∧All2 (RepV w Y) ds cs) es css):RepV w Y (.lst z es) (.slice A es.length c):=by
 by_cases hes:es=[]
 ·subst hes;exact .nil z _ _
 ·obtain ⟨g,off,rfl,hg,hy,hcell⟩:=hA hes
  obtain ⟨hl,hl'⟩:=OwnRep.lens h
  refine .lst (fun i j=>((css[i]?).bind (·[j]?)).getD Go.undef) hes hc hg hy hl' (fun i j d hd=>?_) (fun i j d hd=>?_)
  ·obtain ⟨ds,h1,h2⟩:=at2_some hd
   obtain ⟨cs,h3,h4,h5⟩:=h.get h1
   obtain ⟨c,h6,h7⟩:=h5.get h2
   rw [Nat.add_assoc,hcell _ _ (flatten_at hl h3 h6)]
   simp [h3,h6]
  ·obtain ⟨ds,h1,h2⟩:=at2_some hd
   obtain ⟨cs,h3,h4,h5⟩:=h.get h1
   obtain ⟨c,h6,h7⟩:=h5.get h2
   simp only [h3,h6,Option.bind_some,Option.getD_some]
   exact h7
theorem Sim.erase (S:Sim tt w0 G s a w) (T:Tg):Sim tt w0 { G with own:=upd G.own T none } (s.map (eraseF T)) a w∧∀v u,RC w0.B G w v u→RC w0.B { G with own:=upd G.own T none } w (eraseF T v) u:=by
 have hgm:∀b,GM { G with own:=upd G.own T none } b→GM G b:=fun b hx=>by
  rcases hx with ⟨t,ht⟩|⟨t,v,h,h'⟩|h
  ·exact .inl ⟨t,ht⟩
  ·rcases upd_cases h with ⟨_,e⟩|⟨_,e⟩
   ·cases e
   ·exact .inr (.inl ⟨t,v,e,h'⟩)
  ·exact .inr (.inr h)
 have H:Shift (· ≠T) (fun _=>True) G { G with own:=upd G.own T none } w w:=⟨fun b hlt hn=>rfl,fun b _ hx=>hgm b hx,fun b h=>h,fun t v h hk=>⟨(upd_ne hk).trans h,fun b hv=>rfl⟩,fun t b h _=>h,fun p h=>h,fun b h=>rfl,fun b h=>h,rfl,fun _ _=>rfl,rfl⟩
 have hgx:∀b,GX { G with own:=upd G.own T none } b→GX G b:=fun b hx=>hx.elim (fun h=> .inl (hgm b h)) .inr
 have hout:∀v b,G.own T=some v→v.ownBlock=some b→¬GX { G with own:=upd G.own T none } b:=fun v b h h' hx=>by
  rcases hx with (⟨t,ht⟩|⟨t,v2,h2,h2'⟩|h2)|hx
  ·exact S.boxOwn t T v b ht h h'
  ·rcases upd_cases h2 with ⟨_,e⟩|⟨hne,e⟩
   ·cases e
   ·exact hne (S.ownInj t T v2 v b e h h2' h')
  ·exact S.tapeOwn T v b h2 h h'
  ·exact S.newX (S.ownLt T v b h h').1 hx
 have hc:∀v u,RC w0.B G w v u→RC w0.B { G with own:=upd G.own T none } w (eraseF T v) u:=fun v u h=>by
  cases v
  case own t e z es=>
   by_cases ht:t=T
   ·subst ht
    simp only [eraseF,Tg.eqb_self,cond_true]
    exact h.2.rep (fun b _=>hgx b) (fun b=>hout u b h.1)
   ·simp only [eraseF,Tg.eqb_ne ht,cond_false]
    exact H.rc (v:= .own t e z es) ht h
  case mat t e e2 z2 rows=>
   by_cases ht:t=T.base
   ·subst ht;simp only [eraseF,beq_self,cond_true];trivial
   ·simp only [eraseF,beq_ne ht,cond_false];exact H.rc (v:= .mat t e e2 z2 rows) (ok_mat ht) h
  case mpt=>simp only [RC] at h;cases h
  case ept=>simp only [RC] at h;cases h
  case mp=>simp only [RC] at h;cases h
  case mm=>simp only [RC] at h;cases h
  case win=>simp only [RC] at h;cases h
  all_goals exact H.rc (by first|trivial|exact fun v _=>by cases v<;>trivial) h
 have hp:∀v u,RP w0.B G w v u→RP w0.B { G with own:=upd G.own T none } w (eraseF T v) u:=fun v u h=>by
  cases v
  case own t e z es=>exact (hc (.own t e z es) u h).rp
  case ept t i off cs=>
   by_cases ht:t=T
   ·subst ht
    simp only [eraseF,Tg.eqb_self,cond_true]
    obtain ⟨g,n,c,e,cur,us,h1,rfl,h3,h4,h4',h5,h6⟩:=h
    refine ⟨g,_,us.drop off,rfl,(Array.getElem?_eq_some_iff.1 h4).1,fun hm=>hout _ g h1 rfl (.inl hm),(h5.mono fun _ _ h=>H.repU h).drop off,fun j v hv=>?_⟩
    rw [List.getElem?_drop] at hv
    rw [Nat.add_assoc]
    exact h6 _ v hv
   ·simp only [eraseF,Tg.eqb_ne ht,cond_false]
    exact H.rp (v:= .ept t i off cs) ht h
  case mp t kvs=>
   by_cases ht:(t:Tg)=T
   ·subst ht;simp only [eraseF,Tg.eqb_self,cond_true];trivial
   ·simp only [eraseF,Tg.eqb_ne ht,cond_false];exact H.rp (v:= .mp t kvs) ht h
  case win t lo z es=>
   by_cases ht:t=T
   ·subst ht
    simp only [eraseF,Tg.eqb_self,cond_true]
    obtain ⟨g,n,c,e,cur,css,A,c',h1,h2,rfl,h4,h5,h6,h7,h8,h9⟩:=h
    exact (rep_of_cells (fun hne=>⟨g,lo * z,h4 hne,(Array.getElem?_eq_some_iff.1 h6).1,hout _ g h1 rfl,h9⟩) h5 (h8.mono fun _ _ h=>⟨h.1,h.2.mono fun _ _ h=>H.rep h⟩)).rc.rp
   ·simp only [eraseF,Tg.eqb_ne ht,cond_false];exact H.rp (v:= .win t lo z es) ht h
  case mat t e e2 z2 rows=>exact (hc (.mat t e e2 z2 rows) _ h).rp
  case mpt t i2 e2 z2 o=>
   by_cases ht:t=T.base
   ·subst ht;simp only [eraseF,beq_self,cond_true];trivial
   ·simp only [eraseF,beq_ne ht,cond_false];exact H.rp (v:= .mpt t i2 e2 z2 o) (ok_mpt ht) h
  case mm t e z ks rows=>
   by_cases ht:t=T.base
   ·subst ht;simp only [eraseF,beq_self,cond_true];trivial
   ·simp only [eraseF,beq_ne ht,cond_false];exact H.rp (v:= .mm t e z ks rows) (ok_mm ht) h
  all_goals exact H.rp (by first|trivial|exact fun v _=>by cases v<;>trivial) h
 refine ⟨?_,hc⟩
 refine S.shift (f:=eraseF T) H hp hc (fun t b h _=>⟨b,h,rfl,rfl⟩) S.chg (Nat.le_refl _) S.boxLt ?ownLt S.boxInj ?ownInj ?boxOwn S.tapeBox ?tapeOwn (S.tapeShift H rfl (fun p hp=>rfl) rfl) S.noTape ?ownFz S.fz3 S.tapeNew
 case ownLt=>
  intro t v b h h'
  rcases upd_cases h with ⟨_,e⟩|⟨_,e⟩
  ·cases e
  ·exact S.ownLt t v b e h'
 case ownInj=>
  intro t t' v1 v2 b h h' k k'
  rcases upd_cases h with ⟨e1,e⟩|⟨e1,e⟩
  ·cases e
  ·rcases upd_cases h' with ⟨e2,e'⟩|⟨e2,e'⟩
   ·cases e'
   ·exact S.ownInj t t' v1 v2 b e e' k k'
 case boxOwn=>
  intro t t' v b h h' h''
  rcases upd_cases h' with ⟨_,e⟩|⟨_,e⟩
  ·cases e
  ·exact S.boxOwn t t' v b h e h''
 case tapeOwn=>
  intro t v b h h' h''
  rcases upd_cases h' with ⟨_,e⟩|⟨_,e⟩
  ·cases e
  ·exact S.tapeOwn t v b h e h''
 case ownFz=>
  intro t v b h h' hz
  rcases upd_cases h with ⟨_,e⟩|⟨_,e⟩
  ·cases e
  ·exact S.fz2 t v b e h' hz
theorem flatten_set {css:List (List Value)} {k:Nat} (hs:∀c∈css,c.length=k) {i j:Nat} {u:Value} (hi:i<css.length) (hj:j<k):(css.modify i (·.set j u)).flatten=css.flatten.set (i * k+j) u:=by
 induction css generalizing i with
 |nil=>simp at hi
 |cons d css ih=>
  have hd:d.length=k:=hs d (by simp)
  cases i with
  |zero=>simp [List.modify_zero_cons,List.set_append,hd,hj]
  |succ i=>
   have:=ih (fun c hc=>hs c (by simp [hc])) (i:=i) (by simpa using hi)
   simp only [List.modify_succ_cons,List.flatten_cons,this,List.set_append]
   have h1:¬(i+1) * k+j<d.length:=by rw [hd,Nat.add_mul];omega
   rw [if_neg h1]
   congr 2
   rw [hd,Nat.add_mul]
   omega
theorem All2.modify {α β:Type} {R:α→β→Prop} {f:α→α} {g:β→β} (hfg:∀a b,R a b→R (f a) (g b)):∀ {as:List α} {bs:List β} (i:Nat),All2 R as bs→All2 R (as.modify i f) (bs.modify i g)
 |[],[],i,_=>by simp [All2]
 |a::as,b::bs,0,h=>by simpa [List.modify_zero_cons] using ⟨hfg a b h.1,h.2⟩
 |a::as,b::bs,i+1,h=>by simpa [List.modify_succ_cons] using ⟨h.1,All2.modify hfg i h.2⟩
 |[],_::_,_,h=>h.elim
 |_::_,[],_,h=>h.elim
theorem Sim.storeOwn (S:Sim tt w0 G s a w) {T i off z g n c:Nat} {x:AV} {u:Value} (hT:G.own T=some (.slice (some ⟨g,0,none⟩) n c)) (hi:i<n) (ho:off<z) (hx:RepV w (GX G) x u):
 Sim tt w0 G (s.map (storeO T z i off x)) a (w.setCell ⟨g,i * z+off,none⟩ u):=by
 have hne:∀b,b≠g→(w.setCell ⟨g,i * z+off,none⟩ u).heap[b]? =w.heap[b]? :=fun b hb=>Below.heap_setCell _ _ _ _ hb
 have hg:GM G g:= .inr (.inl ⟨T,_,hT,rfl⟩)
 have H:Shift (· ≠(T:Tg)) (fun _=>True) G G w (w.setCell ⟨g,i * z+off,none⟩ u):=⟨fun b _ hn=>hne b fun e=>hn (e▸hg),fun b _ h=>h,fun b h=>h,fun t v h hk=>⟨h,fun b hv=>hne b fun e=>hk (S.ownInj t (T:Tg) v _ g h hT (e▸hv) rfl)⟩,fun t b h _=>h,fun p h=>h,fun b h=>hne b fun e=>S.fz2 T _ g hT rfl (e▸h),fun b h=>h,rfl,fun _ _=>rfl,rfl⟩
 have hX:=H.rep hx
 have hc:∀v u',RC w0.B G w v u'→RC w0.B G (w.setCell ⟨g,i * z+off,none⟩ u) (storeO T z i off x v) u':=fun v u' h=>by
  cases v
  case own t e z' es=>
   by_cases ht:t=(T:Tg)
   ·subst ht
    simp only [storeO,Tg.eqb_self,cond_true]
    by_cases hz:z'=z
    ·subst hz
     simp only [beq_self,cond_true]
     obtain ⟨h1,css,h2,h3⟩:=h
     rw [hT] at h1
     injection h1 with h1
     subst h1
     obtain ⟨hl,hl'⟩:=OwnRep.lens h3
     have hn:n=es.length:=by
      rcases h2.2 with ⟨e1,_⟩|⟨g',cap,cur,e1,_⟩
      ·cases e1
      ·injection e1
     subst hn
     refine ⟨hT,css.modify i (·.set off u),?_,?_⟩
     ·rw [flatten_set hl (by rw [←h3.len];exact hi) ho,List.length_modify]
      exact (h2.stored _ u).1
     ·exact All2.modify (fun ds cs hd=>⟨by simpa using hd.1,hd.2.set off hX⟩) i (h3.mono fun _ _ hd=>⟨hd.1,hd.2.mono fun _ _ h=>H.rep h⟩)
    ·simp only [beq_ne hz,cond_false];trivial
   ·simp only [storeO,Tg.eqb_ne ht,cond_false]
    exact H.rc (v:= .own t e z' es) ht h
  case mat t e e2 z2 rows=>
   by_cases ht:t=T
   ·subst ht;simp only [storeO,beq_self,cond_true];trivial
   ·simp only [storeO,beq_ne ht,cond_false];exact H.rc (v:= .mat t e e2 z2 rows) (ok_mat (T:=(T:Tg)) ht) h
  case mpt=>simp only [RC] at h;cases h
  case ept=>simp only [RC] at h;cases h
  case mp=>simp only [RC] at h;cases h
  case mm=>simp only [RC] at h;cases h
  case win=>simp only [RC] at h;cases h
  all_goals exact H.rc (by first|trivial|exact fun v _=>by cases v<;>trivial) h
 have hp:∀v u',RP w0.B G w v u'→RP w0.B G (w.setCell ⟨g,i * z+off,none⟩ u) (storeO T z i off x v) u':=fun v u' h=>by
  cases v
  case own t e z' es=>exact (hc (.own t e z' es) u' h).rp
  case ept t i' off' cs=>
   by_cases ht:t=(T:Tg)
   ·subst ht
    simp only [storeO,Tg.eqb_self,cond_true]
    by_cases hz:cs.length=z
    ·subst hz
     simp only [beq_self,cond_true]
     obtain ⟨g',n',c',e,cur,us,h1,rfl,h3,h4,h4',h5,h6⟩:=h
     rw [hT] at h1
     injection h1 with h1
     simp only [Value.slice.injEq,Option.some.injEq,Addr.mk.injEq,and_true] at h1
     obtain ⟨rfl,rfl,rfl⟩:=h1
     have hcell:∀k,(w.setCell ⟨g,i * cs.length+off,none⟩ u).cell? ⟨g,k,none⟩=if i * cs.length+off=k then (if k<cur.size then some u else none) else w.cell? ⟨g,k,none⟩:=fun k=>by
      have hB:Blk w g e cur:=h4
      rw [(hB.stored _ u).cell,Array.getElem?_setIfInBounds,hB.cell]
      split
      ·next e=>subst e;rfl
      ·rfl
     have hin:i * cs.length+off<cur.size:=by
      have:(i+1) * cs.length≤n * cs.length:=Nat.mul_le_mul_right _ hi
      rw [Nat.add_mul] at this
      omega
     by_cases hii:i'=i
     ·subst hii
      simp only [beq_self,setIf_true]
      refine ⟨g,n,c,e,cur.setIfInBounds (i' * cs.length+off) u,us.set off u,hT,by simp,h3,by exact (show Blk w g e cur from h4).stored _ u,by simpa using h4',(h5.mono fun _ _ h=>H.repU h).set off (.inr hX),fun j v hv=>?_⟩
      rw [List.length_set,hcell]
      rw [List.getElem?_set] at hv
      by_cases hj:off=j
      ·subst hj
       simp only [if_true] at hv ⊢
       rw [if_pos hin]
       split at hv
       ·exact hv
       ·cases hv
      ·rw [if_neg hj] at hv
       rw [if_neg (by omega)]
       exact h6 j v hv
     ·simp only [beq_ne hii,setIf_false]
      refine ⟨g,n,c,e,cur.setIfInBounds (i * cs.length+off) u,us,hT,rfl,h3,by exact (show Blk w g e cur from h4).stored _ u,by simpa using h4',h5.mono fun _ _ h=>H.repU h,fun j v hv=>?_⟩
      have hj:j<cs.length:=by rw [h5.len];exact (List.getElem?_eq_some_iff.1 hv).1
      rw [hcell,if_neg ?_]
      ·exact h6 j v hv
      ·intro e'
       rcases Nat.lt_or_gt_of_ne hii with hlt|hlt
       ·have:=Nat.mul_le_mul_right cs.length (show i'+1≤i from hlt)
        rw [Nat.add_mul] at this
        omega
       ·have:=Nat.mul_le_mul_right cs.length (show i+1≤i' from hlt)
        rw [Nat.add_mul] at this
        omega
    ·simp only [beq_ne hz,cond_false];trivial
   ·simp only [storeO,Tg.eqb_ne ht,cond_false]
    exact H.rp (v:= .ept t i' off' cs) ht h
  case mp t kvs=>
   by_cases ht:t=T
   ·subst ht;simp only [storeO,Tg.eqb_self,cond_true];trivial
   ·have ht':(t:Tg)≠T:=fun e=>ht (by injection e)
    simp only [storeO,Tg.eqb_ne ht',cond_false];exact H.rp (v:= .mp t kvs) ht' h
  case win t lo z es=>
   by_cases ht:t=(T:Tg)
   ·subst ht;simp only [storeO,Tg.eqb_self,cond_true];trivial
   ·simp only [storeO,Tg.eqb_ne ht,cond_false];exact H.rp (v:= .win t lo z es) ht h
  case mat t e e2 z2 rows=>exact (hc (.mat t e e2 z2 rows) _ h).rp
  case mpt t i2 e2 z2 o=>
   by_cases ht:t=T
   ·subst ht;simp only [storeO,beq_self,cond_true];trivial
   ·simp only [storeO,beq_ne ht,cond_false];exact H.rp (v:= .mpt t i2 e2 z2 o) (ok_mpt (T:=(T:Tg)) ht) h
  case mm t e z ks rows=>
   by_cases ht:t=T
   ·subst ht;simp only [storeO,beq_self,cond_true];trivial
   ·simp only [storeO,beq_ne ht,cond_false];exact H.rp (v:= .mm t e z ks rows) (ok_mm (T:=(T:Tg)) ht) h
  all_goals exact H.rp (by first|trivial|exact fun v _=>by cases v<;>trivial) h
 have hsz:(w.setCell ⟨g,i * z+off,none⟩ u).heap.size=w.heap.size:=by simp [World.setCell]
 have hlt:=S.ownLt T _ g hT rfl
 refine S.shift (f:=storeO T z i off x) H hp hc (fun t b h _=>⟨b,h,rfl,hne b fun e=>S.boxOwn t T _ g (e▸h) hT rfl⟩) (S.chg.setCell (hlt.1.symm.imp .inr id) _) (by omega) (fun t b h=>by rw [hsz];exact S.boxLt t b h) (fun t v b h h'=>by rw [hsz];exact S.ownLt t v b h h') S.boxInj S.ownInj S.boxOwn S.tapeBox S.tapeOwn
  (S.tapeShift H rfl (fun p hp=>hne p fun e=>S.tapeOwn T _ g (e▸hp) hT rfl) rfl) S.noTape S.fz2 S.fz3 S.tapeNew
theorem flat_drop {α:Type} {z:Nat}:∀ {css:List (List α)},(∀c∈css,c.length=z)→∀l,(css.drop l).flatten=css.flatten.drop (l * z)
 |css,_,0=>by simp
 |[],_,l+1=>by simp
 |d::css,hs,l+1=>by
  have hd:d.length=z:=hs d (by simp)
  rw [List.drop_succ_cons,flat_drop (fun c hc=>hs c (by simp [hc])) l,List.flatten_cons,List.drop_append,hd,List.drop_of_length_le (l:=d) (by rw [hd,Nat.add_mul];omega),List.nil_append]
  congr 1
  rw [Nat.add_mul]
  omega
theorem flat_take {α:Type} {z:Nat}:∀ {css:List (List α)},(∀c∈css,c.length=z)→∀l,(css.take l).flatten=css.flatten.take (l * z)
 |css,_,0=>by simp
 |[],_,l+1=>by simp
 |d::css,hs,l+1=>by
  have hd:d.length=z:=hs d (by simp)
  rw [List.take_succ_cons,List.flatten_cons,flat_take (fun c hc=>hs c (by simp [hc])) l,List.flatten_cons,List.take_append,hd,List.take_of_length_le (l:=d) (by rw [hd,Nat.add_mul];omega)]
  congr 2
  rw [Nat.add_mul]
  omega
theorem flat_len0 {α:Type} {z:Nat}:∀ {css:List (List α)},(∀c∈css,c.length=z)→css.flatten.length=css.length * z
 |[],_=>by simp
 |d::css,hs=>by
  have hd:d.length=z:=hs d (by simp)
  rw [List.flatten_cons,List.length_append,flat_len0 fun c hc=>hs c (by simp [hc]),hd,List.length_cons,Nat.add_mul]
  omega
theorem take_spl {α:Type} (C D:List α) (a N:Nat) (h:a+D.length≤N) (hN:N≤C.length):(C.take a++D++C.drop (a+D.length)).take N=spl (C.take N) a D:=by
 unfold spl
 rw [List.append_assoc,List.take_append,List.length_take,Nat.min_eq_left (by omega),List.take_of_length_le (by simp;omega),List.take_append,List.take_of_length_le (l:=D) (by omega),List.take_take,Nat.min_eq_left (by omega),List.drop_take]
 congr 3
 omega
theorem All2.spl {α β:Type} {R:α→β→Prop} {as as':List α} {bs bs':List β} (h:All2 R as bs) (h':All2 R as' bs') (n:Nat):All2 R (Go.Proofs.YtihjphblcohdeaaGreatDoor.spl as n as') (Go.Proofs.YtihjphblcohdeaaGreatDoor.spl bs n bs'):=by
 unfold Go.Proofs.YtihjphblcohdeaaGreatDoor.spl
 rw [h'.len]
 exact (h.take n).append (h'.append (h.drop _))
theorem Sim.copyOwn (S:Sim tt w0 G s a w) {T:Tg} {lo z g n c e0:Nat} {cur:Array Value} {src:List (List AV)} {dss:List (List Value)} (hT:G.own T=some (.slice (some ⟨g,0,none⟩) n c)) (hgc:w.heap[g]? =some (.cells cur e0 (0,0))) (hfit:lo+src.length≤n) (hn:n * z≤cur.size)
 (hA:All2 (fun ds cs=>ds.length=z∧All2 (RepV w (GX G)) ds cs) src dss):
 Sim tt w0 G (s.map (copyF T z lo src)) a (w.setRow g (cur.toList.take (lo * z)++dss.flatten++cur.toList.drop (lo * z+dss.flatten.length)).toArray):=by
 generalize hw':w.setRow g (cur.toList.take (lo * z)++dss.flatten++cur.toList.drop (lo * z+dss.flatten.length)).toArray=w'
 have hne:∀b,b≠g→w'.heap[b]? =w.heap[b]? :=fun b hb=>by rw [←hw'];exact setRow_other w g b _ hb
 have hsz:w'.heap.size=w.heap.size:=by rw [←hw'];simp [World.setRow]
 have hnew:w'.heap[g]? =some (.cells (cur.toList.take (lo * z)++dss.flatten++cur.toList.drop (lo * z+dss.flatten.length)).toArray e0 (0,0)):=by rw [←hw'];exact setRow_heap w g _ _ _ _ hgc
 have hg:GM G g:= .inr (.inl ⟨T,_,hT,rfl⟩)
 have H:Shift (· ≠T) (fun _=>True) G G w w':=⟨fun b _ hn=>hne b fun e=>hn (e▸hg),fun b _ h=>h,fun b h=>h,fun t v h hk=>⟨h,fun b hv=>hne b fun e=>hk (S.ownInj t T v _ g h hT (e▸hv) rfl)⟩,fun t b h _=>h,fun p h=>h,fun b h=>hne b fun e=>S.fz2 T _ g hT rfl (e▸h),fun b h=>h,rfl,fun _ _=>rfl,rfl⟩
 obtain ⟨hdl,hsl⟩:=OwnRep.lens hA
 have hdf:=flat_len0 hdl
 have hll:=hA.len
 have hc:∀v u',RC w0.B G w v u'→RC w0.B G w' (copyF T z lo src v) u':=fun v u' h=>by
  cases v
  case own t e z' es=>
   by_cases ht:t=T
   ·subst ht
    simp only [copyF,Tg.eqb_self,cond_true]
    by_cases hz:z'=z
    ·subst hz
     simp only [beq_self,cond_true]
     obtain ⟨h1,css,h2,h3⟩:=h
     rw [hT] at h1
     injection h1 with h1
     subst h1
     obtain ⟨hl,hl'⟩:=OwnRep.lens h3
     have hlen:=h3.len
     have h2f:=h2.1
     rcases h2.2 with ⟨e1,_⟩|⟨g',cap,cur',e1,k1,k2,k3,k4,k5,k6⟩
     ·cases e1
     ·simp only [Value.slice.injEq,Option.some.injEq,Addr.mk.injEq,and_true] at e1
      obtain ⟨rfl,rfl,rfl⟩:=e1
      rw [hgc] at k2
      simp only [Option.some.injEq,Obj.cells.injEq,and_true] at k2
      obtain ⟨rfl,rfl⟩:=k2
      have hin:lo * z'+dss.flatten.length≤es.length * z':=by
       rw [hdf,←hll,←Nat.add_mul]
       exact Nat.mul_le_mul_right _ hfit
      have hsize:lo * z'+dss.flatten.length≤cur.size:=by
       have:=hn
       omega
      have hlsp:(spl es lo src).length=es.length:=by simp [spl];omega
      have efl:(spl css lo dss).flatten=spl css.flatten (lo * z') dss.flatten:=by
       simp only [spl,List.flatten_append,flat_take hl,flat_drop hl,hdf,Nat.add_mul]
      refine ⟨hT,spl css lo dss,⟨?_, .inr ⟨g,c,_,?_,k1,hnew,?_,k4,?_,?_⟩⟩,(h3.mono fun _ _ hd=>⟨hd.1,hd.2.mono fun _ _ h=>H.rep h⟩).spl (hA.mono fun _ _ hd=>⟨hd.1,hd.2.mono fun _ _ h=>H.rep h⟩) lo⟩
      ·rw [hlsp,efl,←h2f]
       simp only [spl,List.length_append,List.length_take,List.length_drop]
       omega
      ·rw [hlsp]
      ·rw [hlsp];exact k3
      ·rw [←k5]
       simp only [List.size_toArray,List.length_append,List.length_take,List.length_drop,Array.length_toList]
       omega
      ·rw [hlsp,efl,←k6]
       exact take_spl _ _ _ _ hin (by rw [Array.length_toList];omega)
    ·simp only [beq_ne hz,cond_false];trivial
   ·simp only [copyF,Tg.eqb_ne ht,cond_false]
    exact H.rc (v:= .own t e z' es) ht h
  case mat t e e2 z2 rows=>
   by_cases ht:t=T.base
   ·subst ht;simp only [copyF,beq_self,cond_true];trivial
   ·simp only [copyF,beq_ne ht,cond_false];exact H.rc (v:= .mat t e e2 z2 rows) (ok_mat ht) h
  case mpt=>simp only [RC] at h;cases h
  case ept=>simp only [RC] at h;cases h
  case mp=>simp only [RC] at h;cases h
  case mm=>simp only [RC] at h;cases h
  case win=>simp only [RC] at h;cases h
  all_goals exact H.rc (by first|trivial|exact fun v _=>by cases v<;>trivial) h
 have hp:∀v u',RP w0.B G w v u'→RP w0.B G w' (copyF T z lo src v) u':=fun v u' h=>by
  cases v
  case own t e z' es=>exact (hc (.own t e z' es) u' h).rp
  case ept t i' off' cs=>
   by_cases ht:t=T
   ·subst ht;simp only [copyF,Tg.eqb_self,cond_true];trivial
   ·simp only [copyF,Tg.eqb_ne ht,cond_false];exact H.rp (v:= .ept t i' off' cs) ht h
  case mp t kvs=>
   by_cases ht:(t:Tg)=T
   ·subst ht;simp only [copyF,Tg.eqb_self,cond_true];trivial
   ·simp only [copyF,Tg.eqb_ne ht,cond_false];exact H.rp (v:= .mp t kvs) ht h
  case win t l z2 es=>
   by_cases ht:t=T
   ·subst ht;simp only [copyF,Tg.eqb_self,cond_true];trivial
   ·simp only [copyF,Tg.eqb_ne ht,cond_false];exact H.rp (v:= .win t l z2 es) ht h
  case mat t e e2 z2 rows=>exact (hc (.mat t e e2 z2 rows) _ h).rp
  case mpt t i2 e2 z2 o=>
   by_cases ht:t=T.base
   ·subst ht;simp only [copyF,beq_self,cond_true];trivial
   ·simp only [copyF,beq_ne ht,cond_false];exact H.rp (v:= .mpt t i2 e2 z2 o) (ok_mpt ht) h
  case mm t e z ks rows=>
   by_cases ht:t=T.base
   ·subst ht;simp only [copyF,beq_self,cond_true];trivial
   ·simp only [copyF,beq_ne ht,cond_false];exact H.rp (v:= .mm t e z ks rows) (ok_mm ht) h
  all_goals exact H.rp (by first|trivial|exact fun v _=>by cases v<;>trivial) h
 have hlt:=S.ownLt T _ g hT rfl
 have hchg:ChgQ (Qt tt) (CX w0 G) w0 w':=by
  have c0:=S.chg
  refine ⟨?_,?_,?_,?_,fun b hb hn=>?_,fun d=>?_⟩
  ·rw [←hw'];exact c0.os
  ·rw [←hw'];exact c0.tape
  ·rw [←hw'];exact c0.output
  ·rw [hsz];exact c0.size
  ·rw [hne b (fun e=>hlt.1.elim (fun h=>by omega) fun h=>hn (.inr (e▸h)))];exact c0.block b hb hn
  ·rw [←hw'];exact c0.drawn d
 refine S.shift (f:=copyF T z lo src) H hp hc (fun t b h _=>⟨b,h,rfl,hne b fun e=>S.boxOwn t T _ g (e▸h) hT rfl⟩) hchg (by omega) (fun t b h=>by rw [hsz];exact S.boxLt t b h) (fun t v b h h'=>by rw [hsz];exact S.ownLt t v b h h') S.boxInj S.ownInj S.boxOwn S.tapeBox S.tapeOwn
  (S.tapeShift H rfl (fun p hp=>hne p fun e=>S.tapeOwn T _ g (e▸hp) hT rfl) rfl) S.noTape S.fz2 S.fz3 S.tapeNew
theorem Sim.storeMap (S:Sim tt w0 G s a w) {T b c:Nat} {es:Array MapEntry} {kvs:Kv} (hT:G.own T=some (.slice (some ⟨b,0,none⟩) 0 0)) (hne:∀b',b'≠b→w'.heap[b']? =w.heap[b']?) (hb:w'.heap[b]? =some (.map es c)) (hsz:w'.heap.size=w.heap.size)
 (hkv:es.toList.map (fun e=>(e.key,e.val))=kvs.vals) (hchg:ChgQ (Qt tt) (CX w0 G) w0 w'):Sim tt w0 G (s.map (mapF T kvs)) a w':=by
 have hg:GM G b:= .inr (.inl ⟨T,_,hT,rfl⟩)
 have H:Shift (· ≠(T:Tg)) (fun _=>True) G G w w':=⟨fun b' _ hn=>hne b' fun e=>hn (e▸hg),fun b _ h=>h,fun b h=>h,fun t v h hk=>⟨h,fun b' hv=>hne b' fun e=>hk (S.ownInj t T v _ b h hT (e▸hv) rfl)⟩,fun t b h _=>h,fun p h=>h,fun b' h=>hne b' fun e=>S.fz2 T _ b hT rfl (e▸h),fun b h=>h,rfl,fun _ _=>rfl,rfl⟩
 have hc:∀v u',RC w0.B G w v u'→RC w0.B G w' (mapF T kvs v) u':=fun v u' h=>by
  cases v
  case own t e z es=>
   by_cases ht:t=(T:Tg)
   ·subst ht;simp only [mapF,Tg.eqb_self,cond_true];trivial
   ·simp only [mapF,Tg.eqb_ne ht,cond_false];exact H.rc (v:= .own t e z es) ht h
  case mat t e e2 z2 rows=>
   by_cases ht:t=T
   ·subst ht;simp only [mapF,beq_self,cond_true];trivial
   ·simp only [mapF,beq_ne ht,cond_false];exact H.rc (v:= .mat t e e2 z2 rows) (ok_mat (T:=(T:Tg)) ht) h
  case mpt=>simp only [RC] at h;cases h
  case ept=>simp only [RC] at h;cases h
  case mp=>simp only [RC] at h;cases h
  case mm=>simp only [RC] at h;cases h
  case win=>simp only [RC] at h;cases h
  all_goals exact H.rc (by first|trivial|exact fun v _=>by cases v<;>trivial) h
 have hp:∀v u',RP w0.B G w v u'→RP w0.B G w' (mapF T kvs v) u':=fun v u' h=>by
  cases v
  case own t e z es=>exact (hc (.own t e z es) u' h).rp
  case ept t i off cs=>
   by_cases ht:t=(T:Tg)
   ·subst ht;simp only [mapF,Tg.eqb_self,cond_true];trivial
   ·simp only [mapF,Tg.eqb_ne ht,cond_false];exact H.rp (v:= .ept t i off cs) ht h
  case mp t kvs'=>
   by_cases ht:t=T
   ·subst ht
    simp only [mapF,beq_self,cond_true]
    obtain ⟨b',es',c',h1,rfl,h3,h4⟩:=h
    rw [hT] at h1
    simp only [Option.some.injEq,Value.slice.injEq,Addr.mk.injEq,and_true] at h1
    subst h1
    exact ⟨b,es,c,hT,rfl,hb,hkv⟩
   ·simp only [mapF,beq_ne ht,cond_false];exact H.rp (v:= .mp t kvs') (fun e=>ht (by injection e)) h
  case win t lo z es=>
   by_cases ht:t=(T:Tg)
   ·subst ht;simp only [mapF,Tg.eqb_self,cond_true];trivial
   ·simp only [mapF,Tg.eqb_ne ht,cond_false];exact H.rp (v:= .win t lo z es) ht h
  case mat t e e2 z2 rows=>exact (hc (.mat t e e2 z2 rows) _ h).rp
  case mpt t i2 e2 z2 o=>
   by_cases ht:t=T
   ·subst ht;simp only [mapF,beq_self,cond_true];trivial
   ·simp only [mapF,beq_ne ht,cond_false];exact H.rp (v:= .mpt t i2 e2 z2 o) (ok_mpt (T:=(T:Tg)) ht) h
  case mm t e z ks rows=>
   by_cases ht:t=T
   ·subst ht;simp only [mapF,beq_self,cond_true];trivial
   ·simp only [mapF,beq_ne ht,cond_false];exact H.rp (v:= .mm t e z ks rows) (ok_mm (T:=(T:Tg)) ht) h
  all_goals exact H.rp (by first|trivial|exact fun v _=>by cases v<;>trivial) h
 refine S.shift (f:=mapF T kvs) H hp hc (fun t b' h _=>⟨b',h,rfl,hne b' fun e=>S.boxOwn t T _ b (e▸h) hT rfl⟩) hchg (by omega) (fun t b h=>by rw [hsz];exact S.boxLt t b h) (fun t v b h h'=>by rw [hsz];exact S.ownLt t v b h h') S.boxInj S.ownInj S.boxOwn S.tapeBox S.tapeOwn
  (S.tapeShift H rfl (fun p hp=>hne p fun e=>S.tapeOwn T _ b (e▸hp) hT rfl) rfl) S.noTape S.fz2 S.fz3 S.tapeNew
theorem Sim.called (S:Sim tt w0 G s a w) (hc:ChgQ (Qt tt) (fun b=>G.tape=some b) w w') (ht:∀p,G.tape=some p→TapeAt tt (fun b=>G.tape=some b) G.hdr.1 G.hdr.2.1 G.hdr.2.2 w p→TapeAt tt (fun b=>G.tape=some b) G.hdr.1 G.hdr.2.1 G.hdr.2.2 w' p):Sim tt w0 G s a w':=by
 have hb:∀b,b<w.heap.size→G.tape≠some b→w'.heap[b]? =w.heap[b]? :=fun b hlt hn=>hc.block b hlt hn
 have H:Shift (fun _=>True) (fun _=>True) G G w w':=⟨fun b h hn=>hb b h fun e=>hn (.inr (.inr e)),fun b _ h=>h,fun b h=>h,fun t v h _=>⟨h,fun b hv=>hb b (S.ownLt t v b h hv).2 fun e=>S.tapeOwn t v b e h hv⟩,fun t b h _=>h,fun p h=>h,fun b h=>hb b (S.fz1 b h).1 fun e=>S.fz3 b e h,fun b h=>h,rfl,fun _ _=>rfl,rfl⟩
 have:=S.shift (f:=id) H (fun v u h=>H.rp (okT v) h) (fun v u h=>H.rc (okT v) h) (fun t b h _=>⟨b,h,rfl,hb b (S.boxLt t b h).2 fun e=>S.tapeBox t b e h⟩) (S.chg.andThen hc fun _ _ h=> .inl h) hc.size
  (fun t b h=>⟨(S.boxLt t b h).1,Nat.lt_of_lt_of_le (S.boxLt t b h).2 hc.size⟩) (fun t v b h h'=>⟨(S.ownLt t v b h h').1,Nat.lt_of_lt_of_le (S.ownLt t v b h h').2 hc.size⟩) S.boxInj S.ownInj S.boxOwn S.tapeBox S.tapeOwn
  (fun htp=>by
    obtain ⟨p,h1,h2⟩:=S.tape htp
    refine ⟨p,h1,?_⟩
    have h3:TapeAt tt (fun b=>G.tape=some b) G.hdr.1 G.hdr.2.1 G.hdr.2.2 w p:=h2.move rfl (fun _ _ _=>rfl) fun b _ h=> .inr (.inr h)
    obtain ⟨xs,k,hB,hI,hk⟩:=ht p h1 h3
    obtain ⟨xs',k',hB',hI',hk'⟩:=h2
    exact ⟨xs',k,hB,hI'.move _ H.sh H.gm,hk⟩) S.noTape S.fz2 S.fz3 S.tapeNew
 rwa [map_id_st] at this
end
section
variable {tt:Nat} {w0:En} {w w':World} {G:Gh} {s:St} {a:Act} {B:Nat}
def GhP (G:Gh) (π:Tg→Option Tg):Gh:={ G with own:=fun t=>(π t).bind G.own }
theorem ghP_own {π:Tg→Option Tg} {t:Tg} {v:Value} (h:(GhP G π).own t=some v):∃t0,π t=some t0∧G.own t0=some v:=Option.bind_eq_some_iff.1 h
theorem ghP_at {π:Tg→Option Tg} {t t0:Tg} (h:π t=some t0):(GhP G π).own t=G.own t0:=by simp [GhP,h]
theorem ghP_gm {π:Tg→Option Tg} {b:Nat} (h:GM (GhP G π) b):GM G b:=by
 rcases h with h|⟨t,v,h,hv⟩|h
 ·exact .inl h
 ·obtain ⟨t0, -,h0⟩:=ghP_own h
  exact .inr (.inl ⟨t0,v,h0,hv⟩)
 ·exact .inr (.inr h)
theorem ghP_shift {π:Tg→Option Tg}:Shift (fun t=>π t=some t) (fun _=>True) G (GhP G π) w w:=
 ⟨fun _ _ _=>rfl,fun _ _ h=>ghP_gm h,fun _ h=>h,fun t v h hk=>⟨(ghP_at hk).trans h,fun _ _=>rfl⟩,fun _ _ h _=>h,fun _ h=>h,fun _ _=>rfl,fun _ h=>h,rfl,fun _ _=>rfl,rfl⟩
theorem Sim.perm (S:Sim tt w0 G s a w) (π:Tg→Option Tg) (hinj:∀t t' x,π t=some x→π t'=some x→t=t') (f:AV→AV)
 (hp:∀v u,RP w0.B G w v u→RP w0.B (GhP G π) w (f v) u) (hc:∀v u,RC w0.B G w v u→RC w0.B (GhP G π) w (f v) u):Sim tt w0 (GhP G π) (s.map f) a w:=
 S.shift (f:=f) ghP_shift hp hc (fun t b h _=>⟨b,h,rfl,rfl⟩) S.chg (Nat.le_refl _) S.boxLt
  (fun t v b h hb=>by obtain ⟨t0, -,h0⟩:=ghP_own h;exact S.ownLt t0 v b h0 hb) S.boxInj
  (fun t t' v v' b h h' k k'=>by
    obtain ⟨t0,p0,h0⟩:=ghP_own h
    obtain ⟨t1,p1,h1⟩:=ghP_own h'
    have:=S.ownInj t0 t1 v v' b h0 h1 k k'
    subst this
    exact hinj t t' t0 p0 p1)
  (fun t t' v b h h' k=>by obtain ⟨t0, -,h0⟩:=ghP_own h';exact S.boxOwn t t0 v b h h0 k) S.tapeBox
  (fun t v b h h' k=>by obtain ⟨t0, -,h0⟩:=ghP_own h';exact S.tapeOwn t0 v b h h0 k)
  (S.tapeShift ghP_shift rfl (fun _ _=>rfl) rfl) S.noTape
  (fun t v b h k hz=>by obtain ⟨t0, -,h0⟩:=ghP_own h;exact S.fz2 t0 v b h0 k hz) S.fz3 S.tapeNew
theorem row_ne {tg:Tg} {t:Nat} (h:(tg.row&&Nat.beq tg.base t)=false) {ko:Tg→Prop} (hr:∀a i,a≠t→ko (.r a i)) {T:Option Nat} (hk:∀a,T≠some a→ko (.s a)∨G.own (.s a)=none) (hv:∀a,T=some a→tg≠ .s a):ko tg∨G.own tg=none:=by
 cases tg with
 |s a=>exact hk a fun e=>hv a e rfl
 |r a i=>
  refine .inl (hr a i fun e=>?_)
  subst e
  simp [Tg.row,Tg.base] at h
theorem rowsF_rc {ko:Tg→Prop} {G':Gh} {t e0 z0:Nat} {f:List (Option (List (List AV)))→List (Option (List (List AV)))} (H:Shift ko (fun _=>True) G G' w w') (hr:∀a i,a≠t→ko (.r a i)) {T:Option Nat} (hk:∀a,T≠some a→ko (.s a)∨G.own (.s a)=none)
 (hm:∀e rows u,RC B G w (.mat t e e0 z0 rows) u→RC B G' w' (.mat t e e0 z0 (f rows)) u) (v:AV) (u:Value) (hv:∀a,T=some a→OkTag (· ≠ .s a) (fun _=>True) v) (h:RC B G w v u):RC B G' w' (rowsF t e0 z0 f v) u:=by
 cases v
 case own t' e z es=>
  simp only [rowsF]
  cases hq:t'.row&&Nat.beq t'.base t with
  |true=>trivial
  |false=>
   rcases row_ne hq hr hk hv with h1|h1
   ·exact H.rc (v:= .own t' e z es) h1 h
   ·rw [h.1] at h1;cases h1
 case mat t' e e2 z2 rows=>
  simp only [rowsF]
  by_cases ht:t'=t
  ·subst ht
   simp only [beq_self,cond_true]
   by_cases he:e2=e0
   ·by_cases hz:z2=z0
    ·subst he hz
     simp only [beq_self,Bool.and_self,cond_true]
     exact hm e rows u h
    ·simp only [beq_ne hz,Bool.and_false,cond_false];trivial
   ·simp only [beq_ne he,Bool.false_and,cond_false];trivial
  ·simp only [beq_ne ht,cond_false]
   rcases hk t' (fun e=>(hv t' e).1 rfl) with h1|h1
   ·exact H.rc (v:= .mat t' e e2 z2 rows) ⟨h1,fun i=>hr _ _ ht⟩ h
   ·have h2:=h.1;rw [h1] at h2;cases h2
 case ept=>simp only [RC] at h;cases h
 case mpt=>simp only [RC] at h;cases h
 case mp=>simp only [RC] at h;cases h
 case mm=>simp only [RC] at h;cases h
 case win=>simp only [RC] at h;cases h
 all_goals exact H.rc (by first|trivial|exact fun v _=>by cases v<;>trivial) h
theorem rowsF_rp {ko:Tg→Prop} {G':Gh} {t e0 z0:Nat} {f:List (Option (List (List AV)))→List (Option (List (List AV)))} (H:Shift ko (fun _=>True) G G' w w') (hr:∀a i,a≠t→ko (.r a i)) {T:Option Nat} (hk:∀a,T≠some a→ko (.s a)∨G.own (.s a)=none)
 (hm:∀e rows u,RC B G w (.mat t e e0 z0 rows) u→RC B G' w' (.mat t e e0 z0 (f rows)) u) (hmp:∀i e2 z2 o u,MptRep B G w t i e2 z2 o u→MptRep B G' w' t i e2 z2 none u) (hmm:∀ks rows u,MmRep B G w t e0 z0 ks rows u→MmRep B G' w' t e0 z0 ks (f rows) u)
 (v:AV) (u:Value) (hv:∀a,T=some a→OkTag (· ≠ .s a) (fun _=>True) v) (h:RP B G w v u):RP B G' w' (rowsF t e0 z0 f v) u:=by
 have hc:=rowsF_rc (B:=B) H hr hk hm
 cases v
 case own t' e z es=>exact (hc (.own t' e z es) u hv h).rp
 case mat t' e e2 z2 rows=>exact (hc (.mat t' e e2 z2 rows) u hv h).rp
 case ept t' i off cs=>
  simp only [rowsF]
  cases hq:t'.row&&Nat.beq t'.base t with
  |true=>trivial
  |false=>
   rcases row_ne hq hr hk hv with h1|h1
   ·exact H.rp (v:= .ept t' i off cs) h1 h
   ·obtain ⟨g,n,c,e,cur,us,h2, -⟩:=h;rw [h1] at h2;cases h2
 case mpt t' i e2 z2 o=>
  simp only [rowsF]
  by_cases ht:t'=t
  ·subst ht
   simp only [beq_self,cond_true]
   exact hmp i e2 z2 o u h
  ·simp only [beq_ne ht,cond_false]
   rcases hk t' (fun e=>(hv t' e).1 rfl) with h1|h1
   ·exact H.rp (v:= .mpt t' i e2 z2 o) ⟨h1,hr _ _ ht⟩ h
   ·obtain ⟨g,n,c,e,cur,h2, -⟩:=h;rw [h1] at h2;cases h2
 case mp t' kvs=>
  simp only [rowsF]
  rcases hk t' (fun e=>hv t' e rfl) with h1|h1
  ·exact H.rp (v:= .mp t' kvs) h1 h
  ·obtain ⟨b,es,c,h2, -⟩:=h;rw [h1] at h2;cases h2
 case mm t' e z ks rows=>
  simp only [rowsF]
  by_cases ht:t'=t
  ·subst ht
   simp only [beq_self,cond_true]
   by_cases he:e=e0
   ·by_cases hz:z=z0
    ·subst he hz
     simp only [beq_self,Bool.and_self,cond_true]
     exact hmm ks rows u h
    ·simp only [beq_ne hz,Bool.and_false,cond_false];trivial
   ·simp only [beq_ne he,Bool.false_and,cond_false];trivial
  ·simp only [beq_ne ht,cond_false]
   rcases hk t' (fun e=>(hv t' e).1 rfl) with h1|h1
   ·exact H.rp (v:= .mm t' e z ks rows) ⟨h1,fun i=>hr _ _ ht⟩ h
   ·obtain ⟨b,es,c,hs,h2, -⟩:=h;rw [h1] at h2;cases h2
 case win t' lo z es=>
  simp only [rowsF]
  cases hq:t'.row&&Nat.beq t'.base t with
  |true=>trivial
  |false=>
   rcases row_ne hq hr hk hv with h1|h1
   ·exact H.rp (v:= .win t' lo z es) h1 h
   ·obtain ⟨g,n,c,e,cur,css,A,c',h2, -⟩:=h;rw [h1] at h2;cases h2
 all_goals exact H.rp (by first|trivial|exact fun v _=>by cases v<;>trivial) h
theorem Sim.dropOwn (S:Sim tt w0 G s a w) (T:Tg):Sim tt w0 (GhP G fun t=>if t=T then none else some t) (s.map (killF T)) a w:=by
 have H:Shift (fun t=>(if t=T then none else some t)=some t) (fun _=>True) G (GhP G fun t=>if t=T then none else some t) w w:=ghP_shift
 have ok:∀v,OkTag (· ≠T) (fun _=>True) v→OkTag (fun t=>(if t=T then none else some t)=some t) (fun _=>True) v:=fun v h=>by
  cases v
  case mat=>exact ⟨if_neg h.1,fun i=>if_neg (h.2 i)⟩
  case mm=>exact ⟨if_neg h.1,fun i=>if_neg (h.2 i)⟩
  case mpt=>exact ⟨if_neg h.1,if_neg h.2⟩
  case fn=>exact h
  case own=>exact if_neg h
  case ept=>exact if_neg h
  case mp=>exact if_neg h
  case win=>exact if_neg h
  all_goals trivial
 refine S.perm _ (fun t t' x h h'=>?_) _ (fun v u h=>?_) (fun v u h=>?_)
 ·split at h
  ·cases h
  ·split at h'
   ·cases h'
   ·injection h with h;injection h' with h';exact h.trans h'.symm
 ·rcases killF_ok (T:=T) (v:=v) with e|⟨e,hk⟩
  ·rw [e];trivial
  ·rw [e];exact H.rp (ok v hk) h
 ·rcases killF_ok (T:=T) (v:=v) with e|⟨e,hk⟩
  ·rw [e];trivial
  ·rw [e];exact H.rc (ok v hk) h
theorem modify_none {rows:List (Option (List (List AV)))} {k i:Nat} {es:List (List AV)} (h:(rows.set k none)[i]? =some (some es)):i≠k∧rows[i]? =some (some es):=by
 rw [List.getElem?_set] at h
 split at h
 ·split at h<;>cases h
 ·next e=>exact ⟨fun e'=>e e'.symm,h⟩
theorem Sim.takeRow (S:Sim tt w0 G s a w) {t k d e z:Nat} {es:List (List AV)} {u:Value} (hd:d≠t) (hd0:G.own (.s d)=none) (h:RC w0.B G w (.own (.r t k) e z es) u):
 ∃G',Sim tt w0 G' (s.map (rowsF t e z (·.set k none))) a w∧RC w0.B G' w (.own (.s d) e z es) u∧(∀v u,RepV w (GX G) v u→RepV w (GX G') v u)∧G'.fz=G.fz∧G'.fw=G.fw:=by
 let π:Tg→Option Tg:=fun tg=>if tg= .s d then some (.r t k) else if tg= .r t k then none else some tg
 have π1:π (.s d)=some (.r t k):=if_pos rfl
 have πk:π (.r t k)=none:=by simp [π]
 have πo:∀tg,tg≠ .s d→tg≠ .r t k→π tg=some tg:=fun tg h1 h2=>by simp [π,h1,h2]
 have H:Shift (fun tg=>π tg=some tg) (fun _=>True) G (GhP G π) w w:=ghP_shift
 have hr:∀a i,a≠t→π (.r a i)=some (.r a i):=fun a i ha=>πo _ nofun (fun e=>ha (by injection e))
 have hk:∀a,(none:Option Nat)≠some a→π (.s a)=some (.s a)∨G.own (.s a)=none:=fun a _=>by
  by_cases ha:a=d
  ·subst ha;exact .inr hd0
  ·exact .inl (πo _ (fun e=>ha (by injection e)) nofun)
 have hst:π (.s t)=some (.s t):=πo _ (fun e=>hd (by injection e with e;exact e.symm)) nofun
 have hm:∀e' rows u,RC w0.B G w (.mat t e' e z rows) u→RC w0.B (GhP G π) w (.mat t e' e z (rows.set k none)) u:=fun e' rows u hh=>by
  obtain ⟨h1,hs,k1,k2⟩:=hh
  refine ⟨(ghP_at hst).trans h1,hs,by rw [List.length_set];exact k1,fun i es hi=>?_⟩
  obtain ⟨hne,hi⟩:=modify_none hi
  obtain ⟨h,q1,q2,q3⟩:=k2 i es hi
  exact ⟨h,q1,(ghP_at (πo (.r t i) nofun fun e=>hne (by injection e))).trans q2,H.ownRep (fun _ _=>rfl) q3⟩
 have hmp:∀i e2 z2 o u,MptRep w0.B G w t i e2 z2 o u→MptRep w0.B (GhP G π) w t i e2 z2 none u:=fun i e2 z2 o u hh=>by
  obtain ⟨g,n,c,e,cur,h1,h2,h3,h4,h5, -⟩:=hh
  exact ⟨g,n,c,e,cur,(ghP_at hst).trans h1,h2,h3,h4,h5,nofun⟩
 have hmm:∀ks rows u,MmRep w0.B G w t e z ks rows u→MmRep w0.B (GhP G π) w t e z ks (rows.set k none) u:=fun ks rows u hh=>by
  obtain ⟨b,es,c,hs,h1,h2,h3,h4,h5,h6,k2,k3⟩:=hh
  refine ⟨b,es,c,hs,(ghP_at hst).trans h1,h2,h3,h4,h5,by rw [List.length_set];exact h6,fun i es hi=>?_,k3⟩
  obtain ⟨hne,hi⟩:=modify_none hi
  obtain ⟨h,q1,q2,q3⟩:=k2 i es hi
  exact ⟨h,q1,(ghP_at (πo (.r t i) nofun fun e=>hne (by injection e))).trans q2,H.ownRep (fun _ _=>rfl) q3⟩
 refine ⟨GhP G π,S.perm π (fun x y q hx hy=>?_) _ (fun v u h=>rowsF_rp H hr hk hm hmp hmm v u nofun h) (fun v u h=>rowsF_rc H hr hk hm v u nofun h),⟨(ghP_at π1).trans h.1,H.ownRep (fun _ _=>rfl) h.2⟩,fun v u h=>H.rep h,rfl,rfl⟩
 simp only [π] at hx hy
 split at hx
 ·next e1=>
  split at hy
  ·next e2=>exact e1.trans e2.symm
  ·split at hy
   ·cases hy
   ·next e3=>injection hx with hx;injection hy with hy;exact absurd (hy.trans hx.symm) e3
 ·split at hx
  ·cases hx
  ·next e3=>
   injection hx with hx
   split at hy
   ·injection hy with hy;exact absurd (hx.trans hy.symm) e3
   ·split at hy
    ·cases hy
    ·injection hy with hy;exact hx.trans hy.symm
theorem Sim.giveRow (S:Sim tt w0 G s a w) {t k T e z:Nat} {es:List (List AV)} {u:Value} (hT:T≠t) (h:RC w0.B G w (.own (.s T) e z es) u):
 ∃G',Sim tt w0 G' (s.map (fun v=>rowsF t e z (·.set k none) (killF (.s T) v))) a w∧RC w0.B G' w (.own (.r t k) e z es) u∧(∀v,G.own (.s t)=some v→G'.own (.s t)=some v)∧G'.fz=G.fz∧G'.fw=G.fw∧∀v u,RC w0.B G w v u→RC w0.B G' w (rowsF t e z (·.set k none) (killF (.s T) v)) u:=by
 let π:Tg→Option Tg:=fun tg=>if tg= .r t k then some (.s T) else if tg= .s T then none else some tg
 have π1:π (.r t k)=some (.s T):=if_pos rfl
 have πo:∀tg,tg≠ .r t k→tg≠ .s T→π tg=some tg:=fun tg h1 h2=>by simp [π,h1,h2]
 have H:Shift (fun tg=>π tg=some tg) (fun _=>True) G (GhP G π) w w:=ghP_shift
 have hr:∀a i,a≠t→π (.r a i)=some (.r a i):=fun a i ha=>πo _ (fun e=>ha (by injection e)) nofun
 have hk:∀a,(some T:Option Nat)≠some a→π (.s a)=some (.s a)∨G.own (.s a)=none:=fun a ha=> .inl (πo _ nofun (fun e=>ha (by injection e with e;rw [e])))
 have hst:π (.s t)=some (.s t):=πo _ nofun (fun e=>hT (by injection e with e;exact e.symm))
 have hm:∀e' rows u,RC w0.B G w (.mat t e' e z rows) u→RC w0.B (GhP G π) w (.mat t e' e z (rows.set k none)) u:=fun e' rows u hh=>by
  obtain ⟨h1,hs,k1,k2⟩:=hh
  refine ⟨(ghP_at hst).trans h1,hs,by rw [List.length_set];exact k1,fun i es hi=>?_⟩
  obtain ⟨hne,hi⟩:=modify_none hi
  obtain ⟨h,q1,q2,q3⟩:=k2 i es hi
  exact ⟨h,q1,(ghP_at (πo (.r t i) (fun e=>hne (by injection e)) nofun)).trans q2,H.ownRep (fun _ _=>rfl) q3⟩
 have hmp:∀i e2 z2 o u,MptRep w0.B G w t i e2 z2 o u→MptRep w0.B (GhP G π) w t i e2 z2 none u:=fun i e2 z2 o u hh=>by
  obtain ⟨g,n,c,e,cur,h1,h2,h3,h4,h5, -⟩:=hh
  exact ⟨g,n,c,e,cur,(ghP_at hst).trans h1,h2,h3,h4,h5,nofun⟩
 have hmm:∀ks rows u,MmRep w0.B G w t e z ks rows u→MmRep w0.B (GhP G π) w t e z ks (rows.set k none) u:=fun ks rows u hh=>by
  obtain ⟨b,es,c,hs,h1,h2,h3,h4,h5,h6,k2,k3⟩:=hh
  refine ⟨b,es,c,hs,(ghP_at hst).trans h1,h2,h3,h4,h5,by rw [List.length_set];exact h6,fun i es hi=>?_,k3⟩
  obtain ⟨hne,hi⟩:=modify_none hi
  obtain ⟨h,q1,q2,q3⟩:=k2 i es hi
  exact ⟨h,q1,(ghP_at (πo (.r t i) (fun e=>hne (by injection e)) nofun)).trans q2,H.ownRep (fun _ _=>rfl) q3⟩
 have hc:∀v u,RC w0.B G w v u→RC w0.B (GhP G π) w (rowsF t e z (·.set k none) (killF (.s T) v)) u:=fun v u h=>by
  rcases killF_ok (T:= .s T) (v:=v) with e1|⟨e1,e2⟩
  ·rw [e1];trivial
  ·rw [e1];exact rowsF_rc H hr hk hm v u (fun a ha=>by injection ha with ha;subst ha;exact e2) h
 refine ⟨GhP G π,S.perm π (fun x y q hx hy=>?_) _ (fun v u h=>?_) hc,⟨(ghP_at π1).trans h.1,H.ownRep (fun _ _=>rfl) h.2⟩,fun v h=>(ghP_at hst).trans h,rfl,rfl,hc⟩
 ·simp only [π] at hx hy
  split at hx
  ·next e1=>
   split at hy
   ·next e2=>exact e1.trans e2.symm
   ·split at hy
    ·cases hy
    ·next e3=>injection hx with hx;injection hy with hy;exact absurd (hy.trans hx.symm) e3
  ·split at hx
   ·cases hx
   ·next e3=>
    injection hx with hx
    split at hy
    ·injection hy with hy;exact absurd (hx.trans hy.symm) e3
    ·split at hy
     ·cases hy
     ·injection hy with hy;exact hx.trans hy.symm
 ·rcases killF_ok (T:= .s T) (v:=v) with e1|⟨e1,e2⟩
  ·rw [e1];trivial
  ·rw [e1];exact rowsF_rp H hr hk hm hmp hmm v u (fun a ha=>by injection ha with ha;subst ha;exact e2) h
theorem row_tag {tg:Tg} {t k:Nat} (h:(tg.row&&Nat.beq tg.base t)=false):tg≠ .r t k:=fun e=>by subst e;simp [Tg.row,Tg.base] at h
theorem undefs_len {cs:List AV}:(undefs cs).length=cs.length:=by simp [undefs]
theorem ept_undef {t:Tg} {i off:Nat} {cs:List AV} {u:Value} {g n c e:Nat} {cur:Array Value} (h1:G.own t=some (.slice (some ⟨g,0,none⟩) n c)) (hu:u= .pointer (some ⟨g,i * cs.length+off,none⟩)) (h3:i<n) (h4:w.heap[g]? =some (.cells cur e (0,0))) (h5:n * cs.length≤cur.size):EptRep G w t i off (undefs cs) u:=by
 have hin:(i+1) * cs.length≤cur.size:=Nat.le_trans (Nat.mul_le_mul_right _ h3) h5
 rw [Nat.add_mul,Nat.one_mul] at hin
 have hl:((cur.toList.drop (i * cs.length)).take cs.length).length=cs.length:=by simp;omega
 refine ⟨g,n,c,e,cur,(cur.toList.drop (i * cs.length)).take cs.length,h1,by rw [undefs_len];exact hu,h3,h4,by rw [undefs_len];exact h5,All2.of (by rw [undefs_len,hl]) fun j a b ha hb=> .inl ?_,fun j v hv=>?_⟩
 ·simp only [undefs,List.getElem?_map,Option.map_eq_some_iff] at ha
  obtain ⟨_,_,rfl⟩:=ha
  rfl
 ·have hj:j<cs.length:=by have:=(List.getElem?_eq_some_iff.1 hv).1;omega
  rw [List.getElem?_take_of_lt hj,List.getElem?_drop,Array.getElem?_toList] at hv
  rw [undefs_len,(show Blk w g e cur from h4).cell]
  exact hv
set_option maxHeartbeats 1000000 in
theorem Sim.storeRow (S:Sim tt w0 G s a w) {t k i off z g n c:Nat} {x:AV} {u:Value} (hT:G.own (.r t k)=some (.slice (some ⟨g,0,none⟩) n c)) (hi:i<n) (ho:off<z) (hx:RepV w (GX G) x u):
 Sim tt w0 G (s.map (storeR t k z i off x)) a (w.setCell ⟨g,i * z+off,none⟩ u):=by
 have hne:∀b,b≠g→(w.setCell ⟨g,i * z+off,none⟩ u).heap[b]? =w.heap[b]? :=fun b hb=>Below.heap_setCell _ _ _ _ hb
 have hg:GM G g:= .inr (.inl ⟨.r t k,_,hT,rfl⟩)
 have H:Shift (· ≠Tg.r t k) (fun _=>True) G G w (w.setCell ⟨g,i * z+off,none⟩ u):=⟨fun b _ hn=>hne b fun e=>hn (e▸hg),fun b _ h=>h,fun b h=>h,fun t' v h hk=>⟨h,fun b hv=>hne b fun e=>hk (S.ownInj t' (.r t k) v _ g h hT (e▸hv) rfl)⟩,fun t b h _=>h,fun p h=>h,fun b h=>hne b fun e=>S.fz2 (.r t k) _ g hT rfl (e▸h),fun b h=>h,rfl,fun _ _=>rfl,rfl⟩
 have hX:=H.rep hx
 have hc:∀v u',RC w0.B G w v u'→RC w0.B G (w.setCell ⟨g,i * z+off,none⟩ u) (storeR t k z i off x v) u':=fun v u' h=>by
  cases v
  case own t' e z' es=>
   cases t' with
   |s a=>exact H.rc (v:= .own (.s a) e z' es) nofun h
   |r t1 k1=>
    simp only [storeR,rowOwn]
    by_cases ht:t1=t
    ·subst ht
     simp only [beq_self,cond_true]
     by_cases hz:z'=z
     ·subst hz
      simp only [beq_self,cond_true]
      by_cases hk:k1=k
      ·subst hk
       simp only [beq_self,cond_true]
       obtain ⟨h1,css,q3,q4⟩:=h
       rw [hT] at h1
       injection h1 with h1
       subst h1
       obtain ⟨hl,hl'⟩:=OwnRep.lens q4
       have hn:n=es.length:=by
        rcases q3.2 with ⟨e1,_⟩|⟨g',cap,cur,e1,_⟩
        ·cases e1
        ·injection e1
       subst hn
       refine ⟨hT,css.modify i (·.set off u),?_,?_⟩
       ·rw [flatten_set hl (by rw [←q4.len];exact hi) ho,List.length_modify]
        exact (q3.stored _ u).1
       ·exact All2.modify (fun ds cs hd=>⟨by simpa using hd.1,hd.2.set off hX⟩) i (q4.mono fun _ _ hd=>⟨hd.1,hd.2.mono fun _ _ h=>H.rep h⟩)
      ·simp only [beq_ne hk,cond_false]
       exact H.rc (v:= .own (.r t1 k1) e z' es) (fun e=>hk (by injection e)) h
     ·simp only [beq_ne hz,cond_false];trivial
    ·simp only [beq_ne ht,cond_false]
     exact H.rc (v:= .own (.r t1 k1) e z' es) (fun e=>ht (by injection e)) h
  case mat t' e e2 z2 rows=>
   simp only [storeR]
   by_cases ht:t'=t
   ·subst ht
    simp only [beq_self,cond_true]
    by_cases hz:z2=z
    ·subst hz
     simp only [beq_self,cond_true]
     obtain ⟨h1,hs,k1,k2⟩:=h
     refine ⟨h1,hs,by rw [List.length_modify];exact ownsRow_move k1 (H.own _ _ h1 nofun).2,fun i' es hi'=>?_⟩
     rw [List.getElem?_modify] at hi'
     cases hr:rows[i']? with
     |none=>rw [hr] at hi';cases hi'
     |some o=>
      rw [hr] at hi'
      have hi2:(if k=i' then Go.Proofs.YtihjphblcohdeaaGreatDoor.storeRow i off x o else o)=some es:=by
       injection hi'
      by_cases hk:k=i'
      ·subst hk
       rw [if_pos rfl] at hi2
       cases o with
       |none=>cases hi2
       |some es0=>
        simp only [Go.Proofs.YtihjphblcohdeaaGreatDoor.storeRow,Option.some.injEq] at hi2
        subst hi2
        obtain ⟨h,q1,q2,css,q3,q4⟩:=k2 k es0 hr
        rw [hT] at q2
        injection q2 with q2
        subst q2
        obtain ⟨hl,hl'⟩:=OwnRep.lens q4
        have hn:n=es0.length:=by
         rcases q3.2 with ⟨e1,_⟩|⟨g',cap,cur,e1,_⟩
         ·cases e1
         ·injection e1
        subst hn
        refine ⟨_,q1,hT,css.modify i (·.set off u),?_,?_⟩
        ·rw [flatten_set hl (by rw [←q4.len];exact hi) ho,List.length_modify]
         exact (q3.stored _ u).1
        ·exact All2.modify (fun ds cs hd=>⟨by simpa using hd.1,hd.2.set off hX⟩) i (q4.mono fun _ _ hd=>⟨hd.1,hd.2.mono fun _ _ h=>H.rep h⟩)
      ·rw [if_neg hk] at hi2
       subst hi2
       obtain ⟨h,q1,q2,q3⟩:=k2 i' es hr
       obtain ⟨m1,m2⟩:=H.own (.r t' i') h q2 (fun e=>hk (by injection e with _ e;exact e.symm))
       exact ⟨h,q1,m1,H.ownRep m2 q3⟩
    ·simp only [beq_ne hz,cond_false];trivial
   ·simp only [beq_ne ht,cond_false]
    exact H.rc (v:= .mat t' e e2 z2 rows) ⟨nofun,fun i e=>ht (by injection e)⟩ h
  case ept=>simp only [RC] at h;cases h
  case mpt=>simp only [RC] at h;cases h
  case mp=>simp only [RC] at h;cases h
  case mm=>simp only [RC] at h;cases h
  case win=>simp only [RC] at h;cases h
  all_goals exact H.rc (by first|trivial|exact fun v _=>by cases v<;>trivial) h
 have hp:∀v u',RP w0.B G w v u'→RP w0.B G (w.setCell ⟨g,i * z+off,none⟩ u) (storeR t k z i off x v) u':=fun v u' h=>by
  cases v
  case own t' e z' es=>exact (hc (.own t' e z' es) u' h).rp
  case mat t' e e2 z2 rows=>exact (hc (.mat t' e e2 z2 rows) u' h).rp
  case ept t' i' off' cs=>
   simp only [storeR]
   cases hq:t'.row&&Nat.beq t'.base t with
   |true=>
    simp only [cond_true]
    obtain ⟨g',n',c',e,cur,us,h1,rfl,h3,h4,h4',h5,h6⟩:=h
    by_cases hgg:g'=g
    ·subst hgg
     exact ept_undef h1 rfl h3 (show Blk _ _ _ _ from (show Blk w g' e cur from h4).stored _ u) (by simpa using h4')
    ·exact ept_undef h1 rfl h3 ((hne g' hgg).trans h4) h4'
   |false=>exact H.rp (v:= .ept t' i' off' cs) (row_tag hq) h
  case mpt t' i' e2 z2 o=>
   simp only [storeR]
   by_cases ht:t'=t
   ·subst ht
    simp only [beq_self,cond_true]
    obtain ⟨g',n',c',e,cur,h1,h2,h3,h4,h5,h6⟩:=h
    have hB:=((H.own _ _ h1 nofun).2 g' rfl).trans h4
    by_cases hz:z2=z
    ·subst hz
     simp only [beq_self,cond_true]
     by_cases hk:i'=k
     ·subst hk
      simp only [beq_self,cond_true]
      refine ⟨g',n',c',e,cur,h1,h2,h3,hB,h5,fun es he=>?_⟩
      cases o with
      |none=>cases he
      |some es0=>
       injection he with he
       subst he
       obtain ⟨hd,q1,q2,q3⟩:=h6 es0 rfl
       have hr:=hc (.own (.r t' i') e2 z2 es0) hd ⟨q2,q3⟩
       simp only [storeR,rowOwn,beq_self,cond_true] at hr
       exact ⟨hd,q1,hr.1,hr.2⟩
     ·simp only [beq_ne hk,cond_false]
      refine ⟨g',n',c',e,cur,h1,h2,h3,hB,h5,fun es he=>?_⟩
      obtain ⟨hd,q1,q2,q3⟩:=h6 es he
      have hr:=H.rc (v:= .own (.r t' i') e2 z2 es) (B:=w0.B) (fun e=>hk (by injection e)) ⟨q2,q3⟩
      exact ⟨hd,q1,hr.1,hr.2⟩
    ·simp only [beq_ne hz,cond_false]
     exact ⟨g',n',c',e,cur,h1,h2,h3,hB,h5,nofun⟩
   ·simp only [beq_ne ht,cond_false]
    exact H.rp (v:= .mpt t' i' e2 z2 o) ⟨nofun,fun e=>ht (by injection e)⟩ h
  case mp t' kvs=>exact H.rp (v:= .mp t' kvs) nofun h
  case mm t' e1 z1 ks rows=>
   simp only [storeR]
   by_cases ht:t'=t
   ·subst ht;simp only [beq_self,cond_true];trivial
   ·simp only [beq_ne ht,cond_false]
    exact H.rp (v:= .mm t' e1 z1 ks rows) ⟨nofun,fun i e=>ht (by injection e)⟩ h
  case win t' lo z' es=>
   simp only [storeR]
   cases hq:t'.row&&Nat.beq t'.base t with
   |true=>trivial
   |false=>exact H.rp (v:= .win t' lo z' es) (row_tag hq) h
  all_goals exact H.rp (by first|trivial|exact fun v _=>by cases v<;>trivial) h
 have hsz:(w.setCell ⟨g,i * z+off,none⟩ u).heap.size=w.heap.size:=by simp [World.setCell]
 have hlt:=S.ownLt (.r t k) _ g hT rfl
 exact S.shift (f:=storeR t k z i off x) H hp hc (fun t' b h _=>⟨b,h,rfl,hne b fun e=>S.boxOwn t' (.r t k) _ g (e▸h) hT rfl⟩) (S.chg.setCell (hlt.1.symm.imp .inr id) _) (by omega) (fun t b h=>by rw [hsz];exact S.boxLt t b h) (fun t v b h h'=>by rw [hsz];exact S.ownLt t v b h h') S.boxInj S.ownInj S.boxOwn S.tapeBox S.tapeOwn
  (S.tapeShift H rfl (fun p hp=>hne p fun e=>S.tapeOwn (.r t k) _ g (e▸hp) hT rfl) rfl) S.noTape S.fz2 S.fz3 S.tapeNew
theorem Sim.storeTg (S:Sim tt w0 G s a w) {T:Tg} {i off z g n c:Nat} {x:AV} {u:Value} (hT:G.own T=some (.slice (some ⟨g,0,none⟩) n c)) (hi:i<n) (ho:off<z) (hx:RepV w (GX G) x u):
 Sim tt w0 G (s.map (storeF T z i off x)) a (w.setCell ⟨g,i * z+off,none⟩ u):=by
 cases T with
 |s t=>exact S.storeOwn hT hi ho hx
 |r t k=>exact S.storeRow hT hi ho hx
theorem OwnRep.go {X Y:Nat→Prop} {e z:Nat} {es:List (List AV)} {u:Value} (h:OwnRep B X w e z es u) (hb:∀b,u.ownBlock=some b→w'.heap[b]? =w.heap[b]?) (hr:∀v u,RepV w X v u→RepV w' Y v u):OwnRep B Y w' e z es u:=by
 obtain ⟨css,h1,h2⟩:=h
 exact ⟨css,ownsRow_move h1 hb,h2.mono fun _ _ h=>⟨h.1,h.2.mono hr⟩⟩
theorem eqb_base {tg:Tg} {t T:Nat} (h:(Nat.beq tg.base t||Tg.eqb tg (.s T))=false):tg.base≠t∧tg≠ .s T:=by
 rw [Bool.or_eq_false_iff] at h
 exact ⟨fun e=>by rw [e] at h;simp at h,fun e=>by rw [e,Tg.eqb_self] at h;cases h.2⟩
theorem set_at {α:Type} {rows:List α} {k i:Nat} {x y:α} (h:(rows.set k x)[i]? =some y):(i=k∧k<rows.length∧y=x)∨(i≠k∧rows[i]? =some y):=by
 rw [List.getElem?_set] at h
 split at h
 ·next e=>
  split at h
  ·next hl=>injection h with h;exact .inl ⟨e.symm,hl,h.symm⟩
  ·cases h
 ·next e=>exact .inr ⟨fun e'=>e e'.symm,h⟩
theorem Sim.linkRow (S:Sim tt w0 G s a w) {t T i off z e2 z2 g n c e d:Nat} {cur:Array Value} {es:List (List AV)} {u:Value} (hTt:T≠t) (hg:G.own (.s t)=some (.slice (some ⟨g,0,none⟩) n c)) (hi:i<n) (ho:off<z) (hh:w.heap[g]? =some (.cells cur e (0,0))) (hn:n * z≤cur.size)
 (hu:RC w0.B G w (.own (.s T) e2 z2 es) u) (hd:Act.at w0 a d= .pointer (some ⟨g,i * z+off,none⟩)) (hone:u.oneCell'=true):
 ∃G',Sim tt w0 G' (((s.map (storeF (.s t) z i off .undef)).map fun v=>rowsF t e2 z2 (·.set (i * z+off) none) (killF (.s T) v)).put d (.mpt t (i * z+off) e2 z2 (some es))) a (w.setCell ⟨g,i * z+off,none⟩ u)∧G'.fz=G.fz∧G'.fw=G.fw:=by
 have S1:=S.storeTg hg hi ho (RepV.undef (w:=w) (X:=GX G) u hone)
 have hne:∀b,b≠g→(w.setCell ⟨g,i * z+off,none⟩ u).heap[b]? =w.heap[b]? :=fun b hb=>Below.heap_setCell _ _ _ _ hb
 have hB':(w.setCell ⟨g,i * z+off,none⟩ u).heap[g]? =some (.cells (cur.setIfInBounds (i * z+off) u) e (0,0)):=(show Blk w g e cur from hh).stored _ u
 have uB:∀b,u.ownBlock=some b→(w.setCell ⟨g,i * z+off,none⟩ u).heap[b]? =w.heap[b]? :=fun b hb=>hne b fun e=>hTt (by have:=S.ownInj (.s T) (.s t) u _ g hu.1 hg (e▸hb) rfl;injection this)
 have hgm:GM G g:= .inr (.inl ⟨.s t,_,hg,rfl⟩)
 have hu':RC w0.B G (w.setCell ⟨g,i * z+off,none⟩ u) (.own (.s T) e2 z2 es) u:=by
  obtain ⟨h1,css,h2,h3⟩:=hu
  exact ⟨h1,css,ownsRow_move h2 uB,h3.mono fun _ _ h=>⟨h.1,h.2.mono fun _ _ h=>h.move (fun b _ hx=>hne b fun e=>hx (.inl (e▸hgm))) fun _ _ h=>h⟩⟩
 obtain ⟨G',S2,hr,hst,f1,f2, -⟩:=S1.giveRow (t:=t) (k:=i * z+off) (T:=T) hTt hu'
 have hin:i * z+off<cur.size:=by
  have:(i+1) * z≤n * z:=Nat.mul_le_mul_right _ hi
  rw [Nat.add_mul] at this
  omega
 have hnz:n≤n * z:=Nat.le_mul_of_pos_right n (by omega)
 refine ⟨G',S2.know (v:= .mpt t (i * z+off) e2 z2 (some es)) ⟨g,n,c,e,cur.setIfInBounds (i * z+off) u,hst _ hg,hd,by simpa using hin,hB',by simp;omega,fun es' he=>?_⟩,f1,f2⟩
 injection he with he
 subst he
 exact ⟨u,by simp [hin],hr.1,hr.2⟩
set_option maxHeartbeats 2000000 in
theorem Sim.setRow (S:Sim tt w0 G s a w) {t k T e z g n c e0:Nat} {cur:Array Value} {es:List (List AV)} {u:Value} (hTt:T≠t) (hg:G.own (.s t)=some (.slice (some ⟨g,0,none⟩) n c)) (hk:k<cur.size) (hh:w.heap[g]? =some (.cells cur e0 (0,0))) (hn:n≤cur.size) (hu:RC w0.B G w (.own (.s T) e z es) u):
 ∃G',Sim tt w0 G' (s.map (setRowF t k T e z es)) a (w.setCell ⟨g,k,none⟩ u)∧G'.fz=G.fz∧G'.fw=G.fw:=by
 let π:Tg→Option Tg:=fun tg=>if tg= .r t k then some (.s T) else if tg= .s T then none else some tg
 have π1:π (.r t k)=some (.s T):=if_pos rfl
 have πo:∀tg,tg≠ .r t k→tg≠ .s T→π tg=some tg:=fun tg h1 h2=>by simp [π,h1,h2]
 have hinj:∀x y q,π x=some q→π y=some q→x=y:=fun x y q hx hy=>by
  simp only [π] at hx hy
  split at hx
  ·next e1=>
   split at hy
   ·next e2=>exact e1.trans e2.symm
   ·split at hy
    ·cases hy
    ·next e3=>injection hx with hx;injection hy with hy;exact absurd (hy.trans hx.symm) e3
  ·split at hx
   ·cases hx
   ·next e3=>
    injection hx with hx
    split at hy
    ·injection hy with hy;exact absurd (hx.trans hy.symm) e3
    ·split at hy
     ·cases hy
     ·injection hy with hy;exact hx.trans hy.symm
 generalize hw':w.setCell ⟨g,k,none⟩ u=w'
 have hne:∀b,b≠g→w'.heap[b]? =w.heap[b]? :=fun b hb=>by rw [←hw'];exact Below.heap_setCell _ _ _ _ hb
 have hB':w'.heap[g]? =some (.cells (cur.setIfInBounds k u) e0 (0,0)):=by rw [←hw'];exact (show Blk w g e0 cur from hh).stored k u
 have hgm:GM G g:= .inr (.inl ⟨.s t,_,hg,rfl⟩)
 have hst:π (.s t)=some (.s t):=πo _ nofun (fun e=>hTt (by injection e with e;exact e.symm))
 have H:Shift (fun tg=>π tg=some tg∧tg≠ .s t) (fun _=>True) G (GhP G π) w w':=
  ⟨fun b _ hn=>hne b fun e=>hn (e▸hgm),fun b _ h=>ghP_gm h,fun b h=>h,fun t' v h hk=>⟨(ghP_at hk.1).trans h,fun b hv=>hne b fun e=>hk.2 (S.ownInj t' (.s t) v _ g h hg (e▸hv) rfl)⟩,fun _ _ h _=>h,fun _ h=>h,fun b h=>hne b fun e=>S.fz2 (.s t) _ g hg rfl (e▸h),fun _ h=>h,rfl,fun _ _=>rfl,rfl⟩
 have uB:∀b,u.ownBlock=some b→w'.heap[b]? =w.heap[b]? :=fun b hb=>hne b fun e=>hTt (by have:=S.ownInj (.s T) (.s t) u _ g hu.1 hg (e▸hb) rfl;injection this)
 have hU:OwnRep w0.B (GX (GhP G π)) w' e z es u:=H.ownRep uB hu.2
 have kr:∀i,i≠k→∀h,G.own (.r t i)=some h→(GhP G π).own (.r t i)=some h∧∀b,h.ownBlock=some b→w'.heap[b]? =w.heap[b]? :=fun i hi h hh=>H.own _ h hh ⟨πo _ (fun e=>hi (by injection e)) nofun,nofun⟩
 have okT':∀tg:Tg,tg.base≠t→tg≠ .s T→π tg=some tg∧tg≠ .s t:=fun tg h1 h2=>⟨πo tg (fun e=>h1 (by rw [e];rfl)) h2,fun e=>h1 (by rw [e];rfl)⟩
 have hc:∀v u',RC w0.B G w v u'→RC w0.B (GhP G π) w' (setRowF t k T e z es v) u':=fun v u' h=>by
  cases v
  case own t' e' z' es'=>
   simp only [setRowF]
   cases hq:Nat.beq t'.base t||Tg.eqb t' (.s T) with
   |true=>trivial
   |false=>obtain ⟨h1,h2⟩:=eqb_base hq;exact H.rc (v:= .own t' e' z' es') (okT' t' h1 h2) h
  case mat t' e' e2 z2 rows=>
   simp only [setRowF]
   by_cases ht:t'=t
   ·subst ht
    simp only [beq_self,cond_true]
    by_cases he:e2=e
    ·by_cases hz:z2=z
     ·subst he hz
      simp only [beq_self,Bool.and_self,cond_true]
      obtain ⟨h1,hs,k1,k2⟩:=h
      rw [hg] at h1
      injection h1 with h1
      subst h1
      have hnr:n=rows.length:=by
       rcases k1.2 with ⟨e1,_⟩|⟨g',cap,cur',e1,_⟩
       ·cases e1
       ·injection e1
      refine ⟨(ghP_at hst).trans hg,hs.set k u,?_,fun i es' hi=>?_⟩
      ·rw [List.length_set,←hw',←hnr]
       rw [←hnr] at k1
       have:=(k1.stored k u).1
       simpa using this
      ·rcases set_at hi with ⟨rfl,hkr,e1⟩|⟨hik,hi2⟩
       ·injection e1 with e1
        subst e1
        have hkl:i<hs.length:=by have:=k1.1;omega
        exact ⟨u,by simp [hkl],(ghP_at π1).trans hu.1,hU⟩
       ·obtain ⟨h,q1,q2,q3⟩:=k2 i es' hi2
        obtain ⟨m1,m2⟩:=kr i hik h q2
        exact ⟨h,by rw [List.getElem?_set_ne (Ne.symm hik)];exact q1,m1,H.ownRep m2 q3⟩
     ·simp only [beq_ne hz,Bool.and_false,cond_false];trivial
    ·simp only [beq_ne he,Bool.false_and,cond_false];trivial
   ·simp only [beq_ne ht,cond_false]
    by_cases hT:t'=T
    ·subst hT;simp only [beq_self,cond_true];trivial
    ·simp only [beq_ne hT,cond_false]
     exact H.rc (v:= .mat t' e' e2 z2 rows) ⟨okT' _ ht (fun e=>hT (by injection e)),fun i=>okT' _ ht nofun⟩ h
  case ept=>simp only [RC] at h;cases h
  case mpt=>simp only [RC] at h;cases h
  case mp=>simp only [RC] at h;cases h
  case mm=>simp only [RC] at h;cases h
  case win=>simp only [RC] at h;cases h
  all_goals exact H.rc (by first|trivial|exact fun v _=>by cases v<;>trivial) h
 have hp:∀v u',RP w0.B G w v u'→RP w0.B (GhP G π) w' (setRowF t k T e z es v) u':=fun v u' h=>by
  cases v
  case own t' e' z' es'=>exact (hc (.own t' e' z' es') u' h).rp
  case mat t' e' e2 z2 rows=>exact (hc (.mat t' e' e2 z2 rows) u' h).rp
  case ept t' i off cs=>
   simp only [setRowF]
   cases hq:Nat.beq t'.base t||Tg.eqb t' (.s T) with
   |true=>trivial
   |false=>obtain ⟨h1,h2⟩:=eqb_base hq;exact H.rp (v:= .ept t' i off cs) (okT' t' h1 h2) h
  case mpt t' i e2 z2 o=>
   simp only [setRowF]
   by_cases ht:t'=t
   ·subst ht
    simp only [beq_self,cond_true]
    obtain ⟨g',n',c',e',cur',h1,rfl,h3,h4,h5, -⟩:=h
    rw [hg] at h1
    simp only [Option.some.injEq,Value.slice.injEq,Addr.mk.injEq,and_true] at h1
    obtain ⟨rfl,rfl,rfl⟩:=h1
    rw [hh] at h4
    simp only [Option.some.injEq,Obj.cells.injEq,and_true] at h4
    obtain ⟨rfl,rfl⟩:=h4
    exact ⟨g,n,c,e0,cur.setIfInBounds k u,(ghP_at hst).trans hg,rfl,by simpa using h3,hB',by simpa using h5,nofun⟩
   ·simp only [beq_ne ht,cond_false]
    by_cases hT:t'=T
    ·subst hT;simp only [beq_self,cond_true];trivial
    ·simp only [beq_ne hT,cond_false]
     exact H.rp (v:= .mpt t' i e2 z2 o) ⟨okT' _ ht (fun e=>hT (by injection e)),okT' _ ht nofun⟩ h
  case mp t' kvs=>
   simp only [setRowF]
   by_cases ht:t'=t
   ·subst ht;simp only [beq_self,Bool.true_or,cond_true];trivial
   ·by_cases hT:t'=T
    ·subst hT;simp only [beq_self,Bool.or_true,cond_true];trivial
    ·simp only [beq_ne ht,beq_ne hT,Bool.or_self,cond_false]
     exact H.rp (v:= .mp t' kvs) (okT' _ ht (fun e=>hT (by injection e))) h
  case mm t' e1 z1 ks rows=>
   simp only [setRowF]
   by_cases ht:t'=t
   ·subst ht;simp only [beq_self,Bool.true_or,cond_true];trivial
   ·by_cases hT:t'=T
    ·subst hT;simp only [beq_self,Bool.or_true,cond_true];trivial
    ·simp only [beq_ne ht,beq_ne hT,Bool.or_self,cond_false]
     exact H.rp (v:= .mm t' e1 z1 ks rows) ⟨okT' _ ht (fun e=>hT (by injection e)),fun i=>okT' _ ht nofun⟩ h
  case win t' lo z' es'=>
   simp only [setRowF]
   cases hq:Nat.beq t'.base t||Tg.eqb t' (.s T) with
   |true=>trivial
   |false=>obtain ⟨h1,h2⟩:=eqb_base hq;exact H.rp (v:= .win t' lo z' es') (okT' t' h1 h2) h
  all_goals exact H.rp (by first|trivial|exact fun v _=>by cases v<;>trivial) h
 have hsz:w'.heap.size=w.heap.size:=by rw [←hw'];simp [World.setCell]
 have hlt:=S.ownLt (.s t) _ g hg rfl
 refine ⟨GhP G π,S.shift (f:=setRowF t k T e z es) H hp hc (fun t' b h _=>⟨b,h,rfl,hne b fun e=>S.boxOwn t' (.s t) _ g (e▸h) hg rfl⟩) (by rw [←hw'];exact S.chg.setCell (hlt.1.symm.imp .inr id) _) (by omega) (fun t b h=>by rw [hsz];exact S.boxLt t b h)
  (fun t v b h hb=>by obtain ⟨t0, -,h0⟩:=ghP_own h;rw [hsz];exact S.ownLt t0 v b h0 hb) S.boxInj
  (fun x y v v' b h h' k k'=>by
    obtain ⟨t0,p0,h0⟩:=ghP_own h
    obtain ⟨t1,p1,h1⟩:=ghP_own h'
    have:=S.ownInj t0 t1 v v' b h0 h1 k k'
    subst this
    exact hinj x y t0 p0 p1)
  (fun t t' v b h h' k=>by obtain ⟨t0, -,h0⟩:=ghP_own h';exact S.boxOwn t t0 v b h h0 k) S.tapeBox
  (fun t v b h h' k=>by obtain ⟨t0, -,h0⟩:=ghP_own h';exact S.tapeOwn t0 v b h h0 k)
  (S.tapeShift H rfl (fun p hp=>hne p fun e=>S.tapeOwn (.s t) _ g (e▸hp) hg rfl) rfl) S.noTape
  (fun t v b h k hz=>by obtain ⟨t0, -,h0⟩:=ghP_own h;exact S.fz2 t0 v b h0 k hz) S.fz3 S.tapeNew,rfl,rfl⟩
theorem Sim.setRowSame (S:Sim tt w0 G s a w) {t k e z g n c e0:Nat} {cur:Array Value} {es:List (List AV)} {u:Value} (hg:G.own (.s t)=some (.slice (some ⟨g,0,none⟩) n c)) (hk:k<cur.size) (hh:w.heap[g]? =some (.cells cur e0 (0,0))) (hn:n≤cur.size) (hu:RC w0.B G w (.own (.r t k) e z es) u):
 Sim tt w0 G (s.map (setRowS t k e z es)) a (w.setCell ⟨g,k,none⟩ u):=by
 generalize hw':w.setCell ⟨g,k,none⟩ u=w'
 have hne:∀b,b≠g→w'.heap[b]? =w.heap[b]? :=fun b hb=>by rw [←hw'];exact Below.heap_setCell _ _ _ _ hb
 have hB':w'.heap[g]? =some (.cells (cur.setIfInBounds k u) e0 (0,0)):=by rw [←hw'];exact (show Blk w g e0 cur from hh).stored k u
 have hgm:GM G g:= .inr (.inl ⟨.s t,_,hg,rfl⟩)
 have H:Shift (· ≠Tg.s t) (fun _=>True) G G w w':=
  ⟨fun b _ hn=>hne b fun e=>hn (e▸hgm),fun b _ h=>h,fun b h=>h,fun t' v h hk=>⟨h,fun b hv=>hne b fun e=>hk (S.ownInj t' (.s t) v _ g h hg (e▸hv) rfl)⟩,fun _ _ h _=>h,fun _ h=>h,fun b h=>hne b fun e=>S.fz2 (.s t) _ g hg rfl (e▸h),fun _ h=>h,rfl,fun _ _=>rfl,rfl⟩
 have hU:=H.rc (v:= .own (.r t k) e z es) (B:=w0.B) (u:=u) (by nofun) hu
 have kr:∀i h,G.own (.r t i)=some h→∀b,h.ownBlock=some b→w'.heap[b]? =w.heap[b]? :=fun i h hh=>(H.own _ h hh nofun).2
 have hc:∀v u',RC w0.B G w v u'→RC w0.B G w' (setRowS t k e z es v) u':=fun v u' h=>by
  cases v
  case own t' e' z' es'=>
   by_cases ht:t'= .s t
   ·subst ht;simp only [setRowS,Tg.eqb_self,cond_true];trivial
   ·simp only [setRowS,Tg.eqb_ne ht,cond_false];exact H.rc (v:= .own t' e' z' es') ht h
  case mat t' e' e2 z2 rows=>
   simp only [setRowS]
   by_cases ht:t'=t
   ·subst ht
    simp only [beq_self,cond_true]
    by_cases he:e2=e
    ·by_cases hz:z2=z
     ·subst he hz
      simp only [beq_self,Bool.and_self,cond_true]
      obtain ⟨h1,hs,k1,k2⟩:=h
      rw [hg] at h1
      injection h1 with h1
      subst h1
      have hnr:n=rows.length:=by
       rcases k1.2 with ⟨e1,_⟩|⟨g',cap,cur',e1,_⟩
       ·cases e1
       ·injection e1
      refine ⟨hg,hs.set k u,?_,fun i es' hi=>?_⟩
      ·rw [List.length_set,←hw',←hnr]
       rw [←hnr] at k1
       have:=(k1.stored k u).1
       simpa using this
      ·rcases set_at hi with ⟨rfl,hkr,e1⟩|⟨hik,hi2⟩
       ·injection e1 with e1
        subst e1
        have hkl:i<hs.length:=by have:=k1.1;omega
        exact ⟨u,by simp [hkl],hU.1,hU.2⟩
       ·obtain ⟨h,q1,q2,q3⟩:=k2 i es' hi2
        exact ⟨h,by rw [List.getElem?_set_ne (Ne.symm hik)];exact q1,q2,H.ownRep (kr i h q2) q3⟩
     ·simp only [beq_ne hz,Bool.and_false,cond_false];trivial
    ·simp only [beq_ne he,Bool.false_and,cond_false];trivial
   ·simp only [beq_ne ht,cond_false]
    exact H.rc (v:= .mat t' e' e2 z2 rows) ⟨fun e=>ht (by injection e),fun i=>nofun⟩ h
  case ept=>simp only [RC] at h;cases h
  case mpt=>simp only [RC] at h;cases h
  case mp=>simp only [RC] at h;cases h
  case mm=>simp only [RC] at h;cases h
  case win=>simp only [RC] at h;cases h
  all_goals exact H.rc (by first|trivial|exact fun v _=>by cases v<;>trivial) h
 have hp:∀v u',RP w0.B G w v u'→RP w0.B G w' (setRowS t k e z es v) u':=fun v u' h=>by
  cases v
  case own t' e' z' es'=>exact (hc (.own t' e' z' es') u' h).rp
  case mat t' e' e2 z2 rows=>exact (hc (.mat t' e' e2 z2 rows) u' h).rp
  case ept t' i off cs=>
   by_cases ht:t'= .s t
   ·subst ht;simp only [setRowS,Tg.eqb_self,cond_true];trivial
   ·simp only [setRowS,Tg.eqb_ne ht,cond_false];exact H.rp (v:= .ept t' i off cs) ht h
  case win t' lo z' es'=>
   by_cases ht:t'= .s t
   ·subst ht;simp only [setRowS,Tg.eqb_self,cond_true];trivial
   ·simp only [setRowS,Tg.eqb_ne ht,cond_false];exact H.rp (v:= .win t' lo z' es') ht h
  case mpt t' i e2 z2 o=>
   simp only [setRowS]
   by_cases ht:t'=t
   ·subst ht
    simp only [beq_self,cond_true]
    obtain ⟨g',n',c',e',cur',h1,rfl,h3,h4,h5, -⟩:=h
    rw [hg] at h1
    simp only [Option.some.injEq,Value.slice.injEq,Addr.mk.injEq,and_true] at h1
    obtain ⟨rfl,rfl,rfl⟩:=h1
    rw [hh] at h4
    simp only [Option.some.injEq,Obj.cells.injEq,and_true] at h4
    obtain ⟨rfl,rfl⟩:=h4
    exact ⟨g,n,c,e0,cur.setIfInBounds k u,hg,rfl,by simpa using h3,hB',by simpa using h5,nofun⟩
   ·simp only [beq_ne ht,cond_false]
    exact H.rp (v:= .mpt t' i e2 z2 o) ⟨fun e=>ht (by injection e),nofun⟩ h
  case mp t' kvs=>
   simp only [setRowS]
   by_cases ht:t'=t
   ·subst ht;simp only [beq_self,cond_true];trivial
   ·simp only [beq_ne ht,cond_false];exact H.rp (v:= .mp t' kvs) (fun e=>ht (by injection e)) h
  case mm t' e1 z1 ks rows=>
   simp only [setRowS]
   by_cases ht:t'=t
   ·subst ht;simp only [beq_self,cond_true];trivial
   ·simp only [beq_ne ht,cond_false];exact H.rp (v:= .mm t' e1 z1 ks rows) ⟨fun e=>ht (by injection e),fun i=>nofun⟩ h
  all_goals exact H.rp (by first|trivial|exact fun v _=>by cases v<;>trivial) h
 have hsz:w'.heap.size=w.heap.size:=by rw [←hw'];simp [World.setCell]
 have hlt:=S.ownLt (.s t) _ g hg rfl
 exact S.shift (f:=setRowS t k e z es) H hp hc (fun t' b h _=>⟨b,h,rfl,hne b fun e=>S.boxOwn t' (.s t) _ g (e▸h) hg rfl⟩) (by rw [←hw'];exact S.chg.setCell (hlt.1.symm.imp .inr id) _) (by omega) (fun t b h=>by rw [hsz];exact S.boxLt t b h)
  (fun t v b h hb=>by rw [hsz];exact S.ownLt t v b h hb) S.boxInj S.ownInj S.boxOwn S.tapeBox S.tapeOwn
  (S.tapeShift H rfl (fun p hp=>hne p fun e=>S.tapeOwn (.s t) _ g (e▸hp) hg rfl) rfl) S.noTape S.fz2 S.fz3 S.tapeNew
theorem swT_swT {t i j:Nat} {tg:Tg}:swT t i j (swT t i j tg)=tg:=by
 cases tg with
 |s a=>rfl
 |r a q=>
  by_cases ha:a=t
  ·subst ha
   by_cases hi:q=i
   ·subst hi
    by_cases hj:j=q
    ·subst hj;simp [swT]
    ·simp [swT,beq_ne hj]
   ·by_cases hj:q=j
    ·subst hj;simp [swT,beq_ne hi]
    ·simp [swT,beq_ne hi,beq_ne hj]
  ·simp [swT,beq_ne ha]
theorem swT_base {t i j:Nat} {tg:Tg} (h:tg.base≠t):swT t i j tg=tg:=by
 cases tg with
 |s a=>rfl
 |r a q=>simp only [swT,beq_ne (show a≠t from h),cond_false]
theorem swT_other {t i j q:Nat} (h1:q≠i) (h2:q≠j):swT t i j (.r t q)= .r t q:=by simp [swT,beq_ne h1,beq_ne h2]
theorem Sim.swapRow (S:Sim tt w0 G s a w) (t i j:Nat):∃G',Sim tt w0 G' (s.map (swapF t i j)) a w∧(∀tg e z es u,RC w0.B G w (.own tg e z es) u→RC w0.B G' w (.own (swT t i j tg) e z es) u)∧(∀v,G.own (.s t)=some v→G'.own (.s t)=some v)∧G'.fz=G.fz∧G'.fw=G.fw:=by
 let π:Tg→Option Tg:=fun tg=>some (swT t i j tg)
 have H:Shift (fun tg=>π tg=some tg) (fun _=>True) G (GhP G π) w w:=ghP_shift
 have ho:∀tg v,G.own tg=some v→(GhP G π).own (swT t i j tg)=some v:=fun tg v h=>by
  rw [ghP_at (show π (swT t i j tg)=some tg from congrArg some swT_swT)];exact h
 have hown:∀tg e z es u,RC w0.B G w (.own tg e z es) u→RC w0.B (GhP G π) w (.own (swT t i j tg) e z es) u:=fun tg e z es u h=>⟨ho tg u h.1,H.ownRep (fun _ _=>rfl) h.2⟩
 have fixd:∀tg:Tg,tg.base≠t→π tg=some tg:=fun tg h=>congrArg some (swT_base h)
 have hst:∀v,G.own (.s t)=some v→(GhP G π).own (.s t)=some v:=fun v h=>ho (.s t) v h
 have hc:∀v u,RC w0.B G w v u→RC w0.B (GhP G π) w (swapF t i j v) u:=fun v u h=>by
  cases v
  case own t' e z es=>exact hown t' e z es u h
  case mat t' e e2 z2 rows=>
   simp only [swapF]
   by_cases ht:t'=t
   ·subst ht
    simp only [beq_self,cond_true]
    obtain ⟨h1,hs,k1,k2⟩:=h
    refine ⟨hst u h1,hs,by rw [List.length_set,List.length_set];exact k1,fun q es hq=>?_⟩
    obtain ⟨n1,hq⟩:=modify_none hq
    obtain ⟨n2,hq⟩:=modify_none hq
    obtain ⟨h,q1,q2,q3⟩:=k2 q es hq
    have:=ho (.r t' q) h q2
    rw [swT_other n2 n1] at this
    exact ⟨h,q1,this,H.ownRep (fun _ _=>rfl) q3⟩
   ·simp only [beq_ne ht,cond_false]
    exact H.rc (v:= .mat t' e e2 z2 rows) ⟨fixd _ ht,fun q=>fixd _ ht⟩ h
  case ept=>simp only [RC] at h;cases h
  case mpt=>simp only [RC] at h;cases h
  case mp=>simp only [RC] at h;cases h
  case mm=>simp only [RC] at h;cases h
  case win=>simp only [RC] at h;cases h
  all_goals exact H.rc (by first|trivial|exact fun v _=>by cases v<;>trivial) h
 refine ⟨GhP G π,S.perm π (fun x y q hx hy=>?_) (swapF t i j) (fun v u h=>?_) hc,hown,hst,rfl,rfl⟩
 ·have e1:swT t i j x=q:=Option.some.inj hx
  have e2:swT t i j y=q:=Option.some.inj hy
  rw [←swT_swT (t:=t) (i:=i) (j:=j) (tg:=x),e1,←e2,swT_swT]
 ·cases v
  case own t' e z es=>exact (hc (.own t' e z es) u h).rp
  case mat t' e e2 z2 rows=>exact (hc (.mat t' e e2 z2 rows) u h).rp
  case ept t' q off cs=>
   obtain ⟨g,n,c,e,cur,us,h1,rfl,h3,h4,h4',h5,h6⟩:=h
   exact ⟨g,n,c,e,cur,us,ho t' _ h1,rfl,h3,h4,h4',h5.mono fun _ _ h=>H.repU h,h6⟩
  case win t' lo z es=>
   obtain ⟨g,n,c,e,cur,css,A,c',h1,h2,h3,h4,h5,h6,h7,h8,h9⟩:=h
   exact ⟨g,n,c,e,cur,css,A,c',ho t' _ h1,h2,h3,h4,h5,h6,h7,h8.mono fun _ _ h=>⟨h.1,h.2.mono fun _ _ h=>H.rep h⟩,h9⟩
  case mpt t' q e2 z2 o=>
   simp only [swapF]
   by_cases ht:t'=t
   ·subst ht
    simp only [beq_self,cond_true]
    obtain ⟨g,n,c,e,cur,h1,h2,h3,h4,h5, -⟩:=h
    exact ⟨g,n,c,e,cur,hst _ h1,h2,h3,h4,h5,nofun⟩
   ·simp only [beq_ne ht,cond_false]
    exact H.rp (v:= .mpt t' q e2 z2 o) ⟨fixd _ ht,fixd _ ht⟩ h
  case mp t' kvs=>exact H.rp (v:= .mp t' kvs) rfl h
  case mm t' e z ks rows=>
   simp only [swapF]
   by_cases ht:t'=t
   ·subst ht;simp only [beq_self,cond_true];trivial
   ·simp only [beq_ne ht,cond_false]
    exact H.rp (v:= .mm t' e z ks rows) ⟨fixd _ ht,fun q=>fixd _ ht⟩ h
  all_goals exact H.rp (by first|trivial|exact fun v _=>by cases v<;>trivial) h
theorem killM_ok {t:Nat} {v:AV}:killM t v= .undef∨(killM t v=v∧OkTag (fun tg=>tg.base≠t) (fun _=>True) v):=by
 cases v
 case own t' e z es=>
  by_cases h:t'.base=t
  ·exact .inl (by simp [killM,h])
  ·exact .inr ⟨by simp [killM,beq_ne h],h⟩
 case ept t' i off cs=>
  by_cases h:t'.base=t
  ·exact .inl (by simp [killM,h])
  ·exact .inr ⟨by simp [killM,beq_ne h],h⟩
 case win t' lo z es=>
  by_cases h:t'.base=t
  ·exact .inl (by simp [killM,h])
  ·exact .inr ⟨by simp [killM,beq_ne h],h⟩
 case mp t' kvs=>
  by_cases h:t'=t
  ·subst h;exact .inl (by simp [killM])
  ·exact .inr ⟨by simp [killM,beq_ne h],h⟩
 case mat t' e e2 z2 rows=>
  by_cases h:t'=t
  ·subst h;exact .inl (by simp [killM])
  ·exact .inr ⟨by simp [killM,beq_ne h],h,fun _=>h⟩
 case mm t' e z ks rows=>
  by_cases h:t'=t
  ·subst h;exact .inl (by simp [killM])
  ·exact .inr ⟨by simp [killM,beq_ne h],h,fun _=>h⟩
 case mpt t' i e2 z2 o=>
  by_cases h:t'=t
  ·subst h;exact .inl (by simp [killM])
  ·exact .inr ⟨by simp [killM,beq_ne h],h,h⟩
 all_goals first|exact .inr ⟨rfl,trivial⟩|exact .inr ⟨rfl,fun v _=>by cases v<;>trivial⟩
theorem OkTag.mono {ko ko':Tg→Prop} {kb:Nat→Prop} {v:AV} (h:OkTag ko kb v) (hk:∀tg,ko tg→ko' tg):OkTag ko' kb v:=by
 cases v
 case mat=>exact ⟨hk _ h.1,fun i=>hk _ (h.2 i)⟩
 case mm=>exact ⟨hk _ h.1,fun i=>hk _ (h.2 i)⟩
 case mpt=>exact ⟨hk _ h.1,hk _ h.2⟩
 case fn=>exact h
 case own=>exact hk _ h
 case ept=>exact hk _ h
 case mp=>exact hk _ h
 case win=>exact hk _ h
 all_goals first|trivial|exact h
theorem OkTag.and {ko ko':Tg→Prop} {v:AV} (h:OkTag ko (fun _=>True) v) (h':OkTag ko' (fun _=>True) v):OkTag (fun tg=>ko tg∧ko' tg) (fun _=>True) v:=by
 cases v
 case mat=>exact ⟨⟨h.1,h'.1⟩,fun i=>⟨h.2 i,h'.2 i⟩⟩
 case mm=>exact ⟨⟨h.1,h'.1⟩,fun i=>⟨h.2 i,h'.2 i⟩⟩
 case mpt=>exact ⟨⟨h.1,h'.1⟩,h.2,h'.2⟩
 case fn=>exact h
 case own=>exact ⟨h,h'⟩
 case ept=>exact ⟨h,h'⟩
 case mp=>exact ⟨h,h'⟩
 case win=>exact ⟨h,h'⟩
 all_goals first|trivial|exact h
theorem Sim.moveRow (S:Sim tt w0 G s a w) (t n:Nat) (x:Tg) (p q:AV→AV) (ko1 ko2:Tg→Prop) (hp:∀v,p v= .undef∨(p v=v∧OkTag ko1 (fun _=>True) v)) (hq:∀v,q v= .undef∨(q v=v∧OkTag ko2 (fun _=>True) v)) (dead:Tg→Prop) [DecidablePred dead] (hx:dead x) (hd:∀tg,ko1 tg→ko2 tg→tg≠ .r t n∧¬dead tg):
 ∃G',Sim tt w0 G' ((s.map p).map q) a w∧G'.own (.r t n)=G.own x∧(∀tg,tg≠ .r t n→¬dead tg→G'.own tg=G.own tg)∧(∀e z es u,OwnRep w0.B (GX G) w e z es u→OwnRep w0.B (GX G') w e z es u)∧G'.fz=G.fz∧G'.fw=G.fw:=by
 let π:Tg→Option Tg:=fun tg=>if tg= .r t n then some x else if dead tg then none else some tg
 have πo:∀tg,tg≠ .r t n→¬dead tg→π tg=some tg:=fun tg h1 h2=>by simp [π,h1,h2]
 have H:Shift (fun tg=>π tg=some tg) (fun _=>True) G (GhP G π) w w:=ghP_shift
 have hinj:∀y y' q',π y=some q'→π y'=some q'→y=y':=fun y y' q' h1 h2=>by
  simp only [π] at h1 h2
  split at h1
  ·next e1=>
   split at h2
   ·next e2=>exact e1.trans e2.symm
   ·split at h2
    ·cases h2
    ·next e3=>injection h1 with h1;injection h2 with h2;subst h1;subst h2;exact absurd hx e3
  ·split at h1
   ·cases h1
   ·next e3=>
    injection h1 with h1
    split at h2
    ·injection h2 with h2;subst h1;subst h2;exact absurd hx e3
    ·split at h2
     ·cases h2
     ·injection h2 with h2;exact h1.trans h2.symm
 have both:∀v,q (p v)= .undef∨(q (p v)=v∧OkTag (fun tg=>π tg=some tg) (fun _=>True) v):=fun v=>by
  rcases hp v with e|⟨e,h1⟩
  ·rw [e]
   rcases hq .undef with e'|⟨e', -⟩<;>exact .inl e'
  ·rw [e]
   rcases hq v with e'|⟨e',h2⟩
   ·exact .inl e'
   ·exact .inr ⟨e',(h1.and h2).mono fun tg h=>πo tg (hd tg h.1 h.2).1 (hd tg h.1 h.2).2⟩
 have key:∀f:AV→AV,(∀v,f v= .undef∨(f v=v∧OkTag (fun tg=>π tg=some tg) (fun _=>True) v))→Sim tt w0 (GhP G π) (s.map f) a w:=fun f hf=>
  S.perm π hinj f (fun v u h=>by
   rcases hf v with e|⟨e,hk⟩
   ·rw [e];trivial
   ·rw [e];exact H.rp hk h) (fun v u h=>by
   rcases hf v with e|⟨e,hk⟩
   ·rw [e];trivial
   ·rw [e];exact H.rc hk h)
 have hu:q .undef= .undef:=by rcases hq .undef with e'|⟨e', -⟩<;>exact e'
 have pu:p .undef= .undef:=by rcases hp .undef with e'|⟨e', -⟩<;>exact e'
 have comp:(s.map p).map q=s.map fun v=>q (p v):=by
  have leaf:∀v,p v= .undef∨p v=v:=fun v=>(hp v).imp id (·.1)
  have cp:∀v:AV,AV.mapG q (AV.mapG p v)=AV.mapG (fun v=>q (p v)) v:=fun v=>by
   cases v
   case agg cs=>simp [AV.mapG]
   case fn g cap=>simp [AV.mapG]
   all_goals
    show AV.mapG q (p _)=q (p _)
    rcases leaf _ with e|e<;>rw [e]<;>rfl
  have ct:∀v:AV,AV.mapT q (AV.mapT p v)=AV.mapT (fun v=>q (p v)) v:=fun v=>by
   cases v
   case agg cs=>simp [AV.mapT]
   case fn g cap=>simp [AV.mapT]
   case tup vs=>simp [AV.mapT,cp]
   all_goals
    show AV.mapT q (p _)=q (p _)
    rcases leaf _ with e|e<;>rw [e]<;>rfl
  simp only [St.map,St.mk.injEq,and_true]
  refine ⟨funext fun i=>ct _,funext fun t=>?_⟩
  cases s.box t<;>simp
 refine ⟨GhP G π,by rw [comp];exact key _ both,ghP_at (if_pos rfl),fun tg h1 h2=>ghP_at (πo tg h1 h2),fun e z es u h=>H.ownRep (fun _ _=>rfl) h,rfl,rfl⟩
end
structure Ty where
 ok:Bool:=false
 agg:Bool:=false
 size:Nat:=1
 small:Bool:=false
 elem:Option Nat:=none
 zero:List AV:=[]
 offs:List (Nat×Nat):=[]
 flds:List (Nat×Nat):=[]
 kind:Option IntKind:=none
 isBool:Bool:=false
 isStr:Bool:=false
 isStruct:Bool:=false
 isPtr:Bool:=false
 arr:Option (Nat×Nat):=none
 word:Bool:=false
def ofValue:Value→AV
 | .int k n=> .int k n
 | .bool b=> .bool b
 | .string s=> .str s
 | .slice none 0 0=> .nil
 | .pointer none=> .nilp
 |_=> .undef
def aggD:TypeDesc→Bool
 | .struct _=>true
 | .array _ _=>true
 |_=>false
def elemD:TypeDesc→Option Nat
 | .slice e=>some e
 |_=>none
def kindD:TypeDesc→Option IntKind
 | .int k=>some k
 |_=>none
def boolD:TypeDesc→Bool
 | .bool=>true
 |_=>false
def strD:TypeDesc→Bool
 | .string=>true
 |_=>false
def structD:TypeDesc→Bool
 | .struct _=>true
 |_=>false
def ptrD:TypeDesc→Bool
 | .pointer _=>true
 |_=>false
def arrD:TypeDesc→Option (Nat×Nat)
 | .array n e=>some (e,n)
 |_=>none
def offsD (P:Program):TypeDesc→List (Nat×Nat)
 | .struct fs=>fs.toList.map fun f=>(f.offset,((P.info? f.type).map (·.size)).getD 0)
 |_=>[]
def fldsD:TypeDesc→List (Nat×Nat)
 | .struct fs=>fs.toList.map fun f=>(f.offset,f.type)
 |_=>[]
def zeroD:Option Value→List AV
 |some z=>z.cells.toList.map ofValue
 |none=>[]
def tyOf (P:Program) (t:Nat):Ty:=
 match P.info? t,P.underlying t with
 |some i,some d=>
  { ok:=true,agg:=aggD d,size:=i.size,small:=Nat.ble i.bytes 8192,elem:=elemD d,zero:=zeroD i.zero,offs:=offsD P d,flds:=fldsD d,kind:=kindD d,isBool:=boolD d,isStr:=strD d,isStruct:=structD d,isPtr:=ptrD d,arr:=arrD d,word:=Nat.ble i.bytes 8 }
 |_,_=>{}
structure branch (b:Bool) (A B:Prop):Prop where
 out:(b=true→A)∧(b=false→B)
theorem branch_iff {b:Bool} {A B:Prop}:branch b A B↔((b=true→A)∧(b=false→B)):=⟨fun h=>h.out,fun h=>⟨h⟩⟩
structure need (p A:Prop):Prop where
 out:p∧A
theorem need_iff {p A:Prop}:need p A↔(p∧A):=⟨fun h=>h.out,fun h=>⟨h⟩⟩
def appLim (w:Bool) (n:Nat) (A:Prop):Prop:=
 match w with
 |true=>need (n≤17592186044416) A
 |false=>need (n≤1000000) A
structure arith (k:IntKind) (n:Int) (K:AV→Prop):Prop where
 out:K (.int k (k.wrap n))
theorem arith_iff {k:IntKind} {n:Int} {K:AV→Prop}:arith k n K↔(K (.int k (k.wrap n))):=⟨fun h=>h.out,fun h=>⟨h⟩⟩
structure idx (es:List (List AV)) (n:Int) (K:List AV→Prop):Prop where
 out:0≤n∧∃cs,es[n.toNat]? =some cs∧K cs
theorem idx_iff {es:List (List AV)} {n:Int} {K:List AV→Prop}:idx es n K↔(0≤n∧∃cs,es[n.toNat]? =some cs∧K cs):=⟨fun h=>h.out,fun h=>⟨h⟩⟩
structure ridx (rows:List (Option (List (List AV)))) (n:Int) (K:Option (List (List AV))→Prop):Prop where
 out:0≤n∧∃o,rows[n.toNat]? =some o∧K o
theorem ridx_iff {rows:List (Option (List (List AV)))} {n:Int} {K:Option (List (List AV))→Prop}:ridx rows n K↔(0≤n∧∃o,rows[n.toNat]? =some o∧K o):=⟨fun h=>h.out,fun h=>⟨h⟩⟩
structure aidx (len:Nat) (n:Int) (K:Nat→Prop):Prop where
 out:∃k:Nat,n=k∧k<len∧K k
theorem aidx_iff {len:Nat} {n:Int} {K:Nat→Prop}:aidx len n K↔(∃k:Nat,n=k∧k<len∧K k):=⟨fun h=>h.out,fun h=>⟨h⟩⟩
structure agetS (cs:List AV) (z len:Nat) (n:Int) (K:List AV→Prop):Prop where
 out:∃k:Nat,n=k∧k<len∧K ((cs.drop (k * z)).take z)
theorem agetS_iff {cs:List AV} {z len:Nat} {n:Int} {K:List AV→Prop}:agetS cs z len n K↔(∃k:Nat,n=k∧k<len∧K ((cs.drop (k * z)).take z)):=⟨fun h=>h.out,fun h=>⟨h⟩⟩
structure sub (es:List (List AV)) (lo hi:Int) (K:List (List AV)→Prop):Prop where
 out:(0≤lo∧lo≤hi∧hi≤es.length)∧K ((es.take hi.toNat).drop lo.toNat)
theorem sub_iff {es:List (List AV)} {lo hi:Int} {K:List (List AV)→Prop}:sub es lo hi K↔((0≤lo∧lo≤hi∧hi≤es.length)∧K ((es.take hi.toNat).drop lo.toNat)):=⟨fun h=>h.out,fun h=>⟨h⟩⟩
structure subS (b:ByteArray) (lo hi:Int) (K:ByteArray→Prop):Prop where
 out:(0≤lo∧lo≤hi∧hi≤b.size)∧K (b.extract lo.toNat hi.toNat)
theorem subS_iff {b:ByteArray} {lo hi:Int} {K:ByteArray→Prop}:subS b lo hi K↔((0≤lo∧lo≤hi∧hi≤b.size)∧K (b.extract lo.toNat hi.toNat)):=⟨fun h=>h.out,fun h=>⟨h⟩⟩
structure byteAt (s:ByteArray) (n:Int) (K:Int→Prop):Prop where
 out:0≤n∧∃b,s[n.toNat]? =some b∧K b.toNat
theorem byteAt_iff {s:ByteArray} {n:Int} {K:Int→Prop}:byteAt s n K↔(0≤n∧∃b,s[n.toNat]? =some b∧K b.toNat):=⟨fun h=>h.out,fun h=>⟨h⟩⟩
structure nilTest (es:List (List AV)) (K:Bool→Prop):Prop where
 out:∀b,(b=true→es=[])→K b
theorem nilTest_iff {es:List (List AV)} {K:Bool→Prop}:nilTest es K↔(∀b,(b=true→es=[])→K b):=⟨fun h=>h.out,fun h=>⟨h⟩⟩
def force0 (v:AV) (K:AV→Prop):Prop:=
 match v with
 | .undef=>K .undef
 | .nil=>K .nil
 | .int k n=>K (.int k n)
 | .bool b=>K (.bool b)
 | .str s=>K (.str s)
 | .lst z es=>K (.lst z es)
 | .own t e z es=>K (.own t e z es)
 | .agg cs=>K (.agg cs)
 | .tup vs=>K (.tup vs)
 | .ptr t off=>K (.ptr t off)
 | .asl t off n=>K (.asl t off n)
 | .ept t i off cs=>K (.ept t i off cs)
 | .ref cs=>K (.ref cs)
 | .fn f cap=>K (.fn f cap)
 | .tape=>K .tape
 | .mp t kvs=>K (.mp t kvs)
 | .mm t e z ks rows=>K (.mm t e z ks rows)
 | .win t lo z es=>K (.win t lo z es)
 | .mat t e e2 z2 rows=>K (.mat t e e2 z2 rows)
 | .mpt t i e2 z2 o=>K (.mpt t i e2 z2 o)
 | .nilp=>K .nilp
theorem force0_eq {v:AV} {K:AV→Prop}:force0 v K=K v:=by cases v<;>rfl
def forceL (vs:List AV) (K:List AV→Prop):Prop:=
 match vs with
 |[]=>K []
 |v::vs=>force0 v fun v=>forceL vs fun vs=>K (v::vs)
theorem forceL_eq {vs:List AV} {K:List AV→Prop}:forceL vs K=K vs:=by
 induction vs generalizing K with
 |nil=>rfl
 |cons v vs ih=>simp only [forceL,force0_eq,ih]
def force1 (v:AV) (K:AV→Prop):Prop:=
 match v with
 | .agg cs=>forceL cs fun cs=>K (.agg cs)
 | .ref cs=>forceL cs fun cs=>K (.ref cs)
 | .ept t i off cs=>forceL cs fun cs=>K (.ept t i off cs)
 | .fn f cs=>forceL cs fun cs=>K (.fn f cs)
 |v=>force0 v K
theorem force1_eq {v:AV} {K:AV→Prop}:force1 v K=K v:=by cases v<;>simp only [force1,forceL_eq,force0_eq]
def forceM (vs:List AV) (K:List AV→Prop):Prop:=
 match vs with
 |[]=>K []
 |v::vs=>force1 v fun v=>forceM vs fun vs=>K (v::vs)
theorem forceM_eq {vs:List AV} {K:List AV→Prop}:forceM vs K=K vs:=by
 induction vs generalizing K with
 |nil=>rfl
 |cons v vs ih=>simp only [forceM,force1_eq,ih]
def force (v:AV) (K:AV→Prop):Prop:=
 match v with
 | .tup cs=>forceM cs fun cs=>K (.tup cs)
 |v=>force1 v K
theorem force_eq {v:AV} {K:AV→Prop}:force v K=K v:=by cases v<;>simp only [force,forceM_eq,force1_eq]
def St.eval (s:St):Operand→AV
 | .tmp t=>bif Nat.blt t 1000 then s.slot t else .undef
 | .const v=>ofValue v
 | .func f=> .fn f []
 | .global g=>match lookG g with
  |some xs=> .ref (xs.map (.int .i64))
  |none=> .undef
def evals (s:St):List Operand→List AV
 |[]=>[]
 |x::xs=>s.eval x::evals s xs
def allPtr:List AV→Bool
 |[]=>true
 | .ptr _ _::vs=>allPtr vs
 | .undef::vs=>allPtr vs
 |_=>false
def cellsK (v:AV) (K:List AV→Prop):Prop:=
 match v with
 | .agg cs=>K cs
 | .int k n=>K [.int k n]
 | .bool b=>K [.bool b]
 | .str s=>K [.str s]
 | .nil=>K [.nil]
 | .lst z es=>K [.lst z es]
 | .own t e z es=>K [.own t e z es]
 | .mat t e e2 z2 rows=>K [.mat t e e2 z2 rows]
 | .ptr t off=>K [.ptr t off]
 | .nilp=>K [.nilp]
 | .fn f cap=>match allPtr cap with
  |true=>K [.fn f cap]
  |false=>False
 |_=>False
def loadAs (ty:Ty) (cs:List AV) (K:AV→Prop):Prop:=
 match ty.ok with
 |true=>match ty.agg with
  |true=>match Nat.ble ty.size cs.length with
   |true=>K (.agg (cs.take ty.size))
   |false=>False
  |false=>match cs with
   |c::_=>K c
   |[]=>False
 |false=>False
def cmp (op:BinOp) (a b:Int):Option Bool:=
 match op with
 | .eql=>some (a==b)
 | .neq=>some (a != b)
 | .lss=>some (decide (a<b))
 | .leq=>some (decide (a≤b))
 | .gtr=>some (decide (b<a))
 | .geq=>some (decide (b≤a))
 |_=>none
def sameKind:IntKind→IntKind→Bool
 | .i8, .i8=>true| .i16, .i16=>true| .i32, .i32=>true| .i64, .i64=>true
 | .u8, .u8=>true| .u16, .u16=>true| .u32, .u32=>true| .u64, .u64=>true
 |_,_=>false
def bitF (op:BinOp) (k:IntKind) (a b:Int):Option Int:=
 match op with
 | .and=>some (k.wrap (BitVec.ofInt k.bits a&&& BitVec.ofInt k.bits b).toNat)
 | .or=>some (k.wrap (BitVec.ofInt k.bits a|||BitVec.ofInt k.bits b).toNat)
 | .xor=>some (k.wrap (BitVec.ofInt k.bits a ^^^ BitVec.ofInt k.bits b).toNat)
 |_=>none
def abinInt (op:BinOp) (k:IntKind) (a b:Int) (K:AV→Prop):Prop:=
 match op with
 | .add=>arith k (a+b) K
 | .sub=>arith k (a-b) K
 | .mul=>arith k (a * b) K
 | .quo=>need (b≠0) (arith k (a.tdiv b) K)
 | .rem=>need (b≠0) (K (.int k (a.tmod b)))
 | .and=>match bitF .and k a b with|some r=>K (.int k r)|none=>False
 | .or=>match bitF .or k a b with|some r=>K (.int k r)|none=>False
 | .xor=>match bitF .xor k a b with|some r=>K (.int k r)|none=>False
 | .eql=>match cmp .eql a b with|some r=>K (.bool r)|none=>False
 | .neq=>match cmp .neq a b with|some r=>K (.bool r)|none=>False
 | .lss=>match cmp .lss a b with|some r=>K (.bool r)|none=>False
 | .leq=>match cmp .leq a b with|some r=>K (.bool r)|none=>False
 | .gtr=>match cmp .gtr a b with|some r=>K (.bool r)|none=>False
 | .geq=>match cmp .geq a b with|some r=>K (.bool r)|none=>False
 |_=>False
def abinStr (op:BinOp) (x y:ByteArray) (K:AV→Prop):Prop:=
 match op with
 | .eql=>K (.bool (x.toList==y.toList))
 | .neq=>K (.bool (!(x.toList==y.toList)))
 | .lss=>K (.bool (Op.bytesLess x.toList y.toList))
 | .leq=>K (.bool (Op.bytesLess x.toList y.toList||x.toList==y.toList))
 | .gtr=>K (.bool (!(Op.bytesLess x.toList y.toList||x.toList==y.toList)))
 | .geq=>K (.bool (!Op.bytesLess x.toList y.toList))
 | .add=>need (x.size+y.size≤1000000) (K (.str (x++y)))
 |_=>False
def ptrTest (T:Nat→Ty) (t:Nat) (op:BinOp) (b:Bool) (K:AV→Prop):Prop:=
 match (T t).ok&&(T t).isPtr with
 |true=>match op with
  | .eql=>K (.bool b)
  | .neq=>K (.bool (!b))
  |_=>False
 |false=>False
def abin (T:Nat→Ty) (op:BinOp) (t:Nat) (x y:AV) (K:AV→Prop):Prop:=
 match x,y with
 | .int k a, .int k' b=>
  match op with
  | .shl=>need (0≤b) (arith k (a * 2 ^ (min b.toNat k.bits)) K)
  | .shr=>need (0≤b) (K (.int k (a.fdiv (2 ^ (min b.toNat k.bits)))))
  |op=>match sameKind k k' with
   |true=>abinInt op k a b K
   |false=>False
 | .str a, .str b=>abinStr op a b K
 | .bool a, .bool b=>match (T t).ok&&(T t).isBool with
  |true=>match op with
   | .eql=>K (.bool (a==b))
   | .neq=>K (.bool (!(a==b)))
   |_=>False
  |false=>False
 | .lst _ es, .nil=>match (T t).ok&&(T t).elem.isSome with
  |true=>match op with
   | .eql=>nilTest es fun b=>K (.bool b)
   | .neq=>nilTest es fun b=>K (.bool (!b))
   |_=>False
  |false=>False
 | .own _ _ _ es, .nil=>match (T t).ok&&(T t).elem.isSome with
  |true=>match op with
   | .eql=>nilTest es fun b=>K (.bool b)
   | .neq=>nilTest es fun b=>K (.bool (!b))
   |_=>False
  |false=>False
 | .nil, .nil=>match (T t).ok&&(T t).elem.isSome with
  |true=>match op with
   | .eql=>K (.bool true)
   | .neq=>K (.bool false)
   |_=>False
  |false=>False
 | .ptr _ _, .nilp=>ptrTest T t op false K
 | .nilp, .nilp=>ptrTest T t op true K
 |_,_=>False
def fieldOff (ty:Ty) (f:Nat) (K:Nat→Prop):Prop:=
 match ty.ok with
 |true=>match ty.offs[f]? with
  |some (off,size)=>match Nat.blt 0 size with
   |true=>K off
   |false=>False
  |none=>False
 |false=>False
def elemOf (T:Nat→Ty) (t:Nat) (z:Nat) (K:Nat→Prop):Prop:=
 match (T t).ok with
 |true=>match (T t).elem with
  |some e=>match (T e).ok&&Nat.beq (T e).size z with
   |true=>K e
   |false=>False
  |none=>False
 |false=>False
def arrOf (T:Nat→Ty) (t:Nat) (K:Nat→Nat→Prop):Prop:=
 match (T t).ok with
 |true=>match (T t).arr with
  |some (e,len)=>match (T e).ok with
   |true=>K (T e).size len
   |false=>False
  |none=>False
 |false=>False
def arrE (T:Nat→Ty) (t:Nat) (K:Nat→Nat→Prop):Prop:=
 match (T t).ok with
 |true=>match (T t).arr with
  |some (e,len)=>match (T e).ok with
   |true=>K e len
   |false=>False
  |none=>False
 |false=>False
def rangeOffs (z:Nat):Nat→Nat→List (Nat×Nat)
 |_,0=>[]
 |i,n+1=>(i * z,z)::rangeOffs z (i+1) n
def allPos:List (Nat×Nat)→Bool
 |[]=>true
 |p::ps=>Nat.blt 0 p.2&&allPos ps
def setRange (cells:List AV) (off:Nat):List AV→List AV
 |[]=>cells
 |v::vs=>setRange (cells.set off v) (off+1) vs
def fillK (offs:List (Nat×Nat)) (s:St):List (Nat×Operand)→List AV→(List AV→Prop)→Prop
 |[],cells,K=>K cells
 |(i,x)::rest,cells,K=>match offs[i]? with
  |some (off,size)=>cellsK (s.eval x) fun cs=>match Nat.beq cs.length size&&Nat.ble (off+cs.length) cells.length with
   |true=>forceL (setRange cells off cs) fun cells=>fillK offs s rest cells K
   |false=>False
  |none=>False
def isP:AV→Bool
 | .agg _=>false
 | .tup _=>false
 | .fn _ _=>false
 |_=>true
def allP:List AV→Bool
 |[]=>true
 |v::vs=>isP v&&allP vs
def optInt (s:St) (d:Int):Option Operand→(Int→Prop)→Prop
 |none,K=>K d
 |some x,K=>match s.eval x with| .int _ n=>K n|_=>False
def aval (T:Nat→Ty) (s:St) (op:Op) (K:AV→Prop):Prop:=
 match op with
 | .move x=>K (s.eval x)
 | .assign x=>K (s.eval x)
 | .pick c a b=>match s.eval c with| .bool b'=>branch b' (K (s.eval a)) (K (s.eval b))|_=>False
 | .load t x=>match s.eval x with
  | .ptr b off=>match s.box b with|some cs=>loadAs (T t) (cs.drop off) K|none=>False
  | .ref cs=>loadAs (T t) cs K
  |_=>False
 | .binOp op t x y _=>abin T op t (s.eval x) (s.eval y) K
 | .unOp op _ x=>match op,s.eval x with
  | .not, .bool b=>K (.bool (!b))
  | .neg, .int k n=>arith k (0-n) K
  |_,_=>False
 | .convert src dst x=>match (T src).ok&&(T dst).ok with
  |true=>match (T dst).kind,s.eval x with
   |some k, .int _ n=>arith k n K
   |_,_=>False
  |false=>False
 | .fieldAddr t x f=>match s.eval x with
  | .ptr b off=>fieldOff (T t) f fun o=>K (.ptr b (off+o))
  | .ref cs=>fieldOff (T t) f fun o=>K (.ref (cs.drop o))
  | .ept t' i off cs=>fieldOff (T t) f fun o=>K (.ept t' i (off+o) cs)
  |_=>False
 | .indexAddr t x i=>match s.eval x,s.eval i with
  | .lst z es, .int _ n=>elemOf T t z fun _=>idx es n fun cs=>K (.ref cs)
  | .own t' _ z es, .int _ n=>elemOf T t z fun _=>idx es n fun cs=>K (.ept t' n.toNat 0 cs)
  | .mat t' _ e2 z2 rows, .int _ n=>elemOf T t 1 fun _=>ridx rows n fun o=>K (.mpt t' n.toNat e2 z2 o)
  | .ptr b off, .int _ n=>arrOf T t fun z len=>aidx len n fun k=>K (.ptr b (off+k * z))
  | .ref cs, .int _ n=>arrOf T t fun z len=>match Nat.ble (len * z) cs.length with
   |true=>agetS cs z len n fun c=>K (.ref c)
   |false=>False
  |_,_=>False
 | .index t x i=>match s.eval x,s.eval i with
  | .str b, .int _ n=>match (T t).ok&&(T t).isStr with
   |true=>byteAt b n fun c=>K (.int .u8 c)
   |false=>False
  | .agg cs, .int _ n=>arrE T t fun e len=>match Nat.ble (len * (T e).size) cs.length with
   |true=>agetS cs (T e).size len n fun c=>loadAs (T e) c K
   |false=>False
  |_,_=>False
 | .field t x f=>match s.eval x with
  | .agg cs=>match (T t).ok with
   |true=>match (T t).flds[f]? with
    |some (off,ft)=>loadAs (T ft) (cs.drop off) K
    |none=>False
   |false=>False
  |_=>False
 | .extract x i=>match s.eval x with| .tup vs=>(match vs[i]? with|some v=>K v|none=>False)|_=>False
 | .nilCheck x=>match s.eval x with
  | .ptr t off=>K (.ptr t off)
  | .ept t i off cs=>K (.ept t i off cs)
  | .ref cs=>K (.ref cs)
  | .tape=>K .tape
  |_=>False
 | .build t parts=>match (T t).ok&&(T t).isStruct with
  |true=>match allPos (T t).offs,(T t).zero with
   |true,z::zs=>fillK (T t).offs s parts.toList (z::zs) fun cs=>K (.agg cs)
   |_,_=>False
  |false=>arrE T t fun e len=>match (T t).zero with
   |z::zs=>fillK (rangeOffs (T e).size 0 len) s parts.toList (z::zs) fun cs=>K (.agg cs)
   |[]=>False
 | .makeFunc f first cap=>match f with
  | .func f=>match first.toList with
   |[]=>match allP (evals s cap.toList) with
    |true=>K (.fn f (evals s cap.toList))
    |false=>False
   |_=>False
  |_=>False
 | .slice t x lo hi mx=>match mx with
  |none=>match s.eval x with
   | .lst z es=>elemOf T t z fun _=>optInt s 0 lo fun l=>optInt s es.length hi fun h=>sub es l h fun es'=>K (.lst z es')
   | .str b=>match (T t).ok&&(T t).isStr with
    |true=>optInt s 0 lo fun l=>optInt s b.size hi fun h=>subS b l h fun b'=>K (.str b')
    |false=>False
   | .ptr b off=>arrOf T t fun z len=>match Nat.beq z 1 with
    |true=>optInt s 0 lo fun l=>optInt s len hi fun h=>need (0≤l∧l≤h∧h≤len) (K (.asl b (off+l.toNat) (h-l).toNat))
    |false=>False
   |_=>False
  |some m=>match s.eval x,hi with
   | .lst z es,some hi=>elemOf T t z fun _=>optInt s 0 lo fun l=>optInt s 0 (some hi) fun h=>optInt s 0 (some m) fun mm=>need (h≤mm∧mm≤es.length) (sub es l h fun es'=>K (.lst z es'))
   |_,_=>False
 | .sliceToArrayPointer t x=>match s.eval x with
  | .lst z es=>arrOf T t fun z' len=>match Nat.beq z' z&&Nat.blt 0 len with
   |true=>need (len≤es.length) (K (.ref es.flatten))
   |false=>False
  |_=>False
 | .call c=>match c.callee with
  | .builtin .len=>match evals s c.args.toList,c.argTypes.toList with
   |[.lst _ es],[t]=>match (T t).ok&&(T t).elem.isSome with|true=>K (.int .i64 es.length)|false=>False
   |[.own _ _ _ es],[t]=>match (T t).ok&&(T t).elem.isSome with|true=>K (.int .i64 es.length)|false=>False
   |[.nil],[t]=>match (T t).ok&&(T t).elem.isSome with|true=>K (.int .i64 0)|false=>False
   |[.mat _ _ _ _ rows],[t]=>match (T t).ok&&(T t).elem.isSome with|true=>K (.int .i64 rows.length)|false=>False
   |[.str b],[t]=>match (T t).ok&&(T t).isStr with|true=>K (.int .i64 b.size)|false=>False
   |_,_=>False
  | .builtin .min=>match evals s c.args.toList with
   |[.int k a, .int _ b]=>K (.int k (if b<a then b else a))
   |_=>False
  | .builtin .max=>match evals s c.args.toList with
   |[.int k a, .int _ b]=>K (.int k (if b>a then b else a))
   |_=>False
  |_=>False
 |_=>False
def TabOk (P:Program) (T:Nat→Ty):Prop:=∀t,(T t).ok=true→T t=tyOf P t
def Agr (G:Gh) (w w':World):Prop:=∀b,b<w.heap.size→(¬GM G b∨∃t,G.box t=some b)→w'.heap[b]? =w.heap[b]?
theorem Agr.refl (G:Gh) (w:World):Agr G w w:=fun _ _ _=>rfl
section
variable {P:Program} {T:Nat→Ty} {tt:Nat} {w0:En} {w w':World} {G:Gh} {s:St} {a:Act} {B:Nat}
theorem ofValue_ra (v:Value):RA B G w (ofValue v) v:=by
 unfold ofValue
 split<;>first|exact (RepV.int _ _)|exact (RepV.bool _)|exact (RepV.str _)|rfl|trivial
theorem Sim.globNow (S:Sim tt w0 G s a w) {g:Nat} {xs:List Int} (h:lookG g=some xs):g<w.heap.size∧¬GX G g∧∀(j:Nat) (x:Int),xs[j]? =some x→w.cell? ⟨g,j,none⟩=some (.int .i64 x):=by
 obtain ⟨h1,h2,h3,h4⟩:=S.gl g xs h
 have hnw:¬Nw w0 g:=fun hn=>hn.elim (fun k=>by omega) fun k=>h2 (.inr k)
 have htp:G.tape≠some g:=fun k=>h3 (S.tapeNew g k h1)
 have hgx:¬GX G g:=fun hx=>by
  rcases hx with (⟨t,k⟩|⟨t,v,k,k'⟩|k)|k
  ·exact hnw (S.boxLt t g k).1
  ·exact hnw (S.ownLt t v g k k').1
  ·exact htp k
  ·rw [S.ext0] at k;exact h2 (.inl k)
 have hw:w.heap[g]? =w0.heap[g]? :=S.chg.block g h1 fun k=>k.elim htp fun k=>h2 (.inr k)
 exact ⟨Nat.lt_of_lt_of_le h1 S.chg.size,hgx,fun j x hx=>(World.cell?_of_block (a:=⟨_,_,none⟩) hw).trans (h4 j x hx)⟩
theorem Sim.globAt (S:Sim tt w0 G s a w) {X:Nat→Prop} {tp:Option Nat} (hX:∀b,X b→GX G b) (ht:∀b,tp=some b→G.tape=some b):GlobAt w X tp:=fun g xs h=>by
 obtain ⟨h1,h2,h3⟩:=S.globNow h
 exact ⟨h1,fun k=>h2 (hX g k),fun k=>h2 (.inl (.inr (.inr (ht g k)))),h3⟩
theorem Sim.eval (S:Sim tt w0 G s a w) (x:Operand):RA w0.B G w (s.eval x) (a.eval x):=by
 cases x
 case tmp t=>
  show RA w0.B G w (bif Nat.blt t 1000 then s.slot t else .undef) (a.tmps.getD t undef)
  cases h:Nat.blt t 1000 with
  |true=>
   have:=S.slot t
   rw [at_lt (by simpa using h)] at this
   exact this
  |false=>trivial
 case const v=>exact ofValue_ra v
 case func f=>exact ⟨[],rfl,trivial⟩
 case global g=>
  show RA w0.B G w (match lookG g with|some xs=> .ref (xs.map (.int .i64))|none=> .undef) (.pointer (some ⟨g,0,none⟩))
  cases h:lookG g with
  |none=>trivial
  |some xs=>
   obtain ⟨h1,h2,h3⟩:=S.globNow h
   exact ⟨g,0,xs.map (.int .i64),rfl,h1,fun hm=>h2 (.inl hm),All2.of (by simp) (fun j a b ha hb=>by
    rw [List.getElem?_map] at ha hb
    cases hx:xs[j]? with
    |none=>rw [hx] at ha;cases ha
    |some x=>
     rw [hx] at ha hb
     simp only [Option.map_some,Option.some.injEq] at ha hb
     subst ha hb
     exact .inr (RepV.int _ _)),fun j v hv=>by
    rw [List.getElem?_map,Option.map_eq_some_iff] at hv
    obtain ⟨x,hx,rfl⟩:=hv
    rw [Nat.zero_add]
    exact h3 j x hx⟩
theorem Sim.know' (S:Sim tt w0 G s a w) {d:Nat} {b:Bool} (h:s.eval (.tmp d)= .bool b) (hr:RA w0.B G w (.bool b) (a.eval (.tmp d))):Sim tt w0 G (s.put d (.bool b)) a w:=by
 have hlt:d<1000:=by
  cases hb:Nat.blt d 1000 with
  |true=>simpa using hb
  |false=>simp [St.eval,hb] at h
 refine S.know ?_
 rw [at_lt hlt]
 exact hr
theorem Sim.evals (S:Sim tt w0 G s a w) (xs:List Operand):All2 (RA w0.B G w) (evals s xs) (xs.map a.eval):=by
 induction xs with
 |nil=>trivial
 |cons x xs ih=>exact ⟨S.eval x,ih⟩
section inv
variable {u:Value}
theorem RA.int_inv {k:IntKind} {n:Int} (h:RA B G w (.int k n) u):u= .int k n:=by cases h;rfl
theorem RA.bool_inv {b:Bool} (h:RA B G w (.bool b) u):u= .bool b:=by cases h;rfl
theorem RA.str_inv {b:ByteArray} (h:RA B G w (.str b) u):u= .string b:=by cases h;rfl
theorem RA.nil_inv (h:RA B G w .nil u):u= .slice none 0 0:=h
theorem RepV.lst_inv {X:Nat→Prop} {z:Nat} {es:List (List AV)} (h:RepV w X (.lst z es) u):∃A c,u= .slice A es.length c:=by
 cases h
 ·exact ⟨_,_,rfl⟩
 ·exact ⟨_,_,rfl⟩
theorem OwnRep.inv {X:Nat→Prop} {e z:Nat} {es:List (List AV)} (h:OwnRep B X w e z es u):∃A c,u= .slice A es.length c:=by
 obtain ⟨css,h1,_⟩:=h
 rcases h1.2 with ⟨rfl,h0⟩|⟨g,cap,cur,rfl,_⟩
 ·exact ⟨none,0,by rw [h0]⟩
 ·exact ⟨_,_,rfl⟩
theorem add_none (b o n:Nat):(⟨b,o,none⟩:Addr).add n=⟨b,o+n,none⟩:=by
 unfold Addr.add
 split
 ·next h=>subst h;rfl
 ·rfl
end inv
theorem ty_info {t:Nat} (hT:TabOk P T) (h:(T t).ok=true):∃i d,P.info? t=some i∧P.underlying t=some d∧T t=tyOf P t:=by
 have e:=hT t h
 rw [e] at h
 unfold tyOf at h
 split at h
 ·next i d h1 h2=>exact ⟨i,d,h1,h2,e⟩
 ·cases h
theorem run_sizeOf {t:Nat} {i:TypeInfo} (h:P.info? t=some i) (w:World):(sizeOf t).run P w= .ok i.size w:=by simp [sizeOf,typeInfo,h]
theorem run_isAgg {t:Nat} {d:TypeDesc} (h:P.underlying t=some d) (w:World):(isAgg t).run P w= .ok (aggD d) w:=by
 simp only [isAgg,Sem.run_bind,run_underlying h,Result.andThen_ok]
 cases d<;>simp [aggD]
theorem run_loadCellsFrom (ad:Addr) (w:World):∀(n i:Nat) (us:List Value) (acc:Array Value),us.length=n→(∀j v,us[j]? =some v→w.cell? (ad.add (i+j))=some v)→(loadCellsFrom ad i n acc).run P w= .ok (acc++us.toArray) w
 |0,i,us,acc,hl,_=>by
  obtain rfl:us=[]:=List.eq_nil_of_length_eq_zero hl
  simp [loadCellsFrom]
 |n+1,i,us,acc,hl,h=>by
  cases us with
  |nil=>simp at hl
  |cons u us=>
   have h0:=h 0 u rfl
   rw [Nat.add_zero] at h0
   have:=run_loadCellsFrom ad w n (i+1) us (acc.push u) (by simpa using hl) (fun j v hv=>by rw [Nat.add_assoc,Nat.add_comm 1 j];exact h (j+1) v (by simpa using hv))
   simp only [loadCellsFrom,Sem.run_bind,load,Sem.run,h0,Result.andThen_ok,this]
   simp
theorem run_loadCells {b o:Nat} {us:List Value} {w:World} (h:∀j v,us[j]? =some v→w.cell? ⟨b,o+j,none⟩=some v):(loadCells ⟨b,o,none⟩ us.length).run P w= .ok us.toArray w:=by
 have:=run_loadCellsFrom (P:=P) ⟨b,o,none⟩ w us.length 0 us #[] rfl (fun j v hv=>by rw [add_none,Nat.zero_add];exact h j v hv)
 simpa [loadCells] using this
theorem load_sound {t b o:Nat} {R:AV→Value→Prop} {cs:List AV} {us:List Value} {K:AV→Prop} (hT:TabOk P T) (h:loadAs (T t) cs K) (hA:All2 R cs us):
 ∃v u,K v∧((∃cs' us',v= .agg cs'∧u= .agg (List.toArray us')∧All2 R cs' us')∨R v u)∧∀w':World,(∀j v,us[j]? =some v→w'.cell? ⟨b,o+j,none⟩=some v)→(Instr.loadAt t (.pointer (some ⟨b,o,none⟩))).run P w'= .ok u w':=by
 unfold loadAs at h
 split at h
 ·next hok=>
  obtain ⟨i,d,hi,hd,e⟩:=ty_info hT hok
  have hagg:(T t).agg=aggD d:=by rw [e];simp only [tyOf,hi,hd]
  have hsize:(T t).size=i.size:=by rw [e];simp only [tyOf,hi,hd]
  split at h
  ·next hg=>
   split at h
   ·next hle=>
    have hle':(T t).size≤cs.length:=Nat.le_of_ble_eq_true hle
    refine ⟨_, .agg (us.take (T t).size).toArray,h, .inl ⟨_,_,rfl,rfl,hA.take _⟩,fun w' hw=>?_⟩
    have hl:(us.take (T t).size).length=i.size:=by rw [List.length_take,←hA.len,←hsize];omega
    have:=run_loadCells (P:=P) (w:=w') (b:=b) (o:=o) (us:=us.take (T t).size) (fun j v hv=>hw j v (by rw [List.getElem?_take] at hv;split at hv;exact hv;cases hv))
    rw [hl] at this
    simp only [Instr.loadAt,Instr.sureAddr,loadVar,Sem.run_bind,Sem.run_pure,Result.andThen_ok,run_isAgg hd,←hagg,hg,if_true,run_sizeOf hi,this]
   ·exact h.elim
  ·next hg=>
   split at h
   ·next c cs'=>
    obtain ⟨u,us',rfl,hr,_⟩:=hA.cons_inv
    refine ⟨_,u,h, .inr hr,fun w' hw=>?_⟩
    have h0:=hw 0 u rfl
    rw [Nat.add_zero] at h0
    simp only [Instr.loadAt,Instr.sureAddr,loadVar,Sem.run_bind,Sem.run_pure,Result.andThen_ok,run_isAgg hd,←hagg,hg,Bool.false_eq_true,if_false,load,Sem.run,h0]
   ·exact h.elim
 ·exact h.elim
def isLoad:Op→Bool
 | .load _ _=>true
 |_=>false
def Val (P:Program) (B:Nat) (G:Gh) (w:World) (ρ:Operand→Value) (o:Oper) (K:AV→Prop):Prop:=
 ∃v u,K v∧RA B G w v u∧∀w',(isLoad o.op=true→Agr G w w')→(execOp ρ o).run P w'= .ok (.value u) w'
theorem kind_eq {k k':IntKind} (h:sameKind k k'=true):k'=k:=by cases k<;>cases k'<;>first|rfl|(simp [sameKind] at h)
theorem sound_int {op:BinOp} {k:IntKind} {x y:Int} {K:AV→Prop} (h:abinInt op k x y K):∃v u,K v∧RA B G w v u∧∀t,∀w':World,(binOp op t (.int k x) (.int k y)).run P w'= .ok u w':=by
 cases op<;>simp only [abinInt,cmp,bitF,arith_iff,need_iff] at h
 case add=>exact ⟨_, .int k _,h, .int _ _,fun t w'=>by simp [binOp,Op.intArith]⟩
 case sub=>exact ⟨_, .int k _,h, .int _ _,fun t w'=>by simp [binOp,Op.intArith]⟩
 case mul=>exact ⟨_, .int k _,h, .int _ _,fun t w'=>by simp [binOp,Op.intArith]⟩
 case quo=>exact ⟨_, .int k _,h.2, .int _ _,fun t w'=>by simp [binOp,Op.intDiv,h.1]⟩
 case rem=>exact ⟨_, .int k _,h.2, .int _ _,fun t w'=>by simp [binOp,Op.intDiv,h.1]⟩
 case and=>exact ⟨_, .int k _,h, .int _ _,fun t w'=>by simp [binOp,Op.intBits]⟩
 case or=>exact ⟨_, .int k _,h, .int _ _,fun t w'=>by simp [binOp,Op.intBits]⟩
 case xor=>exact ⟨_, .int k _,h, .int _ _,fun t w'=>by simp [binOp,Op.intBits]⟩
 case eql=>exact ⟨_, .bool _,h, .bool _,fun t w'=>by simp [binOp,Op.intCmp]⟩
 case neq=>exact ⟨_, .bool _,h, .bool _,fun t w'=>by simp [binOp,Op.intCmp]⟩
 case lss=>exact ⟨_, .bool _,h, .bool _,fun t w'=>by simp [binOp,Op.intCmp]⟩
 case leq=>exact ⟨_, .bool _,h, .bool _,fun t w'=>by simp [binOp,Op.intCmp]⟩
 case gtr=>exact ⟨_, .bool _,h, .bool _,fun t w'=>by simp [binOp,Op.intCmp]⟩
 case geq=>exact ⟨_, .bool _,h, .bool _,fun t w'=>by simp [binOp,Op.intCmp]⟩
theorem sound_str {op:BinOp} {x y:ByteArray} {K:AV→Prop} (h:abinStr op x y K):∃v u,K v∧RA B G w v u∧∀t,∀w':World,(binOp op t (.string x) (.string y)).run P w'= .ok u w':=by
 cases op<;>simp only [abinStr,need_iff] at h
 case eql=>exact ⟨_, .bool _,h, .bool _,fun t w'=>by simp [binOp,Op.stringOp]⟩
 case neq=>exact ⟨_, .bool _,h, .bool _,fun t w'=>by simp [binOp,Op.stringOp]⟩
 case lss=>exact ⟨_, .bool _,h, .bool _,fun t w'=>by simp [binOp,Op.stringOp]⟩
 case leq=>exact ⟨_, .bool _,h, .bool _,fun t w'=>by simp [binOp,Op.stringOp]⟩
 case gtr=>exact ⟨_, .bool _,h, .bool _,fun t w'=>by simp [binOp,Op.stringOp]⟩
 case geq=>exact ⟨_, .bool _,h, .bool _,fun t w'=>by simp [binOp,Op.stringOp]⟩
 case add=>
  refine ⟨_, .string _,h.2, .str _,fun t w'=>?_⟩
  have h1:¬((x.size+y.size:Nat):Int)>IntKind.i64.max:=by
   have:IntKind.i64.max=9223372036854775807:=rfl
   rw [this];have:=h.1;omega
  simp only [binOp,Op.stringOp,h1,if_false,Sem.run_pure]
theorem run_guard_prim {op:BinOp} {t:Nat} {x y:Operand} {u v:Value} (hu:∀cs,u≠ .agg cs) (hn:u≠ .nilIface) (w:World):(eqGuard op t x y u v).run P w= .ok () w:=by
 unfold eqGuard
 cases op<;>simp only []<;>first|rfl|(cases u<;>first|rfl|(exact absurd rfl hn)|(exact absurd rfl (hu _)))
theorem ty_at {t:Nat} (hT:TabOk P T) (h:(T t).ok=true):∃i d,P.info? t=some i∧P.underlying t=some d∧(T t).agg=aggD d∧(T t).size=i.size∧(T t).small=Nat.ble i.bytes 8192∧(T t).elem=elemD d∧(T t).zero=zeroD i.zero∧(T t).offs=offsD P d∧(T t).kind=kindD d∧(T t).isBool=boolD d∧(T t).isStr=strD d∧(T t).isStruct=structD d∧(T t).isPtr=ptrD d∧(T t).arr=arrD d:=by
 obtain ⟨i,d,hi,hd,e⟩:=ty_info hT h
 refine ⟨i,d,hi,hd,?_⟩
 rw [e]
 simp only [tyOf,hi,hd,and_self]
theorem run_equal_bool {t:Nat} (hd:P.underlying t=some .bool) (a b:Bool) (w:World):(Op.equal t (.bool a) (.bool b)).run P w= .ok (a==b) w:=run_equalIn_bool' w 9999 t a b hd
theorem structD_eq {d:TypeDesc} (h:structD d=true):∃fs,d= .struct fs:=by cases d<;>first|exact ⟨_,rfl⟩|(simp [structD] at h)
theorem ptrD_eq {d:TypeDesc} (h:ptrD d=true):∃e,d= .pointer e:=by cases d<;>first|exact ⟨_,rfl⟩|(simp [ptrD] at h)
theorem arrD_eq {d:TypeDesc} {e n:Nat} (h:arrD d=some (e,n)):d= .array n e:=by cases d<;>first|(simp [arrD] at h;done)|(simp [arrD] at h;rw [h.1,h.2])
theorem boolD_eq {d:TypeDesc} (h:boolD d=true):d= .bool:=by cases d<;>first|rfl|(simp [boolD] at h)
theorem strD_eq {d:TypeDesc} (h:strD d=true):d= .string:=by cases d<;>first|rfl|(simp [strD] at h)
theorem elemD_eq {d:TypeDesc} {e:Nat} (h:elemD d=some e):d= .slice e:=by cases d<;>first|(simp [elemD] at h;done)|(simp [elemD] at h;rw [h])
theorem kindD_eq {d:TypeDesc} {k:IntKind} (h:kindD d=some k):d= .int k:=by cases d<;>first|(simp [kindD] at h;done)|(simp [kindD] at h;rw [h])
theorem RepV.nil_test {X:Nat→Prop} {z:Nat} {es:List (List AV)} {u:Value} (h:RepV w X (.lst z es) u):∃A c,u= .slice A es.length c∧(A.isNone=true→es=[]):=by
 cases h
 ·exact ⟨_,_,rfl,fun _=>rfl⟩
 ·exact ⟨_,_,rfl,nofun⟩
theorem OwnRep.nil_test {X:Nat→Prop} {e z:Nat} {es:List (List AV)} {u:Value} (h:OwnRep B X w e z es u):∃A c,u= .slice A es.length c∧(A.isNone=true→es=[]):=by
 obtain ⟨css,h1,_⟩:=h
 rcases h1.2 with ⟨rfl,h0⟩|⟨g,cap,cur,rfl,_⟩
 ·exact ⟨none,0,by rw [h0],fun _=>List.eq_nil_of_length_eq_zero h0⟩
 ·exact ⟨_,_,rfl,nofun⟩
theorem nil_sound {op:BinOp} {t n c:Nat} {A:Option Addr} {es:List (List AV)} {K:AV→Prop} (hT:TabOk P T) (hA:A.isNone=true→es=[])
 (h:match (T t).ok&&(T t).elem.isSome with
   |true=>match op with
    | .eql=>nilTest es fun b=>K (.bool b)
    | .neq=>nilTest es fun b=>K (.bool (!b))
    |_=>False
   |false=>False) (X Y:Operand):
 ∃r ur,K r∧RA B G w r ur∧∀w':World,(do eqGuard op t X Y (.slice A n c) (.slice none 0 0);binOp op t (.slice A n c) (.slice none 0 0):Sem Value).run P w'= .ok ur w':=by
 split at h
 ·next hk=>
  rw [Bool.and_eq_true] at hk
  obtain ⟨i,d,hi,hd, -, -, -,hel, -⟩:=ty_at hT hk.1
  obtain ⟨e,he⟩:=Option.isSome_iff_exists.1 hk.2
  obtain rfl:=elemD_eq (hel▸he)
  have g:∀w':World,(eqGuard op t X Y (.slice A n c) (.slice none 0 0)).run P w'= .ok () w':=run_guard_prim (by simp) (by simp)
  split at h
  ·rw [nilTest_iff] at h
   exact ⟨_, .bool _,h _ hA, .bool _,fun w'=>by simp only [Sem.run_bind,g,Result.andThen_ok,Lib.run_eql_slice_nil w' _ _ _ _ _ _ _ hd]⟩
  ·rw [nilTest_iff] at h
   exact ⟨_, .bool _,h _ hA, .bool _,fun w'=>by simp only [Sem.run_bind,g,Result.andThen_ok,run_neq_slice_nil w' _ _ _ _ _ hd]⟩
  ·exact h.elim
 ·exact h.elim
theorem equal_ptr {t e:Nat} {p:Option Addr} (w':World) (d:Nat) (hd:P.underlying t=some (.pointer e)):(Op.equalIn (d+1) t (.pointer p) (.pointer none)).run P w'= .ok p.isNone w':=by
 cases p<;>simp [Op.equalIn,run_underlying hd]
theorem ptr_sound {op:BinOp} {t:Nat} {p:Option Addr} {K:AV→Prop} (hT:TabOk P T) (h:ptrTest T t op p.isNone K) (X Y:Operand):
 ∃r ur,K r∧RA B G w r ur∧∀w':World,(do eqGuard op t X Y (.pointer p) (.pointer none);binOp op t (.pointer p) (.pointer none):Sem Value).run P w'= .ok ur w':=by
 unfold ptrTest at h
 split at h
 ·next hk=>
  rw [Bool.and_eq_true] at hk
  obtain ⟨i,d,hi,hd, -, -, -, -, -, -, -, -, -, -,hp, -⟩:=ty_at hT hk.1
  obtain ⟨e,rfl⟩:=ptrD_eq (hp▸hk.2)
  have g:∀w':World,(eqGuard op t X Y (.pointer p) (.pointer none)).run P w'= .ok () w':=run_guard_prim (by simp) (by simp)
  have q:∀w':World,(Op.equal t (.pointer p) (.pointer none)).run P w'= .ok p.isNone w':=fun w'=>by
   exact equal_ptr w' 9999 hd
  split at h
  ·exact ⟨_, .bool _,h, .bool _,fun w'=>by simp only [Sem.run_bind,g,Result.andThen_ok,binOp,q,Sem.run_pure]⟩
  ·exact ⟨_, .bool _,h, .bool _,fun w'=>by simp only [Sem.run_bind,g,Result.andThen_ok,binOp,q,Sem.run_pure]⟩
  ·exact h.elim
 ·exact h.elim
theorem sound_bin {op:BinOp} {t:Nat} {x y:AV} {u v:Value} {K:AV→Prop} (hT:TabOk P T) (hx:RA B G w x u) (hy:RA B G w y v) (h:abin T op t x y K) (X Y:Operand):
 ∃r ur,K r∧RA B G w r ur∧∀w':World,(do eqGuard op t X Y u v;binOp op t u v:Sem Value).run P w'= .ok ur w':=by
 unfold abin at h
 split at h
 ·next k a k' b=>
  obtain rfl:=hx.int_inv
  obtain rfl:=hy.int_inv
  have g:∀w':World,(eqGuard op t X Y (.int k a) (.int k' b)).run P w'= .ok () w':=run_guard_prim (by simp) (by simp)
  split at h
  ·simp only [need_iff,arith_iff] at h
   refine ⟨_, .int k _,h.2, .int _ _,fun w'=>?_⟩
   have h1:¬b<0:=by have:=h.1;omega
   simp only [Sem.run_bind,g,Result.andThen_ok,binOp,Op.shift,h1,if_false,Sem.run_pure]
  ·simp only [need_iff] at h
   refine ⟨_, .int k _,h.2, .int _ _,fun w'=>?_⟩
   have h1:¬b<0:=by have:=h.1;omega
   simp only [Sem.run_bind,g,Result.andThen_ok,binOp,Op.shift,h1,if_false,Sem.run_pure]
  ·split at h
   ·next hk=>
    obtain rfl:=kind_eq hk
    obtain ⟨r,ur,h1,h2,h3⟩:=sound_int (P:=P) (B:=B) (G:=G) (w:=w) h
    exact ⟨r,ur,h1,h2,fun w'=>by simp only [Sem.run_bind,g,Result.andThen_ok,h3 t w']⟩
   ·exact h.elim
 ·next a b=>
  obtain rfl:=hx.str_inv
  obtain rfl:=hy.str_inv
  have g:∀w':World,(eqGuard op t X Y (.string a) (.string b)).run P w'= .ok () w':=run_guard_prim (by simp) (by simp)
  obtain ⟨r,ur,h1,h2,h3⟩:=sound_str (P:=P) (B:=B) (G:=G) (w:=w) h
  exact ⟨r,ur,h1,h2,fun w'=>by simp only [Sem.run_bind,g,Result.andThen_ok,h3 t w']⟩
 ·next a b=>
  obtain rfl:=hx.bool_inv
  obtain rfl:=hy.bool_inv
  have g:∀w':World,(eqGuard op t X Y (.bool a) (.bool b)).run P w'= .ok () w':=run_guard_prim (by simp) (by simp)
  split at h
  ·next hk=>
   rw [Bool.and_eq_true] at hk
   obtain ⟨i,d,hi,hd, -, -, -, -, -, -, -,hb, -⟩:=ty_at hT hk.1
   obtain rfl:=boolD_eq (hb▸hk.2)
   split at h
   ·exact ⟨_, .bool _,h, .bool _,fun w'=>by simp only [Sem.run_bind,g,Result.andThen_ok,binOp,run_equal_bool hd,Sem.run_pure]⟩
   ·exact ⟨_, .bool _,h, .bool _,fun w'=>by simp only [Sem.run_bind,g,Result.andThen_ok,binOp,run_equal_bool hd,Sem.run_pure]⟩
   ·exact h.elim
  ·exact h.elim
 ·next z es=>
  have hx':RepV w (GX G) (.lst z es) u:=hx
  obtain rfl:=hy.nil_inv
  obtain ⟨A,c,rfl,hA⟩:=hx'.nil_test
  exact nil_sound hT hA h X Y
 ·next t' e' z es=>
  have hx':RC B G w (.own t' e' z es) u:=hx
  obtain rfl:=hy.nil_inv
  obtain ⟨A,c,rfl,hA⟩:=hx'.2.nil_test
  exact nil_sound hT hA h X Y
 ·obtain rfl:=hx.nil_inv
  obtain rfl:=hy.nil_inv
  split at h
  ·next hk=>
   rw [Bool.and_eq_true] at hk
   obtain ⟨i,d,hi,hd, -, -, -,hel, -⟩:=ty_at hT hk.1
   obtain ⟨e,he⟩:=Option.isSome_iff_exists.1 hk.2
   obtain rfl:=elemD_eq (hel▸he)
   have g:∀w':World,(eqGuard op t X Y (.slice none 0 0) (.slice none 0 0)).run P w'= .ok () w':=run_guard_prim (by simp) (by simp)
   split at h
   ·exact ⟨_, .bool _,h, .bool _,fun w'=>by simp only [Sem.run_bind,g,Result.andThen_ok,Lib.run_eql_slice_nil w' _ _ _ _ _ _ _ hd];rfl⟩
   ·exact ⟨_, .bool _,h, .bool _,fun w'=>by simp only [Sem.run_bind,g,Result.andThen_ok,run_neq_slice_nil w' _ _ _ _ _ hd];rfl⟩
   ·exact h.elim
  ·exact h.elim
 ·obtain ⟨b, -,rfl⟩:=hx
  obtain rfl:v= .pointer none:=hy
  exact ptr_sound hT h X Y
 ·obtain rfl:u= .pointer none:=hx
  obtain rfl:v= .pointer none:=hy
  exact ptr_sound hT h X Y
 ·exact h.elim
end
section
variable {P:Program} {T:Nat→Ty} {tt:Nat} {w0:En} {w w':World} {G:Gh} {s:St} {a:Act} {B:Nat}
theorem cells_agr {b o:Nat} {us:List Value} (hA:Agr G w w') (hb:b<w.heap.size) (hx:¬GM G b∨∃t,G.box t=some b) (h:∀j v,us[j]? =some v→w.cell? ⟨b,o+j,none⟩=some v):∀j v,us[j]? =some v→w'.cell? ⟨b,o+j,none⟩=some v:=
 fun j v hv=>(cell_move (hA b hb hx)).trans (h j v hv)
theorem RC.of_load {v:AV} {u:Value} (h:(∃cs' us',v= .agg cs'∧u= .agg (List.toArray us')∧All2 (RC B G w) cs' us')∨RC B G w v u):RA B G w v u:=by
 rcases h with ⟨cs,us,rfl,rfl,h⟩|h
 ·exact ⟨us,rfl,h⟩
 ·exact h.ra
theorem offs_at {d:TypeDesc} {f off size:Nat} (h:(offsD P d)[f]? =some (off,size)):∃fs fd,d= .struct fs∧fs[f]? =some fd∧fd.offset=off∧((P.info? fd.type).map (·.size)).getD 0=size:=by
 cases d
 case struct fs=>
  simp only [offsD,List.getElem?_map,Option.map_eq_some_iff,Prod.mk.injEq] at h
  obtain ⟨fd,h1,h2,h3⟩:=h
  exact ⟨fs,fd,rfl,by simpa using h1,h2,h3⟩
 all_goals (simp [offsD] at h)
theorem field_sound {t f b o:Nat} {K:Nat→Prop} (hT:TabOk P T) (h:fieldOff (T t) f K):∃off,K off∧∀b o:Nat,∀w':World,(Instr.fieldAt t (.pointer (some ⟨b,o,none⟩)) f).run P w'= .ok (.pointer (some ⟨b,o+off,none⟩)) w':=by
 unfold fieldOff at h
 split at h
 ·next hok=>
  obtain ⟨i,d,hi,hd, -, -, -, -, -,hoffs, -⟩:=ty_at hT hok
  split at h
  ·next off size he=>
   rw [hoffs] at he
   obtain ⟨fs,fd,rfl,h1,rfl,h3⟩:=offs_at he
   split at h
   ·next hlt=>
    have hpos:0<size:=by simpa using hlt
    refine ⟨_,h,fun b o w'=>?_⟩
    cases hfi:P.info? fd.type with
    |none=>rw [hfi] at h3;simp at h3;omega
    |some j=>
     rw [hfi] at h3
     simp only [Option.map_some,Option.getD_some] at h3
     have hne:¬j.size=0:=by omega
     simp only [Instr.fieldAt,Sem.run_bind,run_underlying hd,Result.andThen_ok,h1,Instr.sureAddr,Sem.run_pure,fieldPlace,run_sizeOf hfi,hne,if_false,add_none]
   ·exact h.elim
  ·exact h.elim
 ·exact h.elim
theorem elem_sound {t z:Nat} {K:Nat→Prop} (hT:TabOk P T) (h:elemOf T t z K):∃e i,K e∧P.underlying t=some (.slice e)∧P.info? e=some i∧i.size=z∧(T e).ok=true∧(T t).elem=some e:=by
 unfold elemOf at h
 split at h
 ·next hok=>
  obtain ⟨i,d,hi,hd, -, -, -,hel, -⟩:=ty_at hT hok
  split at h
  ·next e he=>
   split at h
   ·next hk=>
    rw [Bool.and_eq_true] at hk
    obtain ⟨i',d',hi',hd', -,hs, -⟩:=ty_at hT hk.1
    have hz:(T e).size=z:=by simpa using hk.2
    rw [hel] at he
    obtain rfl:=elemD_eq he
    exact ⟨e,i',h,hd,hi',by rw [←hs,hz],hk.1,by rw [hel];rfl⟩
   ·exact h.elim
  ·exact h.elim
 ·exact h.elim
theorem opt_sound (S:Sim tt w0 G s a w) {d:Int} {x:Option Operand} {K:Int→Prop} (h:optInt s d x K):∃n,K n∧((x=none∧n=d)∨∃y k,x=some y∧a.eval y= .int k n):=by
 cases x with
 |none=>exact ⟨d,h, .inl ⟨rfl,rfl⟩⟩
 |some y=>
  simp only [optInt] at h
  split at h
  ·next k n he=>
   have:=S.eval y
   rw [he] at this
   exact ⟨n,h, .inr ⟨y,k,rfl,this.int_inv⟩⟩
  ·exact h.elim
theorem run_bound {k:IntKind} {n:Int} {y:Nat} {code:BoundsCode} (h0:0≤n) (h1:n≤y) (w':World):(Instr.sliceBound (.int k n) y code).run P w'= .ok n.toNat w':=by
 simp only [Instr.sliceBound,Sem.run_bind,asIntOf,Sem.run_pure,Result.andThen_ok,h0,h1,and_self,if_true]
theorem rep_sub {X:Nat→Prop} {z:Nat} {es:List (List AV)} {A:Option Addr} {c l h:Nat} (hr:RepV w X (.lst z es) (.slice A es.length c)) (hl:l≤h) (hh:h≤es.length):
 RepV w X (.lst z ((es.take h).drop l)) (.slice (if c=l then A else A.map (·.add (l * z))) (h-l) (c-l)):=by
 by_cases he:h=l
 ·subst he
  have:(es.take h).drop h=[]:=by apply List.eq_nil_of_length_eq_zero;simp
  rw [this,Nat.sub_self]
  exact .nil z _ _
 ·cases hr with
  |nil=>simp at hh;omega
  |lst f hne hc hb hx hz hcell hrep=>
   next b off=>
   have hlen:((es.take h).drop l).length=h-l:=by simp;omega
   have hcl:¬c=l:=by omega
   have hat:∀i j d,at2 ((es.take h).drop l) i j=some d→at2 es (l+i) j=some d:=fun i j d hd=>by
    obtain ⟨ds,h1,h2⟩:=at2_some hd
    rw [List.getElem?_drop,List.getElem?_take] at h1
    split at h1
    ·simp [at2,h1,h2]
    ·cases h1
   have e:(if c=l then some (⟨b,off,none⟩:Addr) else (some (⟨b,off,none⟩:Addr)).map (·.add (l * z)))=some ⟨b,off+l * z,none⟩:=by simp [hcl,add_none]
   rw [e,←hlen]
   refine .lst (fun i j=>f (l+i) j) (fun hn=>by rw [hn] at hlen;simp at hlen;omega) (by rw [hlen];omega) hb hx (fun cs hcs=>hz cs (List.mem_of_mem_take (List.mem_of_mem_drop hcs))) (fun i j d hd=>?_) (fun i j d hd=>hrep _ j d (hat i j d hd))
   have:=hcell (l+i) j d (hat i j d hd)
   rw [Nat.add_mul] at this
   rwa [Nat.add_assoc off]
theorem rep_sub3 {X:Nat→Prop} {z:Nat} {es:List (List AV)} {A:Option Addr} {c l h m:Nat} (hr:RepV w X (.lst z es) (.slice A es.length c)) (hl:l≤h) (hh:h≤es.length) (hm:h≤m):
 RepV w X (.lst z ((es.take h).drop l)) (.slice (if m=l then A else A.map (·.add (l * z))) (h-l) (m-l)):=by
 by_cases he:h=l
 ·subst he
  have:(es.take h).drop h=[]:=by apply List.eq_nil_of_length_eq_zero;simp
  rw [this,Nat.sub_self]
  exact .nil z _ _
 ·have key:=rep_sub hr hl hh
  have hlen:((es.take h).drop l).length=h-l:=by simp;omega
  have hcap:es.length≤c:=by
   cases hr with
   |nil=>simp at hh;omega
   |lst f hne hc=>exact hc
  rw [if_neg (by omega)] at key ⊢
  generalize ((es.take h).drop l)=fs at key hlen ⊢
  generalize A.map (·.add (l * z))=A' at key ⊢
  rw [←hlen] at key ⊢
  cases key with
  |nil=>simp at hlen;omega
  |lst f hne hc hb hx hz hcell hrep=>exact .lst f hne (by omega) hb hx hz hcell hrep
theorem rep_cells {X:Nat→Prop} {z:Nat} {es:List (List AV)} {u:Value} (h:RepV w X (.lst z es) u):∃A c dss,u= .slice A es.length c∧All2 (fun ds cs=>ds.length=z∧All2 (RepV w X) ds cs) es dss∧(A=none→es=[])∧∀ad,A=some ad→∀j v,dss.flatten[j]? =some v→w.cell? (ad.add j)=some v:=by
 cases h with
 |nil z A c=>exact ⟨A,c,[],rfl,trivial,fun _=>rfl,fun ad _ j v hv=>by simp at hv⟩
 |lst f hne hc hb hx hz hcell hrep=>
  next b off c=>
  let dss:List (List Value):=(List.range es.length).map fun i=>(List.range z).map (f i)
  have hd:∀i,i<es.length→dss[i]? =some ((List.range z).map (f i)):=fun i hi=>by simp [dss,hi]
  have hlen:∀c∈dss,c.length=z:=fun c hc=>by
   obtain ⟨i,_,rfl⟩:=List.mem_map.1 hc
   simp
  refine ⟨_,c,dss,rfl,All2.of (by simp [dss]) fun i ds cs h1 h2=>?_,(fun h=>by cases h),fun ad had j v hv=>?_⟩
  ·have hi:i<es.length:=(List.getElem?_eq_some_iff.1 h1).1
   rw [hd i hi] at h2
   injection h2 with h2
   subst h2
   have hdz:=hz ds (List.mem_of_getElem? h1)
   refine ⟨hdz,All2.of (by simp [hdz]) fun j d v h3 h4=>?_⟩
   have hj:j<z:=by rw [←hdz];exact (List.getElem?_eq_some_iff.1 h3).1
   simp only [List.getElem?_map,List.getElem?_range hj,Option.map_some,Option.some.injEq] at h4
   subst h4
   exact hrep i j d (by simp [at2,h1,h3])
  ·injection had with had
   subst had
   obtain ⟨i,t,cc,h1,h2,rfl⟩:=flatten_inv hlen hv
   have hi:i<es.length:=by have:=(List.getElem?_eq_some_iff.1 h1).1;simpa [dss] using this
   rw [hd i hi] at h1
   injection h1 with h1
   subst h1
   have ht:t<z:=by have:=(List.getElem?_eq_some_iff.1 h2).1;simpa using this
   simp only [List.getElem?_map,List.getElem?_range ht,Option.map_some,Option.some.injEq] at h2
   subst h2
   rw [add_none,←Nat.add_assoc]
   have hds:=hz es[i] (List.getElem_mem hi)
   exact hcell i t (es[i][t]'(by omega)) (by simp [at2,List.getElem?_eq_getElem hi,List.getElem?_eq_getElem (show t<es[i].length by omega)])
theorem all_flat {R:AV→Value→Prop} {z:Nat}:∀ {es:List (List AV)} {dss:List (List Value)},All2 (fun ds cs=>ds.length=z∧All2 R ds cs) es dss→All2 R es.flatten dss.flatten
 |[],[],_=>trivial
 |_::_,_::_,h=>by
  simp only [List.flatten_cons]
  exact h.1.2.append (all_flat h.2)
 |[],_::_,h=>h.elim
 |_::_,[],h=>h.elim
theorem allPtr_sound:∀ {cap:List AV} {us:List Value},allPtr cap=true→All2 (RP B G w) cap us→All2 (PtrRep G) cap us
 |[],[],_,_=>trivial
 |c::cap,u::us,h,hA=>by
  cases c
  case ptr t off=>exact ⟨hA.1,allPtr_sound h hA.2⟩
  case undef=>exact ⟨trivial,allPtr_sound h hA.2⟩
  all_goals (simp [allPtr] at h)
 |[],_::_,_,hA=>hA.elim
 |_::_,[],_,hA=>hA.elim
theorem cells_sound {v:AV} {u:Value} {K:List AV→Prop} (h:cellsK v K) (hr:RA B G w v u):∃cs us,K cs∧u.cells=List.toArray us∧All2 (RC B G w) cs us:=by
 cases v
 case agg cs=>
  obtain ⟨us,rfl,hA⟩:=hr
  exact ⟨cs,us,h,rfl,hA⟩
 case int k n=>obtain rfl:=hr.int_inv;exact ⟨_,[_],h,rfl,RepV.int _ _,trivial⟩
 case bool b=>obtain rfl:=hr.bool_inv;exact ⟨_,[_],h,rfl,RepV.bool _,trivial⟩
 case str b=>obtain rfl:=hr.str_inv;exact ⟨_,[_],h,rfl,RepV.str _,trivial⟩
 case nil=>obtain rfl:=hr.nil_inv;exact ⟨_,[_],h,rfl,rfl,trivial⟩
 case lst z es=>
  have hr':RepV w (GX G) (.lst z es) u:=hr
  obtain ⟨A,c,rfl⟩:=hr'.lst_inv
  exact ⟨_,[_],h,rfl,hr',trivial⟩
 case own t e z es=>
  have hr':RC B G w (.own t e z es) u:=hr
  obtain ⟨A,c,rfl⟩:=hr'.2.inv
  exact ⟨_,[_],h,rfl,hr',trivial⟩
 case mat t e e2 z2 rows=>
  have hr':RC B G w (.mat t e e2 z2 rows) u:=hr
  obtain ⟨-,hs,h1, -⟩:=hr'
  rcases h1.2 with ⟨rfl, -⟩|⟨g,cap,cur,rfl, -⟩
  ·exact ⟨_,[_],h,rfl,hr,trivial⟩
  ·exact ⟨_,[_],h,rfl,hr,trivial⟩
 case ptr t off=>
  obtain ⟨b,hb,rfl⟩:=hr
  exact ⟨_,[_],h,rfl,⟨b,hb,rfl⟩,trivial⟩
 case nilp=>
  obtain rfl:u= .pointer none:=hr
  exact ⟨_,[_],h,rfl,rfl,trivial⟩
 case fn f cap=>
  simp only [cellsK] at h
  split at h
  ·next hp=>
   obtain ⟨us,rfl,hA⟩:=hr
   exact ⟨_,[_],h,rfl,⟨us,rfl,allPtr_sound hp hA⟩,trivial⟩
  ·exact h.elim
 all_goals exact h.elim
theorem foldl_set (vs:List Value) (cells:List Value) (off:Nat):((vs.toArray.zipIdx.foldl (fun cs (c,j)=>cs.setIfInBounds (off+j) c) cells.toArray)).toList=vs.zipIdx.foldl (fun cs (p:Value×Nat)=>cs.set (off+p.2) p.1) cells:=by
 rw [←Array.foldl_toList]
 have:vs.toArray.zipIdx.toList=vs.zipIdx:=by simp
 rw [this]
 generalize vs.zipIdx=l
 induction l generalizing cells with
 |nil=>rfl
 |cons p l ih=>
  simp only [List.foldl_cons]
  have e:cells.toArray.setIfInBounds (off+p.2) p.1=(cells.set (off+p.2) p.1).toArray:=by simp
  rw [e,ih]
theorem setRange_sound {R:AV→Value→Prop}:∀ {vs:List AV} {us:List Value} {cells:List AV} {cs:List Value} (off k:Nat),All2 R vs us→All2 R cells cs→All2 R (setRange cells (off+k) vs) ((us.zipIdx k).foldl (fun cs (p:Value×Nat)=>cs.set (off+p.2) p.1) cs)
 |[],[],cells,cs,off,k,_,h=>h
 |v::vs,u::us,cells,cs,off,k,hv,h=>by
  simp only [setRange,List.zipIdx_cons,List.foldl_cons]
  exact setRange_sound off (k+1) hv.2 (h.set (off+k) hv.1)
 |[],_::_,_,_,_,_,hv,_=>hv.elim
 |_::_,[],_,_,_,_,hv,_=>hv.elim
theorem fill_sound (S:Sim tt w0 G s a w) {offs:List (Nat×Nat)} {K:List AV→Prop}:∀ {parts:List (Nat×Operand)} {cells:List AV} {cs:List Value},fillK offs s parts cells K→All2 (RC w0.B G w) cells cs→
 ∃cells' cs',K cells'∧All2 (RC w0.B G w) cells' cs'∧Instr.fill (offs[·]?) cs.toArray (parts.map fun p=>(p.1,a.eval p.2))=some cs'.toArray
 |[],cells,cs,h,hA=>⟨cells,cs,h,hA,rfl⟩
 |(i,x)::rest,cells,cs,h,hA=>by
  simp only [fillK] at h
  split at h
  ·next off size ho=>
   obtain ⟨vs,us,h1,h2,h3⟩:=cells_sound h (S.eval x)
   split at h1
   ·next hk=>
    rw [Bool.and_eq_true] at hk
    have e1:vs.length=size:=by simpa using hk.1
    have e2:off+vs.length≤cells.length:=Nat.le_of_ble_eq_true hk.2
    have hset:=setRange_sound (R:=RC w0.B G w) off 0 h3 hA
    rw [Nat.add_zero] at hset
    rw [forceL_eq] at h1
    obtain ⟨cells',cs',k1,k2,k3⟩:=fill_sound S h1 hset
    refine ⟨cells',cs',k1,k2,?_⟩
    simp only [List.map_cons,Instr.fill,ho,h2]
    have hc:¬((us.toArray.size≠size||off+us.toArray.size>cs.toArray.size)=true):=by
     have a1:=h3.len
     have a2:=hA.len
     simp only [List.size_toArray,Bool.or_eq_true,decide_eq_true_eq,not_or]
     constructor
     ·simp;omega
     ·omega
    have hc':(decide (us.toArray.size≠size)||decide (off+us.toArray.size>cs.toArray.size))=false:=by simpa using hc
    rw [if_neg (by simpa using hc)]
    have e3:us.toArray.zipIdx.foldl (fun cs (c,j)=>cs.setIfInBounds (off+j) c) cs.toArray=(us.zipIdx.foldl (fun cs (p:Value×Nat)=>cs.set (off+p.2) p.1) cs).toArray:=by
     rw [←foldl_set]
    rw [e3]
    exact k3
   ·exact h1.elim
  ·exact h.elim
theorem places_eq:∀ {fs:List Field},allPos (fs.map fun f=>(f.offset,((P.info? f.type).map (·.size)).getD 0))=true→fs.mapM (fun f=>(P.info? f.type).map fun i=>(f.offset,i.size))=some (fs.map fun f=>(f.offset,((P.info? f.type).map (·.size)).getD 0))
 |[],_=>by simp
 |f::fs,h=>by
  simp only [List.map_cons,allPos,Bool.and_eq_true] at h
  have ih:=places_eq h.2
  cases hi:P.info? f.type with
  |none=>rw [hi] at h;simp at h
  |some i=>simp [List.mapM_cons,hi,ih]
theorem zero_sound (vs:List Value):All2 (RC B G w) (vs.map ofValue) vs:=by
 induction vs with
 |nil=>trivial
 |cons v vs ih=>
  refine ⟨?_,ih⟩
  unfold ofValue
  split<;>first|exact (RepV.int _ _)|exact (RepV.bool _)|exact (RepV.str _)|rfl|trivial
theorem fill_place {pl pl':Nat→Option (Nat×Nat)} (hp:∀i p,pl i=some p→pl' i=some p):∀ {parts:List (Nat×Value)} {cells r:Array Value},Instr.fill pl cells parts=some r→Instr.fill pl' cells parts=some r
 |[],cells,r,h=>h
 |(i,v)::rest,cells,r,h=>by
  simp only [Instr.fill] at h ⊢
  split at h
  ·cases h
  ·next off size he=>
   rw [hp i _ he]
   simp only
   split at h
   ·cases h
   ·next hc=>
    rw [if_neg hc]
    exact fill_place hp h
theorem range_at {z:Nat}:∀ {n i k:Nat} {p:Nat×Nat},(rangeOffs z i n)[k]? =some p→p=((i+k) * z,z)
 |0,i,k,p,h=>by simp [rangeOffs] at h
 |n+1,i,0,p,h=>by simp [rangeOffs] at h;exact h.symm
 |n+1,i,k+1,p,h=>by
  have:=range_at (n:=n) (i:=i+1) (k:=k) (by simpa [rangeOffs] using h)
  rw [this]
  congr 2
  omega
theorem arrE_sound {t:Nat} {K:Nat→Nat→Prop} (hT:TabOk P T) (h:arrE T t K):∃e len i0 i,K e len∧P.underlying t=some (.array len e)∧P.info? t=some i0∧(T t).zero=zeroD i0.zero∧P.info? e=some i∧(T e).size=i.size∧(T e).ok=true:=by
 unfold arrE at h
 split at h
 ·next hk=>
  split at h
  ·next e len he=>
   split at h
   ·next hke=>
    obtain ⟨i1,d1,hi1,hd1, -, -, -, -,hz, -, -, -, -, -, -,har⟩:=ty_at hT hk
    obtain ⟨i2,d2,hi2,hd2, -,hsz, -⟩:=ty_at hT hke
    obtain rfl:=arrD_eq (har▸he)
    exact ⟨e,len,i1,i2,h,hd1,hi1,hz,hi2,hsz,hke⟩
   ·exact h.elim
  ·exact h.elim
 ·exact h.elim
theorem build_sound (hT:TabOk P T) (S:Sim tt w0 G s a w) {t:Nat} {parts:Array (Nat×Operand)} {K:AV→Prop} (h:aval T s (.build t parts) K):
 ∃v u,K v∧RA w0.B G w v u∧∀w':World,(Instr.build t (parts.map fun (i,x)=>(i,a.eval x))).run P w'= .ok u w':=by
 simp only [aval] at h
 split at h
 ·next hk=>
  rw [Bool.and_eq_true] at hk
  obtain ⟨i,d,hi,hd, -, -, -, -,hz,hoffs, -, -, -,hst, -⟩:=ty_at hT hk.1
  obtain ⟨fs,rfl⟩:=structD_eq (hst▸hk.2)
  split at h
  ·next z zs hp hzz=>
   cases hiz:i.zero with
   |none=>rw [hz,hiz] at hzz;simp [zeroD] at hzz
   |some zv=>
    have hzA:All2 (RC w0.B G w) (z::zs) zv.cells.toList:=by
     rw [←hzz,hz,hiz];exact zero_sound _
    obtain ⟨cells',cs',k1,k2,k3⟩:=fill_sound S h hzA
    refine ⟨_, .agg cs'.toArray,k1,⟨cs',rfl,k2⟩,fun w'=>run_build w' t _ _ ?_⟩
    rw [hoffs] at hp k3
    have hpl:=places_eq (P:=P) (fs:=fs.toList) hp
    simp only [Program.built,hi,hd,hiz,hpl]
    simp only [offsD] at k3
    rw [←k3]
    simp
  ·exact h.elim
 ·obtain ⟨e,len,i0,i,h,hd,hi0,hz,hi,hsz, -⟩:=arrE_sound hT h
  split at h
  ·next z zs hzz=>
   cases hiz:i0.zero with
   |none=>rw [hz,hiz] at hzz;simp [zeroD] at hzz
   |some zv=>
    have hzA:All2 (RC w0.B G w) (z::zs) zv.cells.toList:=by
     rw [←hzz,hz,hiz];exact zero_sound _
    obtain ⟨cells',cs',k1,k2,k3⟩:=fill_sound S h hzA
    refine ⟨_, .agg cs'.toArray,k1,⟨cs',rfl,k2⟩,fun w'=>run_build w' t _ _ ?_⟩
    rw [hsz] at k3
    have:=fill_place (pl':=fun i'=>some (i' * i.size,i.size)) (fun k p hp=>by rw [range_at hp,Nat.zero_add]) k3
    simp only [Program.built,hi0,hd,hiz,hi]
    rw [←this]
    simp
  ·exact h.elim
theorem isP_sound {v:AV} {u:Value} (h:isP v=true) (hr:RA B G w v u):RP B G w v u:=by
 cases v<;>first|exact hr|(simp [isP] at h)
theorem allP_sound:∀ {vs:List AV} {us:List Value},allP vs=true→All2 (RA B G w) vs us→All2 (RP B G w) vs us
 |[],[],_,_=>trivial
 |v::vs,u::us,h,hA=>by
  simp only [allP,Bool.and_eq_true] at h
  exact ⟨isP_sound h.1 hA.1,allP_sound h.2 hA.2⟩
 |[],_::_,_,hA=>hA.elim
 |_::_,[],_,hA=>hA.elim
theorem arr_one {t:Nat} {ts:Array Nat} (h:ts.toList=[t]):ts= #[t]:=by cases ts;simpa using h
set_option maxHeartbeats 1000000 in
theorem aval_sound (hT:TabOk P T) (S:Sim tt w0 G s a w) (o:Oper) {K:AV→Prop} (h:aval T s o.op K):Val P w0.B G w a.eval o K:=by
 obtain ⟨dst,op,type,pos,after,guard⟩:=o
 cases op
 case move x=>exact ⟨_,_,h,S.eval x,fun w' _=>rfl⟩
 case assign x=>exact ⟨_,_,h,S.eval x,fun w' _=>rfl⟩
 case pick c x y=>
  simp only [aval] at h
  split at h
  ·next b hb=>
   have hc:=S.eval c
   rw [hb] at hc
   have hc':=hc.bool_inv
   simp only [branch_iff] at h
   cases b with
   |true=>exact ⟨_,_,h.1 rfl,S.eval x,fun w' _=>by simp [execOp,hc',asBool]⟩
   |false=>exact ⟨_,_,h.2 rfl,S.eval y,fun w' _=>by simp [execOp,hc',asBool]⟩
  ·exact h.elim
 case load t x=>
  simp only [aval] at h
  have hx:=S.eval x
  split at h
  ·next b off hb=>
   rw [hb] at hx
   split at h
   ·next cs hcs=>
    obtain ⟨bb,hbb,hu⟩:=hx
    obtain ⟨b',e,us,h1,h2,h3⟩:=S.box b cs hcs
    rw [hbb] at h1
    injection h1 with h1
    subst h1
    obtain ⟨v,u,k1,k2,k3⟩:=load_sound (P:=P) (b:=bb) (o:=off) hT h (h3.drop off)
    refine ⟨v,u,k1,RC.of_load k2,fun w' hA=>?_⟩
    have hcell:∀j v,(us.drop off)[j]? =some v→w.cell? ⟨bb,off+j,none⟩=some v:=fun j v hv=>by rw [h2.cell];rw [List.getElem?_drop] at hv;simpa using hv
    have:=k3 w' (cells_agr (hA rfl) h2.lt (.inr ⟨b,hbb⟩) hcell)
    simp only [execOp,hu,Sem.run_bind,this,Result.andThen_ok,Sem.run_pure]
   ·exact h.elim
  ·next cs hb=>
   rw [hb] at hx
   obtain ⟨b,o,us,hu,h1,h2,h3,h4⟩:=hx
   obtain ⟨v,u,k1,k2,k3⟩:=load_sound (P:=P) (b:=b) (o:=o) hT h (h3.mono fun _ _ h=>(RepU.rc h:RC w0.B G w _ _))
   refine ⟨v,u,k1,RC.of_load k2,fun w' hA=>?_⟩
   have:=k3 w' (cells_agr (hA rfl) h1 (.inl h2) h4)
   simp only [execOp,hu,Sem.run_bind,this,Result.andThen_ok,Sem.run_pure]
  ·exact h.elim
 case binOp op t x y yt=>
  obtain ⟨r,ur,h1,h2,h3⟩:=sound_bin hT (S.eval x) (S.eval y) h x y
  exact ⟨r,ur,h1,h2,fun w' _=>by simp only [execOp];rw [Sem.run_bind,h3 w'];rfl⟩
 case unOp op t x=>
  simp only [aval] at h
  have hx:=S.eval x
  split at h
  ·next b hb=>
   rw [hb] at hx
   exact ⟨_, .bool _,h, .bool _,fun w' _=>by simp [execOp,hx.bool_inv,Op.unary]⟩
  ·next k n hb=>
   rw [hb] at hx
   simp only [arith_iff] at h
   exact ⟨_, .int k _,h, .int _ _,fun w' _=>by simp [execOp,hx.int_inv,Op.unary,Op.intArith]⟩
  ·exact h.elim
 case convert src dst x=>
  simp only [aval] at h
  have hx:=S.eval x
  split at h
  ·next hk=>
   rw [Bool.and_eq_true] at hk
   obtain ⟨i,d,hi,hd, -⟩:=ty_at hT hk.1
   obtain ⟨i',d',hi',hd', -, -, -, -, -, -,hkd, -⟩:=ty_at hT hk.2
   split at h
   ·next k k' n hkk hb=>
    rw [hb] at hx
    simp only [arith_iff] at h
    rw [hkd] at hkk
    obtain rfl:=kindD_eq hkk
    refine ⟨_, .int k _,h, .int _ _,fun w' _=>?_⟩
    simp only [execOp,hx.int_inv,Sem.run_bind,convert,run_underlying hd,run_underlying hd',Result.andThen_ok,Conv.intToInt,Sem.run_pure]
   ·exact h.elim
  ·exact h.elim
 case fieldAddr t x f=>
  simp only [aval] at h
  have hx:=S.eval x
  split at h
  ·next b off hb=>
   rw [hb] at hx
   obtain ⟨bb,hbb,hu⟩:=hx
   obtain ⟨o,h1,h2⟩:=field_sound (P:=P) (b:=0) (o:=0) hT h
   exact ⟨_, .pointer (some ⟨bb,off+o,none⟩),h1,⟨bb,hbb,rfl⟩,fun w' _=>by simp only [execOp,hu,Sem.run_bind,h2,Result.andThen_ok,Sem.run_pure]⟩
  ·next cs hb=>
   rw [hb] at hx
   obtain ⟨b,o,us,hu,k1,k2,k3,k4⟩:=hx
   obtain ⟨off,h1,h2⟩:=field_sound (P:=P) (b:=0) (o:=0) hT h
   refine ⟨_, .pointer (some ⟨b,o+off,none⟩),h1,⟨b,o+off,us.drop off,rfl,k1,k2,k3.drop off,fun j v hv=>?_⟩,fun w' _=>by simp only [execOp,hu,Sem.run_bind,h2,Result.andThen_ok,Sem.run_pure]⟩
   rw [List.getElem?_drop] at hv
   rw [Nat.add_assoc]
   exact k4 _ v hv
  ·next t' i off cs hb=>
   rw [hb] at hx
   obtain ⟨g,n,c,e,cur,us,k1,hu,k3,k4,k4',k5,k6⟩:=hx
   obtain ⟨o,h1,h2⟩:=field_sound (P:=P) (b:=0) (o:=0) hT h
   exact ⟨_, .pointer (some ⟨g,i * cs.length+off+o,none⟩),h1,⟨g,n,c,e,cur,us,k1,by rw [Nat.add_assoc],k3,k4,k4',k5,k6⟩,fun w' _=>by simp only [execOp,hu,Sem.run_bind,h2,Result.andThen_ok,Sem.run_pure]⟩
  ·exact h.elim
 case field t x f=>
  simp only [aval] at h
  have hx:=S.eval x
  split at h
  ·next cs hb=>
   rw [hb] at hx
   obtain ⟨us,hux,hA⟩:=hx
   split at h
   ·next hok=>
    obtain ⟨i0,d,hi0,hd,e⟩:=ty_info hT hok
    have hfl:(T t).flds=fldsD d:=by rw [e];simp only [tyOf,hi0,hd]
    split at h
    ·next off ft hf=>
     rw [hfl] at hf
     obtain ⟨fs,rfl⟩:∃fs,d= .struct fs:=by
      cases d<;>first|exact ⟨_,rfl⟩|(simp [fldsD] at hf)
     simp only [fldsD,List.getElem?_map,Option.map_eq_some_iff] at hf
     obtain ⟨fl,hfl2,hfe⟩:=hf
     injection hfe with h1 h2
     subst h1 h2
     have hfa:fs[f]? =some fl:=by rw [←Array.getElem?_toList];exact hfl2
     have hA':=hA.drop fl.offset
     have hL:=hA'.len
     unfold loadAs at h
     split at h
     ·next hok2=>
      obtain ⟨i2,d2,hi2,hd2,hag,hsz2, -⟩:=ty_at hT hok2
      split at h
      ·next hg=>
       split at h
       ·next hle=>
        have hle':=Nat.le_of_ble_eq_true hle
        refine ⟨_, .agg ((us.drop fl.offset).take (T fl.type).size).toArray,h,⟨_,rfl,hA'.take _⟩,fun w' _=>?_⟩
        simp only [execOp,hux,Instr.field,asAgg,Sem.run_bind,Sem.run_pure,Result.andThen_ok,run_underlying hd,hfa,part,run_isAgg hd2,←hag,hg,if_true,run_sizeOf hi2,←hsz2]
        congr 3
        simp [Nat.add_sub_cancel_left]
       ·exact h.elim
      ·next hg=>
       split at h
       ·next c cs' hcs=>
        rw [hcs] at hA'
        obtain ⟨u,us',hus,hr,_⟩:=hA'.cons_inv
        have hat:us[fl.offset]? =some u:=by
         have:=congrArg (·[0]?) hus
         simpa using this
        refine ⟨_,u,h,hr.ra,fun w' _=>?_⟩
        simp only [execOp,hux,Instr.field,asAgg,Sem.run_bind,Sem.run_pure,Result.andThen_ok,run_underlying hd,hfa,part,run_isAgg hd2,←hag,hg,Bool.false_eq_true,if_false,List.getElem?_toArray,hat]
       ·exact h.elim
     ·exact h.elim
    ·exact h.elim
   ·exact h.elim
  ·exact h.elim
 case indexAddr t x i=>
  simp only [aval] at h
  have hx:=S.eval x
  have hi:=S.eval i
  split at h
  ·next z es k n hb hn=>
   rw [hb] at hx
   rw [hn] at hi
   have hi':=hi.int_inv
   obtain ⟨e,ie,h1,h2,h3,h4, -⟩:=elem_sound (P:=P) hT h
   simp only [idx_iff] at h1
   obtain ⟨h0,cs,h5,h6⟩:=h1
   have hx':RepV w (GX G) (.lst z es) (a.eval x):=hx
   have hlt:n.toNat<es.length:=(List.getElem?_eq_some_iff.1 h5).1
   generalize hux:a.eval x=ux at hx'
   cases hx' with
   |nil=>simp at hlt
   |lst f hne hc hbb hxx hz hcell hrep=>
    next b off c=>
    refine ⟨_, .pointer (some ⟨b,off+n.toNat * z,none⟩),h6,⟨b,off+n.toNat * z,(List.range cs.length).map (f n.toNat),rfl,hbb,fun hm=>hxx (.inl hm),All2.of (by simp) fun j d v hd hv=>?_,fun j v hv=>?_⟩,fun w' _=>?_⟩
    ·rw [List.getElem?_map] at hv
     have hj:j<cs.length:=(List.getElem?_eq_some_iff.1 hd).1
     rw [List.getElem?_range hj] at hv
     simp only [Option.map_some,Option.some.injEq] at hv
     subst hv
     exact .inr (hrep n.toNat j d (by simp [at2,h5,hd]))
    ·rw [List.getElem?_map] at hv
     rcases Nat.lt_or_ge j cs.length with hj|hj
     ·rw [List.getElem?_range hj] at hv
      simp only [Option.map_some,Option.some.injEq] at hv
      subst hv
      exact hcell n.toNat j cs[j] (by simp [at2,h5,List.getElem?_eq_getElem hj])
     ·rw [List.getElem?_eq_none (by simpa using hj)] at hv
      cases hv
    ·have hb2:0≤n∧n<(es.length:Int):=⟨h0,by omega⟩
     simp only [execOp,hux,hi',Instr.indexAt,Sem.run_bind,asIntOf,Sem.run_pure,Result.andThen_ok,run_underlying h2,hb2,and_self,if_true,run_sizeOf h3,h4,add_none]
  ·next t' e' z es k n hb hn=>
   rw [hb] at hx
   rw [hn] at hi
   have hi':=hi.int_inv
   obtain ⟨e,ie,h1,h2,h3,h4, -⟩:=elem_sound (P:=P) hT h
   simp only [idx_iff] at h1
   obtain ⟨h0,cs,h5,h6⟩:=h1
   have hlt:n.toNat<es.length:=(List.getElem?_eq_some_iff.1 h5).1
   obtain ⟨hG,css,ho,hA⟩:=(hx:RC w0.B G w (.own t' e' z es) (a.eval x))
   obtain ⟨hl,hl'⟩:=OwnRep.lens hA
   generalize hux:a.eval x=ux at *
   have ho':=ho
   rcases ho'.2 with ⟨_,h00⟩|⟨g,cap,cur,rfl,hg,hh,hc,hm,hsz,ht⟩
   ·omega
   ·have hcz:cs.length=z:=hl' cs (List.mem_of_getElem? h5)
    obtain ⟨us,k1,k2,k3⟩:=hA.get h5
    have hus:us.length=z:=hl us (List.mem_of_getElem? k1)
    refine ⟨_, .pointer (some ⟨g,n.toNat * z,none⟩),h6,⟨g,es.length,cap,e',cur,us,hG,by rw [hcz];rfl,hlt,hh,by rw [hcz,hsz];exact Nat.mul_le_mul_right _ hc,k3.mono fun _ _ h=> .inr h,fun j v hv=>?_⟩,fun w' _=>?_⟩
    ·have hf:=flatten_at hl k1 hv
     rw [hcz,ho.cellAt _ (by have:=(List.getElem?_eq_some_iff.1 hf).1;rw [ho.1] at this;exact this),hf]
    ·have hb2:0≤n∧n<(es.length:Int):=⟨h0,by omega⟩
     simp only [execOp,hux,hi',Instr.indexAt,Sem.run_bind,asIntOf,Sem.run_pure,Result.andThen_ok,run_underlying h2,hb2,and_self,if_true,run_sizeOf h3,h4,add_none,Nat.zero_add]
  ·next t' e' e2 z2 rows k n hb hn=>
   rw [hb] at hx
   rw [hn] at hi
   have hi':=hi.int_inv
   obtain ⟨e,ie,h1,h2,h3,h4, -⟩:=elem_sound (P:=P) hT h
   simp only [ridx_iff] at h1
   obtain ⟨h0,ro,h5,h6⟩:=h1
   have hlt:n.toNat<rows.length:=(List.getElem?_eq_some_iff.1 h5).1
   obtain ⟨hG,hs,ho,hA⟩:=(hx:RC w0.B G w (.mat t' e' e2 z2 rows) (a.eval x))
   generalize hux:a.eval x=ux at *
   have ho':=ho
   rcases ho'.2 with ⟨_,h00⟩|⟨g,cap,cur,rfl,hg,hh,hc,hm,hsz,ht⟩
   ·omega
   ·refine ⟨_, .pointer (some ⟨g,n.toNat,none⟩),h6,⟨g,rows.length,cap,e',cur,hG,rfl,by omega,hh,by omega,fun es hes=>?_⟩,fun w' _=>?_⟩
    ·subst hes
     obtain ⟨h,q1,q2,q3⟩:=hA _ es h5
     refine ⟨h,?_,q2,q3⟩
     have:(cur.toList.take (rows.length * 1))[n.toNat]? =hs[n.toNat]? :=by rw [ht]
     rw [List.getElem?_take_of_lt (by omega),q1] at this
     exact this
    ·have hb2:0≤n∧n<(rows.length:Int):=⟨h0,by omega⟩
     simp only [execOp,hux,hi',Instr.indexAt,Sem.run_bind,asIntOf,Sem.run_pure,Result.andThen_ok,run_underlying h2,hb2,and_self,if_true,run_sizeOf h3,h4,add_none,Nat.zero_add,Nat.mul_one]
  ·next b off k n hb hn=>
   rw [hb] at hx
   rw [hn] at hi
   have hi':=hi.int_inv
   obtain ⟨bb,hbb,hu⟩:=hx
   unfold arrOf at h
   split at h
   ·next hk=>
    split at h
    ·next e len he=>
     split at h
     ·next hke=>
      obtain ⟨i1,d1,hi1,hd1, -, -, -, -, -, -, -, -, -, -, -,har⟩:=ty_at hT hk
      obtain ⟨i2,d2,hi2,hd2, -,hsz, -⟩:=ty_at hT hke
      obtain rfl:=arrD_eq (har▸he)
      simp only [aidx_iff] at h
      obtain ⟨m,rfl,hm,h⟩:=h
      refine ⟨_, .pointer (some ⟨bb,off+m * (T e).size,none⟩),h,⟨bb,hbb,rfl⟩,fun w' _=>?_⟩
      have hb2:(0:Int)≤(m:Int)∧(m:Int)<(len:Int):=⟨by omega,by omega⟩
      simp only [execOp,hu,hi',Instr.indexAt,Sem.run_bind,asIntOf,Sem.run_pure,Result.andThen_ok,run_underlying hd1,Instr.sureAddr,hb2,and_self,if_true,run_sizeOf hi2,hsz,add_none,Int.toNat_natCast]
     ·exact h.elim
    ·exact h.elim
   ·exact h.elim
  ·next cs k n hb hn=>
   rw [hb] at hx
   rw [hn] at hi
   have hi':=hi.int_inv
   obtain ⟨bb,o,us,hu,r1,r2,r3,r4⟩:=hx
   unfold arrOf at h
   split at h
   ·next hk=>
    split at h
    ·next e len he=>
     split at h
     ·next hke=>
      obtain ⟨i1,d1,hi1,hd1, -, -, -, -, -, -, -, -, -, -, -,har⟩:=ty_at hT hk
      obtain ⟨i2,d2,hi2,hd2, -,hsz, -⟩:=ty_at hT hke
      obtain rfl:=arrD_eq (har▸he)
      split at h
      ·next hle=>
       rw [agetS_iff] at h
       obtain ⟨m,rfl,hm,h⟩:=h
       refine ⟨_, .pointer (some ⟨bb,o+m * (T e).size,none⟩),h,⟨bb,o+m * (T e).size,(us.drop (m * (T e).size)).take (T e).size,rfl,r1,r2,(r3.drop _).take _,fun j v hv=>?_⟩,fun w' _=>?_⟩
       ·rw [List.getElem?_take] at hv
        split at hv
        ·rw [List.getElem?_drop] at hv
         rw [Nat.add_assoc]
         exact r4 _ v hv
        ·cases hv
       ·have hb2:(0:Int)≤(m:Int)∧(m:Int)<(len:Int):=⟨by omega,by omega⟩
        simp only [execOp,hu,hi',Instr.indexAt,Sem.run_bind,asIntOf,Sem.run_pure,Result.andThen_ok,run_underlying hd1,Instr.sureAddr,hb2,and_self,if_true,run_sizeOf hi2,hsz,add_none,Int.toNat_natCast]
      ·exact h.elim
     ·exact h.elim
    ·exact h.elim
   ·exact h.elim
  ·exact h.elim
 case index t x i=>
  simp only [aval] at h
  have hx:=S.eval x
  have hi:=S.eval i
  split at h
  ·next b k n hb hn=>
   rw [hb] at hx
   rw [hn] at hi
   split at h
   ·next hk=>
    rw [Bool.and_eq_true] at hk
    obtain ⟨i',d,hi2,hd, -, -, -, -, -, -, -, -,hs, -⟩:=ty_at hT hk.1
    obtain rfl:=strD_eq (hs▸hk.2)
    simp only [byteAt_iff] at h
    obtain ⟨h0,c,h1,h2⟩:=h
    exact ⟨_, .int .u8 _,h2, .int _ _,fun w' _=>by simp only [execOp,hx.str_inv,hi.int_inv,Instr.index,Sem.run_bind,asIntOf,Sem.run_pure,Result.andThen_ok,run_underlying hd,h0,if_true,h1]⟩
   ·exact h.elim
  ·next cs k n hb hn=>
   rw [hb] at hx
   rw [hn] at hi
   obtain ⟨us,hux,hA⟩:=hx
   obtain ⟨e,len,i0,ie,h,hd, -, -,hie,hsz,hok⟩:=arrE_sound hT h
   split at h
   ·next hle=>
    have hle':len * (T e).size≤cs.length:=Nat.le_of_ble_eq_true hle
    have hL:=hA.len
    rw [agetS_iff] at h
    obtain ⟨m,rfl,hm,h⟩:=h
    have hA':=(hA.drop (m * (T e).size)).take (T e).size
    have hb2:(0:Int)≤(m:Int)∧(m:Int)<(len:Int):=⟨by omega,by omega⟩
    have hin:(m+1) * (T e).size≤us.length:=by rw [←hL];exact Nat.le_trans (Nat.mul_le_mul_right _ hm) hle'
    rw [Nat.add_mul,Nat.one_mul] at hin
    unfold loadAs at h
    rw [hok] at h
    simp only at h
    obtain ⟨i2,d2,hi2,hd2,hag,hsz2, -⟩:=ty_at hT hok
    rw [hie] at hi2
    injection hi2 with hi2
    subst hi2
    split at h
    ·next hg=>
     split at h
     ·next hle2=>
      rw [List.take_take,Nat.min_self] at h
      refine ⟨_, .agg ((us.drop (m * (T e).size)).take (T e).size).toArray,h,⟨_,rfl,hA'⟩,fun w' _=>?_⟩
      simp only [execOp,hux,hi.int_inv,Instr.index,Sem.run_bind,asIntOf,Sem.run_pure,Result.andThen_ok,run_underlying hd,hb2,and_self,if_true,run_sizeOf hie,part,run_isAgg hd2,←hag,hg,Int.toNat_natCast,←hsz]
      congr 2
      simp [Nat.add_sub_cancel_left]
     ·exact h.elim
    ·next hg=>
     split at h
     ·next c cs' hcs=>
      rw [hcs] at hA'
      obtain ⟨u,us',hus,hr,_⟩:=hA'.cons_inv
      have hat:us[m * (T e).size]? =some u:=by
       have h1:((us.drop (m * (T e).size)).take (T e).size)[0]? =some u:=by rw [hus];rfl
       rw [List.getElem?_take] at h1
       split at h1
       ·rw [List.getElem?_drop,Nat.add_zero] at h1;exact h1
       ·cases h1
      refine ⟨_,u,h,hr.ra,fun w' _=>?_⟩
      simp only [execOp,hux,hi.int_inv,Instr.index,Sem.run_bind,asIntOf,Sem.run_pure,Result.andThen_ok,run_underlying hd,hb2,and_self,if_true,run_sizeOf hie,part,run_isAgg hd2,←hag,hg,Bool.false_eq_true,if_false,Int.toNat_natCast,←hsz,List.getElem?_toArray,hat]
     ·exact h.elim
   ·exact h.elim
  ·exact h.elim
 case extract x i=>
  simp only [aval] at h
  have hx:=S.eval x
  split at h
  ·next vs hb=>
   rw [hb] at hx
   obtain ⟨us,hu,hA⟩:=hx
   split at h
   ·next v hv=>
    obtain ⟨u,h1,h2⟩:=hA.get hv
    exact ⟨v,u,h,h2.ra,fun w' _=>by simp [execOp,hu,Instr.extract,h1]⟩
   ·exact h.elim
  ·exact h.elim
 case nilCheck x=>
  simp only [aval] at h
  have hx:=S.eval x
  split at h
  ·next t off hb=>
   rw [hb] at hx
   obtain ⟨b,h1,hu⟩:=hx
   exact ⟨_,_,h,⟨b,h1,rfl⟩,fun w' _=>by simp [execOp,hu]⟩
  ·next t i off cs hb=>
   rw [hb] at hx
   obtain ⟨g,n,c,e,cur,us,k1,hu,k3⟩:=hx
   exact ⟨_,_,h,⟨g,n,c,e,cur,us,k1,rfl,k3⟩,fun w' _=>by simp [execOp,hu]⟩
  ·next cs hb=>
   rw [hb] at hx
   obtain ⟨b,o,us,hu,k⟩:=hx
   exact ⟨_,_,h,⟨b,o,us,rfl,k⟩,fun w' _=>by simp [execOp,hu]⟩
  ·next hb=>
   rw [hb] at hx
   obtain ⟨p,k,hu⟩:=hx
   exact ⟨_,_,h,⟨p,k,rfl⟩,fun w' _=>by simp [execOp,hu]⟩
  ·exact h.elim
 case build t parts=>
  obtain ⟨v,u,h1,h2,h3⟩:=build_sound hT S h
  exact ⟨v,u,h1,h2,fun w' _=>by simp only [execOp,Sem.run_bind,h3 w',Result.andThen_ok,Sem.run_pure]⟩
 case makeFunc f first cap=>
  simp only [aval] at h
  split at h
  ·next f=>
   split at h
   ·next hf=>
    split at h
    ·next hp=>
     refine ⟨_, .func (.func f) #[] (cap.toList.map a.eval).toArray,h,⟨_,rfl,allP_sound hp (S.evals cap.toList)⟩,fun w' _=>?_⟩
     have e1:first= #[]:=by cases first;simpa using hf
     have e2:(cap.toList.map a.eval).toArray=cap.map a.eval:=by cases cap;simp
     simp [execOp,Instr.makeFunc,e1,e2]
    ·exact h.elim
   ·exact h.elim
  ·exact h.elim
 case slice t x lo hi mx=>
  simp only [aval] at h
  have hx:=S.eval x
  split at h
  ·split at h
   ·next z es hb=>
    rw [hb] at hx
    have hx':RepV w (GX G) (.lst z es) (a.eval x):=hx
    obtain ⟨A,c,hu⟩:=hx'.lst_inv
    rw [hu] at hx'
    obtain ⟨e,ie,h1,h2,h3,h4, -⟩:=elem_sound (P:=P) hT h
    obtain ⟨l,h5,hl⟩:=opt_sound S h1
    obtain ⟨hh,h6,hhi⟩:=opt_sound S h5
    simp only [sub_iff] at h6
    obtain ⟨⟨b1,b2,b3⟩,h7⟩:=h6
    have hcap:es.length≤c:=by
     cases hx' with
     |nil=>exact Nat.zero_le _
     |lst f hne hc=>exact hc
    have key:=rep_sub hx' (l:=l.toNat) (h:=hh.toNat) (by omega) (by omega)
    refine ⟨_,_,h7,key,fun w' _=>?_⟩
    have r1:(match hi.map a.eval with|some v=>Instr.sliceBound v c .sliceAcap|none=>pure es.length:Sem Nat).run P w'= .ok hh.toNat w':=by
     rcases hhi with ⟨rfl,rfl⟩|⟨y,k,rfl,hy⟩
     ·simp
     ·simp only [Option.map_some,hy];exact run_bound (by omega) (by omega) w'
    have r2:(match lo.map a.eval with|some v=>Instr.sliceBound v hh.toNat .sliceB|none=>pure 0:Sem Nat).run P w'= .ok l.toNat w':=by
     rcases hl with ⟨rfl,rfl⟩|⟨y,k,rfl,hy⟩
     ·simp
     ·simp only [Option.map_some,hy];exact run_bound (by omega) (by omega) w'
    have r0:(Instr.sliceBounds true es.length c (lo.map a.eval) (hi.map a.eval) none).run P w'= .ok (l.toNat,hh.toNat,c) w':=by
     rcases hhi with ⟨rfl,rfl⟩|⟨y,k,rfl,hy⟩<;>rcases hl with ⟨rfl,rfl⟩|⟨y',k',rfl,hy'⟩
     ·simp [Instr.sliceBounds]
     ·simp only [Option.map_some,Option.map_none,Int.toNat_natCast] at r2 ⊢
      simp [Instr.sliceBounds,r2]
     ·simp only [Option.map_some,Option.map_none] at r1 ⊢
      simp [Instr.sliceBounds,r1]
     ·simp only [Option.map_some] at r1 r2 ⊢
      simp [Instr.sliceBounds,r1,r2]
    simp only [execOp,hu,Instr.sliceAt,Instr.slice,Sem.run_bind,run_underlying h2,Result.andThen_ok,Option.map_none,r0,run_sizeOf h3,h4,Sem.run_pure]
   ·next b hb=>
    rw [hb] at hx
    have hu:=hx.str_inv
    split at h
    ·next hk=>
     rw [Bool.and_eq_true] at hk
     obtain ⟨i',d,hi2,hd, -, -, -, -, -, -, -, -,hs, -⟩:=ty_at hT hk.1
     obtain rfl:=strD_eq (hs▸hk.2)
     obtain ⟨l,h5,hl⟩:=opt_sound S h
     obtain ⟨hh,h6,hhi⟩:=opt_sound S h5
     rw [subS_iff] at h6
     obtain ⟨⟨b1,b2,b3⟩,h7⟩:=h6
     refine ⟨_, .string _,h7, .str _,fun w' _=>?_⟩
     have r1:(match hi.map a.eval with|some v=>Instr.sliceBound v b.size .sliceAlen|none=>pure b.size:Sem Nat).run P w'= .ok hh.toNat w':=by
      rcases hhi with ⟨rfl,rfl⟩|⟨y,k,rfl,hy⟩
      ·simp
      ·simp only [Option.map_some,hy];exact run_bound (by omega) (by omega) w'
     have r2:(match lo.map a.eval with|some v=>Instr.sliceBound v hh.toNat .sliceB|none=>pure 0:Sem Nat).run P w'= .ok l.toNat w':=by
      rcases hl with ⟨rfl,rfl⟩|⟨y,k,rfl,hy⟩
      ·simp
      ·simp only [Option.map_some,hy];exact run_bound (by omega) (by omega) w'
     have r0:(Instr.sliceBounds false b.size b.size (lo.map a.eval) (hi.map a.eval) none).run P w'= .ok (l.toNat,hh.toNat,b.size) w':=by
      rcases hhi with ⟨rfl,rfl⟩|⟨y,k,rfl,hy⟩<;>rcases hl with ⟨rfl,rfl⟩|⟨y',k',rfl,hy'⟩
      ·simp [Instr.sliceBounds]
      ·simp only [Option.map_some,Option.map_none,Int.toNat_natCast] at r2 ⊢
       simp [Instr.sliceBounds,r2]
      ·simp only [Option.map_some,Option.map_none] at r1 ⊢
       simp [Instr.sliceBounds,r1]
      ·simp only [Option.map_some] at r1 r2 ⊢
       simp [Instr.sliceBounds,r1,r2]
     simp only [execOp,hu,Instr.sliceAt,Instr.slice,Sem.run_bind,run_underlying hd,Result.andThen_ok,Option.map_none,Option.isSome_none,Bool.false_eq_true,if_false,r0,Sem.run_pure]
    ·exact h.elim
   ·next b off hb=>
    rw [hb] at hx
    obtain ⟨bb,hbb,hu⟩:=hx
    unfold arrOf at h
    split at h
    ·next hk=>
     split at h
     ·next e len he=>
      split at h
      ·next hke=>
       obtain ⟨i1,d1,hi1,hd1, -, -, -, -, -, -, -, -, -, -, -,har⟩:=ty_at hT hk
       obtain ⟨i2,d2,hi2,hd2, -,hsz, -⟩:=ty_at hT hke
       obtain rfl:=arrD_eq (har▸he)
       split at h
       ·next hz1=>
        have hz:(T e).size=1:=by simpa using hz1
        obtain ⟨l,h5,hl⟩:=opt_sound S h
        obtain ⟨hh,h6,hhi⟩:=opt_sound S h5
        rw [need_iff] at h6
        obtain ⟨⟨b1,b2,b3⟩,h7⟩:=h6
        have r1:(match hi.map a.eval with|some v=>Instr.sliceBound v len .sliceAlen|none=>pure len:Sem Nat).run P w= .ok hh.toNat w:=by
         rcases hhi with ⟨rfl,rfl⟩|⟨y,k,rfl,hy⟩
         ·simp
         ·simp only [Option.map_some,hy];exact run_bound (by omega) (by omega) w
        refine ⟨_, .slice (some (if len=l.toNat then (⟨bb,off,none⟩:Addr) else ⟨bb,off+l.toNat,none⟩)) (hh.toNat-l.toNat) (len-l.toNat),h7,⟨bb,_,_,hbb,by rw [show (hh-l).toNat=hh.toNat-l.toNat by omega],fun hp=>by rw [if_neg (by omega)],by omega⟩,fun w' _=>?_⟩
        have r1:(match hi.map a.eval with|some v=>Instr.sliceBound v len .sliceAlen|none=>pure len:Sem Nat).run P w'= .ok hh.toNat w':=by
         rcases hhi with ⟨rfl,rfl⟩|⟨y,k,rfl,hy⟩
         ·simp
         ·simp only [Option.map_some,hy];exact run_bound (by omega) (by omega) w'
        have r2:(match lo.map a.eval with|some v=>Instr.sliceBound v hh.toNat .sliceB|none=>pure 0:Sem Nat).run P w'= .ok l.toNat w':=by
         rcases hl with ⟨rfl,rfl⟩|⟨y,k,rfl,hy⟩
         ·simp
         ·simp only [Option.map_some,hy];exact run_bound (by omega) (by omega) w'
        have r0:(Instr.sliceBounds false len len (lo.map a.eval) (hi.map a.eval) none).run P w'= .ok (l.toNat,hh.toNat,len) w':=by
         rcases hhi with ⟨rfl,rfl⟩|⟨y,k,rfl,hy⟩<;>rcases hl with ⟨rfl,rfl⟩|⟨y',k',rfl,hy'⟩
         ·simp [Instr.sliceBounds]
         ·simp only [Option.map_some,Option.map_none,Int.toNat_natCast] at r2 ⊢
          simp [Instr.sliceBounds,r2]
         ·simp only [Option.map_some,Option.map_none] at r1 ⊢
          simp [Instr.sliceBounds,r1]
         ·simp only [Option.map_some] at r1 r2 ⊢
          simp [Instr.sliceBounds,r1,r2]
        simp only [execOp,hu,Instr.sliceAt,Sem.run_bind,run_underlying hd1,Result.andThen_ok,Instr.sureAddr,Sem.run_pure,Option.map_none,r0,run_sizeOf hi2,←hsz,hz,add_none,Nat.mul_one]
       ·exact h.elim
      ·exact h.elim
     ·exact h.elim
    ·exact h.elim
   ·exact h.elim
  ·next m=>
   split at h
   ·next z es hi' hb=>
    rw [hb] at hx
    have hx':RepV w (GX G) (.lst z es) (a.eval x):=hx
    obtain ⟨A,c,hu⟩:=hx'.lst_inv
    rw [hu] at hx'
    obtain ⟨e,ie,h1,h2,h3,h4, -⟩:=elem_sound (P:=P) hT h
    obtain ⟨l,h5,hl⟩:=opt_sound S h1
    obtain ⟨hh,h6,hhi⟩:=opt_sound S h5
    obtain ⟨mm,h8,hmi⟩:=opt_sound S h6
    rw [need_iff] at h8
    obtain ⟨⟨c1,c2⟩,h8⟩:=h8
    rw [sub_iff] at h8
    obtain ⟨⟨b1,b2,b3⟩,h7⟩:=h8
    have hcap:es.length≤c:=by
     cases hx' with
     |nil=>exact Nat.zero_le _
     |lst f hne hc=>exact hc
    have key:=rep_sub3 hx' (l:=l.toNat) (h:=hh.toNat) (m:=mm.toNat) (by omega) (by omega) (by omega)
    refine ⟨_,_,h7,key,fun w' _=>?_⟩
    obtain ⟨km,hm⟩:∃k,a.eval m= .int k mm:=by
     rcases hmi with ⟨e9, -⟩|⟨y,k,e9,hy⟩
     ·cases e9
     ·injection e9 with e9;subst e9;exact ⟨k,hy⟩
    obtain ⟨kh,hhv⟩:∃k,a.eval hi'= .int k hh:=by
     rcases hhi with ⟨e9, -⟩|⟨y,k,e9,hy⟩
     ·cases e9
     ·injection e9 with e9;subst e9;exact ⟨k,hy⟩
    have r2:(match lo.map a.eval with|some v=>Instr.sliceBound v hh.toNat .slice3C|none=>pure 0:Sem Nat).run P w'= .ok l.toNat w':=by
     rcases hl with ⟨rfl,rfl⟩|⟨y,k,rfl,hy⟩
     ·simp
     ·simp only [Option.map_some,hy];exact run_bound (by omega) (by omega) w'
    have r3:(Instr.sliceBound (.int km mm) c .slice3Acap).run P w'= .ok mm.toNat w':=run_bound (by omega) (by omega) w'
    have r4:(Instr.sliceBound (.int kh hh) mm.toNat .slice3B).run P w'= .ok hh.toNat w':=run_bound (by omega) (by omega) w'
    have r0:(Instr.sliceBounds true es.length c (lo.map a.eval) (some (.int kh hh)) (some (.int km mm))).run P w'= .ok (l.toNat,hh.toNat,mm.toNat) w':=by
     rcases hl with ⟨rfl,rfl⟩|⟨y',k',rfl,hy'⟩
     ·simp [Instr.sliceBounds,r3,r4]
     ·simp only [Option.map_some] at r2 ⊢
      simp [Instr.sliceBounds,r3,r4,r2]
    simp only [execOp,hu,Instr.sliceAt,Instr.slice,Sem.run_bind,run_underlying h2,Result.andThen_ok,Option.map_some,hm,hhv,r0,run_sizeOf h3,h4,Sem.run_pure]
   ·exact h.elim
 case sliceToArrayPointer t x=>
  simp only [aval] at h
  have hx:=S.eval x
  split at h
  ·next z es hb=>
   rw [hb] at hx
   unfold arrOf at h
   split at h
   ·next hk=>
    split at h
    ·next e len he=>
     split at h
     ·next hke=>
      obtain ⟨i1,d1,hi1,hd1, -, -, -, -, -, -, -, -, -, -, -,har⟩:=ty_at hT hk
      obtain rfl:=arrD_eq (har▸he)
      split at h
      ·next hz1=>
       rw [Bool.and_eq_true] at hz1
       have hlen:0<len:=by simpa using hz1.2
       rw [need_iff] at h
       obtain ⟨hle,h⟩:=h
       have hx':RepV w (GX G) (.lst z es) (a.eval x):=hx
       obtain ⟨A,c,dss,hu,q1,q2,q3⟩:=rep_cells hx'
       rw [hu] at hx'
       generalize hA:A=A' at hx'
       generalize hn:es.length=n' at hx'
       cases hx' with
       |nil=>simp at hle;omega
       |lst f hne hc hbb hxx hz hcell hrep=>
        next b off=>
        subst hA
        refine ⟨_, .pointer (some ⟨b,off,none⟩),h,⟨b,off,dss.flatten,rfl,hbb,fun hm=>hxx (.inl hm),(all_flat q1).mono fun _ _ k=> .inr k,fun j v hv=>by have:=q3 _ rfl j v hv;rwa [add_none] at this⟩,fun w' _=>?_⟩
        simp only [execOp,hu,Instr.arrayAt,Sem.run_bind,run_underlying hd1,Result.andThen_ok,show ¬es.length<len by omega,if_false,Sem.run_pure]
      ·exact h.elim
     ·exact h.elim
    ·exact h.elim
   ·exact h.elim
  ·exact h.elim
 case call c=>
  simp only [aval] at h
  have hA:=S.evals c.args.toList
  have eargs:c.args.map a.eval=(c.args.toList.map a.eval).toArray:=by cases c.args;simp
  split at h
  ·next hc=>
   split at h
   ·next z es t he ht=>
    rw [he] at hA
    obtain ⟨u,us,hu,h1,h2⟩:=hA.cons_inv
    obtain rfl:=h2.nil_inv
    split at h
    ·next hk=>
     rw [Bool.and_eq_true] at hk
     obtain ⟨i,d,hi,hd, -, -, -,hel, -⟩:=ty_at hT hk.1
     obtain ⟨e,he'⟩:=Option.isSome_iff_exists.1 hk.2
     obtain rfl:=elemD_eq (hel▸he')
     obtain ⟨A,cap,rfl⟩:=(show RepV w (GX G) (.lst z es) u from h1).lst_inv
     exact ⟨_, .int .i64 _,h, .int _ _,fun w' _=>by simp [execOp,resolve,invoke,builtin,hc,eargs,hu,Builtin.len_,arr_one ht,run_underlying hd,goInt]⟩
    ·exact h.elim
   ·next t' e' z es t he ht=>
    rw [he] at hA
    obtain ⟨u,us,hu,h1,h2⟩:=hA.cons_inv
    obtain rfl:=h2.nil_inv
    split at h
    ·next hk=>
     rw [Bool.and_eq_true] at hk
     obtain ⟨i,d,hi,hd, -, -, -,hel, -⟩:=ty_at hT hk.1
     obtain ⟨e,he'⟩:=Option.isSome_iff_exists.1 hk.2
     obtain rfl:=elemD_eq (hel▸he')
     obtain ⟨A,cap,rfl⟩:=(show RC w0.B G w (.own t' e' z es) u from h1).2.inv
     exact ⟨_, .int .i64 _,h, .int _ _,fun w' _=>by simp [execOp,resolve,invoke,builtin,hc,eargs,hu,Builtin.len_,arr_one ht,run_underlying hd,goInt]⟩
    ·exact h.elim
   ·next t he ht=>
    rw [he] at hA
    obtain ⟨u,us,hu,h1,h2⟩:=hA.cons_inv
    obtain rfl:=h2.nil_inv
    split at h
    ·next hk=>
     rw [Bool.and_eq_true] at hk
     obtain ⟨i,d,hi,hd, -, -, -,hel, -⟩:=ty_at hT hk.1
     obtain ⟨e,he'⟩:=Option.isSome_iff_exists.1 hk.2
     obtain rfl:=elemD_eq (hel▸he')
     obtain rfl:=h1.nil_inv
     exact ⟨_, .int .i64 _,h, .int _ _,fun w' _=>by simp [execOp,resolve,invoke,builtin,hc,eargs,hu,Builtin.len_,arr_one ht,run_underlying hd,goInt]⟩
    ·exact h.elim
   ·next t' e' e2 z2 rows t he ht=>
    rw [he] at hA
    obtain ⟨u,us,hu,h1,h2⟩:=hA.cons_inv
    obtain rfl:=h2.nil_inv
    split at h
    ·next hk=>
     rw [Bool.and_eq_true] at hk
     obtain ⟨i,d,hi,hd, -, -, -,hel, -⟩:=ty_at hT hk.1
     obtain ⟨e,he'⟩:=Option.isSome_iff_exists.1 hk.2
     obtain rfl:=elemD_eq (hel▸he')
     obtain ⟨-,hs,ho, -⟩:=(show RC w0.B G w (.mat t' e' e2 z2 rows) u from h1)
     rcases ho.2 with ⟨rfl,h00⟩|⟨g,cap,cur,rfl, -⟩
     ·exact ⟨_, .int .i64 _,h, .int _ _,fun w' _=>by simp [execOp,resolve,invoke,builtin,hc,eargs,hu,Builtin.len_,arr_one ht,run_underlying hd,goInt,h00]⟩
     ·exact ⟨_, .int .i64 _,h, .int _ _,fun w' _=>by simp [execOp,resolve,invoke,builtin,hc,eargs,hu,Builtin.len_,arr_one ht,run_underlying hd,goInt]⟩
    ·exact h.elim
   ·next b t he ht=>
    rw [he] at hA
    obtain ⟨u,us,hu,h1,h2⟩:=hA.cons_inv
    obtain rfl:=h2.nil_inv
    split at h
    ·next hk=>
     rw [Bool.and_eq_true] at hk
     obtain ⟨i,d,hi,hd, -, -, -, -, -, -, -, -,hs, -⟩:=ty_at hT hk.1
     obtain rfl:=strD_eq (hs▸hk.2)
     obtain rfl:=h1.str_inv
     exact ⟨_, .int .i64 _,h, .int _ _,fun w' _=>by simp [execOp,resolve,invoke,builtin,hc,eargs,hu,Builtin.len_,arr_one ht,run_underlying hd,goInt]⟩
    ·exact h.elim
   ·exact h.elim
  ·next hc=>
   split at h
   ·next k x k' y he=>
    rw [he] at hA
    obtain ⟨u,us,hu,h1,h2⟩:=hA.cons_inv
    obtain ⟨u',us',rfl,h3,h4⟩:=h2.cons_inv
    obtain rfl:=h4.nil_inv
    obtain rfl:=h1.int_inv
    obtain rfl:=h3.int_inv
    exact ⟨_, .int k _,h, .int _ _,fun w' _=>by simp [execOp,resolve,invoke,builtin,hc,eargs,hu,Builtin.min_,Builtin.min2]⟩
   ·exact h.elim
  ·next hc=>
   split at h
   ·next k x k' y he=>
    rw [he] at hA
    obtain ⟨u,us,hu,h1,h2⟩:=hA.cons_inv
    obtain ⟨u',us',rfl,h3,h4⟩:=h2.cons_inv
    obtain rfl:=h4.nil_inv
    obtain rfl:=h1.int_inv
    obtain rfl:=h3.int_inv
    exact ⟨_, .int k _,h, .int _ _,fun w' _=>by simp [execOp,resolve,invoke,builtin,hc,eargs,hu,Builtin.max_,Builtin.max2]⟩
   ·exact h.elim
  ·exact h.elim
 all_goals exact h.elim
end
end Go.Proofs.YtihjphblcohdeaaGreatDoor
