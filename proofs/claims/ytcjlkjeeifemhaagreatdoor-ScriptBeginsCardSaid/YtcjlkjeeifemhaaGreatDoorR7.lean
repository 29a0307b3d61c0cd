/- A part of the proof. -/
import Derived.Test.YtcjlkjeeifemhaaGreatDoorR4
import Derived.ChangeArms
import Derived.OpenShut
import Derived.Test.YtcjlkjeeifemhaaGreatDoorR6
import Derived.ChangeSlices
namespace Go.Ab
open Go
section
variable {P:Program}
def uq (f:TypeId->Option (List (Option IntKind))):List Field->Nat->Option (List (Option IntKind))
 |[],_=>some []
 |x::l,o=>if x.offset=o then match f x.type with
  |some a=>(uq f l (o+a.length)).map fun b=>a++b
  |none=>none
  else none
def tF (P:Program):Nat->TypeId->Option (List (Option IntKind))
 |0,_=>none
 |n+1,t=>match P.underlying t with
  |some (.int k)=>some [some k]
  |some .bool=>some [none]
  |some (.array m e)=>match tF P n e with
   |some l=>if P.cellsOf e=l.length/\P.cellsOf t=m*l.length then some (List.replicate m l).flatten else none
   |none=>none
  |some (.struct a)=>if a.toList.all (fun x=>(tF P n x.type).any fun l=>l.length==P.cellsOf x.type) then
    (uq (tF P n) a.toList 0).bind fun l=>if P.cellsOf t=l.length then some l else none else none
  |_=>none
def aIb:Option IntKind->Value->Prop
 |some k,v=>∃n,v= .int k n/\(Lit.int k n).wf=true
 |none,v=>∃b,v= .bool b
def Flat:List (Option IntKind)->List Value->Prop
 |[],[]=>True
 |k::a,v::b=>aIb k v/\Flat a b
 |_,_=>False
theorem Flat.append:∀{b a:List (Option IntKind)} {vs ws:List Value},Flat b vs->Flat a ws->Flat (b++a) (vs++ws)
 |[],_,[],_,_,h=>h
 |_::_,_,_::_,_,h,c=>⟨h.1,Flat.append h.2 c⟩
theorem q8 {l:List (Option IntKind)}:∀(m:Nat) (cs:List Value),cs.length=m*l.length->(∀i,i<m->Flat l ((cs.drop (i*l.length)).take l.length))->Flat (List.replicate m l).flatten cs:=by
 intro m;induction m with
 |zero=>intro cs a _;have:cs=[]:=List.eq_nil_of_length_eq_zero (by omega);subst this;trivial
 |succ m b=>
  intro cs a h;rw[List.replicate_succ,List.flatten_cons,<-List.take_append_drop l.length cs];refine Flat.append (by simpa using h 0 (by omega)) (b _ (by rw[List.length_drop,a,Nat.succ_mul];omega) fun i c=>?_);have:=h (i+1) (by omega);rw[List.drop_drop];rwa [Nat.succ_mul,Nat.add_comm] at this
theorem qj {f:TypeId->Option (List (Option IntKind))} {cs:List Value}:∀(l:List Field) (o:Nat) (d:List (Option IntKind)),uq f l o=some d->(∀x∈l,∀a,f x.type=some a->Flat a ((cs.drop x.offset).take a.length))->Flat d ((cs.drop o).take d.length):=by
 intro l;induction l with
 |nil=>intro o d h _;simp[uq] at h;subst h;simp[Flat]
 |cons x l n=>
  intro o d h c;unfold uq at h;split at h;rename_i k;cases hf:f x.type with
  |none=>rw[hf] at h;cases h
  |some a=>
   rw[hf] at h;simp only[Option.map_eq_some_iff] at h;obtain⟨b,j,rfl⟩:=h;have g:=c x List.mem_cons_self a hf;have i:=n _ b j (fun y m=>c y (List.mem_cons_of_mem _ m));rw[k] at g;rw[List.length_append,List.take_add,List.drop_drop];exact Flat.append g i
  cases h
variable {H:Type} {enc:TypeId×Value->H} {w:World} {base:Nat} {spare:Nat->Bool} {held:Bool}
theorem P3:∀(n:Nat) {t:TypeId} {j:List (Option IntKind)} {cs:List Value} {x:DataW H×List MemPlace} {fuel:Nat},tF P n t=some j->DataW.trod enc P w base spare held fuel t cs=some x->Flat j cs:=by
 intro n;induction n with
 |zero=>intro t j cs x fuel h;cases h
 |succ n C=>
  intro t j cs x fuel h p;unfold tF at h;split at h;rename_i k c;cases h;obtain⟨m,rfl,_,D⟩:=DataW.trod_int c p;exact⟨⟨m,rfl,D⟩,trivial⟩;rename_i c;cases h;obtain⟨m,rfl,_⟩:=DataW.trod_bool c p;exact⟨⟨m,rfl⟩,trivial⟩;rename_i m e c;cases hf:tF P n e with
  |none=>rw[hf] at h;cases h
  |some l=>
   rw[hf] at h;simp only at h;split at h;rename_i o;cases h;obtain⟨E,_,_,_,r,u,s⟩:=DataW.trod_array c p;refine q8 m cs (by rw[r];exact o.2) fun i g=>?_;have d:=s i g;rw[List.getElem?_eq_getElem (by omega),o.1] at d;exact C hf d;cases h
  rename_i z c;split at h;rename_i f;simp only[Option.bind_eq_some_iff] at h;obtain⟨l,r,h⟩:=h;split at h;rename_i o;cases h;obtain⟨E,_,_,_,q,u,s⟩:=DataW.trod_struct c p;have:=qj (cs:=cs) z.toList 0 j r (fun y B a A=>by
   obtain⟨i,g,rfl⟩:=List.getElem_of_mem B;have d:=s i z.toList[i] (by simp at g;simp[g]);have b:=List.all_eq_true.1 f _ B;rw[A] at b;simp at b;simp at g;rw[List.getElem?_eq_getElem (by omega)] at d;have:=C A d;simp only[Array.getElem_toList] at this ⊢;rw[<-b] at this;exact this)
  rw[List.drop_zero,List.take_of_length_le (by rw[q,o];exact Nat.le_refl _)] at this;exact this;cases h;cases h;cases h
end
end Go.Ab
namespace Go.Ab
open Go Go.RowKit
section
variable {P:Program}
def san:Value->Value
 |.int k n=> .int k n
 |.bool b=> .bool b
 |_=>top
theorem ca {ρ:hU}:∀l:List Value,aR ρ (l.map san) l
 |[]=>rfl
 |v::l=>by
  refine aR.cons ?_ (ca l);cases v<;>simp[san,top,aE]
theorem I4:∀{c:List (Option IntKind)} {l:List Value},Flat c l->l.map san=l
 |[],[],_=>rfl
 |none::c,v::l,h=>by
  obtain⟨⟨b,rfl⟩,a⟩:=h;simp[san,I4 a]
 |some k::c,v::l,h=>by
  obtain⟨⟨b,rfl,_⟩,a⟩:=h;simp[san,I4 a]
def lL (b:List (Option IntKind)) (w:World) (a:Option Addr) (len cap:Nat):Prop:=
 (a=none/\len=0/\cap=0)\/(∃x,a=some x/\len=0)\/
 ∃x cc e c,a=some x/\0<len/\x.spot=none/\len<=cap/\w.heap[x.block]?=some (.cells cc e c)/\x.off+len*b.length<=cc.size/\
  ∀i,i<len->Flat b ((cc.toList.drop (x.off+i*b.length)).take b.length)
theorem Yq {x:Addr} {i:Nat} (h:x.spot=none):x.add i=⟨x.block,x.off+i,none⟩:=by
 unfold Addr.add;split;rename_i a;subst a;cases x;simp at h;subst h;rfl;rfl
variable {H:Type} {enc:TypeId×Value->H} {w:World} {base:Nat} {spare:Nat->Bool} {held:Bool}
theorem O6 {t e:TypeId} {n fuel:Nat} {b:List (Option IntKind)} {cs:List Value} {x:DataW H×List MemPlace} (U:P.underlying t=some (.slice e)) (Q:tF P n e=some b) (hc:P.cellsOf e=b.length) (O:0<b.length)
  (h:DataW.trod enc P w base spare held fuel t cs=some x):∃a len g,cs=[.slice a len g]/\lL b w a len g:=by
 rcases DataW.trod_slice U h with⟨rfl,_⟩|⟨a,len,g,elems,rest,m,_,rfl,_,y,S,Y,J,E,_,_⟩
 .exact⟨none,0,0,rfl,.inl ⟨rfl,rfl,rfl⟩⟩
 refine⟨some a,len,g,rfl,?_⟩
 rcases Nat.eq_zero_or_pos len with C|C
 .exact .inr (.inl ⟨a,rfl,C⟩)
 refine .inr (.inr ?_)
 have each:∀i,i<len->∃c:List Value,Flat b c/\c.length=b.length/\∀j,j<b.length->w.cell? ((a.add (i*b.length)).add j)=c[j]?:=by
  intro i z;have I:=E i z;rw[List.getElem?_eq_getElem (by omega),hc,Option.bind_eq_some_iff] at I;obtain⟨c,d,V⟩:=I;refine⟨c,P3 n Q V,?_,fun j r=>?_⟩;unfold World.cells? at d;split at d;have:=mapM_some_length d;simpa using this;cases d;unfold World.cells? at d;split at d;exact mapM_some_get d j j (by simp[r]);cases d
 obtain⟨c0,R,T,D⟩:=each 0 C
 have f:=D 0 O
 rw[List.getElem?_eq_getElem (by omega)] at f
 obtain⟨cc,N,s,y,B⟩:∃cc e s,w.heap[a.block]?=some (.cells cc e s)/\a.spot=none:=by
  have F:(a.add (0*b.length)).add 0=a:=by rw[Nat.zero_mul];rfl
  rw[F] at f;unfold World.cell? at f;split at f;rename_i c e s y;split at f;cases f;rename_i B;exact⟨c,e,s,y,by simpa using B⟩;cases f
 have p:∀o,w.cell? ⟨a.block,o,none⟩=cc[o]?:=by
  intro o;unfold World.cell?;rw[y];simp
 have u:∀i,i<len->∃c:List Value,Flat b c/\c.length=b.length/\∀j,j<b.length->cc[a.off+i*b.length+j]?=c[j]?:=by
  intro i z;obtain⟨c,A,q,r⟩:=each i z;refine⟨c,A,q,fun j k=>?_⟩;rw[<-r j k,Yq B,Yq rfl];exact(p _).symm
 refine⟨a,cc,N,s,rfl,C,B,S,y,?_,?_⟩
 .obtain⟨c,A,q,r⟩:=u (len - 1) (by omega);have:=r (b.length - 1) (by omega);rw[List.getElem?_eq_getElem (by omega)] at this;have X:=(Array.getElem?_eq_some_iff.1 this).1;have:len*b.length=(len - 1)*b.length+b.length:=by
   conv=>lhs;rw[show len=(len - 1)+1 by omega,Nat.succ_mul]
  omega
 .intro i z;obtain⟨c,A,q,r⟩:=u i z;have:(cc.toList.drop (a.off+i*b.length)).take b.length=c:=by
   apply List.ext_getElem?;intro j;rw[List.getElem?_take];split;rename_i k;rw[List.getElem?_drop,Array.getElem?_toList,r j k];rename_i k;rw[List.getElem?_eq_none (by omega)]
  rw[this];exact A
def kU (G:Bg) (W:Nat) (v:Value) (n:Nat) (at':Nat->List Value):Prop:=∃a c,v= .slice a n c/\∀i,i<n->∃b o cells,a=some ⟨b,o,none⟩/\Ob G b cells/\(cells.drop (o+i*W)).take W=at' i/\o+i*W<=cells.length
abbrev OB:=Option mR×Option (Nat×(Nat×Nat))
def Zh (P:Program) (w:World) (r:OB):Prop:=
 (∀o,r.1=some o->∀b s,r.2=some (b,s)->∃a,w.heap[b]?=some a/\∀ρ,tX P ρ s o a)/\(∀b s,r.2=some (b,s)->b<w.heap.size)
def yM (g:Nat) (gl:Nat->Option mR) (rs:List OB):Nat->Option mR:=fun i=>if i<g then gl i else(rs[i - g]?).bind (·.1)
def rH (g:Nat) (rs:List OB):hU:=fun i=>if i<g then some (i,(0,0)) else(rs[i - g]?).bind (·.2)
def aA8 (P:Program) (g:Nat) (gl:Nat->Option mR) (w:World):Prop:=∀i o,i<g->gl i=some o->∃a,w.heap[i]?=some a/\∀ρ,tX P ρ (0,0) o a
theorem xo {g:Nat} {gl:Nat->Option mR} {rs:List OB} (q:P.globals.size<=g) (p:g<=w.heap.size) (j:aA8 P g gl w) (n:∀r∈rs,Zh P w r):Reads P (g+rs.length) (yM g gl rs) (rH g rs) w where
 mO:=fun i o k c b s a=>by
  unfold yM at c;unfold rH at a;split at c;rename_i h;rw[aNa h] at a;cases a;obtain⟨m,d,f⟩:=j i o h c;exact⟨m,d,f _⟩;rename_i h;rw[aN9 h] at a;rw[List.getElem?_eq_getElem (by omega)] at c a;obtain⟨m,d,f⟩:=(n _ (List.getElem_mem (by omega))).1 o c b s a;exact⟨m,d,f _⟩
 low:=fun i b s k a=>by
  unfold rH at a;split at a;cases a;omega;rw[List.getElem?_eq_getElem (by omega)] at a;exact(n _ (List.getElem_mem (by omega))).2 b s a
 none:=fun i k=>by unfold rH;rw[aab,List.getElem?_eq_none (by omega)];rfl
 nT:=fun i k=>by unfold rH;rw[aae]
theorem zh {g i:Nat} {gl:Nat->Option mR} {rs:List OB} {r:OB} (h:rs[i]?=some r):yM g gl rs (g+i)=r.1:=by unfold yM;rw[aab,show g+i - g=i by omega,h];rfl
theorem vW {g i:Nat} {rs:List OB} {r:OB} (h:rs[i]?=some r):rH g rs (g+i)=r.2:=by unfold rH;rw[aab,show g+i - g=i by omega,h];rfl
theorem yh {g i:Nat} {gl:Nat->Option mR} {rs:List OB} (h:i<g):yM g gl rs i=gl i:=by unfold yM;rw[aNa h]
theorem qn {base:Nat} {old:Nat->Option mR}:Hs ⟨base,old,base⟩ (Go.Ab.start base old) [] where
 base:=⟨rfl,Nat.le_refl _⟩
 old:=fun i a=>by rw[AH.get_eq];exact aNa a
 wf:=Nat.le_refl _
 fr:=fun i a=>by rw[wV,aN9 (Nat.not_lt.2 (show base<=i from a))]
 res:=⟨cH.emp,rfl,⟨fun b o v h=>by simp[cH.emp] at h,fun b h=>by simp[cH.emp] at h,fun b e x n h=>by simp[cH.emp] at h,fun b o h=>by simp[cH.emp] at h⟩⟩
end
end Go.Ab
section
namespace Go.Ab
variable {P:Program} {K:FuncId->List Value->Option iJ} {G:Bg} {h:AH} {L L' M:List HP}
def qU (G:Bg) (W:Nat) (e:TypeId) (v:Value) (l:List (List Value)):HP:=fun r=>
 (∀x∈l,x.length=W)/\((kU G W v l.length (fun i=>l.getD i [])/\r=cH.emp)\/∃a c,v= .slice a l.length c/\cU W e a c (l.length,l.flatten) r)
variable {W:Nat} {e:TypeId} {v:Value} {l:List (List Value)}
theorem Hs.fi {A:HP} {p:Prop} (b:Hs G h (A::L)) (k:∀r,A r->p):p:=by
 obtain⟨r,c,a,_⟩:=b.fst;exact k r a
theorem kZ (f:Hs G h (qU G W e v l::L)):∃a c,v= .slice a l.length c:=f.fi fun r d=>by
 obtain⟨_,⟨⟨a,c,b,_⟩,_⟩|⟨a,c,b,_⟩⟩:=d;exact⟨a,c,b⟩;grind
theorem Dh (b:Hs G h (qU G W e v l::L)):∀x∈l,x.length=W:=b.fi fun _ a=>a.1
theorem pI (a:∀x∈l,x.length=W) (b:kU G W v l.length (fun i=>l.getD i [])) (d:Hs G h L):Hs G h (qU G W e v l::L):=
 Hs.join (A:=[]) d fun _ c=>⟨a,.inl ⟨b,c⟩⟩
theorem su {a:Option Addr} {c n:Nat} {cs:List Value} (b:∀x∈l,x.length=W) (d:n=l.length) (hc:cs=l.flatten) (g:Hs G h (cU W e a c (n,cs)::L)):Hs G h (qU G W e (.slice a n c) l::L):=by
 subst d;subst hc;exact Hs.join (A:=[_]) g fun r f=>⟨b,.inr ⟨a,c,rfl,Uq.1 f⟩⟩
theorem tM {W:Nat}:∀{l:List (List Value)} {i:Nat} {x:List Value},(∀x∈l,x.length=W)->l[i]?=some x->(l.flatten.drop (i*W)).take W=x/\i*W+W<=l.flatten.length
 |[],i,x,_,h=>by simp at h
 |y::l,0,x,a,h=>by
  grind
 |y::l,i+1,x,a,h=>by
  have f:=a y List.mem_cons_self;obtain⟨c,d⟩:=tM (fun z b=>a z (List.mem_cons_of_mem _ b)) (by simpa using h);rw[List.flatten_cons,show(i+1)*W=y.length+i*W by grind,List.drop_append,List.drop_of_length_le (by omega),Nat.add_sub_cancel_left,List.nil_append,List.length_append];grind
theorem Ul {i:Nat} {x:List Value} {k:Value->Prop} (d:Hs G h (qU G W e v l::L)) (hW:0<W) (u:l[i]?=some x) (z:k (.agg ⟨x⟩)):aY (kA W v (I i)) fun p=>aY (tU h W p) k:=by
 obtain⟨n,y⟩:=List.getElem?_eq_some_iff.1 u;have m:x.length=W:=Dh d x (y▸List.getElem_mem n);obtain⟨r,t,q⟩:=d.res;obtain⟨F,J,j,A,C,rfl⟩:=t;obtain⟨D,j⟩:=j;rcases j with⟨E,rfl⟩|⟨a,c,rfl,j⟩;obtain⟨a,c,rfl,g⟩:=E;obtain⟨b,o,cells,rfl,s,B,hle⟩:=g i n;refine dF n ?_;rw[show pt b (o+i*W) 0=pt b o (i*W) by simp[pt]];refine bf d s (l:=x) ?_ m hle z;rw[B];simp[u];have f:Hs G h (cU W e a c (l.length,l.flatten)::L):=⟨d.base,d.old,d.wf,d.fr,⟨_,⟨F,J,j,A,C,rfl⟩,q⟩⟩;obtain⟨b,o,rfl,f⟩:=f.eZ (by omega);refine dF n ?_;rw[show pt b (o+i*W) 0=pt b o (i*W) by simp[pt]];exact aN f hW (tM D u).1 m z
theorem xa {i j:Nat} {x:List Value} {u:Value} {k:Value->Prop} (d:Hs G h (qU G W e v l::L)) (B:l[i]?=some x) (T:x[j]?=some u) (A:k u):aY (kA W v (I i)) fun p=>aY (gO j p) fun q=>aY (oM h q) k:=by
 obtain⟨n,z⟩:=List.getElem?_eq_some_iff.1 B;have J:x.length=W:=Dh d x (z▸List.getElem_mem n);have S:j<W:=by grind
 obtain⟨r,y,s⟩:=d.res;obtain⟨N,O,m,C,D,rfl⟩:=y;obtain⟨E,m⟩:=m;rcases m with⟨F,rfl⟩|⟨a,c,rfl,m⟩;obtain⟨a,c,rfl,g⟩:=F;obtain⟨b,o,cells,rfl,t,R,hle⟩:=g i n;refine dF n (aA ?_);refine uJ d t (o:=o+i*W) (j:=0+j) ?_ A;grind;have f:Hs G h (cU W e a c (l.length,l.flatten)::L):=⟨d.base,d.old,d.wf,d.fr,⟨_,⟨N,O,m,C,D,rfl⟩,s⟩⟩;obtain⟨b,o,rfl,f⟩:=f.eZ (by omega);refine dF n (aA ?_);rw[show pt b (o+i*W) (0+j)=pt b o (i*W+j) by simp only[pt];grind];refine aC f ?_ A;have Q:=(tM E B).1;grind
theorem Y2 {n i c:Nat} {a:Option Addr} {cs:List Value} {u:Value} {k:Value->Prop} (d:Hs G h L) [m:Has (cU 1 e a c) L (n,cs) L'] (g:cs[i]?=some u) (j:k u):aY (kA 1 (.slice a n c) (I i)) fun p=>aY (oM h p) k:=by
 have d:=m.of d;have q:=d.Ce;simp only[Nat.mul_one] at q;have r:=(List.getElem?_eq_some_iff.1 g).1;obtain⟨b,o,rfl,f⟩:=d.eZ (by omega);refine dF (by omega) ?_;rw[show pt b (o+i*1) 0=pt b o i by simp[pt]];exact aC f g j
theorem Hs.Bq {A B:HP} (a:Hs G h (sp [A,B]::L)):Hs G h (A::B::L):=Hs.unpack a
theorem Hs.A9 {A B:HP} (a:Hs G h (A::B::L)):Hs G h (sp [A,B]::L):=Hs.pack (A:=[A,B]) a
theorem Hs.wP {A B C:HP} (a:Hs G h (sp [A,B,C]::L)):Hs G h (A::B::C::L):=Hs.unpack a
theorem Hs.Gn {A B C:HP} (a:Hs G h (A::B::C::L)):Hs G h (sp [A,B,C]::L):=Hs.pack (A:=[A,B,C]) a
theorem Hs.un4 {A B C D:HP} (a:Hs G h (sp [A,B,C,D]::L)):Hs G h (A::B::C::D::L):=Hs.unpack a
theorem Hs.M3 {A B C D:HP} (a:Hs G h (A::B::C::D::L)):Hs G h (sp [A,B,C,D]::L):=Hs.pack (A:=[A,B,C,D]) a
theorem Cx {f:FuncId} {p:List Nat} {n:Nat} {e:Nat->Value} {d l:Nat} {pd:Option Code} {k:Option Code×AH->Prop} (i:Hs G h L) [m:nC l L ⟨P,f,p,n,e,d,.done,pd⟩ L'] (g:∀c,Hs G c L'->k (pd,c)):aY (qM h l) k:=
 zt (P:=P) (f:=f) (p:=p) (n:=n) (e:=e) (d:=d) (st:= .done) (pd:=pd) (k:=fun a b=>k (a,b)) (show Hs G h (kE P f p n e d l (.done,pd)::L') from m.of i) (by decide) g
theorem ez.fold {α:Type} {xs:List α} {f:α->List Value} {g:FuncId} {first captured:List Value} {A:HP} (r:ez P K G g first captured A (xs.map f)) {X:List α->HP} {Z:List α->α->HP} {y:Value} {Q:Value->AH->Prop}
  (a:Hs G h (A::X []::L))
  (step:∀done x h M,done++[x]<+:xs->Hs G h (X done::M)->yG P K y (f x) h fun v b=>(v= .bool true/\Hs G b (X (done++[x])::M))\/(v= .bool false/\Hs G b (Z done x::M)))
  (fin:∀v b,Hs G b (A::X xs::L)->Q v b) (brk:∀done x v b,done++[x]<+:xs->Hs G b (A::Z done x::L)->Q v b):Cl P K g (first++[y]++captured) h Q:=by
 refine r (fun rest=>tV fun done:List α=>sp [uH (∃c,xs=done++c/\rest=c.map f),X done]) (tV fun k:List α×α=>sp [uH (k.1++[k.2]<+:xs),Z k.1 k.2]) y L h Q ?_ ?_ ?_ ?_
 .refine Hs.jN (Hs.vA ([]:List α) ?_);exact nJ ⟨xs,rfl,rfl⟩ (Hs.pack (A:=[_]) a.jN)
 .intro x rest h M a;obtain⟨done,j⟩:=a.yP;obtain⟨⟨c,d,i⟩,n⟩:=eV j;clear a j;cases c with
  |nil=>cases i
  |cons z c=>
   simp only[List.map_cons,List.cons.injEq] at i
   obtain⟨o,p⟩:=i
   subst o;subst p
   have m:done++[z]<+:xs:=⟨c,by rw[d];simp⟩
   refine(step done z h M m n.unpack).mono fun v b q=>q.imp (fun e=>⟨e.1,?_⟩) (fun e=>⟨e.1,?_⟩)
   .exact Hs.vA (done++[z]) (nJ ⟨c,by rw[d];simp,rfl⟩ (Hs.pack (A:=[_]) e.2))
   .exact Hs.vA (done,z) (nJ m (Hs.pack (A:=[_]) e.2))
 .intro v b a;obtain⟨done,a⟩:=a.jN.yP;obtain⟨⟨c,d,i⟩,a⟩:=eV a;cases c with
  |cons z c=>cases i
  |nil=>
   rw[List.append_nil] at d
   subst d
   exact fin v b (Hs.jN a.unpack)
 .intro v b a;obtain⟨⟨done,x⟩,a⟩:=a.jN.yP;obtain⟨m,a⟩:=eV a;exact brk done x v b m (Hs.jN a.unpack)
end Go.Ab
end
section
namespace Go.Ab
variable {P:Program} {K:FuncId->List Value->Option iJ} {G:Bg} {h:AH} {L L' M:List HP} {W:Nat} {e:TypeId}
theorem uy {n i j c:Nat} {a:Option Addr} {cs:List Value} {u:Value} {k:Value->Prop} (d:Hs G h L) [m:Has (cU W e a c) L (n,cs) L'] (g:i<n) (s:cs[i*W+j]?=some u) (r:k u):aY (kA W (.slice a n c) (I i)) fun p=>aY (gO j p) fun q=>aY (oM h q) k:=by
 have d:=m.of d;obtain⟨b,o,rfl,f⟩:=d.eZ (by omega);refine dF g (aA ?_);rw[show pt b (o+i*W) (0+j)=pt b o (i*W+j) by simp only[pt];grind];exact aC f s r
theorem aFl {n i c:Nat} {a:Option Addr} {cs x:List Value} {k:Value->Prop} (d:Hs G h L) [m:Has (cU W e a c) L (n,cs) L'] (hW:0<W) (g:i<n) (r:(cs.drop (i*W)).take W=x) (q:x.length=W) (j:k (.agg ⟨x⟩)):aY (kA W (.slice a n c) (I i)) fun p=>aY (tU h W p) k:=by
 have d:=m.of d;obtain⟨b,o,rfl,f⟩:=d.eZ (by omega);refine dF g ?_;rw[show pt b (o+i*W) 0=pt b o (i*W) by simp[pt]];exact aN f hW r q j
theorem uK {v:Value} {l:List (List Value)} {i:Nat} {x:List Value} {u:Value} {k:Value->Prop} (d:Hs G h (qU G 1 e v l::L)) (A:l[i]?=some x) (R:x[0]?=some u) (z:k u):aY (kA 1 v (I i)) fun p=>aY (oM h p) k:=by
 obtain⟨n,y⟩:=List.getElem?_eq_some_iff.1 A;have F:x.length=1:=Dh d x (y▸List.getElem_mem n);obtain⟨r,t,q⟩:=d.res;obtain⟨J,N,m,B,C,rfl⟩:=t;obtain⟨D,m⟩:=m;rcases m with⟨E,rfl⟩|⟨a,c,rfl,m⟩;obtain⟨a,c,rfl,g⟩:=E;obtain⟨b,o,cells,rfl,s,Q,hle⟩:=g i n;refine dF n ?_;refine uJ d s (o:=o+i*1) (j:=0) ?_ z;grind;have f:Hs G h (cU 1 e a c (l.length,l.flatten)::L):=⟨d.base,d.old,d.wf,d.fr,⟨_,⟨J,N,m,B,C,rfl⟩,q⟩⟩;obtain⟨b,o,rfl,f⟩:=f.eZ (by omega);refine dF n ?_;rw[show pt b (o+i*1) 0=pt b o i by simp[pt]];refine aC f ?_ z;have O:=(tM D A).1;grind
theorem aGp {v:Value} {l:List (List Value)} (g:Hs G h (qU G W e v l::L)) (_:0<W):fA h W l.length v=some l.flatten:=by
 have A:=Dh g;obtain⟨r,C,u⟩:=g.res;obtain⟨r1,r2,p,Q,S,rfl⟩:=C;obtain⟨hl,p⟩:=p;rcases p with⟨I,rfl⟩|⟨a,c,rfl,p⟩;obtain⟨a,c,rfl,f⟩:=I;cases l with
 |nil=>cases a<;>simp[fA]
 |cons x l=>
  obtain⟨b,o,cells,rfl,m,R,F⟩:=f 0 (by simp);have t:=m.get;obtain⟨N,O,x',t⟩:=t;have V:h.get b=some (.cells cells N O x'):=by rw[g.Zg m.lt];exact t
  have d:∀i,i<(x::l).length->(cells.drop (o+i*W)).take W=(x::l).getD i []/\o+i*W<=cells.length:=by
   intro i j;obtain⟨b',o',q,T,n,hc,hle⟩:=f i j;cases T;obtain⟨_,_,_,U⟩:=n.get;grind
  have E:∀(l:List (List Value)) (o:Nat),(∀x∈l,x.length=W)->(∀i,i<l.length->(cells.drop (o+i*W)).take W=l.getD i []/\o+i*W<=cells.length)->o<=cells.length->o+l.length*W<=cells.length/\(cells.drop o).take (l.length*W)=l.flatten:=by
   intro l;induction l with
   |nil=>simp_all
   |cons y l Z=>
    intro o J j I;have s:=j 0 (by simp);have D:=J y List.mem_cons_self;simp only[Nat.zero_mul,Nat.add_zero,List.getD_cons_zero] at s;have k:o+W<=cells.length:=by
     have:=congrArg List.length s.1;rw[List.length_take,List.length_drop,D] at this;omega
    obtain⟨g1,g2⟩:=Z (o+W) (fun z Y=>J z (List.mem_cons_of_mem _ Y)) (fun i X=>by
     have:=j (i+1) (by simp;omega);grind) k
    refine⟨by rw[List.length_cons,Nat.succ_mul];omega,?_⟩;rw[List.length_cons,Nat.succ_mul,Nat.add_comm,List.take_add,List.drop_drop,s.1,g2,List.flatten_cons]
  obtain⟨g1,g2⟩:=E (x::l) o A (fun i j=>d i j) (by grind);simp only[fA,List.length_cons,Nat.succ_ne_zero,if_false,Nat.le_refl,if_true];unfold bZ;grind
 have B:Hs G h (cU W e a c (l.length,l.flatten)::L):=⟨g.base,g.old,g.wf,g.fr,⟨_,⟨r1,r2,p,Q,S,rfl⟩,u⟩⟩;exact Sr B
theorem oe {l:List (List Value)} (a:∀x∈l,x.length=W):l.flatten.length=l.length*W:=by
 induction l with
 |nil=>simp
 |cons x l b=>grind
theorem aH5 {bytes c n m:Nat} {e2:TypeId} {a:Option Addr} {cs:List Value} {v:Value} {l:List (List Value)} {k:Value×AH->Prop} (j:Hs G h L) [q:Has (cU W e a c) L (n,cs) L'] [s:dQ (qU G W e2 v l) L' M] (hW:0<W) (p:l.length=m) (hc:l.flatten.all dV=true) (d:(n+m)*(bytes+1)<=2^46)
  (o:∀f g i,Hs G i (cU W e f g (n+m,cs++l.flatten)::L')->k (.slice f (n+m) g,i)):aY (iH W bytes e h (.slice a n c) v) k:=by
 have b:=(q.of j).tail.front (qU G W e2 v l)
 subst p
 refine qm (k:=fun x y=>k (x,y)) j (m:=l.length) (src:=v) (ns:=l.flatten) ?_ (aGp b hW) hc (oe (Dh b)) d o
 obtain⟨r,c2,rfl⟩:=kZ b
 rfl
theorem Hs.mB {a L2 b c:List HP} (A B C D:HP) (d:Hs G h L) [k:dQ A L a] [g:dQ B a L2] [i:dQ C L2 b] [f:dQ D b c]:Hs G h (A::B::C::D::c):=
 (d.cK A B C).perm (((f.perm.cons C).cons B).cons A)
theorem Hs.aHf {a:List HP} {A B C D:HP} (E:HP) (b:Hs G h (A::B::C::D::L)) [k:dQ E L a]:Hs G h (A::B::C::D::E::a):=b.perm ((((k.perm.cons D).cons C).cons B).cons A)
theorem eo {a:Option Addr} {n c:Nat} {k:Value->Prop} (b:a=none->k (.bool true)) (d:a≠none->k (.bool false)):aY (M1 .eql (.slice a n c) (.slice none 0 0)) k:=by
 cases a with
 |none=>exact⟨_,rfl,b rfl⟩
 |some a=>exact⟨_,rfl,d (by simp)⟩
theorem Ax {bytes n c:Nat} {a:Option Addr} {cs:List Value} {Q:Value->AH->Prop} (d:Hs G h L) [m:Has (cU W e a c) L (n,cs) L'] (y:n*(bytes+1)<=2^46)
  (u:∀i k p,Hs G p (cU W e i k (n,cs)::cU W e a c (n,cs)::L')->Q (.slice i n k) p):
  aY (M1 .eql (.slice a n c) (.slice none 0 0)) fun v0=>Br v0 (Q (.slice none 0 0) h) (aY (oD [] []) fun z=>tW h W e z 0 0 fun s3 s=>aY (iH W bytes e s s3 (.slice a n c)) fun r=>(fun v5 t=>Q v5 t) r.1 r.2):=by
 have d:=m.of d
 refine eo (fun g=>eN ?_) (fun _=>bX (aI (c:=[]) rfl ?_))
 .subst g;have x:n=0:=by
   rcases Nat.eq_zero_or_pos n with f|f;exact f;obtain⟨b,o,g,_⟩:=d.oJ f;cases g
  subst x
  have q:=d.Ce
  simp only[Nat.zero_mul] at q
  obtain rfl:=List.eq_nil_of_length_eq_zero q
  exact u none 0 h (fG d)
 .refine dA (W:=W) (n:=0) (c:=0) d (by simp) rfl rfl ?_;intro j h d;refine nY (a:=some j) (c:=0) (n:=0) (cs:=[]) (a2:=a) (c2:=c) (m:=n) (ns:=cs) d (by grind) ?_;grind
theorem Jc {bytes n:Nat} {e2:TypeId} {v:Value} {l:List (List Value)} {Q:Value->AH->Prop} (g:Hs G h (qU G W e2 v l::L)) (hW:0<W) (q:l.length=n) (hc:l.flatten.all dV=true) (E:n*(bytes+1)<=2^46)
  (C:∀y k z,Hs G z (cU W e y k (n,l.flatten)::qU G W e2 v l::L)->Q (.slice y n k) z):
  aY (M1 .eql v (.slice none 0 0)) fun v0=>Br v0 (Q (.slice none 0 0) h) (aY (oD [] []) fun x=>tW h W e x 0 0 fun s3 d=>aY (iH W bytes e d s3 v) fun j=>(fun v5 p=>Q v5 p) j.1 j.2):=by
 obtain⟨a,c,t⟩:=kZ g
 have u:a=none->l=[]:=by
  intro f;subst f;refine g.fi fun r s=>?_;obtain⟨D,⟨⟨a,k,d,i⟩,_⟩|⟨a,k,d,s⟩⟩:=s;rw[t] at d;cases d;rcases Nat.eq_zero_or_pos l.length with m|m;grind;obtain⟨b,o,_,f,_⟩:=i 0 m;cases f;rw[t] at d;cases d;rcases Nat.eq_zero_or_pos l.length with m|m;grind;obtain⟨_,_,⟨d,_⟩|⟨d,_⟩|⟨_,b,F,A,ex,f,_⟩⟩:=s;grind;grind;cases f
 have go:aY (oD [] []) fun x=>tW h W e x 0 0 fun s3 d=>aY (iH W bytes e d s3 v) fun j=>(fun v5 p=>Q v5 p) j.1 j.2:=by
  refine aI (c:=[]) rfl (dA (W:=W) (n:=0) (c:=0) g (by simp) rfl rfl ?_);intro B h g;refine aH5 (a:=some B) (c:=0) (n:=0) (cs:=[]) (e2:=e2) (l:=l) g hW q hc (by grind) ?_;grind
 subst t
 refine eo (fun f=>eN ?_) (fun _=>bX go)
 obtain rfl:=u f
 simp only[List.length_nil] at q
 subst q
 exact C none 0 h (fG g)
theorem Hs.aIp {α:Type} {A:Nat->α->HP} (d:α):∀(n:Nat) (L:List HP),Hs G h (dC n (fun i=>tV (A i))::L)->∃f:Nat->α,Hs G h (dC n (fun i=>A i (f i))::L):=by
 intro n;induction n with
 |zero=>intro L a;exact⟨fun _=>d,a⟩
 |succ n c=>
  intro L a;have a:Hs G h (dC n (fun i=>tV (A i))::tV (A n)::L):=by
   have b:=a.unpack;rw[List.range_succ,List.map_append,List.append_assoc] at b;exact Hs.pack (A:=(List.range n).map fun i=>tV (A i)) b
  obtain⟨f,a⟩:=c _ a;obtain⟨x,a⟩:=a.jN.yP;refine⟨fun i=>if i=n then x else f i,?_⟩;refine Hs.V9 ?_;simp only[if_true];have e:(List.range n).map (fun i=>A i (if i=n then x else f i))=(List.range n).map fun i=>A i (f i):=List.map_congr_left fun i g=>by
   grind
  unfold dC at a ⊢;rw[e];exact a
theorem Hs.aIm {f g:Nat->HP}:∀(n:Nat) (L:List HP),Hs G h (dC n (fun i=>sp [f i,g i])::L)->Hs G h (dC n f::dC n g::L):=by
 intro n;induction n with
 |zero=>intro L a;exact Hs.Wj (Hs.Wj a.tail)
 |succ n c=>
  intro L a;have a:Hs G h (dC n (fun i=>sp [f i,g i])::sp [f n,g n]::L):=by
   have b:=a.unpack;rw[List.range_succ,List.map_append,List.append_assoc] at b;exact Hs.pack (A:=(List.range n).map fun i=>sp [f i,g i]) b
  have a:=c _ a;have a:=(a.front (sp [f n,g n])).Bq;have a:Hs G h (f n::dC n f::g n::dC n g::L):=a.perm ((List.Perm.swap _ _ _).cons _);have a:=Hs.V9 a;have a:=a.cF (g n) (dC n g);exact(Hs.V9 a).jN
theorem Hs.ib {α:Type} {b o cap n:Nat} {c:Nat->α->List Value} {d:Nat->α->HP} (m:α) (j:∀i x,(c i x).length=W) (hc:∀i x,(c i x).all dV=true) (hW:0<W) (k:0<n)
  (a:Hs G h (dC n (fun i=>tV fun x=>sp [aF b (o+i*W) (c i x),d i x])::hole G W e (some ⟨b,o,none⟩) cap n b o::L)):
  ∃f:Nat->α,Hs G h (cU W e (some ⟨b,o,none⟩) cap (n,(List.range n).flatMap fun i=>c i (f i))::dC n (fun i=>d i (f i))::L):=by
 obtain⟨f,a⟩:=Hs.aIp (A:=fun i x=>sp [aF b (o+i*W) (c i x),d i x]) m n _ a
 refine⟨f,?_⟩
 have a:=Hs.aIm (f:=fun i=>aF b (o+i*W) (c i (f i))) (g:=fun i=>d i (f i)) n _ a
 have a:=aB2 (c:=fun i=>c i (f i)) (fun i=>j i (f i)) hW n _ k a
 have a:=a.cK (aF b o ((List.range n).flatMap fun i=>c i (f i))) (hole G W e (some ⟨b,o,none⟩) cap n b o) (dC n (fun i=>d i (f i)))
 exact Hs.nH a (qK (fun i=>j i (f i)) n) (pN (fun i=>hc i (f i)) n)
theorem Hs.Yb {cap n:Nat} {a:Option Addr} {c:Nat->List Value} (j:∀i,(c i).length=W) (f:0<n) (d:Hs G h (cU W e a cap (n,(List.range n).flatMap c)::L)):
  ∃b o,a=some ⟨b,o,none⟩/\Hs G h (dC n (fun i=>aF b (o+i*W) (c i))::hole G W e a cap n b o::L):=by
 obtain⟨b,o,g,d⟩:=d.eZ f
 exact⟨b,o,g,dm j n _ d⟩
theorem Hs.uk {α:Type} {b o cap n:Nat} {c:Nat->α->List Value} {d:Nat->α->HP} (f:Nat->α) (m:∀i x,(c i x).length=W) (g:0<n)
  (a:Hs G h (cU W e (some ⟨b,o,none⟩) cap (n,(List.range n).flatMap fun i=>c i (f i))::dC n (fun i=>d i (f i))::L)):
  Hs G h (dC n (fun i=>tV fun x=>sp [aF b (o+i*W) (c i x),d i x])::hole G W e (some ⟨b,o,none⟩) cap n b o::L):=by
 obtain⟨p,q,j,a⟩:=Hs.Yb (fun i=>m i (f i)) g a
 cases j
 have a:=a.cF (dC n fun i=>aF b (o+i*W) (c i (f i))) (dC n fun i=>d i (f i))
 exact Hs.aGg (k:=fun i=>tV fun x=>sp [aF b (o+i*W) (c i x),d i x]) (fun i h L a=>Hs.vA (A:=fun x=>sp [aF b (o+i*W) (c i x),d i x]) (f i) (Hs.pack (A:=[_,_]) a)) n _ a
end Go.Ab
end
