/- A part of the proof. -/
import Derived.Test.YteelnoablpdhbaaGreatDoorO3
import Derived.ChangeArms
import Derived.OpenShut
import Derived.Test.YteelnoablpdhbaaGreatDoorO5
import Derived.ChangeSlices
set_option linter.all false
open Go Go.Ab
variable {P:Program} {f:TypeId->Option (List (Option IntKind))} {cs:EK} {w:World} {base:Nat} {spare:Nat->Bool} {held:Bool}
namespace Go.Ab
def aH6 (f:TypeId->Option (List<|Option IntKind)):List Field->Nat->Option (List<|Option IntKind)
 |[],_=>some []
 |x::l,o=>if x.offset=o then match f x.type with
  |some a=>(aH6 f l<|o+a.length).map fun b=>a++b
  |none=>none
  else none
def vU (P:Program):Nat->TypeId->Option (List<|Option IntKind)
 |0,_=>none
 |n+1,t=>match P.underlying t with
  |some (.int k)=>some [some k]
  |some .bool=>some [none]
  |some (.array m e)=>match vU P n e with
   |some l=>if P.cellsOf e=l.length/\P.cellsOf t=m*l.length then some (List.replicate m l).flatten else none
   |none=>none
  |some (.struct a)=>if a.toList.all (fun x=>(vU P n x.type).any fun l=>l.length==P.cellsOf x.type) then
    (aH6 (vU P n) a.toList 0).bind fun l=>if P.cellsOf t=l.length then some l else none else none
  |_=>none
def aSa:Option IntKind->Value->Prop
 |some k,v=>∃n,v= .int k n/\(Lit.int k n).wf=true
 |none,v=>∃b,v= .bool b
def pI:List (Option IntKind)->EK->Prop
 |[],[]=>True
 |k::a,v::b=>aSa k v/\pI a b
 |_,_=>False
def pI.append:∀{b a:List (Option IntKind)} {vs ws:EK},pI b vs->pI a ws->pI (b++a) (vs++ws)
 |[],_,[],_,_,h=>h
 |_::_,_,_::_,_,h,c=>⟨h.1,pI.append h.2 c⟩
def aEq {l:List (Option IntKind)}:∀(m:Nat) (cs:EK),cs.length=m*l.length->(∀i,i<m->pI l ((cs.drop<|i*l.length).take l.length))->pI (List.replicate m l).flatten cs:=by
 intro m;induction m with
 |zero=>intro cs a _;have:cs=[]:=gg ER;subst this;trivial
 |succ m b=>
  intro cs a h;rw[AO,CM,<-wK l.length cs];refine pI.append (by simpa using h 0 ER) (b _ (by rw[q5,a,ux];omega) fun i c=>?_);have:=h (i+1) ER;rw[u4];rwa [ux,DE] at this
def aGf:∀(l:List Field) (o:Nat) (d:List (Option IntKind)),aH6 f l o=some d->(∀x∈l,∀a,f x.type=some a->pI a ((cs.drop x.offset).take a.length))->pI d ((cs.drop o).take d.length):=by
 intro l;induction l with
 |nil=>intro o d h _;simp[aH6] at h;subst h;simp[pI]
 |cons x l m=>
  intro o d h c;unfold aH6 at h;split at h;rename_i j;cases hf:f x.type with
  |none=>rw[hf] at h;cases h
  |some a=>
   rw[hf] at h;simp only[aV] at h;obtain⟨b,i,rfl⟩:=h;have g:=c x ei a hf;rw[j] at g;rw[bj,List.take_add,u4];exact pI.append g<|m _ b i fun y k=>c y<|eK _ k
  cases h
variable {H:Type} {enc:TypeId×Value->H}
def S5:∀(n:Nat) {t:TypeId} {g:List (Option IntKind)} {cs:EK} {x:DataW H×List MemPlace} {fuel:Nat},vU P n t=some g->DataW.trod enc P w base spare held fuel t cs=some x->pI g cs:=by
 intro n;induction n with
 |zero=>intro t g cs x fuel h;cases h
 |succ n C=>
  intro t g cs x fuel h p;unfold vU at h;split at h;rename_i k c;cases h;obtain⟨m,rfl,_,D⟩:=DataW.trod_int c p;exact⟨⟨m,rfl,D⟩,trivial⟩;rename_i c;cases h;obtain⟨m,rfl,_⟩:=DataW.trod_bool c p;exact⟨⟨m,rfl⟩,trivial⟩;rename_i m e c;cases hf:vU P n e with
  |none=>rw[hf] at h;cases h
  |some l=>
   rw[hf] at h;simp only at h;split at h;rename_i j;cases h;obtain⟨E,_,_,_,r,u,s⟩:=DataW.trod_array c p;refine aEq m cs (by rw[r];exact j.2) fun i o=>?_;have d:=s i o;rw[aL ER,j.1] at d;exact C hf d;cases h
  rename_i z c;split at h;rename_i f;simp only[BH] at h;obtain⟨l,r,h⟩:=h;split at h;rename_i j;cases h;obtain⟨E,_,_,_,q,u,s⟩:=BT c p;have:=aGf (cs:=cs) z.toList 0 g r (fun y B a A=>by
   obtain⟨i,o,rfl⟩:=AP B;have d:=s i z.toList[i] (by simp[o]);have b:=lP.1 f _ B;rw[A] at b;simp at b;simp at o;rw[aL ER] at d;have:=C A d;simp only[Array.getElem_toList] at this ⊢;rw[<-b] at this;exact this)
  rw[kt,e8<|by rw[q,j];exact ba _] at this;exact this;cases h;cases h;cases h
end Go.Ab
variable {g i n:Nat} {e:TypeId} {b:List (Option IntKind)} {gl old:Nat->HW}
namespace Go.Ab
open Go.RowKit
def san:Value->Value
 |.int k n=> .int k n
 |.bool b=> .bool b
 |_=>Yb
def ua {ρ:jB}:∀l:EK,bH ρ (l.map san) l
 |[]=>rfl
 |v::l=>by
  refine bH.cons ?_<|ua l;cases v<;>simp[san,Yb,aZ]
def Pk:∀{c:List (Option IntKind)} {l:EK},pI c l->l.map san=l
 |[],[],_=>rfl
 |none::c,v::l,h=>by
  obtain⟨⟨b,rfl⟩,a⟩:=h;simp[san,Pk a]
 |some k::c,v::l,h=>by
  obtain⟨⟨b,rfl,_⟩,a⟩:=h;simp[san,Pk a]
def oL (b:List (Option IntKind)) (w:World) (a:EN) (len cap:Nat):Prop:=
 (a=none/\len=0/\cap=0)\/(∃x,a=some x/\len=0)\/
 ∃x cc e c,a=some x/\0<len/\x.spot=none/\len<=cap/\w.heap[x.block]?=some (.cells cc e c)/\x.off+len*b.length<=cc.size/\
  ∀i,i<len->pI b ((cc.toList.drop<|x.off+i*b.length).take b.length)
def mh {x:Addr} (h:x.spot=none):x.add i=⟨x.block,x.off+i,none⟩:=by
 rw[Addr.add];split;rename_i a;subst a;cases x;subst h;rfl;rfl
variable {H:Type} {enc:TypeId×Value->H}
def Kd {t:TypeId} {fuel:Nat} {x:DataW H×List MemPlace} (O:P.underlying t=some (.slice e)) (J:vU P n e=some b) (hc:P.cellsOf e=b.length) (I:0<b.length)
  (h:DataW.trod enc P w base spare held fuel t cs=some x):∃a len g,cs=[.slice a len g]/\oL b w a len g:=by
 rcases DW O h with⟨rfl,_⟩|⟨a,len,g,elems,rest,m,_,rfl,_,u,N,S,E,B,_,_⟩
 .exact⟨none,0,0,rfl,.inl ⟨rfl,rfl,rfl⟩⟩
 refine⟨some a,len,g,rfl,?_⟩
 rcases AW len with A|A
 .exact .inr (.inl ⟨a,rfl,A⟩)
 refine .inr<|.inr ?_
 have each:∀i,i<len->∃c:EK,pI b c/\c.length=b.length/\∀j,j<b.length->w.cell? ((a.add<|i*b.length).add j)=c[j]?:=by
  intro i y;have D:=B i y;rw[aL ER,hc,BH] at D;obtain⟨c,d,Q⟩:=D;refine⟨c,S5 n J Q,?_,fun j p=>?_⟩;rw[World.cells?] at d;split at d;simpa using(mapM_some_length d);cases d;rw[World.cells?] at d;split at d;exact mapM_some_get d j j (by simp[p]);cases d
 have⟨c0,hf0,hl0,hc0⟩:=each 0 A
 have f:=hc0 0 I
 rw[aL ER] at f
 obtain⟨cc,F,r,u,z⟩:∃cc e r,w.heap[a.block]?=some (.cells cc e r)/\a.spot=none:=by
  have C:(a.add<|0*b.length).add 0=a:=by rw[D0];rfl
  rw[C] at f;rw[World.cell?] at f;split at f;rename_i c e r u;split at f;cases f;rename_i z;exact⟨c,e,r,u,by simpa using z⟩;cases f
 have k:∀o,w.cell? ⟨a.block,o,none⟩=cc[o]?:=by
  intro o;rw[World.cell?];rw[u];simp
 have s:∀i,i<len->∃c:EK,pI b c/\c.length=b.length/\∀j,j<b.length->cc[a.off+i*b.length+j]?=c[j]?:=by
  intro i y;have⟨c,hf,hcl,p⟩:=each i y;refine⟨c,hf,hcl,fun j q=>?_⟩;rw[<-p j q,mh z,mh rfl];exact(k _).symm
 refine⟨a,cc,F,r,rfl,A,z,N,u,?_,?_⟩
 .have⟨c,hf,hcl,p⟩:=s (len - 1) ER;have:=p (b.length - 1) ER;rw[aL ER] at this;have R:=(fj.1 this).1;have:len*b.length=(len - 1)*b.length+b.length:=by
   conv=>lhs;rw[show len=(len - 1)+1 by omega,ux]
  omega
 .intro i y;have⟨c,hf,hcl,p⟩:=s i y;have:(cc.toList.drop<|a.off+i*b.length).take b.length=c:=by
   apply mn;intro j;rw[List.getElem?_take];split;rename_i q;rw[x4,AF,p j q];rw[l5 ER]
  rwa [this]
def wM (G:Bg) (W:Nat) (v:Value) (n:Nat) (at':Nat->EK):Prop:=∃a c,v= .slice a n c/\∀i,i<n->∃b o cells,a=some ⟨b,o,none⟩/\Ob G b cells/\(cells.drop<|o+i*W).take W=at' i/\o+i*W<=cells.length
abbrev OB:=HW×Option (Nat×(Nat×Nat))
def xw (P:Program) (w:World) (r:OB):Prop:=
 (∀o,r.1=some o->∀b s,r.2=some (b,s)->∃a,w.heap[b]?=some a/\∀ρ,wP P ρ s o a)/\(∀b s,r.2=some (b,s)->b<w.heap.size)
def Lw (g:Nat) (gl:Nat->HW) (rs:List OB):Nat->HW:=fun i=>if i<g then gl i else(rs[i - g]?).bind (·.1)
def Gg (g:Nat) (rs:List OB):jB:=fun i=>if i<g then some (i,(0,0)) else(rs[i - g]?).bind (·.2)
def aRd (P:Program) (g:Nat) (gl:Nat->HW) (w:World):Prop:=∀i o,i<g->gl i=some o->∃a,w.heap[i]?=some a/\∀ρ,wP P ρ (0,0) o a
variable {rs:List OB}
def aEx {r:OB} (h:rs[i]?=some r):Lw g gl rs (g+i)=r.1:=by rw[Lw,aab,show g+i - g=i by omega,h];rfl
def Aq {r:OB} (h:rs[i]?=some r):Gg g rs (g+i)=r.2:=by rw[Gg,aab,show g+i - g=i by omega,h];rfl
def aHj (h:i<g):Lw g gl rs i=gl i:=by rw[Lw,aXg h]
def aE2 {base:Nat}:Hs ⟨base,old,base⟩ (Go.Ab.qR base old) [] where
 base:=⟨rfl,ba _⟩
 old:=fun i a=>by rw[AH.Ac];exact aXg a
 wf:=ba _
 fr:=fun i a=>by rw[A1,aXf<|EJ.2<|show base<=i from a]
 R3:=⟨dQ.N7,rfl,⟨fun b o v h=>FN,fun b h=>FN,fun b e x n h=>FN,fun b o h=>FN⟩⟩
end Go.Ab
variable {l:HY} {x:EK} {W c:Nat} {u v:Value} {A B C:HP} {a:EN} {k:Value->Prop} {Q:Value->AH->Prop}
namespace Go.Ab
variable {K:FuncId->EK->HQ} {G:Bg} {h:AH} {L L' M:HL}
def C4 (G:Bg) (W:Nat) (e:TypeId) (v:Value) (l:HY):HP:=fun r=>
 (∀x∈l,x.length=W)/\((wM G W v l.length (fun i=>l.getD i [])/\r=dQ.N7)\/∃a c,v= .slice a l.length c/\dJ W e a c (l.length,l.flatten) r)
def Hs.tq {p:Prop} (b:Hs G h (A::L)) (k:∀r,A r->p):p:=by
 obtain⟨r,c,a,_⟩:=b.fst;exact k r a
theorem A3 (f:Hs G h (C4 G W e v l::L)):∃a c,v= .slice a l.length c:=f.tq fun r d=>by
 obtain⟨_,⟨⟨a,c,b,_⟩,_⟩|⟨a,c,b,_⟩⟩:=d;grind;grind
def Vd (b:Hs G h (C4 G W e v l::L)):∀x∈l,x.length=W:=b.tq fun _ a=>a.1
def zV (a:∀x∈l,x.length=W) (b:wM G W v l.length fun i=>l.getD i []) (d:Hs G h L):Hs G h (C4 G W e v l::L):=
 Hs.join (A:=[]) d fun r c=>⟨a,.inl ⟨b,c⟩⟩
def aGy (b:∀x∈l,x.length=W) (d:n=l.length) (hc:cs=l.flatten) (g:Hs G h (dJ W e a c (n,cs)::L)):Hs G h (C4 G W e (.slice a n c) l::L):=by
 subst d;subst hc;exact Hs.join g fun r f=>⟨b,.inr ⟨a,c,rfl,Yy.1 f⟩⟩
theorem yH {W:Nat}:∀{l:HY} {i:Nat} {x:EK},(∀x∈l,x.length=W)->l[i]?=some x->(l.flatten.drop<|i*W).take W=x/\i*W+W<=l.flatten.length
 |[],i,x,_,h=>by simp at h
 |y::l,0,x,a,h=>by
  grind
 |y::l,i+1,x,a,h=>by
  obtain⟨c,d⟩:=yH (fun z b=>a z<|eK _ b) GK;rw[CM,show(i+1)*W=y.length+i*W by grind,CR,eg ER,Nat.add_sub_cancel_left,hZ,bj];grind
theorem aJo (f:Hs G h (C4 G W e v l::L)) (u:0<W) (s:l[i]?=some x) (A:k (.agg ⟨x⟩)):bQ (mQ W v<|I i) fun p=>bQ (vD h W p) k:=by
 obtain⟨z,D⟩:=eh.1 s;have n:=Vd f x ES;obtain⟨r,m,j⟩:=f.R3;obtain⟨E,F,g,t,y,rfl⟩:=m;obtain⟨B,g⟩:=g;rcases g with⟨C,rfl⟩|⟨a,c,rfl,g⟩;obtain⟨a,c,rfl,q⟩:=C;grind[dR,pt,jc];have d:Hs G h (dJ W e a c (l.length,l.flatten)::L):=⟨f.base,f.old,f.wf,f.fr,⟨_,⟨E,F,g,t,y,rfl⟩,j⟩⟩;obtain⟨b,o,rfl,d⟩:=d.gF ER;refine dR z ?_;rw[show pt b _ 0=pt b o (i*W) by simp[pt]];exact aX d u (yH B s).1 n A
def iu (d:Hs G h L) [m:dH (dJ 1 e a c) L (n,cs) L'] (g:cs[i]?=some u) (j:k u):bQ (mQ 1 (.slice a n c)<|I i) fun p=>bQ (sA h p) k:=by
 have d:=m.of d;have q:=d.Eb;simp only[EG] at q;have r:=(eh.1 g).1;obtain⟨b,o,rfl,f⟩:=d.gF ER;refine dR ER ?_;rw[show pt b _ 0=pt b o i by simp[pt]];exact aD f g j
theorem aGs {k:AH->Prop} (d:Hs G h L) [m:dH (dJ 1 e a c) L (n,cs) L'] [A:Cv v [v]] (hc:gA v=true) (s:i<n) (z:∀f,Hs G f (dJ 1 e a c (n,cs.set i v)::L')->k f):bQ (mQ 1 (.slice a n c)<|I i) fun p=>bQ (vT h 1 p v) k:=by
 have d:=m.of d;have t:=d.Eb;have r:=d.Dn;simp only[EG] at t;obtain⟨b,o,rfl,g⟩:=d.gF ER;refine dR s ?_;rw[show pt b _ 0=pt b o i by simp[pt]];refine bS g rfl EW (by simp[hc]) EW fun f q=>?_;have x:dU cs i [v]=cs.set i v:=by
  rw[<-rO cs i [v] EW];apply mn;intro j;unfold dK;rw[BU];simp only[kd];by_cases y:i=j;grind;by_cases u:j<i;grind;grind
 grind[Hs.kZ]
def Hs.yO (a:Hs G h (sp [A,B]::L)):Hs G h (A::B::L):=Hs.dT a
def Hs.Bc (a:Hs G h (A::B::L)):Hs G h (sp [A,B]::L):=Hs.kC (A:=[A,B]) a
def Hs.B9 (a:Hs G h (sp [A,B,C]::L)):Hs G h (A::B::C::L):=Hs.dT a
def Hs.Ry (a:Hs G h (A::B::C::L)):Hs G h (sp [A,B,C]::L):=Hs.kC (A:=[A,B,C]) a
def Hs.xe {D:HP} (a:Hs G h (sp [A,B,C,D]::L)):Hs G h (A::B::C::D::L):=Hs.dT a
def Hs.Jv {D:HP} (a:Hs G h (A::B::C::D::L)):Hs G h (sp [A,B,C,D]::L):=Hs.kC (A:=[A,B,C,D]) a
variable {pd:Option Code}
def Hl {f:FuncId} {p:EM} {e:Nat->Value} {d l:Nat} {k:Option Code×AH->Prop} (i:Hs G h L) [m:rJ l L ⟨P,f,p,n,e,d,.done,pd⟩ L'] (g:∀c,Hs G c L'->k (pd,c)):bQ (uP h l) k:=
 aEn (P:=P) (f:=f) (p:=p) (n:=n) (e:=e) (d:=d) (st:= .done) (pd:=pd) (k:=fun a b=>k (a,b)) (show Hs G h (iI P f p n e d l (.done,pd)::L') from m.of i) ET g
theorem lh.C2 {α:Type} {xs:List α} {f:α->EK} {g:FuncId} {first captured:EK} (r:lh P K G g first captured A (xs.map f)) {X:List α->HP} {Z:List α->α->HP} {y:Value}
  (a:Hs G h (A::X []::L))
  (step:∀done x h M,done++[x]<+:xs->Hs G h (X done::M)->Cx P K y (f x) h fun v b=>(v= .bool true/\Hs G b (X (done++[x])::M))\/(v= .bool false/\Hs G b (Z done x::M)))
  (vC:∀v b,Hs G b (A::X xs::L)->Q v b) (brk:∀done x v b,done++[x]<+:xs->Hs G b (A::Z done x::L)->Q v b):Cl P K g (first++[y]++captured) h Q:=by
 refine r (fun rest=>xC fun done:List α=>sp [xG (∃c,xs=done++c/\rest=c.map f),X done]) (xC fun i:List α×α=>sp [xG (i.1++[i.2]<+:xs),Z i.1 i.2]) y L h Q ?_ ?_ ?_ ?_
 .exact Hs.oN (Hs.tG ([]:List α)<|Cu ES<|Hs.kC a.oN)
 .intro x rest h M a;obtain⟨done,m⟩:=a.uI;obtain⟨⟨c,k,d⟩,n⟩:=iU m;cases c with
  |nil=>cases d
  |cons z c=>
   simp only[kx,List.cons.injEq] at d
   obtain⟨o,p⟩:=d
   subst o;subst p
   have j:done++[z]<+:xs:=⟨c,ES⟩
   refine(step done z h M j n.dT).mono fun v b q=>q.imp (fun e=>⟨e.1,?_⟩) fun e=>⟨e.1,?_⟩
   .exact Hs.tG (done++[z]) (Cu ⟨c,ES,rfl⟩<|Hs.kC (A:=[_]) e.2)
   .exact Hs.tG (done,z) (Cu j<|Hs.kC (A:=[_]) e.2)
 .intro v b a;obtain⟨done,a⟩:=a.oN.uI;obtain⟨⟨c,k,d⟩,a⟩:=iU a;cases c with
  |cons z c=>cases d
  |nil=>
   rw[hX] at k
   subst k
   exact vC v b<|Hs.oN a.dT
 .intro v b a;obtain⟨⟨done,x⟩,a⟩:=a.oN.uI;obtain⟨j,a⟩:=iU a;exact brk done x v b j<|Hs.oN a.dT
end Go.Ab
variable {e2:TypeId} {cap:Nat}
namespace Go.Ab
variable {K:FuncId->EK->HQ} {G:Bg} {h:AH} {L L' M:HL}
theorem aF9 {j:Nat} (r:Hs G h L) [m:dH (dJ W e a c) L (n,cs) L'] (f:i<n) (s:cs[i*W+j]?=some u) (g:k u):bQ (mQ W (.slice a n c)<|I i) fun p=>bQ (iZ j p) fun q=>bQ (sA h q) k:=by
 obtain⟨b,o,rfl,d⟩:=(m.of r).gF ER;refine dR f<|aA ?_;rw[show pt b _ _=pt b o (i*W+j) by grind[pt]];exact aD d s g
def aD8 (r:Hs G h L) [m:dH (dJ W e a c) L (n,cs) L'] (f:0<W) (g:i<n) (s:(cs.drop<|i*W).take W=x) (q:x.length=W) (j:k (.agg ⟨x⟩)):bQ (mQ W (.slice a n c)<|I i) fun p=>bQ (vD h W p) k:=by
 obtain⟨b,o,rfl,d⟩:=(m.of r).gF ER;refine dR g ?_;rw[show pt b _ 0=pt b o (i*W) by simp[pt]];exact aX d f s q j
theorem tH (g:Hs G h (C4 G 1 e v l::L)) (q:l[i]?=some x) (J:x[0]?=some u) (z:k u):bQ (mQ 1 v<|I i) fun p=>bQ (sA h p) k:=by
 obtain⟨y,C⟩:=eh.1 q;obtain⟨r,m,j⟩:=g.R3;obtain⟨D,E,f,s,t,rfl⟩:=m;obtain⟨A,f⟩:=f;rcases f with⟨B,rfl⟩|⟨a,c,rfl,f⟩;obtain⟨a,c,rfl,n⟩:=B;grind[dR,Cp];have d:Hs G h (dJ 1 e a c (l.length,l.flatten)::L):=⟨g.base,g.old,g.wf,g.fr,⟨_,⟨D,E,f,s,t,rfl⟩,j⟩⟩;obtain⟨b,o,rfl,d⟩:=d.gF ER;refine dR y ?_;rw[show pt b _ 0=pt b o i by simp[pt]];refine aD d ?_ z;have F:=(yH A q).1;grind
theorem aOx (g:Hs G h (C4 G W e v l::L)) (Y:0<W):lE h W l.length v=some l.flatten:=by
 obtain⟨r,t,s⟩:=g.R3;obtain⟨T,U,m,D,F,rfl⟩:=t;obtain⟨hl,m⟩:=m;rcases m with⟨A,rfl⟩|⟨a,c,rfl,m⟩;obtain⟨a,c,rfl,f⟩:=A;cases l with
 |nil=>cases a<;>simp[lE]
 |cons x l=>
  obtain⟨b,o,cells,rfl,d,E,z⟩:=f 0 EV;obtain⟨B,C,V,d.get⟩:=d.get;have N:h.get b=some (.cells cells B C V):=by rw[g.W6 d.lt];exact d.get
  have p:∀i,i<(x::l).length->(cells.drop<|o+i*W).take W=(x::l).getD i []/\o+i*W<=cells.length:=by
   intro i q;obtain⟨X,o',n,I,k,Z,hle⟩:=f i q;cases I;obtain⟨_,_,_,J⟩:=k.get;grind
  have S:∀(l:List _) (o:Nat),(∀x∈l,x.length=W)->(∀i,i<l.length->(cells.drop<|o+i*W).take W=l.getD i []/\o+i*W<=cells.length)->o<=cells.length->o+l.length*W<=cells.length/\(cells.drop o).take (l.length*W)=l.flatten:=by
   intro l;induction l with
   |nil=>simp_all
   |cons y l R=>
    intro o Q q A;have u:=q 0 EV;simp only[D0,AI,List.getD_cons_zero] at u;have j:o+W<=cells.length:=by
     have:=eb List.length u.1;rw[ll,q5,Q y ei] at this;omega
    obtain⟨g1,g2⟩:=R _ ES (fun i O=>by
     have:=q (i+1) EW;grind) j
    grind[List.length_cons,Nat.succ_mul,Nat.add_comm,List.drop_drop,List.flatten_cons]
  simp only[lE,k5,Nat.add_eq_zero_iff,Nat.succ_ne_zero,and_false,c9,ba,e9];grind[dE]
 exact uf<|⟨g.base,g.old,g.wf,g.fr,⟨_,⟨T,U,m,D,F,rfl⟩,s⟩⟩
theorem xf (a:∀x∈l,x.length=W):l.flatten.length=l.length*W:=by
 induction l with
 |nil=>simp
 |cons x l b=>grind
def aNq {bytes m:Nat} {k:Value×AH->Prop} (j:Hs G h L) [r:dH (dJ W e a c) L (n,cs) L'] [t:eR (C4 G W e2 v l) L' M] (o:0<W) (q:l.length=m) (hc:l.flatten.all gA=true) (d:(n+m)*(bytes+1)<=2^46)
  (p:∀f g i,Hs G i (dJ W e f g (n+m,cs++l.flatten)::L')->k (.slice f (n+m) g,i)):bQ (kH W bytes e h (.slice a n c) v) k:=by
 have b:=(r.of j).tail.aN<|C4 G W e2 v l
 subst q
 refine aMs (k:=fun x y=>k (x,y)) j ?_ (aOx b o) hc (xf<|Vd b) d p
 obtain⟨s,c2,rfl⟩:=A3 b
 rfl
def Hs.jQ {a L2 b c:HL} (A B C D:HP) (d:Hs G h L) [k:eR A L a] [g:eR B a L2] [i:eR C L2 b] [f:eR D b c]:Hs G h (A::B::C::D::c):=
 (d.cT A B C).cR (((f.cR.cons C).cons B).cons A)
def Hs.aO7 {a:HL} {D:HP} (E:HP) (b:Hs G h (A::B::C::D::L)) [k:eR E L a]:Hs G h (A::B::C::D::E::a):=b.cR<|(((k.cR.cons D).cons C).cons B).cons A
def uu (b:a=none->k (.bool true)) (d:a≠none->k (.bool false)):bQ (Rx .eql (.slice a n c)<|.slice none 0 0) k:=by
 cases a with
 |none=>exact⟨_,rfl,b rfl⟩
 |some a=>exact⟨_,rfl,d EV⟩
theorem Eu {bytes:Nat} (d:Hs G h L) [m:dH (dJ W e a c) L (n,cs) L'] (s:n*(bytes+1)<=2^46)
  (u:∀i j k,Hs G k (dJ W e i j (n,cs)::dJ W e a c (n,cs)::L')->Q (.slice i n j) k):
  bQ (Rx .eql (.slice a n c)<|.slice none 0 0) fun v0=>Br v0 (Q (.slice none 0 0) h) (bQ (rL [] []) fun t=>yQ h W e t 0 0 fun s3 q=>bQ (kH W bytes e q s3<|.slice a n c) fun p=>(fun v5 r=>Q v5 r) p.1 p.2):=by
 have d:=m.of d
 refine uu (fun g=>eV ?_) fun _=>cF<|aM rfl ?_
 .subst g;have y:n=0:=by
   rcases AW n with f|f;exact f;obtain⟨b,o,g,_⟩:=d.sQ f;cases g
  have x:=d.Eb
  simp_all[gg,none,iY]
 grind[dC,vO]
theorem Ou {bytes:Nat} (f:Hs G h (C4 G W e2 v l::L)) (z:0<W) (t:l.length=n) (hc:l.flatten.all gA=true) (B:n*(bytes+1)<=2^46)
  (F:∀p i q,Hs G q (dJ W e p i (n,l.flatten)::C4 G W e2 v l::L)->Q (.slice p n i) q):
  bQ (Rx .eql v<|.slice none 0 0) fun v0=>Br v0 (Q (.slice none 0 0) h) (bQ (rL [] []) fun o=>yQ h W e o 0 0 fun s3 d=>bQ (kH W bytes e d s3 v) fun g=>(fun v5 k=>Q v5 k) g.1 g.2):=by
 obtain⟨a,c,u⟩:=A3 f
 have C:a=none->l=[]:=by
  intro j;subst j;refine f.tq fun r m=>?_;obtain⟨A,⟨⟨a,i,d,s⟩,_⟩|⟨a,i,d,m⟩⟩:=m;grind[Nat.eq_zero_or_pos];rw[u] at d;cases d;rcases AW l.length with y|y;grind;obtain⟨_,_,⟨d,_⟩|⟨d,_⟩|⟨_,b,D,x,ex,j,_⟩⟩:=m;grind;grind;cases j
 have go:bQ (rL [] []) fun o=>yQ h W e o 0 0 fun s3 d=>bQ (kH W bytes e d s3 v) fun g=>(fun v5 k=>Q v5 k) g.1 g.2:=by
  refine aM rfl<|dC f EV rfl rfl ?_;intro E h f;refine aNq (e2:=e2) f z t hc ES ?_;grind
 subst u
 refine uu (fun j=>eV ?_) fun _=>cF go
 subst t
 simp_all[none,iY]
variable {α:Type}
theorem Hs.aT4 {A:Nat->α->HP} (d:α):∀(n:Nat) (L:HL),Hs G h (dV n (fun i=>xC<|A i)::L)->∃f:Nat->α,Hs G h (dV n (fun i=>A i<|f i)::L):=by
 intro n;induction n with
 |zero=>intro L a;exact⟨fun _=>d,a⟩
 |succ n c=>
  intro L a;have a:Hs G h (dV n (fun i=>xC<|A i)::xC (A n)::L):=by
   have b:=a.dT;rw[er,k8,dx] at b;exact Hs.kC b
  obtain⟨f,a⟩:=c _ a;obtain⟨x,a⟩:=a.oN.uI;refine⟨fun i=>if i=n then x else f i,(Hs.Y4 ?_)⟩;have e:(List.range n).map (fun i=>A i<|if i=n then x else f i)=(List.range n).map fun i=>A i (f i):=sr ES;grind[dV]
def Hs.aS9 {f g:Nat->HP}:∀(n:Nat) (L:HL),Hs G h (dV n (fun i=>sp [f i,g i])::L)->Hs G h (dV n f::dV n g::L):=by
 intro n;induction n with
 |zero=>intro L a;exact Hs.Zs (Hs.Zs a.tail)
 |succ n c=>
  intro L a;have a:Hs G h (dV n (fun i=>sp [f i,g i])::sp [f n,g n]::L):=by
   have b:=a.dT;rw[er,k8,dx] at b;exact Hs.kC b
  have a:=c _ a;have a:=(a.aN<|sp [f n,g n]).yO;exact(Hs.Y4<|(Hs.Y4<|a.cR<|(List.Perm.swap _ _ _).cons _).bZ (g n)<|dV n g).oN
theorem Hs.vg {b o:Nat} {c:Nat->α->EK} {d:Nat->α->HP} (k:α) (m:∀i x,(c i x).length=W) (hc:∀i x,(c i x).all gA=true) (j:0<W) (g:0<n)
  (a:Hs G h (dV n (fun i=>xC fun x=>sp [aG b (o+i*W)<|c i x,d i x])::fJ G W e (some ⟨b,o,none⟩) cap n b o::L)):
  ∃f:Nat->α,Hs G h (dJ W e (some ⟨b,o,none⟩) cap (n,(List.range n).flatMap fun i=>c i<|f i)::dV n (fun i=>d i<|f i)::L):=by
 obtain⟨f,a⟩:=Hs.aT4 k n _ a
 refine⟨f,?_⟩
 exact Hs.kZ ((aLm ES j n _ g<|Hs.aS9 n _ a).cT (aG b o<|(List.range n).flatMap fun i=>c i<|f i) (fJ G W e (some ⟨b,o,none⟩) cap n b o)<|dV n fun i=>d i<|f i) (uR ES n) ES
def Hs.je {c:Nat->EK} (j:∀i,(c i).length=W) (f:0<n) (d:Hs G h (dJ W e a cap (n,(List.range n).flatMap c)::L)):
  ∃b o,a=some ⟨b,o,none⟩/\Hs G h (dV n (fun i=>aG b (o+i*W)<|c i)::fJ G W e a cap n b o::L):=by
 obtain⟨b,o,g,d⟩:=d.gF f
 exact⟨b,o,g,sy j n _ d⟩
theorem Hs.aGd {b o:Nat} {c:Nat->α->EK} {d:Nat->α->HP} (f:Nat->α) (m:∀i x,(c i x).length=W) (g:0<n)
  (a:Hs G h (dJ W e (some ⟨b,o,none⟩) cap (n,(List.range n).flatMap fun i=>c i<|f i)::dV n (fun i=>d i<|f i)::L)):
  Hs G h (dV n (fun i=>xC fun x=>sp [aG b (o+i*W)<|c i x,d i x])::fJ G W e (some ⟨b,o,none⟩) cap n b o::L):=by
 obtain⟨k,p,j,a⟩:=Hs.je ES g a
 cases j
 have a:=a.bZ (dV n fun i=>aG b (o+i*W)<|c i<|f i)<|dV n fun i=>d i<|f i
 exact Hs.aOa (fun i h L a=>Hs.tG (f i)<|Hs.kC a) n _ a
end Go.Ab
