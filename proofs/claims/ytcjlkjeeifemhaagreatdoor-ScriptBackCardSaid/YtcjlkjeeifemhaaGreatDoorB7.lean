/- A part of the proof. -/
import Derived.Test.YtcjlkjeeifemhaaGreatDoorB4
import Derived.ChangeArms
import Derived.OpenShut
import Derived.Test.YtcjlkjeeifemhaaGreatDoorB6
import Derived.ChangeSlices
namespace Go.Ab
open Go
section
variable {P:Program}
def S8 (f:TypeId->Option (List (Option IntKind))):List Field->Nat->Option (List (Option IntKind))
 |[],_=>some []
 |x::l,o=>if x.offset=o then match f x.type with
  |some a=>(S8 f l (o+a.length)).map fun b=>a++b
  |none=>none
  else none
def kZ (P:Program):Nat->TypeId->Option (List (Option IntKind))
 |0,_=>none
 |n+1,t=>match P.underlying t with
  |some (.int k)=>some [some k]
  |some .bool=>some [none]
  |some (.array m e)=>match kZ P n e with
   |some l=>if P.cellsOf e=l.length/\P.cellsOf t=m*l.length then some (List.replicate m l).flatten else none
   |none=>none
  |some (.struct a)=>if a.toList.all (fun x=>(kZ P n x.type).any fun l=>l.length==P.cellsOf x.type) then
    (S8 (kZ P n) a.toList 0).bind fun l=>if P.cellsOf t=l.length then some l else none else none
  |_=>none
def jf:Option IntKind->Value->Prop
 |some k,v=>∃n,v= .int k n/\(Lit.int k n).wf=true
 |none,v=>∃b,v= .bool b
def Flat:List (Option IntKind)->List Value->Prop
 |[],[]=>True
 |k::a,v::b=>jf k v/\Flat a b
 |_,_=>False
theorem Flat.append:∀{b a:List (Option IntKind)} {vs ws:List Value},Flat b vs->Flat a ws->Flat (b++a) (vs++ws)
 |[],_,[],_,_,h=>h
 |_::_,_,_::_,_,h,c=>⟨h.1,Flat.append h.2 c⟩
theorem Wj {l:List (Option IntKind)}:∀(m:Nat) (cs:List Value),cs.length=m*l.length->(∀i,i<m->Flat l ((cs.drop (i*l.length)).take l.length))->Flat (List.replicate m l).flatten cs:=by
 intro m;induction m with
 |zero=>intro cs a _;have:cs=[]:=List.eq_nil_of_length_eq_zero (by omega);subst this;trivial
 |succ m b=>
  intro cs a h;rw[List.replicate_succ,List.flatten_cons,<-List.take_append_drop l.length cs];refine Flat.append (by simpa using h 0 (by omega)) (b _ (by rw[List.length_drop,a,Nat.succ_mul];omega) fun i c=>?_);have:=h (i+1) (by omega);rw[List.drop_drop];rwa [Nat.succ_mul,Nat.add_comm] at this
theorem Vg {f:TypeId->Option (List (Option IntKind))} {cs:List Value}:∀(l:List Field) (o:Nat) (d:List (Option IntKind)),S8 f l o=some d->(∀x∈l,∀a,f x.type=some a->Flat a ((cs.drop x.offset).take a.length))->Flat d ((cs.drop o).take d.length):=by
 intro l;induction l with
 |nil=>intro o d h _;simp[S8] at h;subst h;simp[Flat]
 |cons x l n=>
  intro o d h c;unfold S8 at h;split at h;rename_i k;cases hf:f x.type with
  |none=>rw[hf] at h;cases h
  |some a=>
   rw[hf] at h;simp only[Option.map_eq_some_iff] at h;obtain⟨b,j,rfl⟩:=h;have g:=c x List.mem_cons_self a hf;have i:=n _ b j (fun y m=>c y (List.mem_cons_of_mem _ m));rw[k] at g;rw[List.length_append,List.take_add,List.drop_drop];exact Flat.append g i
  cases h
variable {H:Type} {enc:TypeId×Value->H} {w:World} {base:Nat} {spare:Nat->Bool} {held:Bool}
theorem Dg:∀(n:Nat) {t:TypeId} {j:List (Option IntKind)} {cs:List Value} {x:DataW H×List MemPlace} {fuel:Nat},kZ P n t=some j->DataW.trod enc P w base spare held fuel t cs=some x->Flat j cs:=by
 intro n;induction n with
 |zero=>intro t j cs x fuel h;cases h
 |succ n C=>
  intro t j cs x fuel h p;unfold kZ at h;split at h;rename_i k c;cases h;obtain⟨m,rfl,_,D⟩:=DataW.trod_int c p;exact⟨⟨m,rfl,D⟩,trivial⟩;rename_i c;cases h;obtain⟨m,rfl,_⟩:=DataW.trod_bool c p;exact⟨⟨m,rfl⟩,trivial⟩;rename_i m e c;cases hf:kZ P n e with
  |none=>rw[hf] at h;cases h
  |some l=>
   rw[hf] at h;simp only at h;split at h;rename_i o;cases h;obtain⟨E,_,_,_,r,u,s⟩:=DataW.trod_array c p;refine Wj m cs (by rw[r];exact o.2) fun i g=>?_;have d:=s i g;rw[List.getElem?_eq_getElem (by omega),o.1] at d;exact C hf d;cases h
  rename_i z c;split at h;rename_i f;simp only[Option.bind_eq_some_iff] at h;obtain⟨l,r,h⟩:=h;split at h;rename_i o;cases h;obtain⟨E,_,_,_,q,u,s⟩:=DataW.trod_struct c p;have:=Vg (cs:=cs) z.toList 0 j r (fun y B a A=>by
   obtain⟨i,g,rfl⟩:=List.getElem_of_mem B;have d:=s i z.toList[i] (by simp at g;simp[g]);have b:=List.all_eq_true.1 f _ B;rw[A] at b;simp at b;simp at g;rw[List.getElem?_eq_getElem (by omega)] at d;have:=C A d;simp only[Array.getElem_toList] at this ⊢;rw[<-b] at this;exact this)
  rw[List.drop_zero,List.take_of_length_le (by rw[q,o];exact Nat.le_refl _)] at this;exact this;cases h;cases h;cases h
end
end Go.Ab
namespace Go.Ab
open Go Go.RowKit
section
variable {P:Program}
def ik:Value->Value
 |.int k n=> .int k n
 |.bool b=> .bool b
 |_=>top
theorem P3 {ρ:dR}:∀l:List Value,aC ρ (l.map ik) l
 |[]=>rfl
 |v::l=>by
  refine aC.cons ?_ (P3 l);cases v<;>simp[ik,top,aA]
theorem Ad:∀{c:List (Option IntKind)} {l:List Value},Flat c l->l.map ik=l
 |[],[],_=>rfl
 |none::c,v::l,h=>by
  obtain⟨⟨b,rfl⟩,a⟩:=h;simp[ik,Ad a]
 |some k::c,v::l,h=>by
  obtain⟨⟨b,rfl,_⟩,a⟩:=h;simp[ik,Ad a]
def fT (b:List (Option IntKind)) (w:World) (a:Option Addr) (len cap:Nat):Prop:=
 (a=none/\len=0/\cap=0)\/(∃x,a=some x/\len=0)\/
 ∃x cc e c,a=some x/\0<len/\x.spot=none/\len<=cap/\w.heap[x.block]?=some (.cells cc e c)/\x.off+len*b.length<=cc.size/\
  ∀i,i<len->Flat b ((cc.toList.drop (x.off+i*b.length)).take b.length)
theorem Ma {x:Addr} {i:Nat} (h:x.spot=none):x.add i=⟨x.block,x.off+i,none⟩:=by
 unfold Addr.add;split;rename_i a;subst a;cases x;simp at h;subst h;rfl;rfl
variable {H:Type} {enc:TypeId×Value->H} {w:World} {base:Nat} {spare:Nat->Bool} {held:Bool}
theorem Dk {t e:TypeId} {n fuel:Nat} {b:List (Option IntKind)} {cs:List Value} {x:DataW H×List MemPlace} (V:P.underlying t=some (.slice e)) (R:kZ P n e=some b) (Q:P.cellsOf e=b.length) (O:0<b.length)
  (h:DataW.trod enc P w base spare held fuel t cs=some x):∃a len g,cs=[.slice a len g]/\fT b w a len g:=by
 rcases DataW.trod_slice V h with⟨rfl,_⟩|⟨a,len,g,elems,rest,m,_,rfl,_,y,T,Z,J,E,_,_⟩
 .exact⟨none,0,0,rfl,.inl ⟨rfl,rfl,rfl⟩⟩
 refine⟨some a,len,g,rfl,?_⟩
 rcases Nat.eq_zero_or_pos len with C|C
 .exact .inr (.inl ⟨a,rfl,C⟩)
 refine .inr (.inr ?_)
 have each:∀i,i<len->∃c:List Value,Flat b c/\c.length=b.length/\∀j,j<b.length->w.cell? ((a.add (i*b.length)).add j)=c[j]?:=by
  intro i z;have I:=E i z;rw[List.getElem?_eq_getElem (by omega),Q,Option.bind_eq_some_iff] at I;obtain⟨c,d,X⟩:=I;refine⟨c,Dg n R X,?_,fun j r=>?_⟩;unfold World.cells? at d;split at d;have:=mapM_some_length d;simpa using this;cases d;unfold World.cells? at d;split at d;exact mapM_some_get d j j (by simp[r]);cases d
 obtain⟨c0,S,U,D⟩:=each 0 C
 have f:=D 0 O
 rw[List.getElem?_eq_getElem (by omega)] at f
 obtain⟨cc,N,s,y,B⟩:∃cc e s,w.heap[a.block]?=some (.cells cc e s)/\a.spot=none:=by
  have F:(a.add (0*b.length)).add 0=a:=by rw[Nat.zero_mul];rfl
  rw[F] at f;unfold World.cell? at f;split at f;rename_i c e s y;split at f;cases f;rename_i B;exact⟨c,e,s,y,by simpa using B⟩;cases f
 have p:∀o,w.cell? ⟨a.block,o,none⟩=cc[o]?:=by
  intro o;unfold World.cell?;rw[y];simp
 have u:∀i,i<len->∃c:List Value,Flat b c/\c.length=b.length/\∀j,j<b.length->cc[a.off+i*b.length+j]?=c[j]?:=by
  intro i z;obtain⟨c,A,q,r⟩:=each i z;refine⟨c,A,q,fun j k=>?_⟩;rw[<-r j k,Ma B,Ma rfl];exact(p _).symm
 refine⟨a,cc,N,s,rfl,C,B,T,y,?_,?_⟩
 .obtain⟨c,A,q,r⟩:=u (len - 1) (by omega);have:=r (b.length - 1) (by omega);rw[List.getElem?_eq_getElem (by omega)] at this;have Y:=(Array.getElem?_eq_some_iff.1 this).1;have:len*b.length=(len - 1)*b.length+b.length:=by
   conv=>lhs;rw[show len=(len - 1)+1 by omega,Nat.succ_mul]
  omega
 .intro i z;obtain⟨c,A,q,r⟩:=u i z;have:(cc.toList.drop (a.off+i*b.length)).take b.length=c:=by
   apply List.ext_getElem?;intro j;rw[List.getElem?_take];split;rename_i k;rw[List.getElem?_drop,Array.getElem?_toList,r j k];rename_i k;rw[List.getElem?_eq_none (by omega)]
  rw[this];exact A
def eJ (G:Bg) (W:Nat) (v:Value) (n:Nat) (at':Nat->List Value):Prop:=∃a c,v= .slice a n c/\∀i,i<n->∃b o cells,a=some ⟨b,o,none⟩/\Ob G b cells/\(cells.drop (o+i*W)).take W=at' i/\o+i*W<=cells.length
abbrev OB:=Option hZ×Option (Nat×(Nat×Nat))
def Ms (P:Program) (w:World) (r:OB):Prop:=
 (∀o,r.1=some o->∀b s,r.2=some (b,s)->∃a,w.heap[b]?=some a/\∀ρ,mB P ρ s o a)/\(∀b s,r.2=some (b,s)->b<w.heap.size)
def qC (g:Nat) (gl:Nat->Option hZ) (rs:List OB):Nat->Option hZ:=fun i=>if i<g then gl i else(rs[i - g]?).bind (·.1)
def kD (g:Nat) (rs:List OB):dR:=fun i=>if i<g then some (i,(0,0)) else(rs[i - g]?).bind (·.2)
def Yg (P:Program) (g:Nat) (gl:Nat->Option hZ) (w:World):Prop:=∀i o,i<g->gl i=some o->∃a,w.heap[i]?=some a/\∀ρ,mB P ρ (0,0) o a
theorem Ue {g:Nat} {gl:Nat->Option hZ} {rs:List OB} (q:P.globals.size<=g) (p:g<=w.heap.size) (j:Yg P g gl w) (n:∀r∈rs,Ms P w r):Reads P (g+rs.length) (qC g gl rs) (kD g rs) w where
 gH:=fun i o k c b s a=>by
  unfold qC at c;unfold kD at a;split at c;rename_i h;rw[tu h] at a;cases a;obtain⟨m,d,f⟩:=j i o h c;exact⟨m,d,f _⟩;rename_i h;rw[tt h] at a;rw[List.getElem?_eq_getElem (by omega)] at c a;obtain⟨m,d,f⟩:=(n _ (List.getElem_mem (by omega))).1 o c b s a;exact⟨m,d,f _⟩
 low:=fun i b s k a=>by
  unfold kD at a;split at a;cases a;omega;rw[List.getElem?_eq_getElem (by omega)] at a;exact(n _ (List.getElem_mem (by omega))).2 b s a
 none:=fun i k=>by unfold kD;rw[aab,List.getElem?_eq_none (by omega)];rfl
 iN:=fun i k=>by unfold kD;rw[aae]
theorem Sp {g i:Nat} {gl:Nat->Option hZ} {rs:List OB} {r:OB} (h:rs[i]?=some r):qC g gl rs (g+i)=r.1:=by unfold qC;rw[aab,show g+i - g=i by omega,h];rfl
theorem nG {g i:Nat} {rs:List OB} {r:OB} (h:rs[i]?=some r):kD g rs (g+i)=r.2:=by unfold kD;rw[aab,show g+i - g=i by omega,h];rfl
theorem Vo {g i:Nat} {gl:Nat->Option hZ} {rs:List OB} (h:i<g):qC g gl rs i=gl i:=by unfold qC;rw[tu h]
theorem Vv {base:Nat} {old:Nat->Option hZ}:Hs ⟨base,old,base⟩ (Go.Ab.start base old) [] where
 base:=⟨rfl,Nat.le_refl _⟩
 old:=fun i a=>by rw[AH.get_eq];exact tu a
 wf:=Nat.le_refl _
 fr:=fun i a=>by rw[oG,tt (Nat.not_lt.2 (show base<=i from a))]
 res:=⟨aU.emp,rfl,⟨fun b o v h=>by simp[aU.emp] at h,fun b h=>by simp[aU.emp] at h,fun b e x n h=>by simp[aU.emp] at h,fun b o h=>by simp[aU.emp] at h⟩⟩
end
end Go.Ab
section
namespace Go.Ab
variable {P:Program} {K:FuncId->List Value->Option dU} {G:Bg} {h:AH} {L L' M:List HP}
def lX (G:Bg) (W:Nat) (e:TypeId) (v:Value) (l:List (List Value)):HP:=fun r=>
 (∀x∈l,x.length=W)/\((eJ G W v l.length (fun i=>l.getD i [])/\r=aU.emp)\/∃a c,v= .slice a l.length c/\cB W e a c (l.length,l.flatten) r)
variable {W:Nat} {e:TypeId} {v:Value} {l:List (List Value)}
theorem Hs.I5 {A:HP} {p:Prop} (b:Hs G h (A::L)) (k:∀r,A r->p):p:=by
 obtain⟨r,c,a,_⟩:=b.fst;exact k r a
theorem gO (f:Hs G h (lX G W e v l::L)):∃a c,v= .slice a l.length c:=f.I5 fun r d=>by
 obtain⟨_,⟨⟨a,c,b,_⟩,_⟩|⟨a,c,b,_⟩⟩:=d;exact⟨a,c,b⟩;grind
theorem yN (b:Hs G h (lX G W e v l::L)):∀x∈l,x.length=W:=b.I5 fun _ a=>a.1
theorem eV (a:∀x∈l,x.length=W) (b:eJ G W v l.length (fun i=>l.getD i [])) (d:Hs G h L):Hs G h (lX G W e v l::L):=
 Hs.join (A:=[]) d fun _ c=>⟨a,.inl ⟨b,c⟩⟩
theorem lE {W:Nat}:∀{l:List (List Value)} {i:Nat} {x:List Value},(∀x∈l,x.length=W)->l[i]?=some x->(l.flatten.drop (i*W)).take W=x/\i*W+W<=l.flatten.length
 |[],i,x,_,h=>by simp at h
 |y::l,0,x,a,h=>by
  grind
 |y::l,i+1,x,a,h=>by
  have f:=a y List.mem_cons_self;obtain⟨c,d⟩:=lE (fun z b=>a z (List.mem_cons_of_mem _ b)) (by simpa using h);rw[List.flatten_cons,show(i+1)*W=y.length+i*W by grind,List.drop_append,List.drop_of_length_le (by omega),Nat.add_sub_cancel_left,List.nil_append,List.length_append];grind
theorem E5 {i:Nat} {x:List Value} {k:Value->Prop} (d:Hs G h (lX G W e v l::L)) (hW:0<W) (u:l[i]?=some x) (z:k (.agg ⟨x⟩)):aK (kK W v (I i)) fun p=>aK (sW h W p) k:=by
 obtain⟨n,y⟩:=List.getElem?_eq_some_iff.1 u;have m:x.length=W:=yN d x (y▸List.getElem_mem n);obtain⟨r,t,q⟩:=d.res;obtain⟨F,J,j,A,C,rfl⟩:=t;obtain⟨D,j⟩:=j;rcases j with⟨E,rfl⟩|⟨a,c,rfl,j⟩;obtain⟨a,c,rfl,g⟩:=E;obtain⟨b,o,cells,rfl,s,B,hle⟩:=g i n;refine gB n ?_;rw[show pt b (o+i*W) 0=pt b o (i*W) by simp[pt]];refine Tg d s (l:=x) ?_ m hle z;rw[B];simp[u];have f:Hs G h (cB W e a c (l.length,l.flatten)::L):=⟨d.base,d.old,d.wf,d.fr,⟨_,⟨F,J,j,A,C,rfl⟩,q⟩⟩;obtain⟨b,o,rfl,f⟩:=f.iD (by omega);refine gB n ?_;rw[show pt b (o+i*W) 0=pt b o (i*W) by simp[pt]];exact bE f hW (lE D u).1 m z
theorem gU {n i c:Nat} {a:Option Addr} {cs:List Value} {u:Value} {k:Value->Prop} (d:Hs G h L) [m:Has (cB 1 e a c) L (n,cs) L'] (g:cs[i]?=some u) (j:k u):aK (kK 1 (.slice a n c) (I i)) fun p=>aK (vH h p) k:=by
 have d:=m.of d;have q:=d.Bq;simp only[Nat.mul_one] at q;have r:=(List.getElem?_eq_some_iff.1 g).1;obtain⟨b,o,rfl,f⟩:=d.iD (by omega);refine gB (by omega) ?_;rw[show pt b (o+i*1) 0=pt b o i by simp[pt]];exact aL f g j
theorem Kk {n i c:Nat} {a:Option Addr} {cs:List Value} {v:Value} {k:AH->Prop} (f:Hs G h L) [m:Has (cB 1 e a c) L (n,cs) L'] [C:Cv v [v]] (s:cT v=true) (u:i<n) (y:∀g,Hs G g (cB 1 e a c (n,cs.set i v)::L')->k g):aK (kK 1 (.slice a n c) (I i)) fun p=>aK (vI h 1 p v) k:=by
 have f:=m.of f;have z:=f.Bq;have t:=f.zI;simp only[Nat.mul_one] at z;obtain⟨b,o,rfl,q⟩:=f.iD (by omega);refine gB u ?_;rw[show pt b (o+i*1) 0=pt b o i by simp[pt]];refine dL q rfl (by simp;omega) (by simp[s]) (by simp;omega) fun g d=>?_;have r:kR cs i [v]=cs.set i v:=by
  rw[<-gX cs i [v] (by simp;omega)];apply List.ext_getElem?;intro j;unfold aQ;rw[List.getElem?_set];simp only[List.length_singleton];by_cases x:i=j;grind;rw[tt x,List.append_assoc];by_cases A:j<i;grind;rw[List.getElem?_append_right (by simp;omega),List.getElem?_append_right (by simp;omega),List.getElem?_drop];grind
 rw[r] at d;have B:(cs.set i v).all cT=true:=by
  grind
 exact y g (Hs.wM d (by simp;omega) B)
theorem Yi {W n c:Nat} {a:Option Addr} {cs:List Value} {k:Value->Prop} (d:Hs G h L) [m:Has (cB W e a c) L (n,cs) L'] (t:0<n) (j:k (.slice a n c)):aK (sL W h (.slice a n c) none (some (I n)) none) k:=by
 have d:=m.of d;have q:n<=c/\∃b o,a=some ⟨b,o,none⟩:=d.I5 fun r p=>by
  obtain⟨_,_,⟨g,_⟩|⟨g,_⟩|⟨g,b,s,i,ex,u,_⟩⟩:=p;grind;grind;grind
 obtain⟨x,b,o,rfl⟩:=q;refine⟨.slice (some ⟨b,o,none⟩) n c,?_,j⟩;have f:lY (some (I n)) n c=some n:=by unfold lY;simp;omega
 unfold sL;simp only[lY,Option.isNone_some,Bool.false_and,Bool.false_eq_true,if_false];simp only[lY] at f;rw[f];simp only[Option.isSome_none,Bool.false_eq_true,if_false];rw[aae,aab];simp[Addr.add]
theorem Hs.ly {A B:HP} (a:Hs G h (sp [A,B]::L)):Hs G h (A::B::L):=Hs.unpack a
theorem Hs.im {A B:HP} (a:Hs G h (A::B::L)):Hs G h (sp [A,B]::L):=Hs.pack (A:=[A,B]) a
theorem Hs.Wo {A B C:HP} (a:Hs G h (sp [A,B,C]::L)):Hs G h (A::B::C::L):=Hs.unpack a
theorem Hs.Xm {A B C:HP} (a:Hs G h (A::B::C::L)):Hs G h (sp [A,B,C]::L):=Hs.pack (A:=[A,B,C]) a
theorem Nq {f:FuncId} {p:List Nat} {n:Nat} {e:Nat->Value} {d l:Nat} {pd:Option Code} {k:Option Code×AH->Prop} (i:Hs G h L) [m:iV l L ⟨P,f,p,n,e,d,.done,pd⟩ L'] (g:∀c,Hs G c L'->k (pd,c)):aK (mZ h l) k:=
 ar (P:=P) (f:=f) (p:=p) (n:=n) (e:=e) (d:=d) (st:= .done) (pd:=pd) (k:=fun a b=>k (a,b)) (show Hs G h (Aq P f p n e d l (.done,pd)::L') from m.of i) (by decide) g
theorem mo.fold {α:Type} {xs:List α} {f:α->List Value} {g:FuncId} {first captured:List Value} {A:HP} (r:mo P K G g first captured A (xs.map f)) {X:List α->HP} {Z:List α->α->HP} {y:Value} {Q:Value->AH->Prop}
  (a:Hs G h (A::X []::L))
  (step:∀done x h M,done++[x]<+:xs->Hs G h (X done::M)->yC P K y (f x) h fun v b=>(v= .bool true/\Hs G b (X (done++[x])::M))\/(v= .bool false/\Hs G b (Z done x::M)))
  (fin:∀v b,Hs G b (A::X xs::L)->Q v b) (brk:∀done x v b,done++[x]<+:xs->Hs G b (A::Z done x::L)->Q v b):Cl P K g (first++[y]++captured) h Q:=by
 refine r (fun rest=>B9 fun done:List α=>sp [Kw (∃c,xs=done++c/\rest=c.map f),X done]) (B9 fun k:List α×α=>sp [Kw (k.1++[k.2]<+:xs),Z k.1 k.2]) y L h Q ?_ ?_ ?_ ?_
 .refine Hs.pS (Hs.B8 ([]:List α) ?_);exact mN ⟨xs,rfl,rfl⟩ (Hs.pack (A:=[_]) a.pS)
 .intro x rest h M a;obtain⟨done,j⟩:=a.Wd;obtain⟨⟨c,d,i⟩,n⟩:=iQ j;clear a j;cases c with
  |nil=>cases i
  |cons z c=>
   simp only[List.map_cons,List.cons.injEq] at i
   obtain⟨o,p⟩:=i
   subst o;subst p
   have m:done++[z]<+:xs:=⟨c,by rw[d];simp⟩
   refine(step done z h M m n.unpack).mono fun v b q=>q.imp (fun e=>⟨e.1,?_⟩) (fun e=>⟨e.1,?_⟩)
   .exact Hs.B8 (done++[z]) (mN ⟨c,by rw[d];simp,rfl⟩ (Hs.pack (A:=[_]) e.2))
   .exact Hs.B8 (done,z) (mN m (Hs.pack (A:=[_]) e.2))
 .intro v b a;obtain⟨done,a⟩:=a.pS.Wd;obtain⟨⟨c,d,i⟩,a⟩:=iQ a;cases c with
  |cons z c=>cases i
  |nil=>
   rw[List.append_nil] at d
   subst d
   exact fin v b (Hs.pS a.unpack)
 .intro v b a;obtain⟨⟨done,x⟩,a⟩:=a.pS.Wd;obtain⟨m,a⟩:=iQ a;exact brk done x v b m (Hs.pS a.unpack)
end Go.Ab
end
section
namespace Go.Ab
variable {P:Program} {K:FuncId->List Value->Option dU} {G:Bg} {h:AH} {L L' M:List HP} {W:Nat} {e:TypeId}
theorem Tq {n i j c:Nat} {a:Option Addr} {cs:List Value} {u:Value} {k:Value->Prop} (d:Hs G h L) [m:Has (cB W e a c) L (n,cs) L'] (g:i<n) (s:cs[i*W+j]?=some u) (r:k u):aK (kK W (.slice a n c) (I i)) fun p=>aK (qF j p) fun q=>aK (vH h q) k:=by
 have d:=m.of d;obtain⟨b,o,rfl,f⟩:=d.iD (by omega);refine gB g (aB ?_);rw[show pt b (o+i*W) (0+j)=pt b o (i*W+j) by simp only[pt];grind];exact aL f s r
theorem fZ {v:Value} {l:List (List Value)} {i:Nat} {x:List Value} {u:Value} {k:Value->Prop} (d:Hs G h (lX G 1 e v l::L)) (A:l[i]?=some x) (R:x[0]?=some u) (z:k u):aK (kK 1 v (I i)) fun p=>aK (vH h p) k:=by
 obtain⟨n,y⟩:=List.getElem?_eq_some_iff.1 A;have F:x.length=1:=yN d x (y▸List.getElem_mem n);obtain⟨r,t,q⟩:=d.res;obtain⟨J,N,m,B,C,rfl⟩:=t;obtain⟨D,m⟩:=m;rcases m with⟨E,rfl⟩|⟨a,c,rfl,m⟩;obtain⟨a,c,rfl,g⟩:=E;obtain⟨b,o,cells,rfl,s,Q,hle⟩:=g i n;refine gB n ?_;refine zE d s (o:=o+i*1) (j:=0) ?_ z;grind;have f:Hs G h (cB 1 e a c (l.length,l.flatten)::L):=⟨d.base,d.old,d.wf,d.fr,⟨_,⟨J,N,m,B,C,rfl⟩,q⟩⟩;obtain⟨b,o,rfl,f⟩:=f.iD (by omega);refine gB n ?_;rw[show pt b (o+i*1) 0=pt b o i by simp[pt]];refine aL f ?_ z;have O:=(lE D A).1;grind
theorem c7 {v:Value} {l:List (List Value)} (g:Hs G h (lX G W e v l::L)) (_:0<W):dM h W l.length v=some l.flatten:=by
 have A:=yN g;obtain⟨r,C,u⟩:=g.res;obtain⟨r1,r2,p,Q,S,rfl⟩:=C;obtain⟨hl,p⟩:=p;rcases p with⟨I,rfl⟩|⟨a,c,rfl,p⟩;obtain⟨a,c,rfl,f⟩:=I;cases l with
 |nil=>cases a<;>simp[dM]
 |cons x l=>
  obtain⟨b,o,cells,rfl,m,R,F⟩:=f 0 (by simp);have t:=m.get;obtain⟨N,O,x',t⟩:=t;have V:h.get b=some (.cells cells N O x'):=by rw[g.wP m.lt];exact t
  have d:∀i,i<(x::l).length->(cells.drop (o+i*W)).take W=(x::l).getD i []/\o+i*W<=cells.length:=by
   intro i j;obtain⟨b',o',q,T,n,hc,hle⟩:=f i j;cases T;obtain⟨_,_,_,U⟩:=n.get;grind
  have E:∀(l:List (List Value)) (o:Nat),(∀x∈l,x.length=W)->(∀i,i<l.length->(cells.drop (o+i*W)).take W=l.getD i []/\o+i*W<=cells.length)->o<=cells.length->o+l.length*W<=cells.length/\(cells.drop o).take (l.length*W)=l.flatten:=by
   intro l;induction l with
   |nil=>simp_all
   |cons y l Z=>
    intro o J j I;have s:=j 0 (by simp);have D:=J y List.mem_cons_self;simp only[Nat.zero_mul,Nat.add_zero,List.getD_cons_zero] at s;have k:o+W<=cells.length:=by
     have:=congrArg List.length s.1;rw[List.length_take,List.length_drop,D] at this;omega
    obtain⟨g1,g2⟩:=Z (o+W) (fun z Y=>J z (List.mem_cons_of_mem _ Y)) (fun i X=>by
     have:=j (i+1) (by simp;omega);grind) k
    refine⟨by rw[List.length_cons,Nat.succ_mul];omega,?_⟩;rw[List.length_cons,Nat.succ_mul,Nat.add_comm,List.take_add,List.drop_drop,s.1,g2,List.flatten_cons]
  obtain⟨g1,g2⟩:=E (x::l) o A (fun i j=>d i j) (by grind);simp only[dM,List.length_cons,Nat.succ_ne_zero,if_false,Nat.le_refl,if_true];unfold aT;grind
 have B:Hs G h (cB W e a c (l.length,l.flatten)::L):=⟨g.base,g.old,g.wf,g.fr,⟨_,⟨r1,r2,p,Q,S,rfl⟩,u⟩⟩;exact Oh B
theorem R6 {l:List (List Value)} (a:∀x∈l,x.length=W):l.flatten.length=l.length*W:=by
 induction l with
 |nil=>simp
 |cons x l b=>grind
theorem ei {bytes c n m:Nat} {e2:TypeId} {a:Option Addr} {cs:List Value} {v:Value} {l:List (List Value)} {k:Value×AH->Prop} (j:Hs G h L) [r:Has (cB W e a c) L (n,cs) L'] [t:dJ (lX G W e2 v l) L' M] (hW:0<W) (q:l.length=m) (o:l.flatten.all cT=true) (d:(n+m)*(bytes+1)<=2^46)
  (p:∀f g i,Hs G i (cB W e f g (n+m,cs++l.flatten)::L')->k (.slice f (n+m) g,i)):aK (gF W bytes e h (.slice a n c) v) k:=by
 have b:=(r.of j).tail.front (lX G W e2 v l)
 subst q
 refine Sz (k:=fun x y=>k (x,y)) j (m:=l.length) (src:=v) (ns:=l.flatten) ?_ (c7 b hW) o (R6 (yN b)) d p
 obtain⟨s,c2,rfl⟩:=gO b
 rfl
theorem Hs.Lx {a b c d:List HP} (A B C D:HP) (f:Hs G h L) [k:dJ A L a] [i:dJ B a b] [j:dJ C b c] [g:dJ D c d]:Hs G h (A::B::C::D::d):=
 (f.N0 A B C).perm (((g.perm.cons C).cons B).cons A)
theorem Hs.eb {a:List HP} {A B C D:HP} (E:HP) (b:Hs G h (A::B::C::D::L)) [k:dJ E L a]:Hs G h (A::B::C::D::E::a):=b.perm ((((k.perm.cons D).cons C).cons B).cons A)
theorem Y9 {a:Option Addr} {n c:Nat} {k:Value->Prop} (b:a=none->k (.bool true)) (d:a≠none->k (.bool false)):aK (Kr .eql (.slice a n c) (.slice none 0 0)) k:=by
 cases a with
 |none=>exact⟨_,rfl,b rfl⟩
 |some a=>exact⟨_,rfl,d (by simp)⟩
theorem Bn {bytes n:Nat} {e2:TypeId} {v:Value} {l:List (List Value)} {Q:Value->AH->Prop} (g:Hs G h (lX G W e2 v l::L)) (hW:0<W) (q:l.length=n) (C:l.flatten.all cT=true) (F:n*(bytes+1)<=2^46)
  (D:∀y k z,Hs G z (cB W e y k (n,l.flatten)::lX G W e2 v l::L)->Q (.slice y n k) z):
  aK (Kr .eql v (.slice none 0 0)) fun v0=>Br v0 (Q (.slice none 0 0) h) (aK (jS [] []) fun x=>tM h W e x 0 0 fun s3 d=>aK (gF W bytes e d s3 v) fun j=>(fun v5 p=>Q v5 p) j.1 j.2):=by
 obtain⟨a,c,t⟩:=gO g
 have u:a=none->l=[]:=by
  intro f;subst f;refine g.I5 fun r s=>?_;obtain⟨E,⟨⟨a,k,d,i⟩,_⟩|⟨a,k,d,s⟩⟩:=s;rw[t] at d;cases d;rcases Nat.eq_zero_or_pos l.length with m|m;grind;obtain⟨b,o,_,f,_⟩:=i 0 m;cases f;rw[t] at d;cases d;rcases Nat.eq_zero_or_pos l.length with m|m;grind;obtain⟨_,_,⟨d,_⟩|⟨d,_⟩|⟨_,b,I,A,ex,f,_⟩⟩:=s;grind;grind;cases f
 have go:aK (jS [] []) fun x=>tM h W e x 0 0 fun s3 d=>aK (gF W bytes e d s3 v) fun j=>(fun v5 p=>Q v5 p) j.1 j.2:=by
  refine bG (c:=[]) rfl (fS (W:=W) (n:=0) (c:=0) g (by simp) rfl rfl ?_);intro B h g;refine ei (a:=some B) (c:=0) (n:=0) (cs:=[]) (e2:=e2) (l:=l) g hW q C (by grind) ?_;grind
 subst t
 refine Y9 (fun f=>fO ?_) (fun _=>dK go)
 obtain rfl:=u f
 simp only[List.length_nil] at q
 subst q
 exact D none 0 h (eU g)
end Go.Ab
end
