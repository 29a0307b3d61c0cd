/- A part of the proof. -/
import Derived.Test.YtcjlkjeeifemhaaGreatDoorE4
import Derived.ChangeArms
import Derived.OpenShut
import Derived.Test.YtcjlkjeeifemhaaGreatDoorE6
import Derived.ChangeSlices
namespace Go.Ab
open Go
section
variable {P:Program}
def Av (f:TypeId->Option (List (Option IntKind))):List Field->Nat->Option (List (Option IntKind))
 |[],_=>some []
 |x::l,o=>if x.offset=o then match f x.type with
  |some a=>(Av f l (o+a.length)).map fun b=>a++b
  |none=>none
  else none
def mM (P:Program):Nat->TypeId->Option (List (Option IntKind))
 |0,_=>none
 |n+1,t=>match P.underlying t with
  |some (.int k)=>some [some k]
  |some .bool=>some [none]
  |some (.array m e)=>match mM P n e with
   |some l=>if P.cellsOf e=l.length/\P.cellsOf t=m*l.length then some (List.replicate m l).flatten else none
   |none=>none
  |some (.struct a)=>if a.toList.all (fun x=>(mM P n x.type).any fun l=>l.length==P.cellsOf x.type) then
    (Av (mM P n) a.toList 0).bind fun l=>if P.cellsOf t=l.length then some l else none else none
  |_=>none
def H8:Option IntKind->Value->Prop
 |some k,v=>∃n,v= .int k n/\(Lit.int k n).wf=true
 |none,v=>∃b,v= .bool b
def Flat:List (Option IntKind)->List Value->Prop
 |[],[]=>True
 |k::a,v::b=>H8 k v/\Flat a b
 |_,_=>False
theorem Flat.append:∀{b a:List (Option IntKind)} {vs c:List Value},Flat b vs->Flat a c->Flat (b++a) (vs++c)
 |[],_,[],_,_,h=>h
 |_::_,_,_::_,_,h,d=>⟨h.1,Flat.append h.2 d⟩
theorem B1 {l:List (Option IntKind)}:∀(m:Nat) (cs:List Value),cs.length=m*l.length->(∀i,i<m->Flat l ((cs.drop (i*l.length)).take l.length))->Flat (List.replicate m l).flatten cs:=by
 intro m;induction m with
 |zero=>intro cs a _;have:cs=[]:=List.eq_nil_of_length_eq_zero (by omega);subst this;trivial
 |succ m b=>
  intro cs a h;rw[List.replicate_succ,List.flatten_cons,<-List.take_append_drop l.length cs];refine Flat.append (by simpa using h 0 (by omega)) (b _ (by rw[List.length_drop,a,Nat.succ_mul];omega) fun i c=>?_);have:=h (i+1) (by omega);rw[List.drop_drop];rwa [Nat.succ_mul,Nat.add_comm] at this
theorem As {f:TypeId->Option (List (Option IntKind))} {cs:List Value}:∀(l:List Field) (o:Nat) (d:List (Option IntKind)),Av f l o=some d->(∀x∈l,∀a,f x.type=some a->Flat a ((cs.drop x.offset).take a.length))->Flat d ((cs.drop o).take d.length):=by
 intro l;induction l with
 |nil=>intro o d h _;simp[Av] at h;subst h;simp[Flat]
 |cons x l n=>
  intro o d h c;unfold Av at h;split at h;rename_i k;cases hf:f x.type with
  |none=>rw[hf] at h;cases h
  |some a=>
   rw[hf] at h;simp only[Option.map_eq_some_iff] at h;obtain⟨b,j,rfl⟩:=h;have g:=c x List.mem_cons_self a hf;have i:=n _ b j (fun y m=>c y (List.mem_cons_of_mem _ m));rw[k] at g;rw[List.length_append,List.take_add,List.drop_drop];exact Flat.append g i
  cases h
variable {H:Type} {enc:TypeId×Value->H} {w:World} {base:Nat} {spare:Nat->Bool} {held:Bool}
theorem zV:∀(n:Nat) {t:TypeId} {j:List (Option IntKind)} {cs:List Value} {x:DataW H×List MemPlace} {fuel:Nat},mM P n t=some j->DataW.trod enc P w base spare held fuel t cs=some x->Flat j cs:=by
 intro n;induction n with
 |zero=>intro t j cs x fuel h;cases h
 |succ n C=>
  intro t j cs x fuel h p;unfold mM at h;split at h;rename_i k c;cases h;obtain⟨m,rfl,_,D⟩:=DataW.trod_int c p;exact⟨⟨m,rfl,D⟩,trivial⟩;rename_i c;cases h;obtain⟨m,rfl,_⟩:=DataW.trod_bool c p;exact⟨⟨m,rfl⟩,trivial⟩;rename_i m e c;cases hf:mM P n e with
  |none=>rw[hf] at h;cases h
  |some l=>
   rw[hf] at h;simp only at h;split at h;rename_i o;cases h;obtain⟨E,_,_,_,r,u,s⟩:=DataW.trod_array c p;refine B1 m cs (by rw[r];exact o.2) fun i g=>?_;have d:=s i g;rw[List.getElem?_eq_getElem (by omega),o.1] at d;exact C hf d;cases h
  rename_i z c;split at h;rename_i f;simp only[Option.bind_eq_some_iff] at h;obtain⟨l,r,h⟩:=h;split at h;rename_i o;cases h;obtain⟨E,_,_,_,q,u,s⟩:=DataW.trod_struct c p;have:=As (cs:=cs) z.toList 0 j r (fun y B a A=>by
   obtain⟨i,g,rfl⟩:=List.getElem_of_mem B;have d:=s i z.toList[i] (by simp at g;simp[g]);have b:=List.all_eq_true.1 f _ B;rw[A] at b;simp at b;simp at g;rw[List.getElem?_eq_getElem (by omega)] at d;have:=C A d;simp only[Array.getElem_toList] at this ⊢;rw[<-b] at this;exact this)
  rw[List.drop_zero,List.take_of_length_le (by rw[q,o];exact Nat.le_refl _)] at this;exact this;cases h;cases h;cases h
end
end Go.Ab
namespace Go.Ab
open Go Go.RowKit
section
variable {P:Program}
variable {H:Type} {enc:TypeId×Value->H} {w:World} {base:Nat} {spare:Nat->Bool} {held:Bool}
abbrev OB:=Option dQ×Option (Nat×(Nat×Nat))
def J3 (P:Program) (w:World) (r:OB):Prop:=
 (∀o,r.1=some o->∀b s,r.2=some (b,s)->∃a,w.heap[b]?=some a/\∀ρ,gD P ρ s o a)/\(∀b s,r.2=some (b,s)->b<w.heap.size)
def qE (g:Nat) (gl:Nat->Option dQ) (rs:List OB):Nat->Option dQ:=fun i=>if i<g then gl i else(rs[i - g]?).bind (·.1)
def qL (g:Nat) (rs:List OB):bQ:=fun i=>if i<g then some (i,(0,0)) else(rs[i - g]?).bind (·.2)
def Hk (P:Program) (g:Nat) (gl:Nat->Option dQ) (w:World):Prop:=∀i o,i<g->gl i=some o->∃a,w.heap[i]?=some a/\∀ρ,gD P ρ (0,0) o a
theorem sW {g:Nat} {gl:Nat->Option dQ} {rs:List OB} (q:P.globals.size<=g) (p:g<=w.heap.size) (j:Hk P g gl w) (n:∀r∈rs,J3 P w r):Reads P (g+rs.length) (qE g gl rs) (qL g rs) w where
 eJ:=fun i o k c b s a=>by
  unfold qE at c;unfold qL at a;split at c;rename_i h;rw[Kx h] at a;cases a;obtain⟨m,d,f⟩:=j i o h c;exact⟨m,d,f _⟩;rename_i h;rw[Kw h] at a;rw[List.getElem?_eq_getElem (by omega)] at c a;obtain⟨m,d,f⟩:=(n _ (List.getElem_mem (by omega))).1 o c b s a;exact⟨m,d,f _⟩
 low:=fun i b s k a=>by
  unfold qL at a;split at a;cases a;omega;rw[List.getElem?_eq_getElem (by omega)] at a;exact(n _ (List.getElem_mem (by omega))).2 b s a
 none:=fun i k=>by unfold qL;rw[aaa,List.getElem?_eq_none (by omega)];rfl
 eE:=fun i k=>by unfold qL;rw[Kx (by omega)]
theorem Bu {base:Nat} {old:Nat->Option dQ}:Hs ⟨base,old⟩ (Go.Ab.start base old) [] where
 base:=rfl
 old:=rfl
 wf:=Nat.le_refl _
 fr:=fun i a=>by rw[gA,Kw (Nat.not_lt.2 (show base<=i from a))]
 res:=⟨aI.emp,rfl,⟨fun b o v h=>by simp[aI.emp] at h,fun b h=>by simp[aI.emp] at h,fun b e x n h=>by simp[aI.emp] at h,fun b o h=>by simp[aI.emp] at h⟩⟩
end
end Go.Ab
section
namespace Go.Ab
variable {P:Program} {K:FuncId->List Value->Option bZ} {G:Bg} {h:AH} {L L' M:List HP}
variable {W:Nat} {e:TypeId} {v:Value} {l:List (List Value)}
theorem Be {n i c:Nat} {a:Option Addr} {cs:List Value} {u:Value} {k:Value->Prop} (d:Hs G h L) [m:Has (mN 1 e a c) L (n,cs) L'] (g:cs[i]?=some u) (j:k u):aQ (wN 1 (.slice a n c) (I i)) fun p=>aQ (Cq h p) k:=by
 have d:=m.of d;have q:=d.sB;simp only[Nat.mul_one] at q;have r:=(List.getElem?_eq_some_iff.1 g).1;obtain⟨b,o,rfl,f⟩:=d.vA (by omega);refine Fw (by omega) ?_;rw[show pt b (o+i*1) 0=pt b o i by simp[pt]];exact fO f g j
end Go.Ab
end
section
namespace Go.Ab
variable {P:Program} {K:FuncId->List Value->Option bZ} {G:Bg} {h:AH} {L L' M:List HP} {W:Nat} {e:TypeId}
end Go.Ab
end
