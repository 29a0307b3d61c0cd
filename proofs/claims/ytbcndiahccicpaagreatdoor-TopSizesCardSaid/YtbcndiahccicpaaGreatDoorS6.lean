/- A part of the proof. -/
import Derived.Test.YtbcndiahccicpaaGreatDoorS3
import Derived.ChangeArms
import Derived.OpenShut
set_option linter.all false
open Go Go.Ab
variable {l:List (Option IntKind)} {f:TypeId->Option (List (Option IntKind))} {cs:FJ} {spare:Nat->Bool}
namespace Go.Ab
variable {P:Program}
def aLm (f:TypeId->Option (List<|Option IntKind)):List Field->Nat->Option (List<|Option IntKind)
 |[],_=>some []
 |x::l,o=>if x.offset=o then match f x.type with
  |some a=>(aLm f l<|o+a.length).map fun b=>a++b
  |none=>none
  else none
def yH (P:Program):Nat->TypeId->Option (List<|Option IntKind)
 |0,_=>none
 |n+1,t=>match P.underlying t with
  |some (.int k)=>some [some k]
  |some .bool=>some [none]
  |some (.array m e)=>match yH P n e with
   |some l=>if P.cellsOf e=l.length/\P.cellsOf t=m*l.length then some (List.replicate m l).flatten else none
   |none=>none
  |some (.struct a)=>if a.toList.all (fun x=>(yH P n x.type).any fun l=>l.length==P.cellsOf x.type) then
    (aLm (yH P n) a.toList 0).bind fun l=>if P.cellsOf t=l.length then some l else none else none
  |_=>none
def aXt:Option IntKind->Value->Prop
 |some k,v=>∃n,v= .int k n/\(Lit.int k n).wf=true
 |none,v=>∃b,v= .bool b
def rC:List (Option IntKind)->FJ->Prop
 |[],[]=>True
 |k::a,v::b=>aXt k v/\rC a b
 |_,_=>False
def rC.append:∀{b a:List (Option IntKind)} {vs ws:FJ},rC b vs->rC a ws->rC (b++a) (vs++ws)
 |[],_,[],_,_,h=>h
 |_::_,_,_::_,_,h,c=>⟨h.1,rC.append h.2 c⟩
def aJb:∀(m:Nat) (cs:FJ),cs.length=m*l.length->(∀i,i<m->rC l ((cs.drop<|i*l.length).take l.length))->rC (List.replicate m l).flatten cs:=by
 intro m;induction m with
 |zero=>intro cs a _;have:cs=[]:=hY FQ;subst this;trivial
 |succ m b=>
  intro cs a h;rw[BR,DE,<-z1 l.length cs];refine rC.append (by simpa using h 0 FQ) (b _ (by rw[q6,a,AB];omega) fun i c=>?_);have:=h (i+1) FQ;rw[x0];rwa [AB,D0] at this
def aKr:∀(l:List Field) (o:Nat) (d:List (Option IntKind)),aLm f l o=some d->(∀x∈l,∀a,f x.type=some a->rC a ((cs.drop x.offset).take a.length))->rC d ((cs.drop o).take d.length):=by
 intro l;induction l with
 |nil=>intro o d h _;simp[aLm] at h;subst h;simp[rC]
 |cons x l k=>
  intro o d h c;unfold aLm at h;split at h;rename_i i;cases hf:f x.type with
  |none=>rw[hf] at h;cases h
  |some a=>
   rw[hf] at h;simp only[ba] at h;obtain⟨b,g,rfl⟩:=h;have e:=c x eg a hf;rw[i] at e;rw[dd,List.take_add,x0];exact rC.append e<|k _ b g fun y j=>c y<|aW _ j
  cases h
variable {H:Type} {enc:TypeId×Value->H} {w:World} {base:Nat} {held:Bool}
def Ny:∀(n:Nat) {t:TypeId} {g:List (Option IntKind)} {cs:FJ} {x:DataW H×List MemPlace} {fuel:Nat},yH P n t=some g->DataW.trod enc P w base spare held fuel t cs=some x->rC g cs:=by
 intro n;induction n with
 |zero=>intro t g cs x fuel h;cases h
 |succ n B=>
  intro t g cs x fuel h p;unfold yH at h;split at h;rename_i k c;cases h;obtain⟨m,rfl,_,C⟩:=DataW.trod_int c p;exact⟨⟨m,rfl,C⟩,trivial⟩;rename_i c;cases h;obtain⟨m,rfl,_⟩:=DataW.trod_bool c p;exact⟨⟨m,rfl⟩,trivial⟩;rename_i m e c;cases hf:yH P n e with
  |none=>rw[hf] at h;cases h
  |some l=>
   rw[hf] at h;simp only at h;split at h;rename_i j;cases h;obtain⟨D,_,_,_,r,u,s⟩:=DataW.trod_array c p;refine aJb m cs (by rw[r];exact j.2) fun i o=>?_;have d:=s i o;rw[b0 FQ,j.1] at d;exact B hf d;cases h
  rename_i v c;split at h;rename_i f;simp only[BT] at h;obtain⟨l,r,h⟩:=h;split at h;rename_i j;cases h;obtain⟨D,_,_,_,q,u,s⟩:=CI c p;have:=aKr (cs:=cs) v.toList 0 g r (fun y A a z=>by
   obtain⟨i,o,rfl⟩:=List.getElem_of_mem A;have d:=s i v.toList[i] (by simp[o]);have b:=ux.1 f _ A;rw[z] at b;simp at b;simp at o;rw[b0 FQ] at d;have:=B z d;simp only[Array.getElem_toList] at this ⊢;rw[<-b] at this;exact this)
  rw[ll,fm<|by rw[q,j];exact bb _] at this;exact this;cases h;cases h;cases h
end Go.Ab
