/- A part of the proof. -/
import Derived.Test.YtajjljbmfdboaaaGreatDoorR4
import Derived.ChangeArms
import Derived.OpenShut
namespace Go.Ab
open Go
section
variable {P:Program}
def wi (f:TypeId->Option (List (Option IntKind))):List Field->Nat->Option (List (Option IntKind))
 |[],_=>some []
 |x::l,o=>if x.offset=o then match f x.type with
  |some a=>(wi f l (o+a.length)).map fun b=>a++b
  |none=>none
  else none
def pL (P:Program):Nat->TypeId->Option (List (Option IntKind))
 |0,_=>none
 |n+1,t=>match P.underlying t with
  |some (.int k)=>some [some k]
  |some .bool=>some [none]
  |some (.array m e)=>match pL P n e with
   |some l=>if P.cellsOf e=l.length/\P.cellsOf t=m*l.length then some (List.replicate m l).flatten else none
   |none=>none
  |some (.struct a)=>if a.toList.all (fun x=>(pL P n x.type).any fun l=>l.length==P.cellsOf x.type) then
    (wi (pL P n) a.toList 0).bind fun l=>if P.cellsOf t=l.length then some l else none else none
  |_=>none
def aFb:Option IntKind->Value->Prop
 |some k,v=>∃n,v= .int k n/\(Lit.int k n).wf=true
 |none,v=>∃b,v= .bool b
def Flat:List (Option IntKind)->List Value->Prop
 |[],[]=>True
 |k::a,v::b=>aFb k v/\Flat a b
 |_,_=>False
theorem Flat.len:∀{a:List (Option IntKind)} {vs:List Value},Flat a vs->vs.length=a.length
 |[],[],_=>rfl
 |_::_,_::_,h=>by simp[Flat.len h.2]
theorem Flat.append:∀{b a:List (Option IntKind)} {vs ws:List Value},Flat b vs->Flat a ws->Flat (b++a) (vs++ws)
 |[],_,[],_,_,h=>h
 |_::_,_,_::_,_,h,c=>⟨h.1,Flat.append h.2 c⟩
theorem s5 {l:List (Option IntKind)}:∀(m:Nat) (cs:List Value),cs.length=m*l.length->(∀i,i<m->Flat l ((cs.drop (i*l.length)).take l.length))->Flat (List.replicate m l).flatten cs:=by
 intro m;induction m with
 |zero=>intro cs a _;have:cs=[]:=List.eq_nil_of_length_eq_zero (by omega);subst this;trivial
 |succ m b=>
  intro cs a h;rw[List.replicate_succ,List.flatten_cons,<-List.take_append_drop l.length cs];refine Flat.append (by simpa using h 0 (by omega)) (b _ (by rw[List.length_drop,a,Nat.succ_mul];omega) fun i c=>?_);have:=h (i+1) (by omega);rw[List.drop_drop];rwa [Nat.succ_mul,Nat.add_comm] at this
theorem s8 {f:TypeId->Option (List (Option IntKind))} {cs:List Value}:∀(l:List Field) (o:Nat) (d:List (Option IntKind)),wi f l o=some d->(∀x∈l,∀a,f x.type=some a->Flat a ((cs.drop x.offset).take a.length))->Flat d ((cs.drop o).take d.length):=by
 intro l;induction l with
 |nil=>intro o d h _;simp[wi] at h;subst h;simp[Flat]
 |cons x l m=>
  intro o d h c;unfold wi at h;split at h;rename_i j;cases hf:f x.type with
  |none=>rw[hf] at h;cases h
  |some a=>
   rw[hf] at h;simp only[Option.map_eq_some_iff] at h;obtain⟨b,i,rfl⟩:=h;have e:=c x List.mem_cons_self a hf;have g:=m _ b i (fun y k=>c y (List.mem_cons_of_mem _ k));rw[j] at e;rw[List.length_append,List.take_add,List.drop_drop];exact Flat.append e g
  cases h
variable {H:Type} {enc:TypeId×Value->H} {w:World} {base:Nat} {spare:Nat->Bool} {held:Bool}
theorem Gp:∀(n:Nat) {t:TypeId} {j:List (Option IntKind)} {cs:List Value} {x:DataW H×List MemPlace} {fuel:Nat},pL P n t=some j->DataW.trod enc P w base spare held fuel t cs=some x->Flat j cs:=by
 intro n;induction n with
 |zero=>intro t j cs x fuel h;cases h
 |succ n B=>
  intro t j cs x fuel h p;unfold pL at h;split at h;rename_i k c;cases h;obtain⟨m,rfl,_,C⟩:=DataW.trod_int c p;exact⟨⟨m,rfl,C⟩,trivial⟩;rename_i c;cases h;obtain⟨m,rfl,_⟩:=DataW.trod_bool c p;exact⟨⟨m,rfl⟩,trivial⟩;rename_i m e c;cases hf:pL P n e with
  |none=>rw[hf] at h;cases h
  |some l=>
   rw[hf] at h;simp only at h;split at h;rename_i o;cases h;obtain⟨D,_,_,_,r,u,s⟩:=DataW.trod_array c p;refine s5 m cs (by rw[r];exact o.2) fun i g=>?_;have d:=s i g;rw[List.getElem?_eq_getElem (by omega),o.1] at d;exact B hf d;cases h
  rename_i v c;split at h;rename_i f;simp only[Option.bind_eq_some_iff] at h;obtain⟨l,r,h⟩:=h;split at h;rename_i o;cases h;obtain⟨D,_,_,_,q,u,s⟩:=DataW.trod_struct c p;have:=s8 (cs:=cs) v.toList 0 j r (fun y A a z=>by
   obtain⟨i,g,rfl⟩:=List.getElem_of_mem A;have d:=s i v.toList[i] (by simp at g;simp[g]);have b:=List.all_eq_true.1 f _ A;rw[z] at b;simp at b;simp at g;rw[List.getElem?_eq_getElem (by omega)] at d;have:=B z d;simp only[Array.getElem_toList] at this ⊢;rw[<-b] at this;exact this)
  rw[List.drop_zero,List.take_of_length_le (by rw[q,o];exact Nat.le_refl _)] at this;exact this;cases h;cases h;cases h
end
end Go.Ab
