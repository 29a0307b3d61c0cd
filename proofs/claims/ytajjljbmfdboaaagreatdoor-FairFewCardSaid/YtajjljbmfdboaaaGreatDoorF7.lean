/- A part of the proof. -/
import Derived.Test.YtajjljbmfdboaaaGreatDoorF4
import Derived.ChangeArms
import Derived.OpenShut
section
namespace Go.Ab
open Go
variable {P:Program}
def pj (f:TypeId→Option (List (Option IntKind))):List Field→Nat→Option (List (Option IntKind))
 |[],_=>some []
 |x::l,o=>if x.offset=o then match f x.type with
  |some a=>(pj f l (o+a.length)).map fun b=>a++b
  |none=>none
  else none
def qC (P:Program):Nat→TypeId→Option (List (Option IntKind))
 |0,_=>none
 |n+1,t=>match P.underlying t with
  |some (.int k)=>some [some k]
  |some .bool=>some [none]
  |some (.array m e)=>match qC P n e with
   |some l=>if P.cellsOf e=l.length∧P.cellsOf t=m*l.length then some (List.replicate m l).flatten else none
   |none=>none
  |some (.struct fs)=>if fs.toList.all (fun x=>(qC P n x.type).any fun l=>l.length==P.cellsOf x.type) then
    (pj (qC P n) fs.toList 0).bind fun l=>if P.cellsOf t=l.length then some l else none else none
  |_=>none
def aD3:Option IntKind→Value→Prop
 |some k,v=>∃n,v= .int k n∧(Lit.int k n).wf=true
 |none,v=>∃b,v= .bool b
def Flat:List (Option IntKind)→List Value→Prop
 |[],[]=>True
 |k::ks,v::vs=>aD3 k v∧Flat ks vs
 |_,_=>False
theorem Flat.len:∀{ks:List (Option IntKind)} {vs:List Value},Flat ks vs→vs.length=ks.length
 |[],[],_=>rfl
 |_::_,_::_,h=>by simp[Flat.len h.2]
theorem Flat.append:∀{ks js:List (Option IntKind)} {vs ws:List Value},Flat ks vs→Flat js ws→Flat (ks++js) (vs++ws)
 |[],_,[],_,_,h=>h
 |_::_,_,_::_,_,h,h'=>⟨h.1,Flat.append h.2 h'⟩
theorem pg {l:List (Option IntKind)}:∀(m:Nat) (cs:List Value),cs.length=m*l.length→(∀i,i<m→Flat l ((cs.drop (i*l.length)).take l.length))→Flat (List.replicate m l).flatten cs:=by
 intro m
 induction m with
 |zero=>intro cs hl _;have:cs=[]:=List.eq_nil_of_length_eq_zero (by omega);subst this;trivial
 |succ m ih=>
  intro cs hl h
  rw[List.replicate_succ,List.flatten_cons,←List.take_append_drop l.length cs]
  refine Flat.append (by simpa using h 0 (by omega)) (ih _ (by rw[List.length_drop,hl,Nat.succ_mul];omega) fun i hi=>?_)
  have:=h (i+1) (by omega)
  rw[List.drop_drop]
  rwa [Nat.succ_mul,Nat.add_comm] at this
theorem nk {f:TypeId→Option (List (Option IntKind))} {cs:List Value}:∀(l:List Field) (o:Nat) (ks:List (Option IntKind)),pj f l o=some ks→(∀x∈l,∀a,f x.type=some a→Flat a ((cs.drop x.offset).take a.length))→Flat ks ((cs.drop o).take ks.length):=by
 intro l
 induction l with
 |nil=>intro o ks h _;simp[pj] at h;subst h;simp[Flat]
 |cons x l ih=>
  intro o ks h hall
  unfold pj at h
  split at h
  ·rename_i ho
   cases hf:f x.type with
   |none=>rw[hf] at h;cases h
   |some a=>
    rw[hf] at h
    simp only[Option.map_eq_some_iff] at h
    obtain⟨b,hb,rfl⟩:=h
    have h1:=hall x List.mem_cons_self a hf
    have h2:=ih _ b hb (fun y hy=>hall y (List.mem_cons_of_mem _ hy))
    rw[ho] at h1
    rw[List.length_append,List.take_add,List.drop_drop]
    exact Flat.append h1 h2
  ·cases h
variable {H:Type} {enc:TypeId×Value→H} {w:World} {base:Nat} {spare:Nat→Bool} {held:Bool}
theorem Mi:∀(n:Nat) {t:TypeId} {ks:List (Option IntKind)} {cs:List Value} {x:DataW H×List MemPlace} {fuel:Nat},qC P n t=some ks→DataW.trod enc P w base spare held fuel t cs=some x→Flat ks cs:=by
 intro n
 induction n with
 |zero=>intro t ks cs x fuel h;cases h
 |succ n ih=>
  intro t ks cs x fuel h ht
  unfold qC at h
  split at h
  ·rename_i k hu
   cases h
   obtain⟨m,rfl,_,hw⟩:=DataW.trod_int hu ht
   exact⟨⟨m,rfl,hw⟩,trivial⟩
  ·rename_i hu
   cases h
   obtain⟨m,rfl,_⟩:=DataW.trod_bool hu ht
   exact⟨⟨m,rfl⟩,trivial⟩
  ·rename_i m e hu
   cases hf:qC P n e with
   |none=>rw[hf] at h;cases h
   |some l=>
    rw[hf] at h
    simp only at h
    split at h
    ·rename_i hc
     cases h
     obtain⟨xs,_,_,_,hl,hxl,hx⟩:=DataW.trod_array hu ht
     refine pg m cs (by rw[hl];exact hc.2) fun i hi=>?_
     have h1:=hx i hi
     rw[List.getElem?_eq_getElem (by omega),hc.1] at h1
     exact ih hf h1
    ·cases h
  ·rename_i fs hu
   split at h
   ·rename_i hall
    simp only[Option.bind_eq_some_iff] at h
    obtain⟨l,hl,h⟩:=h
    split at h
    ·rename_i hc
     cases h
     obtain⟨xs,_,_,_,hcs,hxl,hx⟩:=DataW.trod_struct hu ht
     have:=nk (cs:=cs) fs.toList 0 ks hl (fun y hy a ha=>by
      obtain⟨i,hi,rfl⟩:=List.getElem_of_mem hy
      have h1:=hx i fs.toList[i] (by simp at hi;simp[hi])
      have hal:=List.all_eq_true.1 hall _ hy
      rw[ha] at hal
      simp at hal
      simp at hi
      rw[List.getElem?_eq_getElem (by omega)] at h1
      have:=ih ha h1
      simp only[Array.getElem_toList] at this ⊢
      rw[←hal] at this
      exact this)
     rw[List.drop_zero,List.take_of_length_le (by rw[hcs,hc];exact Nat.le_refl _)] at this
     exact this
    ·cases h
   ·cases h
  ·cases h
end Go.Ab
end
