/- A part of the proof. -/
import Derived.Test.YtcjlkjeeifemhaaGreatDoorB5
import Derived.Maps.Own
import Derived.Maps.Keyed
import Derived.Maps.Range
import Derived.Lib.SlKeysI
import Derived.Test.YtcjlkjeeifemhaaGreatDoorB8
import Derived.Lib.Join
import Derived.Lib.UnsafeStr
namespace Go.Ab
open Go.RowKit Go.Maps
section
variable {P:Program} {B:Nat} {ρ:dR} {h:AH} {w:World}
theorem Ql (k:Inv P B ρ h w) {o:hZ} {o':Obj} {g:Nat} {s:Nat×Nat} {w':World} (hb:mB P (qH ρ h.next (g,s)) s o o') (c:Below w.heap.size w w') (A:w.heap.size<=g) (K:w'.heap[g]?=some o'):
  fA P B ρ h w (qH ρ h.next (g,s)) (h.alloc o) w':=by
 have m:Ext ρ (qH ρ h.next (g,s)):=Ext.qH (k.fresh _ (Nat.le_refl _))
 have a:∀j,(h.alloc o).get j=if j=h.next then some o else h.get j:=fun j=>AH.nI k.bn
 refine {ext:=m,inv:=?_,un:=?_,gA:=?_,stay:=fun j O p=>by rw[a,aab];exact p,frame:=?_,range:=?_,base:=rfl,nB:=?_,next:=by simp,size:=c.size,os:=c.os,out:=c.output,tape:=c.tape}
 .refine {gH:=?_,inj:=?_,low:=?_,old:=?_,fresh:=?_,dF:=?_,iN:=?_,size:=Nat.le_trans k.size c.size,bn:=Nat.le_succ_of_le k.bn}
  .intro i L n b s1 r;rw[a] at n;by_cases e:i=h.next
   .subst e;rw[tu rfl] at n;cases n;rw[aX] at r;cases r;exact⟨o',K,hb⟩
   .rw[tt e] at n;rw[aJ e] at r;obtain⟨E,t,J⟩:=k.gH i L n b s1 r;exact⟨E,(c.block b (Array.getElem?_eq_some_iff.1 t).1).trans t,J.mono m⟩
  .intro i j b G H f y l v d u;rw[a] at l v;by_cases e:i=h.next
   .by_cases q:j=h.next
    .rw[e,q]
    .rw[tt q] at v;rw[aJ q] at u;obtain⟨N,D⟩:=Option.isSome_iff_exists.1 v;obtain⟨E,t,_⟩:=k.gH j N D b H u;subst e;rw[aX] at d;cases d;have:=(Array.getElem?_eq_some_iff.1 t).1;omega
   .rw[tt e] at l;rw[aJ e] at d;by_cases q:j=h.next
    .obtain⟨M,C⟩:=Option.isSome_iff_exists.1 l;obtain⟨E,t,_⟩:=k.gH i M C b G d;subst q;rw[aX] at u;cases u;have:=(Array.getElem?_eq_some_iff.1 t).1;omega
    .rw[tt q] at v;rw[aJ q] at u;exact k.inj i j b G H f y l v d u
  .intro i b s1 f l d;rw[a] at l;by_cases e:i=h.next
   .subst e;rw[aX] at d;cases d;exact Nat.le_trans k.size A
   .rw[tt e] at l;rw[aJ e] at d;exact k.low i b s1 f l d
  .intro i b s1 f d;have e:i≠h.next:=fun e=>by have:=k.bn;simp at f;omega
   rw[aJ e] at d
   exact k.old i b s1 f d
  .intro i p;simp at p;rw[aJ (by omega)];exact k.fresh i (by omega)
  .intro i p;simp at p;rw[a,aab];exact k.dF i (by omega)
  .intro I z;exact m _ _ (k.iN I z)
 .intro i p r;rw[aJ (by omega)];exact r
 .intro i p r;rw[a,aab]
 .intro b x _;exact c.block b x
 .intro i b s1 f l d F;rw[a] at l;by_cases e:i=h.next
  .subst e;rw[aX] at d;cases d;omega
  .rw[tt e] at l;rw[aJ e] at d;exact⟨i,s1,f,l,d⟩
 .intro i p;rw[a,tt (by have:=k.bn;omega)]
theorem vZ (x:Int):∀l:List Int,(Ns x l).Perm (x::l)
 |[]=>List.Perm.refl _
 |y::l=>by
  unfold Ns;split;exact List.Perm.refl _;exact((vZ x l).cons y).trans (List.Perm.swap x y l)
theorem sV:∀l:List Int,(xL l).Perm l
 |[]=>List.Perm.refl _
 |x::l=>(vZ x (xL l)).trans ((sV l).cons x)
theorem uY (x:Int):∀l:List Int,l.Pairwise (·<=·)->(Ns x l).Pairwise (·<=·)
 |[],_=>by simp[Ns]
 |y::l,h=>by
  unfold Ns;split;rename_i b;refine List.Pairwise.cons (fun z a=>?_) h;rcases List.mem_cons.1 a with rfl|a;exact b;exact Int.le_trans b (List.rel_of_pairwise_cons h a);rename_i b;refine List.Pairwise.cons (fun z a=>?_) (uY x l h.of_cons);rcases List.mem_cons.1 ((vZ x l).mem_iff.1 a) with rfl|a;omega;exact List.rel_of_pairwise_cons h a
theorem sE:∀l:List Int,(xL l).Pairwise (·<=·)
 |[]=>List.Pairwise.nil
 |x::l=>uY x _ (sE l)
theorem Lc {l d:List Int} (h:d.Perm l):d.mergeSort (fun x y=>decide (x<=y))=xL l:=by
 have g:∀a b c:Int,(fun x y=>decide (x<=y):Int->Int->Bool) a b=true->(fun x y=>decide (x<=y):Int->Int->Bool) b c=true->(fun x y=>decide (x<=y):Int->Int->Bool) a c=true:=fun a b c e f=>by simp only[decide_eq_true_eq] at*;exact Int.le_trans e f
 have to:∀a b:Int,((fun x y=>decide (x<=y):Int->Int->Bool) a b||(fun x y=>decide (x<=y):Int->Int->Bool) b a)=true:=fun a b=>by simp only[Bool.or_eq_true,decide_eq_true_eq];exact Int.le_total a b
 refine List.Perm.eq_of_pairwise (le:=(·<=·)) (fun a b _ _ e f=>Int.le_antisymm e f) ?_ (sE l) (((List.mergeSort_perm d _).trans h).trans (sV l).symm);exact(List.pairwise_mergeSort g to d).imp fun h=>by simpa using h
theorem Ea:∀{es:List (Value×Value×Nat)} {c:List MapEntry} {f:List Int},fB ρ es c->keysOf es=some f->c.map (·.key)=f.map encZ/\c.map (·.born)=es.map (·.2.2)
 |[],c,f,d,h=>by
  simp[keysOf] at h;subst h;simp only[fB] at d;subst d;exact⟨rfl,rfl⟩
 |(k,v,t)::es,c,f,d,h=>by
  unfold keysOf at h;split at h;rename_i e;cases e;rename_i n s q i e;cases e;simp only[Option.map_eq_some_iff] at h;obtain⟨l,m,rfl⟩:=h;simp only[fB] at d;obtain⟨p,v2,r,g,o,j,rfl⟩:=d;simp only[aA] at g;obtain⟨a,b⟩:=Ea j m;subst g;exact⟨by simp[a,encZ],by simp[b]⟩;cases h
theorem Eh {c:Nat}:∀{es:List (Value×Value×Nat)},yQ c es=true->(∀x∈es.map (·.2.2),x<c)/\(es.map (·.2.2)).Nodup
 |[],_=>⟨by simp,by simp⟩
 |x::l,h=>by
  simp only[yQ,Bool.and_eq_true] at h;obtain⟨⟨f,g⟩,i⟩:=h;obtain⟨a,b⟩:=Eh i;refine⟨fun y d=>?_,?_⟩;rcases List.mem_cons.1 d with rfl|d;simpa [Nat.blt_eq] using f;exact a y d;refine List.nodup_cons.2 ⟨fun j=>?_,b⟩;obtain⟨y,d,e⟩:=List.mem_map.1 j;have:=List.all_eq_true.1 g y d;rw[e] at this;simp at this
theorem Oj:∀{d:List Int},Pg d=true->(∀x∈d,(Lit.int .i64 x).wf=true)/\d.Nodup
 |[],_=>⟨by simp,by simp⟩
 |x::l,h=>by
  simp only[Pg,Bool.and_eq_true] at h;obtain⟨⟨e,f⟩,g⟩:=h;obtain⟨a,b⟩:=Oj g;refine⟨fun y c=>?_,List.nodup_cons.2 ⟨fun i=>?_,b⟩⟩;rcases List.mem_cons.1 c with rfl|c;exact e;exact a y c;have:=List.all_eq_true.1 f x i;simp at this
theorem Iv {f k:FuncId} (h3:P.underlying 3=some (.int .i64)) (α:P.cellsOf 3=1)
  (sk:∀(c b nn:Nat) (D0:DataW Unit) (R:Value->Option (DataW Unit×List MemPlace)) (w:World),c<w.heap.size->w.cell? ⟨c,0,none⟩=some (.map (some b))->w.ownsMap P 3 R b nn D0->Maps.size D0<=maxLen->Maps.size D0*8<=140737488355328->
   Calls P f #[.func (.func k) #[] #[.pointer (some ⟨c,0,none⟩)]] w fun e w'=>∃(v:Value) (i:List Int),e= .returned v/\i.Perm (intKeys D0)/\
    w'.ownsRow w.heap.size 3 1 v i.length ((i.mergeSort (fun x y=>decide (x<=y))).map encZ)/\(v= .slice none 0 0↔i=[])/\Below w.heap.size w w')
  {c:Nat} {v:Value} {h':AH} (hF:Fk 3 c h=some (v,h')) (hi:Inv P B ρ h w) {args':List Value} (ha:aC ρ [.func (.func k) ⟨[]⟩ ⟨[.pointer (some ⟨c,0,none⟩)]⟩] args'):
  Calls P f ⟨args'⟩ w fun e w'=>∃ρ' v',e= .returned v'/\aA ρ' v v'/\fA P B ρ h w ρ' h' w':=by
 simp only[aC,aA,uJ,fG] at ha
 obtain⟨_,_,⟨_,⟨_⟩,⟨cs⟩,rfl,O,⟨_,_,⟨L,s,hr,rfl⟩,rfl,t⟩,rfl⟩,rfl,rfl⟩:=ha
 simp only at O t
 subst O;subst t
 unfold Fk at hF
 split at hF
 .rename_i r e fz ε;split at hF
  .rename_i es H η;split at hF
   .rename_i q ι;split at hF
    .rename_i D;simp only[Bool.and_eq_true] at D;obtain⟨⟨E,ο⟩,θ⟩:=D;have E:=Nat.le_of_ble_eq_true E;obtain⟨oc,U,c',rfl,J,ω,hex⟩:=hi.gH c _ ε L s hr;obtain⟨ψ,X,_⟩:=hex rfl;rw[X,List.drop_zero] at J;simp only[List.length_cons,List.length_nil,aC,aA] at J;obtain⟨_,_,⟨mb,ms,ξ,rfl⟩,rfl,π⟩:=J;obtain⟨om,ν,a,γ,rfl⟩:=hi.gH r _ η mb ms ξ;obtain⟨z,Q⟩:=Ea γ ι;obtain⟨υ,φ⟩:=Eh ο;obtain⟨σ,τ⟩:=Oj θ;have I:w.cell? ⟨L,0,none⟩=some (.map (some mb)):=by
      have:c'[0]?=some (.map (some mb)):=by
       rw[<-Array.getElem?_toList];have:=congrArg (fun l=>l[0]?) π;simpa using this
      simp[World.cell?,U,this]
     have N:a.length=q.length:=by
      have:=congrArg List.length z;simpa using this
     have hD:∀x∈a,∃n∈q,x.key= .int .i64 n:=fun x A=>by
      have:x.key∈q.map encZ:=by rw[<-z];exact List.mem_map.2 ⟨x,A,rfl⟩
      obtain⟨n,hn,e⟩:=List.mem_map.1 this;exact⟨n,hn,e.symm⟩
     let R:Value->Option (DataW Unit×List MemPlace):=fun _=>some (.lit (.bool false),[])
     have W:∀x∈a,∃n,x.key= .int .i64 n/\Go.WideElems.rd P 3 R x=some (.int .i64 n,.lit (.bool false)):=fun x A=>by
      obtain⟨n,hn,e⟩:=hD x A;refine⟨n,e,?_⟩;have:=keyOf_int_mk h3 (σ n hn);unfold Go.WideElems.rd;rw[e,this];rfl
     have V:w.ownsMap P 3 R mb a.length (.map (((⟨a⟩:Array MapEntry).toList.map (Go.WideElems.rg P 3 R)).foldr DataW.insert [])):=by
      refine⟨⟨a⟩,H,ν,⟨?_,⟨fun x A=>?_,?_,?_⟩,fun x A=>?_⟩,Nat.le_refl _,rfl⟩;show a.length<=maxLen;rw[N];unfold maxLen;omega;refine υ _ ?_;rw[<-Q];exact List.mem_map.2 ⟨x,A,rfl⟩;show(a.map (·.born)).Nodup;rw[Q];exact φ;show(a.map (·.key)).Nodup;rw[z];exact List.pairwise_map.2 (List.Pairwise.imp (fun μ e=>μ (by simpa [encZ] using e)) τ);obtain⟨n,_,hy⟩:=W x A;exact⟨_,hy⟩
     have o:(((⟨a⟩:Array MapEntry).toList.map (Go.WideElems.rg P 3 R)).foldr DataW.insert []).Perm (a.map (Go.WideElems.rg P 3 R)):=Go.WideShapes.sorted_perm _
     have S:(a.map (Go.WideElems.rg P 3 R)).map (fun p=>intOf p.1)=q:=by
      rw[List.map_map];have h1:a.map ((fun p=>intOf p.1)∘Go.WideElems.rg P 3 R)=(a.map (·.key)).map fun v=>match v with|.int _ n=>n|_=>0:=by
       rw[List.map_map];refine List.map_congr_left fun x A=>?_;obtain⟨n,e,hy⟩:=W x A;show intOf (Go.WideElems.rg P 3 R x).1=_;rw[Go.WideElems.rg_of hy];simp[intOf,e]
      rw[h1,z,List.map_map];conv=>rhs;rw[<-List.map_id q]
      rfl
     have K:∀i:List Int,i.Perm (intKeys (.map (((⟨a⟩:Array MapEntry).toList.map (Go.WideElems.rg P 3 R)).foldr DataW.insert []):DataW Unit))->i.Perm q:=fun i M=>by
      refine M.trans ?_;have:=o.map (fun p=>intOf p.1);rw[S] at this;exact this
     have m:Maps.size (.map (((⟨a⟩:Array MapEntry).toList.map (Go.WideElems.rg P 3 R)).foldr DataW.insert []):DataW Unit)=q.length:=by
      show(((⟨a⟩:Array MapEntry).toList.map (Go.WideElems.rg P 3 R)).foldr DataW.insert []).length=_;rw[o.length_eq,List.length_map,N]
     have β:L<w.heap.size:=(Array.getElem?_eq_some_iff.1 U).1
     have hz:(⟨L,0+s.2,none⟩:Addr)=⟨L,0,none⟩:=by rw[X]
     rw[hz]
     refine(sk L mb _ _ R w β I V (by rw[m];unfold maxLen;omega) (by rw[m];omega)).mono ?_
     rintro e' w' ⟨u,i,rfl,M,F,T,C⟩
     have M:=K i M
     rw[Lc M] at F
     have d:(xL q).length=i.length:=((sV q).trans M.symm).length_eq
     have hF:Lr h 3 (xL q)=(v,h'):=Option.some.inj hF
     unfold Lr at hF
     split at hF
     .rename_i j;cases hF;have Y:i=[]:=List.eq_nil_of_length_eq_zero (by rw[<-d];simpa using j);have:=T.2 Y;subst this;exact⟨ρ,_,rfl,by simp only[aA],kM hi C⟩
     .rename_i j;cases hF;obtain⟨hxl,hh⟩:=F;rcases hh with⟨rfl,hz⟩|⟨g,G,cur,rfl,ζ,δ,κ,χ,t,Z⟩
      .exfalso;apply j;rw[List.isEmpty_iff];exact List.eq_nil_of_length_eq_zero (by rw[d];exact hz)
      .refine⟨qH ρ h.next (g,(G - i.length,0)),_,rfl,?_,Ql hi (o':= .cells cur 3 (0,0)) ⟨cur,rfl,?_,?_,fun hh=>by cases hh⟩ C ζ δ⟩
       .simp only[aA];exact⟨g,(G - i.length,0),G,aX,by rw[d];exact κ,by rw[d];omega,by simp[d]⟩
       .rw[List.drop_zero,List.length_map,d,<-Nat.mul_one i.length,Z];exact gS _ (by
         have:∀l:List Int,iF (l.map encZ)=true:=fun l=>by
          induction l with
          |nil=>rfl
          |cons x l ih=>simp[iF,bU,encZ];exact ih
         exact this _)
       .rw[List.length_map,d,α,t];omega
    .cases hF
   .cases hF
  .cases hF
 .cases hF
end
end Go.Ab
section
namespace Go.Ab
noncomputable section
def wJ:List Value->Option (List ByteArray)
 |[]=>some []
 |.string s::l=>(wJ l).map fun r=>s::r
 |_::_=>none
def Aa (l:List ByteArray) (s:ByteArray):List UInt8:=Lib.join (l.map fun x=>x.data.toList) s.data.toList
def D3 (b o n c:Nat) (s:ByteArray):AH->Option (Value×AH):=fun h=>
 match aT h ⟨b,o,none⟩ n with
 |some a=>match wJ a with
  |some l=>if Nat.beq l.length n&&Nat.ble n c&&Nat.ble n 1000&&Nat.ble (Aa l s).length 1000000 then some (.string ⟨(Aa l s).toArray⟩,h) else none
  |none=>none
 |none=>none
end
theorem Dy:∀{cs:List Value} {l:List ByteArray},wJ cs=some l->cs=l.map Value.string
 |[],l,h=>by cases h;rfl
 |.string s::cs,l,h=>by
  simp only[wJ,Option.map_eq_some_iff] at h;obtain⟨r,a,rfl⟩:=h;rw[Dy a];rfl
 |.int _ _::_,l,h=>by cases h
 |.bool _::_,l,h=>by cases h
 |.agg _::_,l,h=>by cases h
 |.pointer _::_,l,h=>by cases h
 |.slice _ _ _::_,l,h=>by cases h
 |.func _ _ _::_,l,h=>by cases h
 |.iface _ _::_,l,h=>by cases h
 |.nilIface::_,l,h=>by cases h
 |.map _::_,l,h=>by cases h
 |.tuple _::_,l,h=>by cases h
variable {P:Program} {B:Nat} {ρ:dR} {h:AH} {w:World}
theorem Sa {f:FuncId}
  (W:∀(bk o c:Nat) (xs:List ByteArray) (sep:ByteArray) (w:World),(∀(j:Nat) (x:ByteArray),xs[j]?=some x->w.cell? ⟨bk,o+j,none⟩=some (.string x))->bk<w.heap.size->xs.length<=1000->xs.length<=c->(Aa xs sep).length<=1000000->
   Calls P f #[.slice (some ⟨bk,o,none⟩) xs.length c,.string sep] w fun e r=>e= .returned (.string ⟨(Aa xs sep).toArray⟩)/\Go.RowKit.Below w.heap.size w r)
  {b o n c:Nat} {s:ByteArray} {v:Value} {h':AH} (hF:D3 b o n c s h=some (v,h')) (K:Inv P B ρ h w) {args':List Value} (H:aC ρ [.slice (some ⟨b,o,none⟩) n c,.string s] args'):
  Calls P f ⟨args'⟩ w fun e r=>∃ρ' C,e= .returned C/\aA ρ' v C/\fA P B ρ h w ρ' h' r:=by
 simp only[aC,aA] at H
 obtain⟨_,_,⟨q,sp,M,U,J,Z,rfl⟩,⟨_,_,rfl,rfl,rfl⟩,rfl⟩:=H
 unfold D3 at hF
 split at hF
 .rename_i O a;split at hF
  .rename_i l k;split at hF
   .rename_i g;simp only[Bool.and_eq_true] at g;obtain⟨⟨⟨A,m⟩,i⟩,d⟩:=g;have m:=Nat.le_of_ble_eq_true m;have A:=Nat.eq_of_beq_eq_true A;have i:=Nat.le_of_ble_eq_true i;have d:=Nat.le_of_ble_eq_true d;have y:=Dy k;cases hF;unfold aT at a;simp only[Option.isSome_none,Bool.false_eq_true,if_false] at a;split at a
    .rename_i t e Y x T;split at a
     .rename_i hle;have a:=Option.some.inj a;obtain⟨ob,p,N,rfl,u,V,_⟩:=K.gH b _ T q sp U;have z:q<w.heap.size:=(Array.getElem?_eq_some_iff.1 p).1;have R:∀(j:Nat) (x:ByteArray),l[j]?=some x->w.cell? ⟨q,o+sp.2+j,none⟩=some (.string x):=by
       intro j x L;have d:j<l.length:=(List.getElem?_eq_some_iff.1 L).1;have D:O[j]?=some (.string x):=by rw[y,List.getElem?_map,L];rfl
       have E:t[o+j]?=some (.string x):=by
        rw[<-a,List.getElem?_take_of_lt (by omega),List.getElem?_drop] at D;exact D
       obtain⟨C,F,G⟩:=u.get E;simp only[aA] at G;subst G;have Q:N[o+sp.2+j]?=some (.string x):=by
        rw[List.getElem?_take_of_lt (by have:=(List.getElem?_eq_some_iff.1 E).1;omega),List.getElem?_drop,Array.getElem?_toList] at F;rw[show o+sp.2+j=sp.2+(o+j) by omega];exact F
       simp[World.cell?,p,Q]
      have I:=W q (o+sp.2) M l s w R z (by omega) (by omega) d
      rw[A] at I
      refine I.mono ?_
      rintro X r ⟨rfl,S⟩
      exact⟨ρ,_,rfl,by simp only[aA],kM K S⟩
     .cases a
    .cases a
   .cases hF
  .cases hF
 .cases hF
end Go.Ab
end
section
namespace Go.Ab
noncomputable section
def vN:List Value->Option (List UInt8)
 |[]=>some []
 |.int .u8 n::l=>if 0<=n/\n<256 then(vN l).map fun r=>n.toNat.toUInt8::r else none
 |_::_=>none
def Bc (t:TypeId) (b:Nat):AH->Option (Value×AH):=fun h=>
 match h.get b with
 |some (.cells [.pointer none,s] e (0,0) true)=>if Nat.beq e t&&Nat.ble h.base b then some (.tuple ⟨[]⟩,h.set b (some (.cells [.pointer (some ⟨b,0,none⟩),s] e (0,0) true))) else none
 |some (.cells [.pointer (some ⟨c,0,none⟩),_] e (0,0) true)=>if Nat.beq c b&&Nat.beq e t then some (.tuple ⟨[]⟩,h) else none
 |_=>none
def xP (t u:TypeId) (b:Nat):AH->Option (Value×AH):=fun h=>
 match h.get b with
 |some (.cells [_,.slice none 0 0] e (0,0) true)=>if Nat.beq e t then some (.string ⟨#[]⟩,h) else none
 |some (.cells [_,.slice (some ⟨g,o,none⟩) n c] e (0,0) true)=>
  if Nat.beq e t&&Nat.ble 1 n&&Nat.ble n c&&Nat.ble n 1000000&&Nat.ble h.base g then
   match h.get g with
   |some (.cells a d (0,0) _)=>if Nat.beq d u&&Nat.ble (o+n) a.length then
     match vN ((a.drop o).take n) with
     |some l=>some (.string ⟨l.toArray⟩,h.set g none)
     |none=>none
    else none
   |_=>none
  else none
 |_=>none
end
variable {P:Program} {B:Nat} {ρ:dR} {h:AH} {w:World}
theorem S3 (f:Inv P B ρ h w) {i b:Nat} {s:Nat×Nat} {G:hZ} {o':Obj} {w':World} (p:h.base<=i) (u:h.get i=some G) (v:ρ i=some (b,s))
  (l:w'.heap=w.heap.setIfInBounds b o') (A:w'.os=w.os) (t:w'.output=w.output) (q:w'.tape=w.tape):fA P B ρ h w ρ (h.set i none) w':=by
 have g:∀j,(h.set i none).get j=if j=i then none else h.get j:=fun j=>AH.dO p
 have a:∀j,((h.set i none).get j).isSome->(h.get j).isSome/\j≠i:=fun j d=>by
  grind
 obtain⟨R,z,_⟩:=f.gH i G u b s v
 have J:b<w.heap.size:=(Array.getElem?_eq_some_iff.1 z).1
 refine {ext:=Ext.refl _,inv:=?_,un:=fun _ _ h=>h,gA:=?_,stay:=fun j d F=>by grind,frame:=?_,range:=?_,base:=AH.Be,nB:=?_,next:=by simp,size:=by rw[l];simp,os:=A,out:=t,tape:=q}
 .refine {gH:=?_,inj:=?_,low:=?_,old:=?_,fresh:=?_,dF:=?_,iN:=f.iN,size:=by rw[l];simp;exact f.size,bn:=by simp;exact f.bn}
  .intro j M o C n m;have D:=a j (by rw[o];rfl);rw[g,tt D.2] at o;obtain⟨L,O,I⟩:=f.gH j M o C n m;refine⟨L,?_,I⟩;have K:b≠C:=by
    intro y;subst y;rcases Nat.lt_or_ge j h.base with x|x;have:=f.old j b n x m;have:=f.low i b s p (by rw[u];rfl) v;omega;exact D.2 (f.inj j i b n s x p (by rw[o];rfl) (by rw[u];rfl) m v)
   grind
  .intro j k r n sk d E o H m N;simp at d E;exact f.inj j k r n sk d E (a j o).1 (a k H).1 m N
  .intro j r n d o m;simp at d;exact f.low j r n d (a j o).1 m
  .intro j r n d m;simp at d;exact f.old j r n d m
  .intro j d;simp at d;exact f.fresh j d
  .intro j d;simp at d;rw[g];split
   .rfl
   .exact f.dF j d
 .grind
 .intro c Q F;have:b≠c:=fun e=>F i s p (by rw[u];rfl) (by rw[v,e]);grind
 .intro j r n d o m _;exact⟨j,n,d,(a j o).1,m⟩
 .intro j d;rw[g,aab]
theorem xI:∀{cs:List Value} {l:List UInt8},vN cs=some l->cs=l.map fun x=>Value.int .u8 x.toNat
 |[],l,h=>by cases h;rfl
 |v::cs,l,h=>by
  unfold vN at h;split at h;rename_i a;cases a;rename_i n c a;cases a;split at h;rename_i b;simp only[Option.map_eq_some_iff] at h;obtain⟨r,a,rfl⟩:=h;rw[xI a];simp only[List.map_cons,List.cons.injEq,Value.int.injEq,true_and,and_true];have:n.toNat.toUInt8.toNat=n.toNat:=by simp;omega
  rw[this];omega;cases h;cases h
theorem Rv {f:FuncId} {t:TypeId}
  (fresh:∀(b:Nat) (w:World),w.cell? ⟨b,0,none⟩=some (.pointer none)->w.shape? b=some (t,2)->w.frozen? ⟨b,0,none⟩=false->Calls P f #[.pointer (some ⟨b,0,none⟩)] w fun e n=>e= .returned (.tuple #[])/\n=w.setCell ⟨b,0,none⟩ (.pointer (some ⟨b,0,none⟩)))
  (used:∀(b:Nat) (w:World),w.cell? ⟨b,0,none⟩=some (.pointer (some ⟨b,0,none⟩))->Calls P f #[.pointer (some ⟨b,0,none⟩)] w fun e n=>e= .returned (.tuple #[])/\n=w)
  {b:Nat} {v:Value} {h':AH} (hF:Bc t b h=some (v,h')) (y:Inv P B ρ h w) {args':List Value} (E:aC ρ [.pointer (some ⟨b,0,none⟩)] args'):
  Calls P f ⟨args'⟩ w fun e n=>∃ρ' G,e= .returned G/\aA ρ' v G/\fA P B ρ h w ρ' h' n:=by
 simp only[aC,aA] at E
 obtain⟨_,_,⟨i,sp,q,rfl⟩,rfl,rfl⟩:=E
 unfold Bc at hF
 split at hF
 .rename_i s e x;split at hF
  .rename_i o;simp only[Bool.and_eq_true] at o;have K:=Nat.eq_of_beq_eq_true o.1;have J:=Nat.le_of_ble_eq_true o.2;subst K;cases hF;obtain⟨L,g,l,rfl,a,C,hex⟩:=y.gH b _ x i sp q;obtain⟨z,j,m⟩:=hex rfl;have m:l.size=2:=m;rw[j,List.drop_zero] at a;simp only[aC,aA] at a;obtain⟨_,_,rfl,⟨p,_,F,rfl,rfl⟩,a⟩:=a;have d:l.toList=[.pointer none,p]:=by
    rw[List.take_of_length_le (by simp[m])] at a;exact a
   have d:l= #[.pointer none,p]:=by rw[<-d]
   subst d
   rw[j]
   refine(fresh i w (by simp[World.cell?,g]) (by simp[World.shape?,g]) (by simp[World.frozen?,g])).mono ?_
   rintro r n ⟨rfl,rfl⟩
   refine⟨ρ,_,rfl,by simp only[aA,fG,aC];exact⟨_,rfl,rfl⟩,?_⟩
   refine mJ y J x q (o':= .cells #[.pointer (some ⟨i,0,none⟩),p] e (0,0)) ⟨_,rfl,?_,?_,fun _=>⟨z,j,rfl⟩⟩ ?_ rfl rfl rfl
   .rw[j];simp only[List.drop_zero,aC,aA];exact⟨_,_,⟨i,sp,q,by rw[j]⟩,⟨_,_,F,rfl,rfl⟩,rfl⟩
   .rw[z,j];simp
   .unfold World.setCell;simp only;apply Array.ext_getElem?;intro k;rw[Array.getElem?_modify,Array.getElem?_setIfInBounds];by_cases D:i=k
    .subst D;obtain⟨H,I⟩:=Array.getElem?_eq_some_iff.1 g;simp[H,I]
    .simp[D]
  .cases hF
 .rename_i c s e x;split at hF
  .rename_i o;simp only[Bool.and_eq_true] at o;have A:=Nat.eq_of_beq_eq_true o.1;subst A;cases hF;obtain⟨L,g,l,rfl,a,C,hex⟩:=y.gH c _ x i sp q;obtain⟨z,j,m⟩:=hex rfl;have m:l.size=2:=m;rw[j,List.drop_zero] at a;simp only[aC,aA] at a;obtain⟨_,_,⟨M,s2,u,rfl⟩,⟨p,_,F,rfl,rfl⟩,a⟩:=a;rw[q] at u;cases u;have d:l.toList=[.pointer (some ⟨i,0+sp.2,none⟩),p]:=by
    rw[List.take_of_length_le (by simp[m])] at a;exact a
   have d:l= #[.pointer (some ⟨i,0+sp.2,none⟩),p]:=by rw[<-d]
   subst d
   rw[j] at g ⊢
   refine(used i w (by simp[World.cell?,g])).mono ?_
   rintro r n ⟨rfl,rfl⟩
   exact⟨ρ,_,rfl,by simp only[aA,fG,aC];exact⟨_,rfl,rfl⟩,fA.refl y⟩
  .cases hF
 .cases hF
theorem R3 {f:FuncId} {t u:TypeId}
  (sn:∀(b:Nat) (w:World),w.cell? ⟨b,1,none⟩=some (.slice none 0 0)->Calls P f #[.pointer (some ⟨b,0,none⟩)] w fun e D=>e= .returned (.string ⟨#[]⟩)/\D=w.drew)
  (ss:∀(b g q cap cells:Nat) (l:List UInt8) (w:World),w.cell? ⟨b,1,none⟩=some (.slice (some ⟨g,q,none⟩) l.length cap)->cap≠0->l≠[]->w.shape? g=some (u,cells)->q+l.length<=cells->l.length<=1000000->
   (∀(j:Nat) (x:UInt8),l[j]?=some x->w.cell? ⟨g,q+j,none⟩=some (.int .u8 x.toNat))->Calls P f #[.pointer (some ⟨b,0,none⟩)] w fun e D=>e= .returned (.string ⟨l.toArray⟩)/\D=w.drew.freeze ⟨g,q,none⟩ l.length)
  {b:Nat} {v:Value} {h':AH} (hF:xP t u b h=some (v,h')) (F:Inv P B ρ h w) {args':List Value} (ha:aC ρ [.pointer (some ⟨b,0,none⟩)] args'):
  Calls P f ⟨args'⟩ w fun e D=>∃ρ' X,e= .returned X/\aA ρ' v X/\fA P B ρ h w ρ' h' D:=by
 simp only[aC,aA] at ha
 obtain⟨_,_,⟨Q,sp,hr,rfl⟩,rfl,rfl⟩:=ha
 unfold xP at hF
 split at hF
 .rename_i p e U;split at hF
  .cases hF;obtain⟨ob,A,i,rfl,a,W,hex⟩:=F.gH b _ U Q sp hr;obtain⟨h1,G,m⟩:=hex rfl;have m:i.size=2:=m;rw[G,List.drop_zero] at a;simp only[aC,aA] at a;obtain⟨O,_,_,⟨s',_,hs,rfl,rfl⟩,a⟩:=a;subst hs;have d:i.toList=[O,.slice none 0 0]:=by
    rw[List.take_of_length_le (by simp[m])] at a;exact a
   have d:i= #[O,.slice none 0 0]:=by rw[<-d]
   subst d
   rw[G]
   refine(sn Q w (by simp[World.cell?,A])).mono ?_
   rintro r D ⟨rfl,rfl⟩
   exact⟨ρ,_,rfl,by simp only[aA],uI F⟩
  .cases hF
 .rename_i p g o n c e U;split at hF
  .rename_i R;simp only[Bool.and_eq_true] at R;obtain⟨⟨⟨⟨_,K⟩,M⟩,L⟩,s⟩:=R;have K:=Nat.le_of_ble_eq_true K;have M:=Nat.le_of_ble_eq_true M;have L:=Nat.le_of_ble_eq_true L;have s:=Nat.le_of_ble_eq_true s;split at hF
   .rename_i Y e2 x J;split at hF
    .rename_i y;simp only[Bool.and_eq_true] at y;have T:=Nat.eq_of_beq_eq_true y.1;have δ:=Nat.le_of_ble_eq_true y.2;subst T;split at hF
     .rename_i l hl;cases hF;have I:=xI hl;have z:l.length=n:=by
       have:=congrArg List.length I;simp at this;omega
      obtain⟨ob,A,i,rfl,a,W,hex⟩:=F.gH b _ U Q sp hr
      obtain⟨h1,G,m⟩:=hex rfl
      have m:i.size=2:=m
      rw[G,List.drop_zero] at a
      simp only[aC,aA] at a
      obtain⟨O,_,_,⟨s',_,⟨E,sg,S,N,α,_,rfl⟩,rfl,rfl⟩,a⟩:=a
      have d:i.toList=[O,.slice (some ⟨E,o+sg.2,none⟩) n S]:=by
       rw[List.take_of_length_le (by simp[m])] at a;exact a
      have d:i= #[O,.slice (some ⟨E,o+sg.2,none⟩) n S]:=by rw[<-d]
      subst d
      rw[G]
      obtain⟨og,C,c2,rfl,H,β,_⟩:=F.gH g _ J E sg N
      have hH:∀(j:Nat) (x:UInt8),l[j]?=some x->w.cell? ⟨E,o+sg.2+j,none⟩=some (.int .u8 x.toNat):=by
       intro j x hj;have γ:j<l.length:=(List.getElem?_eq_some_iff.1 hj).1;have g1:Y[o+j]?=some (.int .u8 x.toNat):=by
        have:((Y.drop o).take n)[j]?=some (.int .u8 x.toNat):=by rw[I,List.getElem?_map,hj];rfl
        rw[List.getElem?_take_of_lt (by omega),List.getElem?_drop] at this;exact this
       obtain⟨X,g3,g4⟩:=H.get g1;simp only[aA] at g4;subst g4;have g5:c2[o+sg.2+j]?=some (.int .u8 x.toNat):=by
        rw[List.getElem?_take_of_lt (by omega),List.getElem?_drop,Array.getElem?_toList] at g3;rw[show o+sg.2+j=sg.2+(o+j) by omega];exact g3
       simp[World.cell?,C,g5]
      have R:=ss Q E (o+sg.2) S c2.size l w (by simp[World.cell?,A,z]) (by omega) (by intro e;rw[e] at z;simp at z;omega) (by simp[World.shape?,C]) (by omega) (by omega) hH
      refine R.mono ?_
      rintro r D ⟨rfl,rfl⟩
      refine⟨ρ,_,rfl,by simp only[aA],(uI F).trans (S3 (uI F).inv (o':= .cells c2 e2 (o+sg.2,o+sg.2+l.length)) s J N ?_ ?_ ?_ ?_)⟩
      .have V:¬l.length=0:=by omega
       unfold World.freeze
       rw[tt V]
       have hd:w.drew.heap=w.heap:=by first|rfl|simp[World.drew]
       dsimp only
       rw[hd]
       apply Array.ext_getElem?
       intro k
       rw[Array.getElem?_modify,Array.getElem?_setIfInBounds]
       by_cases Z:E=k
       .subst Z;obtain⟨q1,q2⟩:=Array.getElem?_eq_some_iff.1 C;simp[q1,q2]
       .simp[Z]
      all_goals
       unfold World.freeze
       split<;>rfl
     .cases hF
    .cases hF
   .cases hF
  .cases hF
 .cases hF
end Go.Ab
end
