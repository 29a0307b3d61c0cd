/- A part of the proof. -/
import Derived.Test.YtcjlkjeeifemhaaGreatDoorE5
import Derived.Maps.Own
import Derived.Maps.Keyed
import Derived.Maps.Range
import Derived.Lib.SlKeysI
import Derived.Test.YtcjlkjeeifemhaaGreatDoorE8
import Derived.Lib.Join
import Derived.Lib.UnsafeStr
import Derived.Test.YtcjlkjeeifemhaaGreatDoorChecked
import Derived.KernelRfl
import Derived.Lib.ItoaNum
import Derived.Lib.Bytealg
import Derived.Lib.Atoi
import Derived.Test.YtcjlkjeeifemhaaGreatDoorE7
namespace Go.Ab
open Go.RowKit Go.Maps
section
variable {P:Program} {B:Nat} {ρ:bQ} {h:AH} {w:World}
end
end Go.Ab
section
namespace Go.Ab
noncomputable section
def lU:List Value->Option (List ByteArray)
 |[]=>some []
 |.string s::l=>(lU l).map fun r=>s::r
 |_::_=>none
def nU (l:List ByteArray) (s:ByteArray):List UInt8:=Lib.join (l.map fun x=>x.data.toList) s.data.toList
def qT (b o n c:Nat) (s:ByteArray):AH->Option (Value×AH):=fun h=>
 match aG h ⟨b,o,none⟩ n with
 |some a=>match lU a with
  |some l=>if Nat.beq l.length n&&Nat.ble n c&&Nat.ble n 1000&&Nat.ble (nU l s).length 1000000 then some (.string ⟨(nU l s).toArray⟩,h) else none
  |none=>none
 |none=>none
end
theorem qD:∀{cs:List Value} {l:List ByteArray},lU cs=some l->cs=l.map Value.string
 |[],l,h=>by cases h;rfl
 |.string s::cs,l,h=>by
  simp only[lU,Option.map_eq_some_iff] at h;obtain⟨r,a,rfl⟩:=h;rw[qD a];rfl
 |.int _ _::_,l,h=>by cases h
 |.bool _::_,l,h=>by cases h
 |.agg _::_,l,h=>by cases h
 |.pointer _::_,l,h=>by cases h
 |.slice _ _ _::_,l,h=>by cases h
 |.func _ _ _::_,l,h=>by cases h
 |.iface _ _::_,l,h=>by cases h
 |.nilIface::_,l,h=>by cases h
 |.map _::_,l,h=>by cases h
 |.tuple _::_,l,h=>by cases h
variable {P:Program} {B:Nat} {ρ:bQ} {h:AH} {w:World}
theorem zN {f:FuncId}
  (W:∀(bk o c:Nat) (xs:List ByteArray) (sep:ByteArray) (w:World),(∀(j:Nat) (x:ByteArray),xs[j]?=some x->w.cell? ⟨bk,o+j,none⟩=some (.string x))->bk<w.heap.size->xs.length<=1000->xs.length<=c->(nU xs sep).length<=1000000->
   Calls P f #[.slice (some ⟨bk,o,none⟩) xs.length c,.string sep] w fun e r=>e= .returned (.string ⟨(nU xs sep).toArray⟩)/\Go.RowKit.Below w.heap.size w r)
  {b o n c:Nat} {s:ByteArray} {v:Value} {h':AH} (hF:qT b o n c s h=some (v,h')) (K:Inv P B ρ h w) {args':List Value} (H:aB ρ [.slice (some ⟨b,o,none⟩) n c,.string s] args'):
  Calls P f ⟨args'⟩ w fun e r=>∃ρ' C,e= .returned C/\aA ρ' v C/\cM P B ρ h w ρ' h' r:=by
 simp only[aB,aA] at H
 obtain⟨_,_,⟨q,sp,M,U,J,Z,rfl⟩,⟨_,_,rfl,rfl,rfl⟩,rfl⟩:=H
 unfold qT at hF
 split at hF
 .rename_i O a;split at hF
  .rename_i l k;split at hF
   .rename_i g;simp only[Bool.and_eq_true] at g;obtain⟨⟨⟨A,m⟩,i⟩,d⟩:=g;have m:=Nat.le_of_ble_eq_true m;have A:=Nat.eq_of_beq_eq_true A;have i:=Nat.le_of_ble_eq_true i;have d:=Nat.le_of_ble_eq_true d;have y:=qD k;cases hF;unfold aG at a;simp only[Option.isSome_none,Bool.false_eq_true,if_false] at a;split at a
    .rename_i t e Y x T;split at a
     .rename_i hle;have a:=Option.some.inj a;obtain⟨ob,p,N,rfl,u,V,_⟩:=K.eJ b _ T q sp U;have z:q<w.heap.size:=(Array.getElem?_eq_some_iff.1 p).1;have R:∀(j:Nat) (x:ByteArray),l[j]?=some x->w.cell? ⟨q,o+sp.2+j,none⟩=some (.string x):=by
       intro j x L;have d:j<l.length:=(List.getElem?_eq_some_iff.1 L).1;have D:O[j]?=some (.string x):=by rw[y,List.getElem?_map,L];rfl
       have E:t[o+j]?=some (.string x):=by
        rw[<-a,List.getElem?_take_of_lt (by omega),List.getElem?_drop] at D;exact D
       obtain⟨C,F,G⟩:=u.get E;simp only[aA] at G;subst G;have Q:N[o+sp.2+j]?=some (.string x):=by
        rw[List.getElem?_take_of_lt (by have:=(List.getElem?_eq_some_iff.1 E).1;omega),List.getElem?_drop,Array.getElem?_toList] at F;rw[show o+sp.2+j=sp.2+(o+j) by omega];exact F
       simp[World.cell?,p,Q]
      have I:=W q (o+sp.2) M l s w R z (by omega) (by omega) d
      rw[A] at I
      refine I.mono ?_
      rintro X r ⟨rfl,S⟩
      exact⟨ρ,_,rfl,by simp only[aA],gT K S⟩
     .cases a
    .cases a
   .cases hF
  .cases hF
 .cases hF
end Go.Ab
end
section
namespace Go.Ab
noncomputable section
def rC:List Value->Option (List UInt8)
 |[]=>some []
 |.int .u8 n::l=>if 0<=n/\n<256 then(rC l).map fun r=>n.toNat.toUInt8::r else none
 |_::_=>none
def Au (t:TypeId) (b:Nat):AH->Option (Value×AH):=fun h=>
 match h.get b with
 |some (.cells [.pointer none,s] e (0,0) true)=>if Nat.beq e t&&Nat.ble h.base b then some (.tuple ⟨[]⟩,h.set b (some (.cells [.pointer (some ⟨b,0,none⟩),s] e (0,0) true))) else none
 |some (.cells [.pointer (some ⟨c,0,none⟩),_] e (0,0) true)=>if Nat.beq c b&&Nat.beq e t then some (.tuple ⟨[]⟩,h) else none
 |_=>none
def Aa (t u:TypeId) (b:Nat):AH->Option (Value×AH):=fun h=>
 match h.get b with
 |some (.cells [_,.slice none 0 0] e (0,0) true)=>if Nat.beq e t then some (.string ⟨#[]⟩,h) else none
 |some (.cells [_,.slice (some ⟨g,o,none⟩) n c] e (0,0) true)=>
  if Nat.beq e t&&Nat.ble 1 n&&Nat.ble n c&&Nat.ble n 1000000&&Nat.ble h.base g then
   match h.get g with
   |some (.cells a d (0,0) _)=>if Nat.beq d u&&Nat.ble (o+n) a.length then
     match rC ((a.drop o).take n) with
     |some l=>some (.string ⟨l.toArray⟩,h.set g none)
     |none=>none
    else none
   |_=>none
  else none
 |_=>none
end
variable {P:Program} {B:Nat} {ρ:bQ} {h:AH} {w:World}
theorem Cc (f:Inv P B ρ h w) {i b:Nat} {s:Nat×Nat} {G:dQ} {o':Obj} {w':World} (p:h.base<=i) (u:h.get i=some G) (v:ρ i=some (b,s))
  (l:w'.heap=w.heap.setIfInBounds b o') (A:w'.os=w.os) (t:w'.output=w.output) (q:w'.tape=w.tape):cM P B ρ h w ρ (h.set i none) w':=by
 have g:∀j,(h.set i none).get j=if j=i then none else h.get j:=fun j=>AH.bU p
 have a:∀j,((h.set i none).get j).isSome->(h.get j).isSome/\j≠i:=fun j d=>by
  grind
 obtain⟨R,z,_⟩:=f.eJ i G u b s v
 have J:b<w.heap.size:=(Array.getElem?_eq_some_iff.1 z).1
 refine {ext:=Ext.refl _,inv:=?_,un:=fun _ _ h=>h,dA:=?_,stay:=fun j d F=>by grind,frame:=?_,range:=?_,base:=AH.pJ,gB:=?_,next:=by simp,size:=by rw[l];simp,os:=A,out:=t,tape:=q}
 .refine {eJ:=?_,inj:=?_,low:=?_,old:=?_,fresh:=?_,bM:=?_,eE:=f.eE,size:=by rw[l];simp;exact f.size,bn:=by simp;exact f.bn}
  .intro j M o C n m;have D:=a j (by rw[o];rfl);rw[g,Kw D.2] at o;obtain⟨L,O,I⟩:=f.eJ j M o C n m;refine⟨L,?_,I⟩;have K:b≠C:=by
    intro y;subst y;rcases Nat.lt_or_ge j h.base with x|x;have:=f.old j b n x m;have:=f.low i b s p (by rw[u];rfl) v;omega;exact D.2 (f.inj j i b n s x p (by rw[o];rfl) (by rw[u];rfl) m v)
   grind
  .intro j k r n sk d E o H m N;simp at d E;exact f.inj j k r n sk d E (a j o).1 (a k H).1 m N
  .intro j r n d o m;simp at d;exact f.low j r n d (a j o).1 m
  .intro j r n d m;simp at d;exact f.old j r n d m
  .intro j d;simp at d;exact f.fresh j d
  .intro j d;simp at d;rw[g];split
   .rfl
   .exact f.bM j d
 .grind
 .intro c Q F;have:b≠c:=fun e=>F i s p (by rw[u];rfl) (by rw[v,e]);grind
 .intro j r n d o m _;exact⟨j,n,d,(a j o).1,m⟩
 .intro j d;rw[g,aaa]
theorem mC:∀{cs:List Value} {l:List UInt8},rC cs=some l->cs=l.map fun x=>Value.int .u8 x.toNat
 |[],l,h=>by cases h;rfl
 |v::cs,l,h=>by
  unfold rC at h;split at h;rename_i a;cases a;rename_i n c a;cases a;split at h;rename_i b;simp only[Option.map_eq_some_iff] at h;obtain⟨r,a,rfl⟩:=h;rw[mC a];simp only[List.map_cons,List.cons.injEq,Value.int.injEq,true_and,and_true];have:n.toNat.toUInt8.toNat=n.toNat:=by simp;omega
  rw[this];omega;cases h;cases h
theorem zS {f:FuncId} {t:TypeId}
  (fresh:∀(b:Nat) (w:World),w.cell? ⟨b,0,none⟩=some (.pointer none)->w.shape? b=some (t,2)->w.frozen? ⟨b,0,none⟩=false->Calls P f #[.pointer (some ⟨b,0,none⟩)] w fun e n=>e= .returned (.tuple #[])/\n=w.setCell ⟨b,0,none⟩ (.pointer (some ⟨b,0,none⟩)))
  (used:∀(b:Nat) (w:World),w.cell? ⟨b,0,none⟩=some (.pointer (some ⟨b,0,none⟩))->Calls P f #[.pointer (some ⟨b,0,none⟩)] w fun e n=>e= .returned (.tuple #[])/\n=w)
  {b:Nat} {v:Value} {h':AH} (hF:Au t b h=some (v,h')) (y:Inv P B ρ h w) {args':List Value} (E:aB ρ [.pointer (some ⟨b,0,none⟩)] args'):
  Calls P f ⟨args'⟩ w fun e n=>∃ρ' G,e= .returned G/\aA ρ' v G/\cM P B ρ h w ρ' h' n:=by
 simp only[aB,aA] at E
 obtain⟨_,_,⟨i,sp,q,rfl⟩,rfl,rfl⟩:=E
 unfold Au at hF
 split at hF
 .rename_i s e x;split at hF
  .rename_i o;simp only[Bool.and_eq_true] at o;have J:=Nat.eq_of_beq_eq_true o.1;have I:=Nat.le_of_ble_eq_true o.2;subst J;cases hF;obtain⟨K,g,l,rfl,a,C,hex⟩:=y.eJ b _ x i sp q;obtain⟨z,j,m⟩:=hex rfl;have m:l.size=2:=m;rw[j,List.drop_zero] at a;simp only[aB,aA] at a;obtain⟨_,_,rfl,⟨p,_,F,rfl,rfl⟩,a⟩:=a;have d:l.toList=[.pointer none,p]:=by
    rw[List.take_of_length_le (by simp[m])] at a;exact a
   have d:l= #[.pointer none,p]:=by rw[<-d]
   subst d
   rw[j]
   refine(fresh i w (by simp[World.cell?,g]) (by simp[World.shape?,g]) (by simp[World.frozen?,g])).mono ?_
   rintro r n ⟨rfl,rfl⟩
   refine⟨ρ,_,rfl,by simp only[aA,cP,aB];exact⟨_,rfl,rfl⟩,?_⟩
   refine fF y I x q (o':= .cells #[.pointer (some ⟨i,0,none⟩),p] e (0,0)) ⟨_,rfl,?_,?_,fun _=>⟨z,j,rfl⟩⟩ ?_ rfl rfl rfl
   .rw[j];simp only[List.drop_zero,aB,aA];exact⟨_,_,⟨i,sp,q,by rw[j]⟩,⟨_,_,F,rfl,rfl⟩,rfl⟩
   .rw[z,j];simp
   .unfold World.setCell;simp only;apply Array.ext_getElem?;intro k;rw[Array.getElem?_modify,Array.getElem?_setIfInBounds];by_cases D:i=k
    .subst D;obtain⟨e1,H⟩:=Array.getElem?_eq_some_iff.1 g;simp[e1,H]
    .simp[D]
  .cases hF
 .rename_i c s e x;split at hF
  .rename_i o;simp only[Bool.and_eq_true] at o;have A:=Nat.eq_of_beq_eq_true o.1;subst A;cases hF;obtain⟨K,g,l,rfl,a,C,hex⟩:=y.eJ c _ x i sp q;obtain⟨z,j,m⟩:=hex rfl;have m:l.size=2:=m;rw[j,List.drop_zero] at a;simp only[aB,aA] at a;obtain⟨_,_,⟨L,s2,u,rfl⟩,⟨p,_,F,rfl,rfl⟩,a⟩:=a;rw[q] at u;cases u;have d:l.toList=[.pointer (some ⟨i,0+sp.2,none⟩),p]:=by
    rw[List.take_of_length_le (by simp[m])] at a;exact a
   have d:l= #[.pointer (some ⟨i,0+sp.2,none⟩),p]:=by rw[<-d]
   subst d
   rw[j] at g ⊢
   refine(used i w (by simp[World.cell?,g])).mono ?_
   rintro r n ⟨rfl,rfl⟩
   exact⟨ρ,_,rfl,by simp only[aA,cP,aB];exact⟨_,rfl,rfl⟩,cM.refl y⟩
  .cases hF
 .cases hF
theorem zO {f:FuncId} {t u:TypeId}
  (sn:∀(b:Nat) (w:World),w.cell? ⟨b,1,none⟩=some (.slice none 0 0)->Calls P f #[.pointer (some ⟨b,0,none⟩)] w fun e D=>e= .returned (.string ⟨#[]⟩)/\D=w.drew)
  (ss:∀(b g q G cells:Nat) (l:List UInt8) (w:World),w.cell? ⟨b,1,none⟩=some (.slice (some ⟨g,q,none⟩) l.length G)->G≠0->l≠[]->w.shape? g=some (u,cells)->q+l.length<=cells->l.length<=1000000->
   (∀(j:Nat) (x:UInt8),l[j]?=some x->w.cell? ⟨g,q+j,none⟩=some (.int .u8 x.toNat))->Calls P f #[.pointer (some ⟨b,0,none⟩)] w fun e D=>e= .returned (.string ⟨l.toArray⟩)/\D=w.drew.freeze ⟨g,q,none⟩ l.length)
  {b:Nat} {v:Value} {h':AH} (hF:Aa t u b h=some (v,h')) (F:Inv P B ρ h w) {args':List Value} (ha:aB ρ [.pointer (some ⟨b,0,none⟩)] args'):
  Calls P f ⟨args'⟩ w fun e D=>∃ρ' Z,e= .returned Z/\aA ρ' v Z/\cM P B ρ h w ρ' h' D:=by
 simp only[aB,aA] at ha
 obtain⟨_,_,⟨R,sp,hr,rfl⟩,rfl,rfl⟩:=ha
 unfold Aa at hF
 split at hF
 .rename_i p e W;split at hF
  .cases hF;obtain⟨ob,A,i,rfl,a,Y,hex⟩:=F.eJ b _ W R sp hr;obtain⟨h1,H,m⟩:=hex rfl;have m:i.size=2:=m;rw[H,List.drop_zero] at a;simp only[aB,aA] at a;obtain⟨Q,_,_,⟨s',_,hs,rfl,rfl⟩,a⟩:=a;subst hs;have d:i.toList=[Q,.slice none 0 0]:=by
    rw[List.take_of_length_le (by simp[m])] at a;exact a
   have d:i= #[Q,.slice none 0 0]:=by rw[<-d]
   subst d
   rw[H]
   refine(sn R w (by simp[World.cell?,A])).mono ?_
   rintro r D ⟨rfl,rfl⟩
   exact⟨ρ,_,rfl,by simp only[aA],kS F⟩
  .cases hF
 .rename_i p g o n c e W;split at hF
  .rename_i S;simp only[Bool.and_eq_true] at S;obtain⟨⟨⟨⟨_,L⟩,N⟩,M⟩,s⟩:=S;have L:=Nat.le_of_ble_eq_true L;have N:=Nat.le_of_ble_eq_true N;have M:=Nat.le_of_ble_eq_true M;have s:=Nat.le_of_ble_eq_true s;split at hF
   .rename_i cs e2 x K;split at hF
    .rename_i y;simp only[Bool.and_eq_true] at y;have V:=Nat.eq_of_beq_eq_true y.1;have δ:=Nat.le_of_ble_eq_true y.2;subst V;split at hF
     .rename_i l hl;cases hF;have J:=mC hl;have z:l.length=n:=by
       have:=congrArg List.length J;simp at this;omega
      obtain⟨ob,A,i,rfl,a,Y,hex⟩:=F.eJ b _ W R sp hr
      obtain⟨h1,H,m⟩:=hex rfl
      have m:i.size=2:=m
      rw[H,List.drop_zero] at a
      simp only[aB,aA] at a
      obtain⟨Q,_,_,⟨s',_,⟨E,sg,T,O,α,_,rfl⟩,rfl,rfl⟩,a⟩:=a
      have d:i.toList=[Q,.slice (some ⟨E,o+sg.2,none⟩) n T]:=by
       rw[List.take_of_length_le (by simp[m])] at a;exact a
      have d:i= #[Q,.slice (some ⟨E,o+sg.2,none⟩) n T]:=by rw[<-d]
      subst d
      rw[H]
      obtain⟨og,C,U,rfl,I,β,_⟩:=F.eJ g _ K E sg O
      have hH:∀(j:Nat) (x:UInt8),l[j]?=some x->w.cell? ⟨E,o+sg.2+j,none⟩=some (.int .u8 x.toNat):=by
       intro j x hj;have γ:j<l.length:=(List.getElem?_eq_some_iff.1 hj).1;have g1:cs[o+j]?=some (.int .u8 x.toNat):=by
        have:((cs.drop o).take n)[j]?=some (.int .u8 x.toNat):=by rw[J,List.getElem?_map,hj];rfl
        rw[List.getElem?_take_of_lt (by omega),List.getElem?_drop] at this;exact this
       obtain⟨Z,g3,g4⟩:=I.get g1;simp only[aA] at g4;subst g4;have g5:U[o+sg.2+j]?=some (.int .u8 x.toNat):=by
        rw[List.getElem?_take_of_lt (by omega),List.getElem?_drop,Array.getElem?_toList] at g3;rw[show o+sg.2+j=sg.2+(o+j) by omega];exact g3
       simp[World.cell?,C,g5]
      have S:=ss R E (o+sg.2) T U.size l w (by simp[World.cell?,A,z]) (by omega) (by intro e;rw[e] at z;simp at z;omega) (by simp[World.shape?,C]) (by omega) (by omega) hH
      refine S.mono ?_
      rintro r D ⟨rfl,rfl⟩
      refine⟨ρ,_,rfl,by simp only[aA],(kS F).trans (Cc (kS F).inv (o':= .cells U e2 (o+sg.2,o+sg.2+l.length)) s K O ?_ ?_ ?_ ?_)⟩
      .have X:¬l.length=0:=by omega
       unfold World.freeze
       rw[Kw X]
       have hd:w.drew.heap=w.heap:=by first|rfl|simp[World.drew]
       dsimp only
       rw[hd]
       apply Array.ext_getElem?
       intro k
       rw[Array.getElem?_modify,Array.getElem?_setIfInBounds]
       by_cases ek:E=k
       .subst ek;obtain⟨q1,q2⟩:=Array.getElem?_eq_some_iff.1 C;simp[q1,q2]
       .simp[ek]
      all_goals
       unfold World.freeze
       split<;>rfl
     .cases hF
    .cases hF
   .cases hF
  .cases hF
 .cases hF
end Go.Ab
end
namespace Go.Proofs.YtcjlkjeeifemhaaGreatDoor
open Go Go.Ab
section
set_option maxRecDepth 100000
noncomputable abbrev Pr:Program:=Tryz.prog
noncomputable def K0:FuncId->List Value->Option bZ:=fun f a=>match f,a with
 |86,[.int .i64 n]=>if -9223372036854775808<=n/\n<=9223372036854775807 then some (.val (.string ⟨(Lib.itoa n).toArray⟩)) else none
 |109,[.string s,.string ⟨⟨[c]⟩⟩]=>some (.val (.int .i64 (Lib.countByte s.data.toList c)))
 |245,[.string s,.string ⟨⟨[c]⟩⟩]=>some (.val (.int .i64 (Lib.indexByte s.data.toList c)))
 |171,[.string s]=>if s.size<=18 then(match Lib.atoi s.data.toList with|some n=>some (.val (.tuple ⟨[.int .i64 n,.nilIface]⟩))|none=>none) else none
 |87,[.slice (some ⟨b,o,none⟩) n c,.string s]=>some (.host (qT b o n c s))
 |102,[.pointer (some ⟨b,0,none⟩)]=>some (.host (Au 141 b))
 |60,[.pointer (some ⟨b,0,none⟩)]=>some (.host (Aa 141 5 b))
 |_,_=>none
theorem rA:Pr.globals.size=12:=by kernel_rfl
end
section
def A1:List Value:=[
 .int .i64 4,.int .i64 16,.int .i64 8,.int .i64 4,.int .i64 16,.int .i64 8,.int .i64 4]
def A3:List Value:=[
 .string ⟨#[]⟩,.int .i64 0,.int .i64 0,.int .i64 0,.string ⟨#[115,101,116]⟩,.int .i64 1,.int .i64 2,.int .i64 0,.string ⟨#[97,100,100]⟩,.int .i64 1,.int .i64 1,
  .int .i64 1,.string ⟨#[108,111,97,100]⟩,.int .i64 1,.int .i64 1,.int .i64 0,.string ⟨#[115,116,111,114,101]⟩,.int .i64 1,.int .i64 1,.int .i64 0,
  .string ⟨#[115,119,97,112]⟩,.int .i64 1,.int .i64 1,.int .i64 0,.string ⟨#[102,101,110,99,101]⟩,.int .i64 0,.int .i64 0,.int .i64 0,
  .string ⟨#[119,111,114,108,100]⟩,.int .i64 3,.int .i64 0,.int .i64 0,.string ⟨#[99,97,108,108]⟩,.int .i64 4,.int .i64 1,.int .i64 1,.string ⟨#[106,117,109,112]⟩,
  .int .i64 5,.int .i64 0,.int .i64 0,.string ⟨#[122,101,114,111]⟩,.int .i64 1,.int .i64 5,.int .i64 0,.string ⟨#[104,97,108,116]⟩,.int .i64 0,.int .i64 0,.int .i64 0]
def Fv (e0:TypeId) (z0:Nat×Nat) (e1:TypeId) (z1:Nat×Nat):Nat->Option dQ:=fun i=>
 if i=0 then some (.cells A3 e0 z0 true) else if i=1 then some (.cells A1 e1 z1 true) else none
variable (e0:TypeId) (z0:Nat×Nat) (e1:TypeId) (z1:Nat×Nat)
noncomputable def Fq:AH:=Go.Ab.start 12 (qE 12 (Fv e0 z0 e1 z1) [])
end
end Go.Proofs.YtcjlkjeeifemhaaGreatDoor
