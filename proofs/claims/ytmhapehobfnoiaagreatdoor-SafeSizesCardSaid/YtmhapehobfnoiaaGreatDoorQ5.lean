/- A part of the proof. -/
import Derived.Test.YtmhapehobfnoiaaGreatDoorQ4
section
namespace Go.Ab
noncomputable section
def Bv (x:Int):List Int->List Int
 |[]=>[x]
 |y::l=>if x<=y then x::y::l else y::Bv x l
def qQ:List Int->List Int
 |[]=>[]
 |x::l=>Bv x (qQ l)
def keysOf:List (Value×Value×Nat)->Option (List Int)
 |[]=>some []
 |(.int .i64 n,_,_)::a=>(keysOf a).map fun l=>n::l
 |_::_=>none
def K7 (h:AH) (e:TypeId) (a:List Int):Value×AH:=
 if a.isEmpty then(.slice none 0 0,h) else(.slice (some ⟨h.next,0,none⟩) a.length a.length,h.alloc (.cells (a.map (Value.int .i64)) e (0,0) false))
def Ak (a:Nat):List (Value×Value×Nat)->Bool
 |[]=>true
 |x::l=>Nat.blt x.2.2 a&&(l.all fun y=> !Nat.beq y.2.2 x.2.2)&&Ak a l
def O8:List Int->Bool
 |[]=>true
 |x::l=>(Lit.int .i64 x).wf&&(l.all fun y=> !(y==x))&&O8 l
def Af (e:TypeId) (c:Nat):AH->Option (Value×AH):=fun h=>
 match h.get c with
 |some (.cells [.map (some r)] _ _ true)=>match h.get r with
  |some (.map d a)=>match keysOf d with
   |some b=>if Nat.ble b.length 1000&&Ak a d&&O8 b then some (K7 h e (qQ b)) else none
   |none=>none
  |_=>none
 |_=>none
end
end Go.Ab
end
namespace Go.Ab
open Go.RowKit
section
noncomputable section
variable {P:Program} {K:FuncId->List Value->Option iL}
abbrev Je:=List (Nat×List Value×Value)
def K4:Je->Nat->List Value->Option Value
 |[],_,_=>none
 |x::l,f,a=>bif Nat.beq x.1 f&&Mp x.2.1 a then some x.2.2 else K4 l f a
def Ym (K:FuncId->List Value->Option iL) (l:Je):FuncId->List Value->Option iL:=fun f a=>match K4 l f a with
 |some v=>some (.val v)
 |none=>K f a
theorem N1:∀{l:Je} {f:Nat} {args:List Value} {v:Value},K4 l f args=some v->(f,args,v)∈l
 |[],_,_,_,h=>by cases h
 |x::l,f,args,v,h=>by
  unfold K4 at h;cases hc:(Nat.beq x.1 f&&Mp x.2.1 args) with
  |true=>
   rw[hc] at h;simp only[cond_true,Option.some.injEq] at h;rw[Bool.and_eq_true] at hc;have a:x.1=f:=Nat.eq_of_beq_eq_true hc.1;have b:x.2.1=args:=Rq _ _ hc.2;grind
  |false=>
   rw[hc] at h;simp only[cond_false] at h;exact List.mem_cons_of_mem _ (N1 h)
def Ctx.Ym {B:Nat} (C:Ctx P B K) (l:Je) (k:(l.all fun x=>kB x.2.1&&dQ x.2.2)=true) (h:∀x∈l,∀w,C.G w->Calls P x.1 ⟨x.2.1⟩ w fun e m=>e= .returned x.2.2/\Below w.heap.size w m):Ctx P B (Ym K l) where
 G:=C.G
 Ew:=C.Ew
 call:=fun f a v w b d=>by
  unfold Ab.Ym at b;cases hf:K4 l f a with
  |some u=>
   rw[hf] at b;cases b;have i:=N1 hf;have c:=List.all_eq_true.1 k _ i;simp only[Bool.and_eq_true] at c;exact⟨c.1,Zu c.2 (h _ i w d)⟩
  |none=>
   rw[hf] at b;exact C.call f a v w b d
 fwd:=fun f a g j b=>by
  unfold Ab.Ym at b;cases hf:K4 l f a with
  |some u=>grind
  |none=>rw[hf] at b;exact C.fwd f a g j b
 host:=fun f a F b=>by
  unfold Ab.Ym at b;cases hf:K4 l f a with
  |some u=>grind
  |none=>rw[hf] at b;exact C.host f a F b
theorem Sa {f:FuncId} {args:List Value} {n:Nat} {v:Value} {a:Nat} {old:Nat->Option mW} (j:kB args=true) (l:dQ v=true)
  (b:((run P K n (.call f args) (start a old)).any fun r=>nP r.1.v v)=true) {w:World} (C:Ctx P w.heap.size K) (k:C.G w) {ρ:iC} (r:Reads P a old ρ w):
  Calls P f ⟨args⟩ w fun e g=>e= .returned v/\Below w.heap.size w g:=by
 rw[Option.any_eq_true] at b
 obtain⟨⟨o,p⟩,b,c⟩:=b
 have c:=Fj _ _ c
 have:=Ko (Q:=fun o _=>o.v=v) C k r (args:=args) (args':=args) (nI _ j) ⟨n,_,b,c⟩
 intro h
 obtain⟨e,g,fr,⟨ρ',x,q,m,s,d,i,_,t⟩,u⟩:=this h
 rw[i] at d
 have:=uG v m l d
 grind
def T1 (P:Program) (K:FuncId->List Value->Option iL) (n:Nat) (h:AH) (l:Je):Bool:=l.all fun x=>(V4 P K n (.call x.1 x.2.1) h).any fun r=>nP r.1.v x.2.2
theorem bc {n:Nat} {a:Nat} {old:Nat->Option mW} {l:Je} (g:(l.all fun x=>kB x.2.1&&dQ x.2.2)=true) (h:T1 P K n (start a old) l=true) {w:World} (C:Ctx P w.heap.size K) (f:C.G w) {ρ:iC} (r:Reads P a old ρ w):
  ∀x∈l,Calls P x.1 ⟨x.2.1⟩ w fun e i=>e= .returned x.2.2/\Below w.heap.size w i:=fun x c=>by
 have b:=List.all_eq_true.1 g x c
 simp only[Bool.and_eq_true] at b
 have d:=List.all_eq_true.1 h x c
 exact Sa b.1 b.2 (Hh d) C f r
end
end
end Go.Ab
