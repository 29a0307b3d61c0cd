/- A part of the proof. -/
import Derived.Test.YtajjljbmfdboaaaGreatDoorF4
section
namespace Go.Ab
noncomputable section
def Ax (x:Int):List Int→List Int
 |[]=>[x]
 |y::l=>if x≤y then x::y::l else y::Ax x l
def pK:List Int→List Int
 |[]=>[]
 |x::l=>Ax x (pK l)
def keysOf:List (Value×Value×Nat)→Option (List Int)
 |[]=>some []
 |(.int .i64 n,_,_)::es=>(keysOf es).map fun l=>n::l
 |_::_=>none
def Im (h:AH) (e:TypeId) (ks:List Int):Value×AH:=
 if ks.isEmpty then(.slice none 0 0,h) else(.slice (some ⟨h.next,0,none⟩) ks.length ks.length,h.alloc (.cells (ks.map (Value.int .i64)) e (0,0) false))
def zC (clock:Nat):List (Value×Value×Nat)→Bool
 |[]=>true
 |x::l=>Nat.blt x.2.2 clock&&(l.all fun y=> !Nat.beq y.2.2 x.2.2)&&zC clock l
def Kv:List Int→Bool
 |[]=>true
 |x::l=>(Lit.int .i64 x).wf&&(l.all fun y=> !(y==x))&&Kv l
def yY (e:TypeId) (c:Nat):AH→Option (Value×AH):=fun h=>
 match h.get c with
 |some (.cells [.map (some r)] _ _ true)=>match h.get r with
  |some (.map es clock)=>match keysOf es with
   |some ks=>if Nat.ble ks.length 1000&&zC clock es&&Kv ks then some (Im h e (pK ks)) else none
   |none=>none
  |_=>none
 |_=>none
end
end Go.Ab
end
section
namespace Go.Ab
open Go.RowKit
noncomputable section
variable {P:Program} {K:FuncId→List Value→Option hJ}
abbrev Hp:=List (Nat×List Value×Value)
def Gv:Hp→Nat→List Value→Option Value
 |[],_,_=>none
 |x::l,f,args=>bif Nat.beq x.1 f&&Hr x.2.1 args then some x.2.2 else Gv l f args
def Wy (K:FuncId→List Value→Option hJ) (l:Hp):FuncId→List Value→Option hJ:=fun f args=>match Gv l f args with
 |some v=>some (.val v)
 |none=>K f args
theorem Ll:∀{l:Hp} {f:Nat} {args:List Value} {v:Value},Gv l f args=some v→(f,args,v)∈l
 |[],_,_,_,h=>by cases h
 |x::l,f,args,v,h=>by
  unfold Gv at h
  cases hc:(Nat.beq x.1 f&&Hr x.2.1 args) with
  |true=>
   rw[hc] at h
   simp only[cond_true,Option.some.injEq] at h
   rw[Bool.and_eq_true] at hc
   have h1:x.1=f:=Nat.eq_of_beq_eq_true hc.1
   have h2:x.2.1=args:=Of _ _ hc.2
   grind
  |false=>
   rw[hc] at h
   simp only[cond_false] at h
   exact List.mem_cons_of_mem _ (Ll h)
def Ctx.Wy {B:Nat} (C:Ctx P B K) (l:Hp) (hp:(l.all fun x=>jS x.2.1&&dG x.2.2)=true) (h:∀x∈l,∀w,C.G w→Calls P x.1 ⟨x.2.1⟩ w fun e w'=>e= .returned x.2.2∧Below w.heap.size w w'):Ctx P B (Wy K l) where
 G:=C.G
 B7:=C.B7
 call:=fun f args v w hk hg=>by
  unfold Ab.Wy at hk
  cases hf:Gv l f args with
  |some u=>
   rw[hf] at hk
   cases hk
   have hm:=Ll hf
   have hpl:=List.all_eq_true.1 hp _ hm
   simp only[Bool.and_eq_true] at hpl
   exact⟨hpl.1,Um hpl.2 (h _ hm w hg)⟩
  |none=>
   rw[hf] at hk
   exact C.call f args v w hk hg
 fwd:=fun f args g bs hk=>by
  unfold Ab.Wy at hk
  cases hf:Gv l f args with
  |some u=>grind
  |none=>rw[hf] at hk;exact C.fwd f args g bs hk
 host:=fun f args F hk=>by
  unfold Ab.Wy at hk
  cases hf:Gv l f args with
  |some u=>grind
  |none=>rw[hf] at hk;exact C.host f args F hk
theorem N5 {f:FuncId} {args:List Value} {n:Nat} {v:Value} {base:Nat} {old:Nat→Option lG} (ha:jS args=true) (hv:dG v=true)
  (hr:((run P K n (.call f args) (start base old)).any fun r=>mS r.1.v v)=true) {w:World} (C:Ctx P w.heap.size K) (hg:C.G w) {ρ:gQ} (r:Reads P base old ρ w):
  Calls P f ⟨args⟩ w fun e w'=>e= .returned v∧Below w.heap.size w w':=by
 rw[Option.any_eq_true] at hr
 obtain⟨⟨o,h'⟩,hr,he⟩:=hr
 have he:=Eo _ _ he
 have:=G9 (Q:=fun o _=>o.v=v) C hg r (args:=args) (args':=args) (oH _ ha) ⟨n,_,hr,he⟩
 intro cs
 obtain⟨e,w',fr,⟨ρ',o',h2,v',h3,h4,h5,_,h6⟩,h7⟩:=this cs
 rw[h5] at h4
 have:=tK v v' hv h4
 grind
def Q7 (P:Program) (K:FuncId→List Value→Option hJ) (n:Nat) (h:AH) (l:Hp):Bool:=l.all fun x=>(T6 P K n (.call x.1 x.2.1) h).any fun r=>mS r.1.v x.2.2
theorem T9 {n:Nat} {base:Nat} {old:Nat→Option lG} {l:Hp} (hp:(l.all fun x=>jS x.2.1&&dG x.2.2)=true) (hr:Q7 P K n (start base old) l=true) {w:World} (C:Ctx P w.heap.size K) (hg:C.G w) {ρ:gQ} (r:Reads P base old ρ w):
  ∀x∈l,Calls P x.1 ⟨x.2.1⟩ w fun e w'=>e= .returned x.2.2∧Below w.heap.size w w':=fun x hx=>by
 have h1:=List.all_eq_true.1 hp x hx
 simp only[Bool.and_eq_true] at h1
 have h2:=List.all_eq_true.1 hr x hx
 exact N5 h1.1 h1.2 (E3 h2) C hg r
end
end Go.Ab
end
