/- A part of the proof. -/
import Derived.Test.YtajjljbmfdboaaaGreatDoorP15
section
namespace Go.Mc
open Go Go.Ab Go.Hm Go.At Go.Is Go.Ct Go.Nt
variable {C:bQ} {N N':Nat} {M M':cY} {d:Do}
theorem qW (hC:C.Ok) (hI:eN C N M) {k:Nat}:M.waits k=true↔∃g,rc M.dQ g=some (k:Int):=Dl hC hI.dQ
theorem A8 (hC:C.Ok) (hI:eN C N M) (hI':eN C N' M') {k:Nat} (h:∀g,rc M'.dQ g=some (k:Int)↔rc M.dQ g=some (k:Int)):M'.waits k=M.waits k:=by
 rw[Bool.eq_iff_iff,qW hC hI,qW hC hI']
 simp only[h]
structure aBy (d:Do) (M M':cY) (k:Nat):Prop where
 tt:M.waits k=true→M'.waits k=true→M'.aH k=M.aH k
 ft:M.waits k=false→M'.waits k=true→d.kE=0∧d.a=(k:Int)∧M'.aH k=M.aH k
 tf:M.waits k=true→M'.waits k=false→d.kE=3∧∃v,M'.log=M.log++[v]∧v.core=(k:Int)∧v.op=8∧v.code=0∧(M'.aH k).at'=(M.aH k).at'+1
theorem Out.aDw (hC:C.Ok) (hI:eN C N M) (hI':eN C N' M') (hW:dp M) (ho:Out C d M M') (k:Nat):aBy d M M' k:=by
 cases ho with
 |same h1 h2 h3=>
  have e:=A8 hC hI hI' (k:=k) fun g=>by rw[h3]
  exact⟨fun _ _=>by rw[h1],(fun a b=>by grind),(fun a b=>by grind)⟩
 |ev i s v hi hd hw h1 h2 hc hr h3=>
  have e:=A8 hC hI hI' (k:=k) fun g=>by rw[h3]
  refine⟨fun a _=>?_,(fun a b=>by grind),(fun a b=>by grind)⟩
  rw[h1]
  unfold bT
  split
  ·rename_i e2
   subst e2
   have:M.waits (k:Int)=false:=hw
   grind
  ·rfl
 |ask i g hi hd hw h1 h2 hx h3 h0=>
  by_cases e2:k=i
  ·subst e2
   have a0:M.waits (k:Int)=false:=hw
   exact⟨fun _ _=>by rw[h1],fun _ _=>⟨hd.1,hd.2,by rw[h1]⟩,fun a=>by rw[a0] at a;cases a⟩
  ·have key:M'.waits k=true→M.waits k=true:=fun b=>by
    obtain⟨g',hg'⟩:=(qW hC hI').1 b
    rw[h3] at hg'
    split at hg'
    ·grind
    ·exact(qW hC hI).2 ⟨g',hg'⟩
   refine⟨fun _ _=>by rw[h1],(fun a b=>by grind),fun a b=>?_⟩
   obtain⟨g',hg'⟩:=(qW hC hI).1 a
   by_cases e3:g'=g
   ·grind
   ·have:M'.waits k=true:=(qW hC hI').2 ⟨g',by grind⟩
    grind
 |fin i g s v hi hd hg h1 h2 hc hv ha hr h3=>
  by_cases e2:k=i
  ·subst e2
   have b0:M'.waits k=false:=by
    cases hb:M'.waits k with
    |false=>rfl
    |true=>
     obtain⟨g',hg'⟩:=(qW hC hI').1 hb
     rw[h3] at hg'
     split at hg'
     ·cases hg'
     ·rename_i e3
      exact absurd (hW.one g' g _ hg' hg) e3
   refine⟨(fun _ b=>by rw[b0] at b;cases b),(fun _ b=>by rw[b0] at b;cases b),fun _ _=>⟨hd,v,h2,hc,hv.1,hv.2,?_⟩⟩
   rw[h1]
   unfold bT
   grind
  ·have e:=A8 hC hI hI' (k:=k) fun g'=>by
    grind
   refine⟨fun _ _=>?_,(fun a b=>by grind),(fun a b=>by grind)⟩
   rw[h1]
   unfold bT
   rw[if_neg e2]
end Go.Mc
end
